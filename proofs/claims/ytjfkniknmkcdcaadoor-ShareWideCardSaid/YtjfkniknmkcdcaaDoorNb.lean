/- The walks of Cmp and Sub. -/
import Derived.Test.YtjfkniknmkcdcaaDoorNa
namespace Go.Proofs.YtjfkniknmkcdcaaDoor
open Go.RowKit K Nu

theorem box3 {w : World} {x y z : Array Value} {S T U : TypeId} : Below w.heap.size w (((w.alloc (.cells x S)).alloc (.cells y T)).alloc (.cells z U)) := (((Below.refl _ _).alloc (Nat.le_refl _) _).alloc (by simp) _).alloc (by simp; omega) _
theorem box2 {w : World} {x y : Array Value} {S T : TypeId} : Below w.heap.size w ((w.alloc (.cells x S)).alloc (.cells y T)) := ((Below.refl _ _).alloc (Nat.le_refl _) _).alloc (by simp) _

set_option maxRecDepth 100000 in
set_option maxHeartbeats 1000000 in
theorem cmp_eqlen (A1 A2 : Option Addr) (c1 c2 : Nat) (a b : Nat) (la lb : List Int) (w : World) (ha : IsNum W64 la a) (hb : IsNum W64 lb b)
    (hr1 : la.length ≠ 0 → ∃ b off, A1 = some ⟨b, off, none⟩ ∧ b < w.heap.size ∧ ∀ i, i < la.length → w.cell? ⟨b, off + i, none⟩ = some (.int .u64 (la.getD i 0)))
    (hr2 : la.length ≠ 0 → ∃ b off, A2 = some ⟨b, off, none⟩ ∧ b < w.heap.size ∧ ∀ i, i < la.length → w.cell? ⟨b, off + i, none⟩ = some (.int .u64 (lb.getD i 0)))
    (hm1 : la.length ≤ maxLen) (hl : la.length = lb.length) :
    Calls Tryd.prog 59 #[.agg #[.slice A1 la.length c1], .agg #[.slice A2 la.length c2]] w fun e w' => e = .returned (.int .i64 (cmpN a b)) ∧ Below w.heap.size w w' := by
  unfold maxLen at hm1
  have HL := Lib.hid hl
  clear hl
  go_enter Tryd.func59, Tryd.ntmps59
  go_wp2
  go_loopw [5] (fun v wr => ∃ (i : Int) (j : Nat), v = .int .i64 i ∧ i = j - 1 ∧ j ≤ la.length ∧ Hid (la.drop j = lb.drop j) ∧ Blk wr w.heap.size [.slice A1 la.length c1] 39 ∧ Blk wr (w.heap.size + 1) [.slice A2 la.length c2] 39 ∧ Below w.heap.size w wr) (fun v _ => (intOf v + 1).toNat)
  case atStart => exact ⟨_, la.length, rfl, rfl, by omega, Lib.hid (by rw [List.drop_length, HL.out, List.drop_length]), (Blk.mk w _ rfl [.slice A1 la.length c1] _).alloc _, Blk.mk _ _ (by simp) [.slice A2 la.length c2] _, box2⟩
  case round =>
    obtain ⟨i, j, rfl, hi, hj, hdrop, hB1, hB2, hbel⟩ := hrel
    have hx1 := hB1.one
    have hx2 := hB2.one
    rcases j with _ | k
    · have t1 : decide (0 ≤ i) = false := by simp; omega
      have hab : cmpN a b = 0 := by
        have h1 : la = lb := hdrop.out
        have h2 : a = b := by have h3 := ha.val; have h4 := hb.val; rw [h1] at h3; omega
        simp [cmpN, h2]
      have HAB := Lib.hid hab
      clear hi hab
      go_wp2
      go_ret
      rw [HAB.out]
      exact ⟨rfl, hbel⟩
    · obtain rfl : i = (k : Int) := by omega
      obtain ⟨b1, o1, e1, hb1, hcell1⟩ := hr1 (by omega)
      obtain ⟨b2, o2, e2, hb2, hcell2⟩ := hr2 (by omega)
      subst e1; subst e2
      have x1 := (hbel.cell (p := ⟨b1, o1 + k, none⟩) hb1).trans (hcell1 k (by omega))
      have x2 := (hbel.cell (p := ⟨b2, o2 + k, none⟩) hb2).trans (hcell2 k (by omega))
      have hlt1 := dv_lt_top (B := W64) (by decide) (k := k) ha.dig hb.dig (by omega) (by have := HL.out; omega) hdrop.out
      have hlt2 := dv_lt_top (B := W64) (by decide) (k := k) hb.dig ha.dig (by have := HL.out; omega) (by omega) hdrop.out.symm
      have hnext : la.getD k 0 = lb.getD k 0 → la.drop k = lb.drop k := fun h => by
        rw [drop_getD (l := la) (by omega), drop_getD (l := lb) (by have := HL.out; omega), h, hdrop.out]
      have H1 := Lib.hid hlt1
      have H2 := Lib.hid hlt2
      have H3 := Lib.hid hnext
      clear hcell1 hcell2 hr1 hr2 hlt1 hlt2 hnext hi
      generalize la.getD k 0 = x at *
      generalize lb.getD k 0 = y at *
      have hav := ha.val
      have hbv := hb.val
      have HAV := Lib.hid hav
      have HBV := Lib.hid hbv
      clear hav hbv
      rcases Int.lt_trichotomy x y with hxy | hxy | hxy
      · have hab : cmpN a b = -1 := by
          have := H1.out hxy; rw [HAV.out, HBV.out] at this; exact if_pos (by omega)
        have HAB := Lib.hid hab
        clear hab
        go_wp2
        go_quiet (fail)
        go_wp2
        go_ret
        rw [HAB.out]
        exact ⟨rfl, by first | exact bdn hbel _ | exact bdn (bdn hbel _) _⟩
      · subst hxy
        go_wp2
        go_quiet (fail)
        go_wp2
        go_quiet (fail)
        go_wp2
        go_roundw
        case rel => exact ⟨_, k, rfl, rfl, by omega, Lib.hid (H3.out (by trivial)), hB1, hB2, bdn hbel _⟩
        case measure => simp [intOf]
      · have hab : cmpN a b = 1 := by
          have := H2.out hxy; rw [HAV.out, HBV.out] at this
          exact (if_neg (by omega)).trans (if_pos (by omega))
        have HAB := Lib.hid hab
        clear hab
        go_wp2
        go_quiet (fail)
        go_wp2
        go_quiet (fail)
        go_wp2
        go_ret
        rw [HAB.out]
        exact ⟨rfl, by first | exact bdn hbel _ | exact bdn (bdn hbel _) _⟩

theorem cmpN_range (a b : Nat) : -1 ≤ cmpN a b ∧ cmpN a b ≤ 1 := by unfold cmpN; split <;> (try split) <;> omega
theorem cmpN_lt {a b : Nat} : cmpN a b < 0 ↔ a < b := by unfold cmpN; split <;> (try split) <;> omega
theorem cmpN_eq {a b : Nat} : cmpN a b = 0 ↔ a = b := by unfold cmpN; split <;> (try split) <;> omega

set_option maxHeartbeats 400000 in
theorem cmp_any (v1 v2 : Value) (a b : Nat) (w : World) (h1 : NatV w v1 a) (h2 : NatV w v2 b) :
    Calls Tryd.prog 59 #[.agg #[v1], .agg #[v2]] w fun e w' => e = .returned (.int .i64 (cmpN a b)) ∧ Below w.heap.size w w' := by
  obtain ⟨la, n1, A1, c1, rfl, hc1, hm1, hr1⟩ := h1
  obtain ⟨lb, n2, A2, c2, rfl, hc2, hm2, hr2⟩ := h2
  by_cases hl : la.length = lb.length
  · rw [← hl] at hr2 ⊢
    exact cmp_eqlen A1 A2 c1 c2 a b la lb w n1 n2 hr1 hr2 hm1 hl
  · have t1 : ((la.length : Int) != (lb.length : Int)) = true := by rw [bne_iff_ne]; omega
    have t2 : (la.length != lb.length) = true := by rw [bne_iff_ne]; omega
    clear hr1 hr2
    rcases Nat.lt_or_gt_of_ne hl with h | h
    · have hab : cmpN a b = -1 := if_pos (n1.lt_of_len (by decide) n2 h)
      rw [hab]
      have t3 : decide (la.length < lb.length) = true := by simpa using h
      have t4 : decide ((la.length : Int) < lb.length) = true := by simpa using h
      clear h hl
      go_enter Tryd.func59, Tryd.ntmps59
      go_wp2
      go_ret
      exact ⟨rfl, box2⟩
    · have hab : cmpN a b = 1 := by
        have := n2.lt_of_len (by decide) n1 h
        exact (if_neg (by omega)).trans (if_pos this)
      rw [hab]
      have t3 : decide (la.length < lb.length) = false := by simp; omega
      have t4 : decide ((la.length : Int) < lb.length) = false := by simp; omega
      clear h hl
      go_enter Tryd.func59, Tryd.ntmps59
      go_wp2
      go_ret
      exact ⟨rfl, box2⟩

/-- one digit of a difference -/
theorem carry_sub {B P a b o c c' s : Int} (h : o - c' * B = s - c) (inv : a - c * P = b) : a + o * P - c' * (P * B) = b + s * P := by
  have h1 : (o - c' * B) * P = (s - c) * P := by rw [h]
  grind

set_option maxRecDepth 100000 in
set_option maxHeartbeats 1000000 in
theorem sub_ge (v1 v2 : Value) (a b : Nat) (w : World) (h1 : NatV w v1 a) (h2 : NatV w v2 b) (hab : b ≤ a) (hsz : bl a ≤ 1073741824) :
    Calls Tryd.prog 55 #[.agg #[v1], .agg #[v2]] w fun e w' => ∃ r, e = .returned (.tuple #[.agg #[r], .bool true]) ∧ NatV w' r (a - b) ∧ Below w.heap.size w w' := by
  have h1' := h1
  have h2' := h2
  obtain ⟨la, ha, A1, c1, rfl, hc1, hm1, hr1⟩ := h1
  obtain ⟨lb, hb, A2, c2, rfl, hc2, hm2, hr2⟩ := h2
  have hla : la.length ≤ 1073741824 := Nat.le_trans (ha.len' (by decide)) hsz
  have hge : lb.length ≤ la.length := by
    apply Classical.byContradiction
    intro h
    have := ha.lt_of_len (by decide) hb (by omega)
    omega
  have hmk := mk_at (P := Tryd.prog) Tryd.underlying37 Tryd.info86 rfl .i64 .i64 (la.length : Int) la.length rfl (by unfold maxLen; omega) (by omega) (vs_replicate (k := .u64) (n := la.length) (x := 0))
  unfold maxLen at hm1 hm2
  have t0 : decide (cmpN a b < 0) = false := decide_eq_false (by rw [cmpN_lt]; omega)
  go_enter Tryd.func55, Tryd.ntmps55
  go_wp2_with fail
  have hW := box3 (w := w) (x := #[.slice A1 la.length c1]) (y := #[.slice A2 lb.length c2]) (z := #[.slice none 0 0]) (S := 39) (T := 39) (U := 39)
  refine (cmp_any _ _ a b _ (h1'.below hW (Nat.le_refl _)) (h2'.below hW (Nat.le_refl _))).mono ?_
  rintro e w1 ⟨rfl, hb1⟩
  have hbel := hW.trans (hb1.mono (by simp; omega))
  have hB1 : Blk w1 w.heap.size [.slice A1 la.length c1] 39 := (((Blk.mk w _ rfl [.slice A1 la.length c1] _).alloc _).alloc _).below hb1 (by simp; omega)
  have hB2 : Blk w1 (w.heap.size + 1) [.slice A2 lb.length c2] 39 := ((Blk.mk _ _ (by simp) [.slice A2 lb.length c2] _).alloc _).below hb1 (by simp)
  have hR : Blk w1 (w.heap.size + 2) [.slice none 0 0] 39 := (Blk.mk _ _ (by simp) [.slice none 0 0] _).below hb1 (by simp)
  have hx0 := hR.lt
  have hx01 := hB1.lt
  have hx02 := hB2.lt
  have hx1 := hB1.one
  have hx2 := hB2.one
  clear hW hb1
  go_wp2
  go_loopw [22, 7] (fun i cv wr => ∃ j : Nat, j ≤ la.length ∧ i = .int .i64 j ∧ ∃ (c : Int) (o : List Int), cv = .int .u64 c ∧ 0 ≤ c ∧ c ≤ 1 ∧ Hid (o.length = j) ∧ Dig W64 o ∧ Hid (dv W64 o - c * W64 ^ j = dv W64 (la.take j) - dv W64 (lb.take j)) ∧
    Blk wr w1.heap.size (vs .u64 (o ++ List.replicate (la.length - j) 0)) 86 ∧ Blk wr (w.heap.size + 2) [.slice none 0 0] 39 ∧ Blk wr w.heap.size [.slice A1 la.length c1] 39 ∧ Blk wr (w.heap.size + 1) [.slice A2 lb.length c2] 39 ∧ Below w.heap.size w wr) (fun i _ _ => la.length - (intOf i).toNat)
  case atStart => exact ⟨0, by omega, rfl, 0, [], rfl, by omega, by omega, Lib.hid rfl, Dig.nil _, Lib.hid (by simp [dv]), Blk.new _ _ _, hR.alloc _, hB1.alloc _, hB2.alloc _, hbel.alloc (by omega) _⟩
  case round =>
    clear hB1 hB2 hR hx1 hx2 hbel
    obtain ⟨j, hj, rfl, c, o, rfl, hc0, hc1', ho, hd, hval, hB, hR, hB1, hB2, hbel⟩ := hrel
    have hx1 := hB1.one
    have hx2 := hB2.one
    by_cases hlt : j < la.length
    · obtain ⟨b1, o1, e1, hb1, hcell1⟩ := hr1 (by omega)
      subst e1
      have x1 := (hbel.cell (p := ⟨b1, o1 + j, none⟩) hb1).trans (hcell1 j hlt)
      have hx := ha.dig.at (by decide) j
      have hy := hb.dig.at (by decide) j
      have HX := Lib.hid (dv_take_succ W64 la j)
      have HY := Lib.hid (dv_take_succ W64 lb j)
      have hset : ∀ q : Int, (o ++ List.replicate (la.length - j) 0).set j q = (o ++ [q]) ++ List.replicate (la.length - (j + 1)) 0 := by
        intro q
        rw [List.set_append_right _ _ (by rw [ho.out]; exact Nat.le_refl _), ho.out, Nat.sub_self, List.append_assoc]
        congr 1
        rw [show la.length - j = (la.length - (j + 1)) + 1 by omega, List.replicate_succ]
        rfl
      have HS := Lib.hid hset
      have xc := hB.at j (by simp; have := ho.out; omega)
      have xf := hB.frozen j
      have hcase : ∃ y, lb.getD j 0 = y ∧ (j < lb.length ∨ (¬ j < lb.length ∧ y = 0)) := by
        refine ⟨_, rfl, ?_⟩
        by_cases h : j < lb.length
        · exact .inl h
        · refine .inr ⟨h, ?_⟩; rw [List.getD_eq_getElem?_getD, List.getElem?_eq_none (by omega)]; rfl
      obtain ⟨y, hye, hyl⟩ := hcase
      obtain ⟨x, hxe⟩ : ∃ x, la.getD j 0 = x := ⟨_, rfl⟩
      rw [hxe] at x1 hx
      rw [hye] at hy
      have HXE := Lib.hid hxe
      have HYE := Lib.hid hye
      unfold W64 at hx hy
      obtain ⟨hx0, hx1⟩ := hx
      obtain ⟨hy0, hy1⟩ := hy
      have hsub := sub64_run x y c hx0 hy0 hy1 hc0 hc1'
      have hfin : ∀ q c', q = (x - y - c) % 18446744073709551616 → c' = (if x < y + c then 1 else 0) →
          (0 ≤ c' ∧ c' ≤ 1) ∧ Hid ((o ++ [q]).length = j + 1) ∧ Dig W64 (o ++ [q]) ∧ Hid (dv W64 (o ++ [q]) - c' * W64 ^ (j + 1) = dv W64 (la.take (j + 1)) - dv W64 (lb.take (j + 1))) := by
        rintro q c' hq hc'
        have hc2 : (0 ≤ c' ∧ c' ≤ 1) ∧ q - c' * 18446744073709551616 = x - y - c := by
          subst hc'; split <;> omega
        refine ⟨hc2.1, Lib.hid (by simp [ho.out]), hd.snoc (by unfold W64; omega), Lib.hid ?_⟩
        rw [dv_snoc, ho.out, HX.out, HY.out, HXE.out, HYE.out, Int.pow_succ]
        have := carry_sub (B := W64) (P := W64 ^ j) (o := q) (c' := c') (c := c) (s := x - y) hc2.2 hval.out
        rw [this, Int.sub_mul]; omega
      have HF := Lib.hid hfin
      clear hcell1 hset hye hxe hfin
      obtain ⟨f1, f2, f3, f4⟩ := HF.out _ _ rfl rfl
      rcases hyl with hyl | hyl
      · obtain ⟨b2, o2, e2, hb2, hcell2⟩ := hr2 (by omega)
        subst e2
        have x2 := (hbel.cell (p := ⟨b2, o2 + j, none⟩) hb2).trans (hcell2 j hyl)
        rw [HYE.out] at x2
        clear hcell2
        go_wp2
        go_roundw
        case rel =>
          refine ⟨j + 1, by omega, by go_num, _, _, rfl, f1.1, f1.2, f2, f3, f4, ?_, hR.far (by simp; omega) _, hB1.far (by simp; omega) _, hB2.far (by simp; omega) _, hbel.setCell (by simp; omega) _⟩
          have h := hB.set j (.int .u64 ((x - y - c) % 18446744073709551616))
          rw [vs_set, HS.out] at h
          exact h
        case measure => simp [intOf]; omega
      · obtain ⟨hyl, rfl⟩ := hyl
        go_wp2
        go_roundw
        case rel =>
          have e0 : x - 0 - c = x - c := by omega
          rw [e0] at f2 f3 f4
          simp only [Int.zero_add] at f1 f4
          refine ⟨j + 1, by omega, by go_num, _, _, rfl, f1.1, f1.2, f2, f3, f4, ?_, hR.far (by simp; omega) _, hB1.far (by simp; omega) _, hB2.far (by simp; omega) _, hbel.setCell (by simp; omega) _⟩
          have h := hB.set j (.int .u64 ((x - c) % 18446744073709551616))
          rw [vs_set, HS.out] at h
          exact h
        case measure => simp [intOf]; omega
    · obtain rfl : j = la.length := by omega
      have hval2 : dv W64 o = ((a - b : Nat) : Int) := by
        have h := hval.out
        rw [List.take_length, List.take_of_length_le hge, ha.val, hb.val] at h
        have h2 := (dv_bound (by decide) hd).2
        rw [ho.out] at h2
        have h3 : c = 0 := by
          apply Classical.byContradiction
          intro hne
          have : c = 1 := by omega
          subst this
          omega
        subst h3
        omega
      rw [Nat.sub_self, List.replicate_zero, List.append_nil] at hB
      have hT := trim_num (hB.ints (n := la.length) ho.out.symm (by unfold maxLen; omega)) hd hval2
      have HT := Lib.hid hT
      clear hval2 hT
      go_wp2_with fail
      refine HT.out.mono ?_
      rintro e w2 ⟨r, rfl, hr, hb1⟩
      have hR3 := hR.below hb1 hR.lt
      have hc := hR3.one
      have hf := hR3.frozen 0
      have hb2 := hbel.trans (hb1.mono hbel.size)
      obtain ⟨A, k, cc, rfl⟩ := hr.slice
      clear hb1 hR hB1 hB2 hbel hx1 hx2
      go_wp2
      refine bodyPost_ret (v := .tuple #[.agg #[.slice A k cc], .bool true]) (by simp [results, Tryd.results55, go_sem, hc]) rfl ?_
      exact ⟨_, rfl, hr.box hR3 (by simp) _ _, hb2.setCell (by simp; omega) _⟩

set_option maxHeartbeats 400000 in
theorem sub_lt (v1 v2 : Value) (a b : Nat) (w : World) (h1 : NatV w v1 a) (h2 : NatV w v2 b) (hab : a < b) :
    Calls Tryd.prog 55 #[.agg #[v1], .agg #[v2]] w fun e w' => e = .returned (.tuple #[.agg #[.slice none 0 0], .bool false]) ∧ Below w.heap.size w w' := by
  have h1' := h1
  have h2' := h2
  obtain ⟨A1, n1, c1, rfl⟩ := h1.slice
  obtain ⟨A2, n2, c2, rfl⟩ := h2.slice
  have t0 : decide (cmpN a b < 0) = true := decide_eq_true (cmpN_lt.2 hab)
  go_enter Tryd.func55, Tryd.ntmps55
  go_wp2_with fail
  have hW := box3 (w := w) (x := #[.slice A1 n1 c1]) (y := #[.slice A2 n2 c2]) (z := #[.slice none 0 0]) (S := 39) (T := 39) (U := 39)
  refine (cmp_any _ _ a b _ (h1'.below hW (Nat.le_refl _)) (h2'.below hW (Nat.le_refl _))).mono ?_
  rintro e w1 ⟨rfl, hb1⟩
  have hbel := hW.trans (hb1.mono (by simp; omega))
  have hR : Blk w1 (w.heap.size + 2) [.slice none 0 0] 39 := (Blk.mk _ _ (by simp) [.slice none 0 0] _).below hb1 (by simp)
  have hc := hR.one
  have hf := hR.frozen 0
  clear hW hb1
  go_wp2
  refine bodyPost_ret (v := .tuple #[.agg #[.slice none 0 0], .bool false]) (by simp [results, Tryd.results55, go_sem, hc]) rfl ?_
  exact ⟨rfl, hbel.setCell (by simp; omega) _⟩
end Go.Proofs.YtjfkniknmkcdcaaDoor
