/- The document's numbers in memory; the walks of its trim, NatOf, NatCmp, one (short numbers). -/
import Derived.Test.YtjfkniknmkcdcaaGreatDoorMNd
namespace Go.Proofs.YtjfkniknmkcdcaaGreatDoor
open Go.RowKit K Nu

/-- a slice of half words that is a number's -/
def RN (w : World) (v : Value) (n : Nat) : Prop := ∃ l, IsNum W32 l n ∧ IsInts .u32 w v l
theorem RN.below {B : Nat} {w w' : World} {v : Value} {n : Nat} (h : RN w v n) (hb : Below B w w') (hB : w.heap.size ≤ B) : RN w' v n := by
  obtain ⟨l, h1, h2⟩ := h
  exact ⟨l, h1, h2.below hb hB⟩
theorem RN.slice {w : World} {v : Value} {n : Nat} (h : RN w v n) : ∃ A k c, v = .slice A k c := by
  obtain ⟨l, _, A, c, hv, _⟩ := h
  exact ⟨A, _, c, hv⟩
theorem RN.box {w : World} {v : Value} {n : Nat} {g : Nat} {cells : List Value} {T : TypeId} (h : RN w v n) (hg : Blk w g cells T) (hno : ∀ x, x ∈ cells → ∀ q, x ≠ .int .u32 q) (j : Nat) (u : Value) : RN (w.setCell ⟨g, j, none⟩ u) v n := by
  obtain ⟨l, h1, h2⟩ := h
  exact ⟨l, h1, h2.box hg hno j u⟩
theorem RN.nil (w : World) : RN w (.slice none 0 0) 0 := ⟨[], IsNum.nil _, IsInts.nil _ _⟩
theorem RN.cases {w : World} {v : Value} {n : Nat} (h : RN w v n) (hn : n < 4294967296) :
    (n = 0 ∧ ∃ A c, v = .slice A 0 c) ∨ (n ≠ 0 ∧ ∃ b o c, v = .slice (some ⟨b, o, none⟩) 1 c ∧ 1 ≤ c ∧ b < w.heap.size ∧ w.cell? ⟨b, o, none⟩ = some (.int .u32 (n : Int))) := by
  obtain ⟨l, hl, A, c, rfl, hc, hm, hr⟩ := h
  rcases l with _ | ⟨x, _ | ⟨y, l⟩⟩
  · exact .inl ⟨(hl.zero_iff (by decide)).2 rfl, A, c, rfl⟩
  · have h1 := hl.val
    have h3 := hl.can x (by simp)
    simp only [dv, Int.mul_zero, Int.add_zero] at h1
    obtain ⟨b, o, rfl, hb, hcell⟩ := hr (by simp)
    refine .inr ⟨by omega, b, o, c, rfl, hc, hb, ?_⟩
    rw [← h1]
    exact hcell 0 (by simp)
  · have h1 := hl.low (by decide) (by simp)
    have h2 := pow_le_pow (B := W32) (by decide) (show 1 ≤ (x :: y :: l).length - 1 by simp)
    rw [Int.pow_one] at h2
    unfold W32 at h1 h2
    omega
theorem IsNum.one32 {n : Nat} (h : n ≠ 0) (hn : n < 4294967296) : IsNum W32 [(n : Int)] n :=
  ⟨Dig.cons (by unfold W32; omega) (Dig.nil _), Can.snoc (l := []) (by omega), by simp [dv]⟩
theorem RN.empty (w : World) (A : Option Addr) (c : Nat) : RN w (.slice A 0 c) 0 :=
  ⟨[], IsNum.nil _, A, c, rfl, Nat.zero_le _, Nat.zero_le _, fun h => absurd rfl h⟩
theorem RN.mk1 {w : World} {b o c n : Nat} (h0 : n ≠ 0) (hn : n < 4294967296) (hc : 1 ≤ c) (hb : b < w.heap.size) (h : w.cell? ⟨b, o, none⟩ = some (.int .u32 (n : Int))) : RN w (.slice (some ⟨b, o, none⟩) 1 c) n :=
  ⟨_, IsNum.one32 h0 hn, _, c, rfl, hc, by simp [maxLen], fun _ => ⟨b, o, rfl, hb, fun i hi => by
    obtain rfl : i = 0 := by simp at hi; exact hi
    exact h⟩⟩

set_option maxHeartbeats 400000 in
theorem rtrim_any (v : Value) (l : List Int) (w : World) (hv : IsInts .u32 w v l) :
    Calls Tryz.prog 85 #[v] w fun e w' => ∃ r, e = .returned r ∧ IsInts .u32 w r (trm l) ∧ w = w' := by
  obtain ⟨A, c, rfl, hc, hm, hr⟩ := hv
  have hex : ∀ k : Nat, k ≤ l.length → l.take k = trm l → IsInts .u32 w (.slice A k c) (trm l) := by
    intro k hk he
    have hkl : (trm l).length = k := by rw [← he, List.length_take]; omega
    refine ⟨A, c, by rw [hkl], by omega, by unfold maxLen at hm ⊢; omega, fun hne => ?_⟩
    obtain ⟨b, o, e1, hb, hcell⟩ := hr (by omega)
    refine ⟨b, o, e1, hb, fun i hi => ?_⟩
    rw [hcell i (by omega), ← he, List.getD_eq_getElem?_getD, List.getD_eq_getElem?_getD, List.getElem?_take_of_lt (by omega)]
  have HX := Lib.hid hex
  clear hex
  unfold maxLen at hm
  go_enter Tryz.func85, Tryz.ntmps85
  go_wp2
  go_loopw [3] (fun n wr => ∃ k : Nat, k ≤ l.length ∧ n = .int .i64 k ∧ Hid (trm (l.take k) = trm l) ∧ wr = w) (fun n _ => (intOf n).toNat)
  case atStart => exact ⟨l.length, by omega, rfl, Lib.hid (by rw [List.take_length]), rfl⟩
  case round =>
    obtain ⟨k, hk, rfl, ht, rfl⟩ := hrel
    rcases k with _ | k
    · go_wp2
      go_ret
      exact ⟨_, rfl, HX.out 0 (by omega) (by rw [← ht.out]; rfl), rfl⟩
    · obtain ⟨b, o, e1, hb, hcell⟩ := hr (by omega)
      subst e1
      have x1 := hcell k (by omega)
      have HT := Lib.hid (take_snoc (l := l) (k := k) (by omega))
      clear hcell hr
      generalize l.getD k 0 = x at *
      by_cases hx : x = 0
      · subst hx
        go_wp2
        go_roundw
        case rel => exact ⟨k, by omega, rfl, Lib.hid (by rw [← ht.out, HT.out, trm_snoc_zero]), trivial⟩
        case measure => simp [intOf] <;> omega
      · have hx1 : (x == 0) = false := by simpa using hx
        have HZ := Lib.hid hx
        clear hx
        go_wp2
        go_ret
        exact ⟨_, rfl, HX.out (k + 1) (by omega) (by rw [← ht.out, HT.out, trm_snoc HZ.out]), rfl⟩

theorem rtrim_num {w : World} {v : Value} {l : List Int} {n : Nat} (hv : IsInts .u32 w v l) (hd : Dig W32 l) (hn : dv W32 l = n) :
    Calls Tryz.prog 85 #[v] w fun e w' => ∃ r, e = .returned r ∧ RN w r n ∧ w = w' :=
  (rtrim_any v l w hv).mono fun _ _ ⟨r, he, hr, hb⟩ => ⟨r, he, ⟨_, trm_num (by decide) hd hn, hr⟩, hb⟩

theorem wrap32u (n : Int) : IntKind.u32.wrap n = n % 4294967296 := by simp [IntKind.wrap, IntKind.bits, IntKind.signed]

set_option maxHeartbeats 400000 in
theorem natOf_any (n : Nat) (w : World) (hn : n < 18446744073709551616) :
    Calls Tryz.prog 72 #[.int .u64 (n : Int)] w fun e w' => ∃ r, e = .returned r ∧ RN w' r n ∧ Below w.heap.size w w' := by
  have e1 : IntKind.u32.wrap (n : Int) = (n % 4294967296 : Int) := wrap32u _
  have e2 : IntKind.u32.wrap ((n : Int) / 4294967296) = (n : Int) / 4294967296 := by rw [wrap32u]; omega
  go_enter Tryz.func72, Tryz.ntmps72
  go_wp2_with fail
  have hv : IsInts .u32 (w.alloc (.cells #[.int .u32 ((n : Int) % 4294967296), .int .u32 ((n : Int) / 4294967296)] 110)) (.slice (some ⟨w.heap.size, 0, none⟩) 2 2) [(n : Int) % 4294967296, (n : Int) / 4294967296] := (Blk.new w (vs .u32 [(n : Int) % 4294967296, (n : Int) / 4294967296]) 110).ints rfl (by decide)
  refine (rtrim_num (n := n) hv (Dig.cons (by unfold W32; omega) (Dig.cons (by unfold W32; omega) (Dig.nil _))) (by simp only [dv]; unfold W32; omega)).mono ?_
  rintro e w1 ⟨r, rfl, hr, rfl⟩
  clear hv
  go_wp2_with fail
  go_ret
  exact ⟨_, rfl, hr, (Below.refl _ _).alloc (Nat.le_refl _) _⟩

set_option maxHeartbeats 400000 in
theorem rcmp_any (v1 v2 : Value) (x y : Nat) (w : World) (h1 : RN w v1 x) (h2 : RN w v2 y) (hx : x < 4294967296) (hy : y < 4294967296) :
    Calls Tryz.prog 36 #[v1, v2] w fun e w' => e = .returned (.int .i64 (cmpN x y)) ∧ Below w.heap.size w w' := by
  rcases h1.cases hx with ⟨rfl, A1, c1, rfl⟩ | ⟨hx0, b1, o1, c1, rfl, hc1, hb1, x1⟩ <;> rcases h2.cases hy with ⟨rfl, A2, c2, rfl⟩ | ⟨hy0, b2, o2, c2, rfl, hc2, hb2, x2⟩
  · rw [show cmpN 0 0 = 0 from rfl]
    go_enter Tryz.func36, Tryz.ntmps36
    go_wp2
    go_loopw [5] (fun i wr => i = .int .i64 (-1) ∧ wr = w) (fun _ _ => 0)
    case atStart => exact ⟨rfl, rfl⟩
    case round =>
      obtain ⟨rfl, rfl⟩ := hrel
      go_wp2
      go_ret
      exact ⟨rfl, Below.refl _ _⟩
  · rw [show cmpN 0 y = -1 by simp [cmpN]; omega]
    go_enter Tryz.func36, Tryz.ntmps36
    go_wp2
    go_ret
    exact ⟨rfl, Below.refl _ _⟩
  · rw [show cmpN x 0 = 1 by simp [cmpN]; omega]
    go_enter Tryz.func36, Tryz.ntmps36
    go_wp2
    go_ret
    exact ⟨rfl, Below.refl _ _⟩
  · obtain ⟨z, hz⟩ : ∃ z, cmpN x y = z := ⟨_, rfl⟩
    rw [hz]
    have HZ := Lib.hid hz
    clear hz
    go_enter Tryz.func36, Tryz.ntmps36
    go_wp2
    go_loopw [5] (fun i wr => (i = .int .i64 0 ∨ (i = .int .i64 (-1) ∧ Hid (x = y))) ∧ Below w.heap.size w wr) (fun i _ => (intOf i + 1).toNat)
    case atStart => exact ⟨.inl rfl, Below.refl _ _⟩
    case round =>
      obtain ⟨rfl | ⟨rfl, hxy⟩, hbel⟩ := hrel
      · have y1 := (hbel.cell (p := ⟨b1, o1, none⟩) hb1).trans x1
        have y2 := (hbel.cell (p := ⟨b2, o2, none⟩) hb2).trans x2
        by_cases hxy : x = y
        · subst hxy
          go_wp2
          go_quiet (fail)
          go_wp2
          go_roundw
          case rel => exact ⟨.inr ⟨rfl, Lib.hid trivial⟩, bdn hbel _⟩
          case measure => simp [intOf]
        · have t1 : ((x : Int) != (y : Int)) = true := bne_iff_ne.2 (by omega)
          have t2 : ((x : Int) == (y : Int)) = false := beq_eq_false_iff_ne.2 (by omega)
          by_cases hlt : x < y
          · have t3 : decide (x < y) = true := decide_eq_true hlt
            have HZ2 := Lib.hid (show z = -1 by rw [← HZ.out]; simp [cmpN, hlt])
            clear hlt hxy
            go_wp2
            go_quiet (fail)
            go_wp2
            go_quiet (fail)
            go_wp2
            go_ret
            rw [HZ2.out]
            exact ⟨rfl, bdn (bdn hbel _) _⟩
          · have t3 : decide (x < y) = false := decide_eq_false hlt
            have HZ2 := Lib.hid (show z = 1 by rw [← HZ.out]; simp [cmpN, hlt]; omega)
            clear hlt hxy
            go_wp2
            go_quiet (fail)
            go_wp2
            go_quiet (fail)
            go_wp2
            go_ret
            rw [HZ2.out]
            exact ⟨rfl, bdn (bdn hbel _) _⟩
      · have HZ2 := Lib.hid (show z = 0 by rw [← HZ.out, hxy.out]; simp [cmpN])
        go_wp2
        go_ret
        rw [HZ2.out]
        exact ⟨rfl, hbel⟩

theorem Tryz.info110 : (Tryz.prog.info? 110).map (fun i => (i.zero, i.size, i.bytes)) = some (some (.int .u32 0), 1, 4) := by kernel_rfl

set_option maxHeartbeats 400000 in
theorem one_any (v : Value) (n d : Nat) (w : World) (h : RN w v n) (hn : n < 4294967296) (hd : d ≠ 0) (hd1 : d < 4294967296) :
    Calls Tryz.prog 105 #[v, .int .u32 (d : Int)] w fun e w' => ∃ r, e = .returned (.tuple #[r, .int .u32 ((n % d : Nat) : Int)]) ∧ RN w' r (n / d) ∧ Below w.heap.size w w' := by
  rcases h.cases hn with ⟨rfl, A1, c1, rfl⟩ | ⟨hx0, b1, o1, c1, rfl, hc1, hb1, x1⟩
  · have hmk := mk_at (P := Tryz.prog) Tryz.underlying51 Tryz.info110 rfl .i64 .i64 0 0 rfl (by decide) (by omega) (l := []) rfl
    rw [Nat.zero_div, Nat.zero_mod]
    go_enter Tryz.func105, Tryz.ntmps105
    go_wp2_with fail
    go_loopw [7, 8] (fun r i wr => r = .int .u64 0 ∧ i = .int .i64 (-1) ∧ wr = w.alloc (.cells #[] 110)) (fun _ _ _ => 0)
    case atStart => exact ⟨rfl, rfl, rfl⟩
    case round =>
      obtain ⟨rfl, rfl, rfl⟩ := hrel
      go_wp2_with fail
      refine (rtrim_num (n := 0) ((Blk.new w (vs .u32 []) 110).ints (n := 0) rfl (by decide)) (Dig.nil _) rfl).mono ?_
      rintro e w1 ⟨r, rfl, hr, rfl⟩
      go_wp2_with fail
      go_ret2
      exact ⟨_, rfl, hr, (Below.refl _ _).alloc (Nat.le_refl _) _⟩
  · have hmk := mk_at (P := Tryz.prog) Tryz.underlying51 Tryz.info110 rfl .i64 .i64 1 1 rfl (by decide) (by omega) (l := [.int .u32 0]) rfl
    have hor : bits .or .u64 (0 : Int) (n : Int) = n := by
      have h := (shl_or (s := 32) (x := 0) (c := (n : Int)) (by omega) (by omega) (by omega) (by omega) (by omega) (by omega)).1
      rw [show IntKind.u64.wrap ((0 : Int) * 2 ^ 32) = 0 by decide] at h
      simpa using h
    have hq : (n : Int) / d = ((n / d : Nat) : Int) := (Int.natCast_ediv n d).symm
    have hm : (n : Int) % d = ((n % d : Nat) : Int) := (Int.natCast_emod n d).symm
    have hq1 : n / d ≤ n := Nat.div_le_self _ _
    have hm1 : n % d < d := Nat.mod_lt _ (by omega)
    have hd0 : ((d : Int) == 0) = false := by simpa using hd
    obtain ⟨q, hqe⟩ : ∃ q, n / d = q := ⟨_, rfl⟩
    obtain ⟨m, hme⟩ : ∃ m, n % d = m := ⟨_, rfl⟩
    rw [hqe] at hq hq1 ⊢
    rw [hme] at hm hm1 ⊢
    have e1 : IntKind.u32.wrap (q : Int) = q := by rw [wrap32u]; omega
    have e2 : IntKind.u32.wrap (m : Int) = m := by rw [wrap32u]; omega
    have x2 : (w.alloc (.cells #[.int .u32 0] 110)).cell? ⟨b1, o1, none⟩ = some (.int .u32 (n : Int)) := by rw [World.cell?_alloc_lt w (a := ⟨b1, o1, none⟩) _ hb1, x1]
    have B0 := Blk.new w [.int .u32 0] 110
    have x3 := B0.one
    have x4 := B0.frozen 0
    have HB := Lib.hid B0
    have HQ := Lib.hid hqe
    clear hqe hme B0
    go_enter Tryz.func105, Tryz.ntmps105
    go_wp2_with fail
    go_loopw [7, 8] (fun r i wr => (r = .int .u64 0 ∧ i = .int .i64 0 ∧ wr = w.alloc (.cells #[.int .u32 0] 110)) ∨ (r = .int .u64 (m : Int) ∧ i = .int .i64 (-1) ∧ wr = w.alloc (.cells #[.int .u32 (q : Int)] 110))) (fun _ i _ => (intOf i + 1).toNat)
    case atStart => exact .inl ⟨rfl, rfl, rfl⟩
    case round =>
      rcases hrel with ⟨rfl, rfl, rfl⟩ | ⟨rfl, rfl, rfl⟩
      · go_wp2_with fail
        go_roundw
        case rel => exact .inr ⟨by rw [hm], rfl, by first | trivial | rfl⟩
        case measure => simp [intOf]
      · go_wp2_with fail
        refine (rtrim_num (n := q) ((Blk.new w (vs .u32 [(q : Int)]) 110).ints (n := 1) rfl (by decide)) (Dig.cons (by unfold W32; omega) (Dig.nil _)) (by simp [dv])).mono ?_
        rintro e w1 ⟨r, rfl, hr, rfl⟩
        go_wp2_with fail
        go_ret2
        exact ⟨_, rfl, hr, (Below.refl _ _).alloc (Nat.le_refl _) _⟩
end Go.Proofs.YtjfkniknmkcdcaaGreatDoor
