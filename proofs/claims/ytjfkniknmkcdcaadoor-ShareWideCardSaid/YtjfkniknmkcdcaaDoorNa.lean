/- The carry of words; the walk of Add. -/
import Derived.Test.YtjfkniknmkcdcaaDoorNv
import Derived.Laws.Externs
namespace Go.Proofs.YtjfkniknmkcdcaaDoor
open Go.RowKit K Nu

theorem Tryd.info86 : (Tryd.prog.info? 86).map (fun i => (i.zero, i.size, i.bytes)) = some (some (.int .u64 0), 1, 8) := by kernel_rfl

theorem add64_run (x y c : Int) (hx : 0 ≤ x) (hy : 0 ≤ y) (hc0 : 0 ≤ c) (hc : c ≤ 1) :
    ∀ w : World, (callFunc 65 #[.int .u64 x, .int .u64 y, .int .u64 c]).run Tryd.prog w = .ok (.value (.tuple #[.int .u64 ((x + y + c) % 18446744073709551616), .int .u64 ((x + y + c) / 18446744073709551616)])) w := by
  intro w
  rw [run_callFunc_extern (e := add64Entry) Tryd.func65 (by kernel_rfl) (by kernel_rfl) (by kernel_rfl) (by rfl)]
  rw [run_add64 x y c hx hy hc0 hc w]
  rfl

def sub64Entry : Array Value → Sem Value := fun args => do
  let (x, y, b) ← Extern.MathBitsCarry.three "Sub64" args
  pure (Extern.MathBitsCarry.pair ((x + Extern.MathBitsCarry.m64 - y - b) % Extern.MathBitsCarry.m64) (if x < y + b then 1 else 0))
theorem run_sub64 {P : Program} (x y c : Int) (hx : 0 ≤ x) (hy : 0 ≤ y) (hy1 : y < 18446744073709551616) (hc0 : 0 ≤ c) (hc : c ≤ 1) (w : World) :
    (sub64Entry #[.int .u64 x, .int .u64 y, .int .u64 c]).run P w =
      .ok (.tuple #[.int .u64 ((x - y - c) % 18446744073709551616), .int .u64 (if x < y + c then 1 else 0)]) w := by
  have key : ∀ k : Nat, k ≤ 1 → (sub64Entry #[.int .u64 x, .int .u64 y, .int .u64 (k : Int)]).run P w =
      .ok (Extern.MathBitsCarry.pair ((x.toNat + Extern.MathBitsCarry.m64 - y.toNat - k) % Extern.MathBitsCarry.m64) (if x.toNat < y.toNat + k then 1 else 0)) w := by
    intro k hk
    have : k = 0 ∨ k = 1 := by omega
    rcases this with rfl | rfl <;> rfl
  obtain ⟨k, rfl⟩ := Int.eq_ofNat_of_zero_le hc0
  rw [key k (by omega)]
  obtain ⟨X, rfl⟩ := Int.eq_ofNat_of_zero_le hx
  obtain ⟨Y, rfl⟩ := Int.eq_ofNat_of_zero_le hy
  have e1 : Int.ofNat ((X + 2 ^ 64 - Y - k) % 2 ^ 64) = ((X : Int) - Y - k) % 18446744073709551616 := by
    show (((X + 2 ^ 64 - Y - k) % 2 ^ 64 : Nat) : Int) = _
    omega
  have e2 : Int.ofNat (if X < Y + k then 1 else 0) = if (X : Int) < Y + k then 1 else 0 := by
    by_cases h : X < Y + k
    · rw [if_pos h, if_pos (by omega)]; rfl
    · rw [if_neg h, if_neg (by omega)]; rfl
  simp only [Extern.MathBitsCarry.pair, Extern.MathBitsCarry.m64, Int.toNat_natCast]
  rw [e1, e2]
theorem sub64_run (x y c : Int) (hx : 0 ≤ x) (hy : 0 ≤ y) (hy1 : y < 18446744073709551616) (hc0 : 0 ≤ c) (hc : c ≤ 1) :
    ∀ w : World, (callFunc 84 #[.int .u64 x, .int .u64 y, .int .u64 c]).run Tryd.prog w = .ok (.value (.tuple #[.int .u64 ((x - y - c) % 18446744073709551616), .int .u64 (if x < y + c then 1 else 0)])) w := by
  intro w
  rw [run_callFunc_extern (e := sub64Entry) Tryd.func84 (by kernel_rfl) (by kernel_rfl) (by kernel_rfl) (by rfl)]
  rw [run_sub64 x y c hx hy hy1 hc0 hc w]
  rfl

theorem dv_take_succ (B : Int) (l : List Int) (j : Nat) : dv B (l.take (j + 1)) = dv B (l.take j) + l.getD j 0 * B ^ j := by
  by_cases h : j < l.length
  · rw [take_snoc h, dv_snoc, List.length_take, Nat.min_eq_left (by omega)]
  · have : l.getD j 0 = 0 := by rw [List.getD_eq_getElem?_getD, List.getElem?_eq_none (by omega)]; rfl
    rw [this, List.take_of_length_le (by omega), List.take_of_length_le (by omega)]; simp
/-- one digit of a sum -/
theorem carry_add {B P a b o c c' s : Int} (h : o + c' * B = s + c) (inv : a + c * P = b) : a + o * P + c' * (P * B) = b + s * P := by
  have h1 : (o + c' * B) * P = (s + c) * P := by rw [h]
  grind

set_option maxRecDepth 100000 in
set_option maxHeartbeats 1000000 in
theorem add_both (v1 v2 : Value) (a b : Nat) (la lb : List Int) (w : World) (ha : IsNum W64 la a) (hb : IsNum W64 lb b) (h1 : IsInts .u64 w v1 la) (h2 : IsInts .u64 w v2 lb) (hla : la.length ≤ 1073741824) :
    (lb.length ≤ la.length → Calls Tryd.prog 54 #[.agg #[v1], .agg #[v2]] w fun e w' => ∃ r, e = .returned (.agg #[r]) ∧ NatV w' r (a + b) ∧ Below w.heap.size w w') ∧
    (lb.length < la.length → Calls Tryd.prog 54 #[.agg #[v2], .agg #[v1]] w fun e w' => ∃ r, e = .returned (.agg #[r]) ∧ NatV w' r (a + b) ∧ Below w.heap.size w w') := by
  obtain ⟨A1, c1, rfl, hc1, hm1, hr1⟩ := h1
  obtain ⟨A2, c2, rfl, hc2, hm2, hr2⟩ := h2
  have hmk := mk_at (P := Tryd.prog) Tryd.underlying37 Tryd.info86 rfl .i64 .i64 ((la.length : Int) + 1) (la.length + 1) rfl (by unfold maxLen; omega) (by omega) (vs_replicate (k := .u64) (n := la.length + 1) (x := 0))
  unfold maxLen at hm1 hm2
  refine ⟨fun hge => ?_, fun hlt0 => ?_⟩
  rotate_left
  have hge : lb.length ≤ la.length := Nat.le_of_lt hlt0
  have t1 : decide (lb.length < la.length) = true := by simp; omega
  have t2 : decide ((lb.length : Int) < (la.length : Int)) = true := by simp; omega
  rotate_left
  have t1 : decide (la.length < lb.length) = false := by simp; omega
  have t2 : decide ((la.length : Int) < (lb.length : Int)) = false := by simp; omega
  all_goals
    go_enter Tryd.func54, Tryd.ntmps54
    go_wp2
    go_quiet (fail)
    go_wp2
    go_loopw [28, 8] (fun i cv wr => ∃ j : Nat, j ≤ la.length ∧ i = .int .i64 j ∧ ∃ (c : Int) (o : List Int), cv = .int .u64 c ∧ 0 ≤ c ∧ c ≤ 1 ∧ Hid (o.length = j) ∧ Dig W64 o ∧ Hid (dv W64 o + c * W64 ^ j = dv W64 (la.take j) + dv W64 (lb.take j)) ∧
      Blk wr (w.heap.size + 3) (vs .u64 (o ++ List.replicate (la.length + 1 - j) 0)) 86 ∧ Blk wr (w.heap.size + 2) [.slice none 0 0] 39 ∧ Below w.heap.size w wr) (fun i _ _ => la.length - (intOf i).toNat)
    case atStart =>
      refine ⟨0, by omega, rfl, 0, [], rfl, by omega, by omega, Lib.hid rfl, Dig.nil _, Lib.hid (by simp [dv]), ?_, ?_, ?_⟩
      · exact Blk.mk _ _ (by simp) _ _
      · exact ((Blk.mk _ _ (by simp) [.slice none 0 0] _).drewN _).alloc _
      · exact (bdn ((((Below.refl _ _).alloc (Nat.le_refl _) _).alloc (by simp) _).alloc (by simp; omega) _) _).alloc (by simp; omega) _
    case round =>
      obtain ⟨j, hj, rfl, c, o, rfl, hc0, hc1', ho, hd, hval, hB, hR, hbel⟩ := hrel
      by_cases hlt : j < la.length
      · obtain ⟨b1, o1, e1, hb1, hcell1⟩ := hr1 (by omega)
        subst e1
        have x1 := (hbel.cell (p := ⟨b1, o1 + j, none⟩) hb1).trans (hcell1 j hlt)
        have hx := ha.dig.at (by decide) j
        have hy := hb.dig.at (by decide) j
        have HX := Lib.hid (dv_take_succ W64 la j)
        have HY := Lib.hid (dv_take_succ W64 lb j)
        have hset : ∀ q : Int, (o ++ List.replicate (la.length + 1 - j) 0).set j q = (o ++ [q]) ++ List.replicate (la.length + 1 - (j + 1)) 0 := by
          intro q
          rw [List.set_append_right _ _ (by rw [ho.out]; exact Nat.le_refl _), ho.out, Nat.sub_self, List.append_assoc]
          congr 1
          rw [show la.length + 1 - j = (la.length + 1 - (j + 1)) + 1 by omega, List.replicate_succ]
          rfl
        have HS := Lib.hid hset
        have xc := hB.at j (by simp; have := ho.out; omega)
        have xf := hB.frozen j
        have hcase : ∃ y, lb.getD j 0 = y ∧ (j < lb.length ∨ (¬ j < lb.length ∧ y = 0)) := by
          refine ⟨_, rfl, ?_⟩
          by_cases h : j < lb.length
          · exact .inl h
          · refine .inr ⟨h, ?_⟩; rw [List.getD_eq_getElem?_getD, List.getElem?_eq_none (by omega)]; rfl
        obtain ⟨y, hye, hyl⟩ := hcase
        obtain ⟨x, hxe⟩ : ∃ x, la.getD j 0 = x := ⟨_, rfl⟩
        rw [hxe] at x1 hx
        rw [hye] at hy
        have HXE := Lib.hid hxe
        have HYE := Lib.hid hye
        unfold W64 at hx hy
        obtain ⟨hx0, hx1⟩ := hx
        obtain ⟨hy0, hy1⟩ := hy
        have hadd := add64_run x y c hx0 hy0 hc0 hc1'
        have hfin : ∀ q c', q = (x + y + c) % 18446744073709551616 → c' = (x + y + c) / 18446744073709551616 →
            (0 ≤ c' ∧ c' ≤ 1) ∧ Hid ((o ++ [q]).length = j + 1) ∧ Dig W64 (o ++ [q]) ∧ Hid (dv W64 (o ++ [q]) + c' * W64 ^ (j + 1) = dv W64 (la.take (j + 1)) + dv W64 (lb.take (j + 1))) := by
          rintro q c' hq hc'
          refine ⟨by omega, Lib.hid (by simp [ho.out]), hd.snoc (by unfold W64; omega), Lib.hid ?_⟩
          rw [dv_snoc, ho.out, HX.out, HY.out, HXE.out, HYE.out, Int.pow_succ]
          have := carry_add (B := W64) (P := W64 ^ j) (o := q) (c' := c') (c := c) (s := x + y) (by unfold W64; omega) hval.out
          rw [this, Int.add_mul]; omega
        have HF := Lib.hid hfin
        clear hcell1 hset hye hxe hfin
        rcases hyl with hyl | hyl
        · obtain ⟨b2, o2, e2, hb2, hcell2⟩ := hr2 (by omega)
          subst e2
          have x2 := (hbel.cell (p := ⟨b2, o2 + j, none⟩) hb2).trans (hcell2 j hyl)
          rw [HYE.out] at x2
          clear hcell2
          go_wp2
          go_roundw
          case rel =>
            obtain ⟨⟨f1, f2⟩, f3, f4, f5⟩ := HF.out _ _ rfl rfl
            refine ⟨j + 1, by omega, by go_num, _, _, rfl, f1, f2, f3, f4, f5, ?_, hR.far (by simp) _, hbel.setCell (by simp; omega) _⟩
            have h := hB.set j (.int .u64 ((x + y + c) % 18446744073709551616))
            rw [vs_set, HS.out] at h
            exact h
          case measure => simp [intOf]; omega
        · obtain ⟨hyl, rfl⟩ := hyl
          go_wp2
          go_roundw
          case rel =>
            obtain ⟨⟨f1, f2⟩, f3, f4, f5⟩ := HF.out ((x + c) % 18446744073709551616) ((x + c) / 18446744073709551616) (by rw [Int.add_zero]) (by rw [Int.add_zero])
            refine ⟨j + 1, by omega, by go_num, _, _, rfl, f1, f2, f3, f4, f5, ?_, hR.far (by simp) _, hbel.setCell (by simp; omega) _⟩
            have h := hB.set j (.int .u64 ((x + c) % 18446744073709551616))
            rw [vs_set, HS.out] at h
            exact h
          case measure => simp [intOf]; omega
      · obtain rfl : j = la.length := by omega
        have xc := hB.at la.length (by simp; have := ho.out; omega)
        have xf := hB.frozen la.length
        have hset : (o ++ List.replicate (la.length + 1 - la.length) 0).set la.length c = o ++ [c] := by
          rw [List.set_append_right _ _ (by rw [ho.out]; exact Nat.le_refl _), ho.out, Nat.sub_self]
          congr 1
          rw [show la.length + 1 - la.length = 0 + 1 by omega, List.replicate_succ]
          rfl
        have hv := hB.set la.length (.int .u64 c)
        rw [vs_set, hset] at hv
        have hI := hv.ints (n := la.length + 1) (by simp; have := ho.out; omega) (by unfold maxLen; omega)
        have hR2 := hR.far (a := ⟨w.heap.size + 3, la.length, none⟩) (by simp) (.int .u64 c)
        have hval2 : dv W64 (o ++ [c]) = ((a + b : Nat) : Int) := by
          have h := hval.out
          rw [List.take_length, List.take_of_length_le hge, ha.val, hb.val] at h
          rw [dv_snoc, ho.out, h]; simp
        have hT := trim_num hI (hd.snoc (by unfold W64; omega)) hval2
        have HT := Lib.hid hT
        have HR2 := Lib.hid hR2
        have HBel := Lib.hid (hbel.setCell (p := ⟨w.heap.size + 3, la.length, none⟩) (by simp) (.int .u64 c))
        clear hset hv hI hR2 hval2 hT hB hR hbel
        go_wp2_with fail
        refine HT.out.mono ?_
        rintro e w1 ⟨r, rfl, hr, hb1⟩
        have hR3 := HR2.out.below hb1 (by have := HR2.out.lt; exact this)
        have hc := hR3.one
        have hf := hR3.frozen 0
        have hb2 := HBel.out.trans (hb1.mono (by have := HBel.out.size; exact this))
        obtain ⟨A, k, cc, rfl⟩ := hr.slice
        clear hb1
        go_wp2
        refine bodyPost_ret (v := .agg #[.slice A k cc]) (by simp [results, Tryd.results54, go_sem, hc]) rfl ?_
        exact ⟨_, rfl, hr.box hR3 (by simp) _ _, hb2.setCell (by simp; omega) _⟩

/-- Add is the sum -/
theorem add_any (v1 v2 : Value) (a b : Nat) (w : World) (h1 : NatV w v1 a) (h2 : NatV w v2 b) (ha : bl a ≤ 1073741824) (hb : bl b ≤ 1073741824) :
    Calls Tryd.prog 54 #[.agg #[v1], .agg #[v2]] w fun e w' => ∃ r, e = .returned (.agg #[r]) ∧ NatV w' r (a + b) ∧ Below w.heap.size w w' := by
  obtain ⟨la, n1, i1⟩ := h1
  obtain ⟨lb, n2, i2⟩ := h2
  rcases Nat.lt_or_ge la.length lb.length with h | h
  · rw [Nat.add_comm]
    exact (add_both v2 v1 b a lb la w n2 n1 i2 i1 (Nat.le_trans (n2.len' (by decide)) hb)).2 h
  · exact (add_both v1 v2 a b la lb w n1 n2 i1 i2 (Nat.le_trans (n1.len' (by decide)) ha)).1 h
end Go.Proofs.YtjfkniknmkcdcaaDoor
