/- The walks of whole: Small, Cmp, Mul, Add. -/
import Derived.Test.YtjfkniknmkcdcaaDoorWa
namespace Go.Proofs.YtjfkniknmkcdcaaDoor
open Go.RowKit K Nu

/-- does an int64 have it -/
def isI64 (z : Int) : Bool := decide (-9223372036854775808 ≤ z ∧ z ≤ 9223372036854775807)
def i64Of (z : Int) : Int := if isI64 z then z else 0

set_option maxRecDepth 100000 in
set_option maxHeartbeats 1000000 in
theorem whSmall_any (b : Bool) (v : Value) (z : Int) (w : World) (h : IntV w b v z) :
    Calls Tryd.prog 56 #[.agg #[.bool b, v]] w fun e w' => e = .returned (.tuple #[.int .i64 (i64Of z), .bool (isI64 z)]) ∧ Below w.heap.size w w' := by
  obtain ⟨hv, rfl⟩ := h
  obtain ⟨A, k, c, rfl⟩ := hv.slice
  have bel : ∀ b : Bool, Below w.heap.size w (w.alloc (.cells #[.bool b, .slice A k c] 41)) := fun b => (Below.refl _ _).alloc (Nat.le_refl _) _
  have q1 : ∀ b : Bool, Blk (w.alloc (.cells #[.bool b, .slice A k c] 41)) w.heap.size [.bool b, .slice A k c] 41 := fun b => Blk.mk w _ rfl [.bool b, .slice A k c] _
  have hS := fun b => small_any _ z.natAbs _ (hv.below (bel b) (Nat.le_refl _))
  by_cases hn : z < 0
  · rw [decide_eq_true hn]
    replace bel := bel true
    replace q1 := q1 true
    replace hS := hS true
    by_cases h1 : -9223372036854775808 ≤ z
    · have e1 : isI64 z = true := decide_eq_true (by omega)
      have e2 : i64Of z = z := if_pos e1
      have e3 : smallW z.natAbs = -z := by unfold smallW; rw [if_pos (by omega)]; omega
      have e4 : decide (z.natAbs < 18446744073709551616) = true := decide_eq_true (by omega)
      have e5 : decide (-z ≤ 9223372036854775808) = true := decide_eq_true (by omega)
      have e7 : wrap64 (IntKind.u64.wrap z) = z := by rw [wrap64u]; unfold wrap64; omega
      have n1 : (0 : Int) ≤ -z := by omega
      have n2 : -z ≤ 9223372036854775808 := by omega
      clear h1
      rw [e3, e4] at hS
      rw [e1, e2]
      have HS := Lib.hid hS
      clear hS e1 e2 e3 e4 hn
      go_enter Tryd.func56, Tryd.ntmps56
      go_wp2_with fail
      refine HS.out.mono ?_
      rintro e w1 ⟨rfl, hb1⟩
      replace q1 := q1.below hb1 q1.lt
      replace bel := bel.trans (hb1.mono bel.size)
      have c1 : w1.cell? ⟨w.heap.size, 0, none⟩ = some (.bool true) := q1.cell 0
      clear hb1 HS
      go_wp2
      go_ret2
      exact ⟨congrArg (fun t => Ending.returned (.tuple #[.int .i64 t, .bool true])) e7, bel⟩
    · have e1 : isI64 z = false := decide_eq_false (by omega)
      have e2 : i64Of z = 0 := if_neg (by rw [e1]; decide)
      by_cases h2 : z.natAbs < 18446744073709551616
      · have e3 : smallW z.natAbs = -z := by unfold smallW; rw [if_pos h2]; omega
        have e4 : decide (z.natAbs < 18446744073709551616) = true := decide_eq_true h2
        have e5 : decide (-z ≤ 9223372036854775808) = false := decide_eq_false (by omega)
        clear h1 h2
        rw [e3, e4] at hS
        rw [e1, e2]
        have HS := Lib.hid hS
        clear hS e1 e2 e3 e4 hn
        go_enter Tryd.func56, Tryd.ntmps56
        go_wp2_with fail
        refine HS.out.mono ?_
        rintro e w1 ⟨rfl, hb1⟩
        replace q1 := q1.below hb1 q1.lt
        replace bel := bel.trans (hb1.mono bel.size)
        have c1 : w1.cell? ⟨w.heap.size, 0, none⟩ = some (.bool true) := q1.cell 0
        clear hb1 HS
        go_wp2
        go_ret2
        exact ⟨rfl, bel⟩
      · have e3 : smallW z.natAbs = 0 := by unfold smallW; rw [if_neg h2]
        have e4 : decide (z.natAbs < 18446744073709551616) = false := decide_eq_false h2
        clear h1 h2
        rw [e3, e4] at hS
        rw [e1, e2]
        have HS := Lib.hid hS
        clear hS e1 e2 e3 e4 hn
        go_enter Tryd.func56, Tryd.ntmps56
        go_wp2_with fail
        refine HS.out.mono ?_
        rintro e w1 ⟨rfl, hb1⟩
        replace q1 := q1.below hb1 q1.lt
        replace bel := bel.trans (hb1.mono bel.size)
        have c1 : w1.cell? ⟨w.heap.size, 0, none⟩ = some (.bool true) := q1.cell 0
        clear hb1 HS
        go_wp2
        go_ret2
        exact ⟨rfl, bel⟩
  · rw [decide_eq_false hn]
    replace bel := bel false
    replace q1 := q1 false
    replace hS := hS false
    by_cases h1 : z ≤ 9223372036854775807
    · have e1 : isI64 z = true := decide_eq_true (by omega)
      have e2 : i64Of z = z := if_pos e1
      have e3 : smallW z.natAbs = z := by unfold smallW; rw [if_pos (by omega)]; omega
      have e4 : decide (z.natAbs < 18446744073709551616) = true := decide_eq_true (by omega)
      have e5 : decide (z ≤ 9223372036854775807) = true := decide_eq_true h1
      have n1 : (0 : Int) ≤ z := by omega
      rw [e3, e4] at hS
      rw [e1, e2]
      have HS := Lib.hid hS
      clear hS e1 e2 e3 e4 hn
      go_enter Tryd.func56, Tryd.ntmps56
      go_wp2_with fail
      refine HS.out.mono ?_
      rintro e w1 ⟨rfl, hb1⟩
      replace q1 := q1.below hb1 q1.lt
      replace bel := bel.trans (hb1.mono bel.size)
      have c1 : w1.cell? ⟨w.heap.size, 0, none⟩ = some (.bool false) := q1.cell 0
      clear hb1 HS
      go_wp2
      go_ret2
      exact ⟨rfl, bel⟩
    · have e1 : isI64 z = false := decide_eq_false (by omega)
      have e2 : i64Of z = 0 := if_neg (by rw [e1]; decide)
      by_cases h2 : z.natAbs < 18446744073709551616
      · have e3 : smallW z.natAbs = z := by unfold smallW; rw [if_pos h2]; omega
        have e4 : decide (z.natAbs < 18446744073709551616) = true := decide_eq_true h2
        have e5 : decide (z ≤ 9223372036854775807) = false := decide_eq_false h1
        clear h1 h2
        rw [e3, e4] at hS
        rw [e1, e2]
        have HS := Lib.hid hS
        clear hS e1 e2 e3 e4 hn
        go_enter Tryd.func56, Tryd.ntmps56
        go_wp2_with fail
        refine HS.out.mono ?_
        rintro e w1 ⟨rfl, hb1⟩
        replace q1 := q1.below hb1 q1.lt
        replace bel := bel.trans (hb1.mono bel.size)
        have c1 : w1.cell? ⟨w.heap.size, 0, none⟩ = some (.bool false) := q1.cell 0
        clear hb1 HS
        go_wp2
        go_ret2
        exact ⟨rfl, bel⟩
      · have e3 : smallW z.natAbs = 0 := by unfold smallW; rw [if_neg h2]
        have e4 : decide (z.natAbs < 18446744073709551616) = false := decide_eq_false h2
        clear h1 h2
        rw [e3, e4] at hS
        rw [e1, e2]
        have HS := Lib.hid hS
        clear hS e1 e2 e3 e4 hn
        go_enter Tryd.func56, Tryd.ntmps56
        go_wp2_with fail
        refine HS.out.mono ?_
        rintro e w1 ⟨rfl, hb1⟩
        replace q1 := q1.below hb1 q1.lt
        replace bel := bel.trans (hb1.mono bel.size)
        have c1 : w1.cell? ⟨w.heap.size, 0, none⟩ = some (.bool false) := q1.cell 0
        clear hb1 HS
        go_wp2
        go_ret2
        exact ⟨rfl, bel⟩

/-- -1, 0, 1 -/
def cmpI (a b : Int) : Int := if a < b then -1 else if b < a then 1 else 0

set_option maxRecDepth 100000 in
set_option maxHeartbeats 1000000 in
theorem whCmp_any (b1 b2 : Bool) (v1 v2 : Value) (x y : Int) (w : World) (h1 : IntV w b1 v1 x) (h2 : IntV w b2 v2 y) :
    Calls Tryd.prog 71 #[.agg #[.bool b1, v1], .agg #[.bool b2, v2]] w fun e w' => e = .returned (.int .i64 (cmpI x y)) ∧ Below w.heap.size w w' := by
  obtain ⟨hv1, rfl⟩ := h1
  obtain ⟨hv2, rfl⟩ := h2
  obtain ⟨A1, k1, c1, rfl⟩ := hv1.slice
  obtain ⟨A2, k2, c2, rfl⟩ := hv2.slice
  have bel : ∀ p q : Bool, Below w.heap.size w ((w.alloc (.cells #[.bool p, .slice A1 k1 c1] 41)).alloc (.cells #[.bool q, .slice A2 k2 c2] 41)) := fun p q => box2
  by_cases hx : x < 0
  · rw [decide_eq_true hx]
    by_cases hy : y < 0
    · rw [decide_eq_true hy]
      have hF := Lib.hid (cmp_any _ _ y.natAbs x.natAbs _ (hv2.below (bel true true) (Nat.le_refl _)) (hv1.below (bel true true) (Nat.le_refl _)))
      have hr : cmpN y.natAbs x.natAbs = cmpI x y := by unfold cmpN cmpI; split <;> split <;> (try split) <;> omega
      rw [hr] at hF
      have HB := Lib.hid (bel true true)
      clear hx hy hr
      go_enter Tryd.func71, Tryd.ntmps71
      go_wp2_with fail
      refine hF.out.mono ?_
      rintro e w1 ⟨rfl, hb1⟩
      go_wp2_with fail
      go_ret
      exact ⟨rfl, HB.out.trans (hb1.mono HB.out.size)⟩
    · rw [decide_eq_false hy]
      have hr : cmpI x y = -1 := if_pos (by omega)
      rw [hr]
      clear hx hy hr
      go_enter Tryd.func71, Tryd.ntmps71
      go_wp2_with fail
      go_ret
      exact ⟨rfl, box2⟩
  · rw [decide_eq_false hx]
    by_cases hy : y < 0
    · rw [decide_eq_true hy]
      have hr : cmpI x y = 1 := (if_neg (by omega)).trans (if_pos (by omega))
      rw [hr]
      clear hx hy hr
      go_enter Tryd.func71, Tryd.ntmps71
      go_wp2_with fail
      go_ret
      exact ⟨rfl, box2⟩
    · rw [decide_eq_false hy]
      have hF := Lib.hid (cmp_any _ _ x.natAbs y.natAbs _ (hv1.below (bel false false) (Nat.le_refl _)) (hv2.below (bel false false) (Nat.le_refl _)))
      have hr : cmpN x.natAbs y.natAbs = cmpI x y := by unfold cmpN cmpI; split <;> split <;> (try split) <;> omega
      rw [hr] at hF
      have HB := Lib.hid (bel false false)
      clear hx hy hr
      go_enter Tryd.func71, Tryd.ntmps71
      go_wp2_with fail
      refine hF.out.mono ?_
      rintro e w1 ⟨rfl, hb1⟩
      go_wp2_with fail
      go_ret
      exact ⟨rfl, HB.out.trans (hb1.mono HB.out.size)⟩

theorem mul_sign (x y : Int) : ((decide (x < 0) != decide (y < 0)) && decide ((x.natAbs * y.natAbs) ≠ 0)) = decide (x * y < 0) := by
  rw [← Int.natAbs_mul]
  by_cases hx : x < 0
  · by_cases hy : y < 0
    · have h := Int.mul_pos_of_neg_of_neg hx hy
      rw [decide_eq_true hx, decide_eq_true hy, decide_eq_false (show ¬ x * y < 0 by omega)]; rfl
    · rw [decide_eq_true hx, decide_eq_false hy]
      by_cases h0 : y = 0
      · subst h0; simp
      · have h := Int.mul_neg_of_neg_of_pos hx (show 0 < y by omega)
        rw [decide_eq_true h, decide_eq_true (show (x * y).natAbs ≠ 0 by omega)]; rfl
  · by_cases hy : y < 0
    · rw [decide_eq_false hx, decide_eq_true hy]
      by_cases h0 : x = 0
      · subst h0; simp
      · have h := Int.mul_neg_of_pos_of_neg (show 0 < x by omega) hy
        rw [decide_eq_true h, decide_eq_true (show (x * y).natAbs ≠ 0 by omega)]; rfl
    · have h := Int.mul_nonneg (show 0 ≤ x by omega) (show 0 ≤ y by omega)
      rw [decide_eq_false hx, decide_eq_false hy, decide_eq_false (show ¬ x * y < 0 by omega)]; rfl

set_option maxRecDepth 100000 in
set_option maxHeartbeats 2000000 in
theorem whMul_any (b1 b2 : Bool) (v1 v2 : Value) (x y : Int) (w : World) (h1 : IntV w b1 v1 x) (h2 : IntV w b2 v2 y) (hs1 : bl x.natAbs ≤ 1073741824) (hs2 : bl y.natAbs ≤ 1073741824) :
    Calls Tryd.prog 33 #[.agg #[.bool b1, v1], .agg #[.bool b2, v2]] w fun e w' => ∃ v, e = .returned (.agg #[.bool (decide (x * y < 0)), v]) ∧ IntV w' (decide (x * y < 0)) v (x * y) ∧ Below w.heap.size w w' := by
  obtain ⟨hv1, hb1⟩ := h1
  obtain ⟨hv2, hb2⟩ := h2
  obtain ⟨A1, k1, c1, rfl⟩ := hv1.slice
  obtain ⟨A2, k2, c2, rfl⟩ := hv2.slice
  have hM := Lib.hid (fun (wd : World) (ha : NatV wd (.slice A1 k1 c1) x.natAbs) (hb : NatV wd (.slice A2 k2 c2) y.natAbs) => mul_any _ _ _ _ wd ha hb hs1 hs2)
  have hsz : bl (x.natAbs * y.natAbs) ≤ 4611686018427387904 := by have := bl_mul x.natAbs y.natAbs; omega
  have hF := Lib.hid (fun v (wd : World) (ha : NatV wd v (x.natAbs * y.natAbs)) => from_any (b1 != b2) v _ wd ha hsz)
  have hsg := mul_sign x y
  rw [← hb1, ← hb2] at hsg
  rw [hsg] at hF
  have hna : (x * y).natAbs = x.natAbs * y.natAbs := Int.natAbs_mul x y
  have HNA := Lib.hid hna
  generalize hsgn : decide (x * y < 0) = sg at *
  have HSG := Lib.hid hsgn
  clear hsgn hsg hb1 hb2 hna hsz
  have p1 := Lib.hid (((Blk.mk w _ rfl [.bool b1, .slice A1 k1 c1] 41).alloc (.cells #[.bool b2, .slice A2 k2 c2] 41)).alloc (.cells #[.bool false, .slice none 0 0] 41)).drew
  have p2 := Lib.hid ((Blk.mk (w.alloc (.cells #[.bool b1, .slice A1 k1 c1] 41)) (w.heap.size + 1) (by simp) [.bool b2, .slice A2 k2 c2] 41).alloc (.cells #[.bool false, .slice none 0 0] 41)).drew
  have p3 := Lib.hid (Blk.mk ((w.alloc (.cells #[.bool b1, .slice A1 k1 c1] 41)).alloc (.cells #[.bool b2, .slice A2 k2 c2] 41)) (w.heap.size + 2) (by simp) [.bool false, .slice none 0 0] 41).drew
  have bel0 := Lib.hid (box3 (w := w) (x := #[.bool b1, .slice A1 k1 c1]) (y := #[.bool b2, .slice A2 k2 c2]) (z := #[.bool false, .slice none 0 0]) (S := 41) (T := 41) (U := 41)).drew
  have n1 : ¬ w.heap.size + 1 + 1 = w.heap.size := by omega
  have n2 : ¬ w.heap.size = w.heap.size + 1 + 1 := by omega
  go_enter Tryd.func33, Tryd.ntmps33
  go_upto_region 1 with fail
  go_region_held3 (fun w' => w'.cell? ⟨w.heap.size, 0, none⟩ = some (.bool b1) ∧ w'.cell? ⟨w.heap.size, 1, none⟩ = some (.slice A1 k1 c1) ∧ w'.cell? ⟨w.heap.size + 1, 0, none⟩ = some (.bool b2) ∧ w'.cell? ⟨w.heap.size + 1, 1, none⟩ = some (.slice A2 k2 c2)) (go_keep)
    (first
      | ((go_at_call 36; refine (hM.out _ ?hs1 ?hs2).mono ?_; (case hs1 => exact hv1.below bel0.out (Nat.le_refl _)); (case hs2 => exact hv2.below bel0.out (Nat.le_refl _)); rintro e w2 ⟨r, rfl, hr, hb2⟩; obtain ⟨A3, k3, c3, rfl⟩ := hr.slice; have d0 : w2.cell? ⟨w.heap.size, 0, none⟩ = some (.bool b1) := (p1.out.below hb2 p1.out.lt).cell 0; have d1 : w2.cell? ⟨w.heap.size, 1, none⟩ = some (.slice A1 k1 c1) := (p1.out.below hb2 p1.out.lt).cell 1; have d2 : w2.cell? ⟨w.heap.size + 1, 0, none⟩ = some (.bool b2) := (p2.out.below hb2 p2.out.lt).cell 0; have d3 : w2.cell? ⟨w.heap.size + 1, 1, none⟩ = some (.slice A2 k2 c2) := (p2.out.below hb2 p2.out.lt).cell 1; have P1 := Lib.hid (p1.out.below hb2 p1.out.lt); have P2 := Lib.hid (p2.out.below hb2 p2.out.lt); have P3 := Lib.hid (p3.out.below hb2 p3.out.lt); have BEL2 := Lib.hid (bel0.out.trans (hb2.mono bel0.out.size)); clear hb2))
      | ((go_at_call 49; refine (hF.out _ _ hr).mono ?_; rintro e w3 ⟨rfl, hb3⟩; have t0 : w3.cell? ⟨w.heap.size, 0, none⟩ = some (.bool b1) := (P1.out.below hb3 P1.out.lt).cell 0; have t1 : w3.cell? ⟨w.heap.size, 1, none⟩ = some (.slice A1 k1 c1) := (P1.out.below hb3 P1.out.lt).cell 1; have t2 : w3.cell? ⟨w.heap.size + 1, 0, none⟩ = some (.bool b2) := (P2.out.below hb3 P2.out.lt).cell 0; have t3 : w3.cell? ⟨w.heap.size + 1, 1, none⟩ = some (.slice A2 k2 c2) := (P2.out.below hb3 P2.out.lt).cell 1; have e3 := Lib.hid (P3.out.below hb3 P3.out.lt); have s0 : w3.cell? ⟨w.heap.size + 2, 0, none⟩ = some (.bool false) := e3.out.cell 0; have s1 : w3.cell? ⟨w.heap.size + 2, 1, none⟩ = some (.slice none 0 0) := e3.out.cell 1; have s2 := e3.out.frozen 0; have s3 := e3.out.frozen 1; have HR3 := Lib.hid (hr.below hb3 (Nat.le_refl _)); have BEL3 := Lib.hid (BEL2.out.trans (hb3.mono BEL2.out.size)); clear hb3)))
  all_goals go_wp2
  all_goals
    refine bodyPost_ret (v := .agg #[.bool sg, .slice A3 k3 c3]) (by simp [results, Tryd.results33, go_sem, s0, s1]) rfl ?_
    refine ⟨_, rfl, ⟨?_, HSG.out.symm⟩, (BEL3.out.setCell (by simp <;> omega) _).setCell (by simp <;> omega) _⟩
    rw [HNA.out]
    exact (HR3.out.box e3.out (by simp) 0 (.bool sg)).box (e3.out.set 0 (.bool sg)) (by simp) 1 (.slice A3 k3 c3)
end Go.Proofs.YtjfkniknmkcdcaaDoor
