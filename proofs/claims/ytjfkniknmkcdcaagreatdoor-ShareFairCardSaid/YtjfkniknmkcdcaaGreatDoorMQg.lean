/- The walk of frac: Cmp of short fractions. (printed by wip/gen/qg.py) -/
import Derived.Test.YtjfkniknmkcdcaaGreatDoorMQd
import Derived.Test.YtjfkniknmkcdcaaGreatDoorMPk
import Derived.Lib.QuietBelow
namespace Go.Proofs.YtjfkniknmkcdcaaGreatDoor
open Go.RowKit K Nu Go.Sort

def sgI (z : Int) : Int := if z < 0 then -1 else if z = 0 then 0 else 1
theorem cmp_sg {p q : Rat} (h : sgI p.num ≠ sgI q.num) : cmpI p.num q.num = cmpQ p q := by
  have hp : (0 : Int) < p.den := by have := p.den_nz; omega
  have hq : (0 : Int) < q.den := by have := q.den_nz; omega
  have key : ∀ (a d : Int), 0 < d → sgI (a * d) = sgI a := by
    intro a d hd
    unfold sgI
    by_cases h1 : a < 0
    · rw [if_pos h1, if_pos (Int.mul_neg_of_neg_of_pos h1 hd)]
    · by_cases h2 : a = 0
      · subst h2; simp
      · have h3 : 0 < a * d := Int.mul_pos (by omega) hd
        rw [if_neg h1, if_neg h2, if_neg (by omega), if_neg (by omega)]
  have k1 := key p.num q.den hq
  have k2 := key q.num p.den hp
  unfold cmpQ
  generalize p.num * (q.den : Int) = x at *
  generalize q.num * (p.den : Int) = y at *
  unfold cmpI
  unfold sgI at *
  grind
theorem cmp_int {p q : Rat} (h1 : p.den = 1) (h2 : q.den = 1) : cmpI p.num q.num = cmpQ p q := by
  unfold cmpQ; rw [h1, h2]; simp
theorem cmpQ_eq {p q : Rat} : (cmpQ p q == 0) = decide (p = q) := by
  have hi : ∀ x y : Int, (cmpI x y == 0) = decide (x = y) := by
    intro x y
    unfold cmpI
    by_cases h : x < y
    · rw [if_pos h, decide_eq_false (by omega)]; rfl
    · rw [if_neg h]
      by_cases h2 : y < x
      · rw [if_pos h2, decide_eq_false (by omega)]; rfl
      · rw [if_neg h2, decide_eq_true (by omega)]; rfl
  unfold cmpQ
  rw [hi]
  congr 1
  exact propext (Rat.eq_iff_mul_eq_mul (p := p) (q := q)).symm

set_option maxRecDepth 100000 in
set_option maxHeartbeats 3000000 in
theorem frCmp_small (b1 b2 : Bool) (v1 v2 v3 v4 : Value) (p q : Rat) (w : World) (hp : QV w b1 v1 v2 p) (hq : QV w b2 v3 v4 q) (sp : Short p) (sq : Short q) :
    Calls Tryz.prog 22 #[.agg #[.bool b1, v1, v2], .agg #[.bool b2, v3, v4]] w fun e w' => e = .returned (.int .i64 (cmpQ p q)) ∧ Below w.heap.size w w' := by
  obtain ⟨⟨h1, hb1⟩, h2⟩ := hp
  obtain ⟨⟨h3, hb2⟩, h4⟩ := hq
  obtain ⟨A1, k1, c1, rfl⟩ := h1.slice
  obtain ⟨A2, k2, c2, rfl⟩ := h2.slice
  obtain ⟨A3, k3, c3, rfl⟩ := h3.slice
  obtain ⟨A4, k4, c4, rfl⟩ := h4.slice
  obtain ⟨sp1, sp2, sp3⟩ := sp
  obtain ⟨sq1, sq2, sq3⟩ := sq
  have hpd := p.den_nz
  have hqd := q.den_nz
  have hdp : dn p.den < 2147483648 := by unfold dn; split <;> omega
  have hdq : dn q.den < 2147483648 := by unfold dn; split <;> omega
  have blp := bl_small (n := dn p.den) (by omega)
  have blq := bl_small (n := dn q.den) (by omega)
  have bln := bl_small (n := p.num.natAbs) (by omega)
  have blm := bl_small (n := q.num.natAbs) (by omega)
  have bld := bl_small (n := p.den) (by omega)
  have ble := bl_small (n := q.den) (by omega)
  have p0_0 := Lib.hid (((Blk.mk w (w.heap.size) rfl [.bool b1, .slice A1 k1 c1, .slice A2 k2 c2] 40).alloc (.cells #[.bool b2, .slice A3 k3 c3, .slice A4 k4 c4] 40)))
  have p1_0 := Lib.hid ((Blk.mk (w.alloc (.cells #[.bool b1, .slice A1 k1 c1, .slice A2 k2 c2] 40)) (w.heap.size + 1) (by simp) [.bool b2, .slice A3 k3 c3, .slice A4 k4 c4] 40))
  have bel_0 := Lib.hid (show Below w.heap.size w ((w.alloc (.cells #[.bool b1, .slice A1 k1 c1, .slice A2 k2 c2] 40)).alloc (.cells #[.bool b2, .slice A3 k3 c3, .slice A4 k4 c4] 40)) by (repeat (first | assumption | exact Below.refl _ _ | refine Below.drew ?_ | refine Below.setCell ?_ (by simp <;> omega) _ | refine Below.alloc ?_ (by simp <;> omega) _)))
  have h1_0 := Lib.hid (h1.below bel_0.out (Nat.le_refl _))
  have h2_0 := Lib.hid (h2.below bel_0.out (Nat.le_refl _))
  have h3_0 := Lib.hid (h3.below bel_0.out (Nat.le_refl _))
  have h4_0 := Lib.hid (h4.below bel_0.out (Nat.le_refl _))
  have hS1 := fun (wd : World) (ha : NatV wd (.slice A1 k1 c1) p.num.natAbs) (hc : NatV wd (.slice A2 k2 c2) (dn p.den)) => frSign_any b1 _ _ p.num _ wd ⟨ha, hb1⟩ hc (by omega)
  have hS2 := fun (wd : World) (ha : NatV wd (.slice A3 k3 c3) q.num.natAbs) (hc : NatV wd (.slice A4 k4 c4) (dn q.den)) => frSign_any b2 _ _ q.num _ wd ⟨ha, hb2⟩ hc (by omega)
  have hC := fun (wd : World) (ha : NatV wd (.slice A1 k1 c1) p.num.natAbs) (hc : NatV wd (.slice A3 k3 c3) q.num.natAbs) => whCmp_any b1 b2 _ _ p.num q.num wd ⟨ha, hb1⟩ ⟨hc, hb2⟩
  by_cases hs : sgI p.num = sgI q.num
  · unfold sgI at hs
    rw [← hs] at hS2
    obtain ⟨s, hs'⟩ : ∃ s : Int, (if p.num < 0 then (-1 : Int) else if p.num = 0 then 0 else 1) = s := ⟨_, rfl⟩
    rw [hs'] at hS1 hS2
    replace hS1 := Lib.hid hS1
    replace hS2 := Lib.hid hS2
    have hB1 := fun (wd : World) (ha : NatV wd (.slice A2 k2 c2) (dn p.den)) => bits_any _ _ wd ha (by omega)
    have hB2 := fun (wd : World) (ha : NatV wd (.slice A4 k4 c4) (dn q.den)) => bits_any _ _ wd ha (by omega)
    have hsum : IntKind.i64.wrap ((bl (dn p.den) : Int) + (bl (dn q.den) : Int)) = (bl (dn p.den) : Int) + (bl (dn q.den) : Int) := by rw [IntKind.wrap_i64]; omega
    have hz : ((bl (dn p.den) : Int) + (bl (dn q.den) : Int) == 0) = decide (p.den = 1 ∧ q.den = 1) := by
      by_cases h1' : p.den = 1
      · by_cases h2' : q.den = 1
        · rw [h1', h2']; decide
        · have := bl_pos (n := dn q.den) (by unfold dn; rw [if_neg h2']; exact hqd)
          rw [decide_eq_false (by omega)]
          exact beq_eq_false_iff_ne.2 (by omega)
      · have := bl_pos (n := dn p.den) (by unfold dn; rw [if_neg h1']; exact hpd)
        rw [decide_eq_false (by omega)]
        exact beq_eq_false_iff_ne.2 (by omega)
    obtain ⟨B1, hB1e⟩ : ∃ B1 : Int, ((bl (dn p.den) : Nat) : Int) = B1 := ⟨_, rfl⟩
    obtain ⟨B2, hB2e⟩ : ∃ B2 : Int, ((bl (dn q.den) : Nat) : Int) = B2 := ⟨_, rfl⟩
    rw [hB1e] at hsum hz hB1
    rw [hB2e] at hsum hz hB2
    replace hB1 := Lib.hid hB1
    replace hB2 := Lib.hid hB2
    have hD1 := Lib.hid (fun (wd : World) (ha : NatV wd (.slice A1 k1 c1) p.num.natAbs) (hc : NatV wd (.slice A2 k2 c2) (dn p.den)) => den_any b1 _ _ _ p.den wd ha hc hpd (by omega))
    have hD2 := Lib.hid (fun (wd : World) (ha : NatV wd (.slice A3 k3 c3) q.num.natAbs) (hc : NatV wd (.slice A4 k4 c4) (dn q.den)) => den_any b2 _ _ _ q.den wd ha hc hqd (by omega))
    have hW1 := Lib.hid (fun (wd : World) u (ha : NatV wd u p.den) => wide_any u p.den wd ha (by omega))
    have hW2 := Lib.hid (fun (wd : World) u (ha : NatV wd u q.den) => wide_any u q.den wd ha (by omega))
    have hM1 := fun (wd : World) u (ha : NatV wd (.slice A1 k1 c1) p.num.natAbs) (hc : NatV wd u q.den) => whMul_any b1 false _ u p.num (q.den : Int) wd ⟨ha, hb1⟩ ⟨hc, by simp⟩ (by omega) (by simp; omega)
    have hM2 := fun (wd : World) u (ha : NatV wd (.slice A3 k3 c3) q.num.natAbs) (hc : NatV wd u p.den) => whMul_any b2 false _ u q.num (p.den : Int) wd ⟨ha, hb2⟩ ⟨hc, by simp⟩ (by omega) (by simp; omega)
    have hC2 := fun (wd : World) u v (ha : NatV wd u (p.num * (q.den : Int)).natAbs) (hc : NatV wd v (q.num * (p.den : Int)).natAbs) => whCmp_any (decide (p.num * (q.den : Int) < 0)) (decide (q.num * (p.den : Int) < 0)) u v _ _ wd ⟨ha, rfl⟩ ⟨hc, rfl⟩
    rw [show cmpI (p.num * (q.den : Int)) (q.num * (p.den : Int)) = cmpQ p q from rfl] at hC2
    obtain ⟨sx, hsx⟩ : ∃ sx, decide (p.num * (q.den : Int) < 0) = sx := ⟨_, rfl⟩
    obtain ⟨sy, hsy⟩ : ∃ sy, decide (q.num * (p.den : Int) < 0) = sy := ⟨_, rfl⟩
    rw [hsx] at hM1 hC2
    rw [hsy] at hM2 hC2
    replace hM1 := Lib.hid hM1
    replace hM2 := Lib.hid hM2
    by_cases hi : p.den = 1 ∧ q.den = 1
    · rw [decide_eq_true hi] at hz
      rw [cmp_int hi.1 hi.2] at hC
      generalize cmpQ p q = cz at *
      replace hC := Lib.hid hC
      clear hs hs' hB1e hB2e hsx hsy hi hb1 hb2 sp1 sp2 sp3 sq1 sq2 sq3 hpd hqd hdp hdq blp blq bln blm bld ble hC2 hM1 hM2 hW1 hW2 hD1 hD2
      go_enter Tryz.func22, Tryz.ntmps22
      go_upto_region 1 with fail
      have kk00 := cell_regrown p0_0.out.c0
      have kk01 := cell_regrown p0_0.out.c1
      have kk02 := cell_regrown p0_0.out.c2
      have kk10 := cell_regrown p1_0.out.c0
      have kk11 := cell_regrown p1_0.out.c1
      have kk12 := cell_regrown p1_0.out.c2
      have cc0 := fun d os => Calls.regrown_of (hS1.out _ (h1_0.out.below (below_regrown (((w.alloc (.cells #[.bool b1, .slice A1 k1 c1, .slice A2 k2 c2] 40)).alloc (.cells #[.bool b2, .slice A3 k3 c3, .slice A4 k4 c4] 40))) d os) (Nat.le_refl _)) (h2_0.out.below (below_regrown (((w.alloc (.cells #[.bool b1, .slice A1 k1 c1, .slice A2 k2 c2] 40)).alloc (.cells #[.bool b2, .slice A3 k3 c3, .slice A4 k4 c4] 40))) d os) (Nat.le_refl _)))
      have cc1 := fun d os => Calls.regrown_of (hS2.out _ (h3_0.out.below (below_regrown (((w.alloc (.cells #[.bool b1, .slice A1 k1 c1, .slice A2 k2 c2] 40)).alloc (.cells #[.bool b2, .slice A3 k3 c3, .slice A4 k4 c4] 40))) d os) (Nat.le_refl _)) (h4_0.out.below (below_regrown (((w.alloc (.cells #[.bool b1, .slice A1 k1 c1, .slice A2 k2 c2] 40)).alloc (.cells #[.bool b2, .slice A3 k3 c3, .slice A4 k4 c4] 40))) d os) (Nat.le_refl _)))
      have cc2 := fun d os => Calls.regrown_of (hB1.out _ (h2_0.out.below (below_regrown (((w.alloc (.cells #[.bool b1, .slice A1 k1 c1, .slice A2 k2 c2] 40)).alloc (.cells #[.bool b2, .slice A3 k3 c3, .slice A4 k4 c4] 40))) d os) (Nat.le_refl _)))
      have cc3 := fun d os => Calls.regrown_of (hB2.out _ (h4_0.out.below (below_regrown (((w.alloc (.cells #[.bool b1, .slice A1 k1 c1, .slice A2 k2 c2] 40)).alloc (.cells #[.bool b2, .slice A3 k3 c3, .slice A4 k4 c4] 40))) d os) (Nat.le_refl _)))
      refine wp_region_quiet_below (by kernel_rfl) (by kernel_rfl) ?_
      repeat (quiet_step (first | with_reducible exact cc0 _ _ | with_reducible exact cc1 _ _ | with_reducible exact cc2 _ _ | with_reducible exact cc3 _ _))
      refine wpQuiet_nil ?_
      intro _ hw'
      obtain ⟨⟨dq, osq⟩, hw''⟩ := hw'
      subst hw''
      have hb_1 := below_regrown (((w.alloc (.cells #[.bool b1, .slice A1 k1 c1, .slice A2 k2 c2] 40)).alloc (.cells #[.bool b2, .slice A3 k3 c3, .slice A4 k4 c4] 40))) dq osq
      clear kk00 kk01 kk02 kk10 kk11 kk12 cc0 cc1 cc2 cc3
      generalize grow (redrawn (((w.alloc (.cells #[.bool b1, .slice A1 k1 c1, .slice A2 k2 c2] 40)).alloc (.cells #[.bool b2, .slice A3 k3 c3, .slice A4 k4 c4] 40))) dq) osq = w_1 at *
      have c0_0_1 : w_1.cell? ⟨w.heap.size, 0, none⟩ = some (.bool b1) := (p0_0.out.below hb_1 p0_0.out.lt).cell 0
      have c0_1_1 : w_1.cell? ⟨w.heap.size, 1, none⟩ = some (.slice A1 k1 c1) := (p0_0.out.below hb_1 p0_0.out.lt).cell 1
      have c0_2_1 : w_1.cell? ⟨w.heap.size, 2, none⟩ = some (.slice A2 k2 c2) := (p0_0.out.below hb_1 p0_0.out.lt).cell 2
      have c1_0_1 : w_1.cell? ⟨w.heap.size + 1, 0, none⟩ = some (.bool b2) := (p1_0.out.below hb_1 p1_0.out.lt).cell 0
      have c1_1_1 : w_1.cell? ⟨w.heap.size + 1, 1, none⟩ = some (.slice A3 k3 c3) := (p1_0.out.below hb_1 p1_0.out.lt).cell 1
      have c1_2_1 : w_1.cell? ⟨w.heap.size + 1, 2, none⟩ = some (.slice A4 k4 c4) := (p1_0.out.below hb_1 p1_0.out.lt).cell 2
      have p0_1 := Lib.hid (p0_0.out.below hb_1 p0_0.out.lt)
      have p1_1 := Lib.hid (p1_0.out.below hb_1 p1_0.out.lt)
      have h1_1 := Lib.hid (h1_0.out.below hb_1 (Nat.le_refl _))
      have h2_1 := Lib.hid (h2_0.out.below hb_1 (Nat.le_refl _))
      have h3_1 := Lib.hid (h3_0.out.below hb_1 (Nat.le_refl _))
      have h4_1 := Lib.hid (h4_0.out.below hb_1 (Nat.le_refl _))
      have bel_1 := Lib.hid (bel_0.out.trans (hb_1.mono bel_0.out.size))
      clear hb_1 
      all_goals go_wp2_with fail
      refine (hC.out _ h1_1.out h3_1.out).mono ?_
      rintro e w_2 ⟨rfl, hb_2⟩
      have c0_0_2 : w_2.cell? ⟨w.heap.size, 0, none⟩ = some (.bool b1) := (p0_1.out.below hb_2 p0_1.out.lt).cell 0
      have c0_1_2 : w_2.cell? ⟨w.heap.size, 1, none⟩ = some (.slice A1 k1 c1) := (p0_1.out.below hb_2 p0_1.out.lt).cell 1
      have c0_2_2 : w_2.cell? ⟨w.heap.size, 2, none⟩ = some (.slice A2 k2 c2) := (p0_1.out.below hb_2 p0_1.out.lt).cell 2
      have c1_0_2 : w_2.cell? ⟨w.heap.size + 1, 0, none⟩ = some (.bool b2) := (p1_1.out.below hb_2 p1_1.out.lt).cell 0
      have c1_1_2 : w_2.cell? ⟨w.heap.size + 1, 1, none⟩ = some (.slice A3 k3 c3) := (p1_1.out.below hb_2 p1_1.out.lt).cell 1
      have c1_2_2 : w_2.cell? ⟨w.heap.size + 1, 2, none⟩ = some (.slice A4 k4 c4) := (p1_1.out.below hb_2 p1_1.out.lt).cell 2
      have p0_2 := Lib.hid (p0_1.out.below hb_2 p0_1.out.lt)
      have p1_2 := Lib.hid (p1_1.out.below hb_2 p1_1.out.lt)
      have h1_2 := Lib.hid (h1_1.out.below hb_2 (Nat.le_refl _))
      have h2_2 := Lib.hid (h2_1.out.below hb_2 (Nat.le_refl _))
      have h3_2 := Lib.hid (h3_1.out.below hb_2 (Nat.le_refl _))
      have h4_2 := Lib.hid (h4_1.out.below hb_2 (Nat.le_refl _))
      have bel_2 := Lib.hid (bel_1.out.trans (hb_2.mono bel_1.out.size))
      clear hb_2 
      go_wp2_with fail
      go_ret
      exact ⟨rfl, bel_2.out⟩
    · rw [decide_eq_false hi] at hz
      generalize cmpQ p q = cz at *
      replace hC2 := Lib.hid hC2
      clear hs hs' hB1e hB2e hsx hsy hi hb1 hb2 sp1 sp2 sp3 sq1 sq2 sq3 hpd hqd hdp hdq blp blq bln blm bld ble hC
      go_enter Tryz.func22, Tryz.ntmps22
      go_upto_region 1 with fail
      have kk00 := cell_regrown p0_0.out.c0
      have kk01 := cell_regrown p0_0.out.c1
      have kk02 := cell_regrown p0_0.out.c2
      have kk10 := cell_regrown p1_0.out.c0
      have kk11 := cell_regrown p1_0.out.c1
      have kk12 := cell_regrown p1_0.out.c2
      have cc0 := fun d os => Calls.regrown_of (hS1.out _ (h1_0.out.below (below_regrown (((w.alloc (.cells #[.bool b1, .slice A1 k1 c1, .slice A2 k2 c2] 40)).alloc (.cells #[.bool b2, .slice A3 k3 c3, .slice A4 k4 c4] 40))) d os) (Nat.le_refl _)) (h2_0.out.below (below_regrown (((w.alloc (.cells #[.bool b1, .slice A1 k1 c1, .slice A2 k2 c2] 40)).alloc (.cells #[.bool b2, .slice A3 k3 c3, .slice A4 k4 c4] 40))) d os) (Nat.le_refl _)))
      have cc1 := fun d os => Calls.regrown_of (hS2.out _ (h3_0.out.below (below_regrown (((w.alloc (.cells #[.bool b1, .slice A1 k1 c1, .slice A2 k2 c2] 40)).alloc (.cells #[.bool b2, .slice A3 k3 c3, .slice A4 k4 c4] 40))) d os) (Nat.le_refl _)) (h4_0.out.below (below_regrown (((w.alloc (.cells #[.bool b1, .slice A1 k1 c1, .slice A2 k2 c2] 40)).alloc (.cells #[.bool b2, .slice A3 k3 c3, .slice A4 k4 c4] 40))) d os) (Nat.le_refl _)))
      have cc2 := fun d os => Calls.regrown_of (hB1.out _ (h2_0.out.below (below_regrown (((w.alloc (.cells #[.bool b1, .slice A1 k1 c1, .slice A2 k2 c2] 40)).alloc (.cells #[.bool b2, .slice A3 k3 c3, .slice A4 k4 c4] 40))) d os) (Nat.le_refl _)))
      have cc3 := fun d os => Calls.regrown_of (hB2.out _ (h4_0.out.below (below_regrown (((w.alloc (.cells #[.bool b1, .slice A1 k1 c1, .slice A2 k2 c2] 40)).alloc (.cells #[.bool b2, .slice A3 k3 c3, .slice A4 k4 c4] 40))) d os) (Nat.le_refl _)))
      refine wp_region_quiet_below (by kernel_rfl) (by kernel_rfl) ?_
      repeat (quiet_step (first | with_reducible exact cc0 _ _ | with_reducible exact cc1 _ _ | with_reducible exact cc2 _ _ | with_reducible exact cc3 _ _))
      refine wpQuiet_nil ?_
      intro _ hw'
      obtain ⟨⟨dq, osq⟩, hw''⟩ := hw'
      subst hw''
      have hb_1 := below_regrown (((w.alloc (.cells #[.bool b1, .slice A1 k1 c1, .slice A2 k2 c2] 40)).alloc (.cells #[.bool b2, .slice A3 k3 c3, .slice A4 k4 c4] 40))) dq osq
      clear kk00 kk01 kk02 kk10 kk11 kk12 cc0 cc1 cc2 cc3
      generalize grow (redrawn (((w.alloc (.cells #[.bool b1, .slice A1 k1 c1, .slice A2 k2 c2] 40)).alloc (.cells #[.bool b2, .slice A3 k3 c3, .slice A4 k4 c4] 40))) dq) osq = w_1 at *
      have c0_0_1 : w_1.cell? ⟨w.heap.size, 0, none⟩ = some (.bool b1) := (p0_0.out.below hb_1 p0_0.out.lt).cell 0
      have c0_1_1 : w_1.cell? ⟨w.heap.size, 1, none⟩ = some (.slice A1 k1 c1) := (p0_0.out.below hb_1 p0_0.out.lt).cell 1
      have c0_2_1 : w_1.cell? ⟨w.heap.size, 2, none⟩ = some (.slice A2 k2 c2) := (p0_0.out.below hb_1 p0_0.out.lt).cell 2
      have c1_0_1 : w_1.cell? ⟨w.heap.size + 1, 0, none⟩ = some (.bool b2) := (p1_0.out.below hb_1 p1_0.out.lt).cell 0
      have c1_1_1 : w_1.cell? ⟨w.heap.size + 1, 1, none⟩ = some (.slice A3 k3 c3) := (p1_0.out.below hb_1 p1_0.out.lt).cell 1
      have c1_2_1 : w_1.cell? ⟨w.heap.size + 1, 2, none⟩ = some (.slice A4 k4 c4) := (p1_0.out.below hb_1 p1_0.out.lt).cell 2
      have p0_1 := Lib.hid (p0_0.out.below hb_1 p0_0.out.lt)
      have p1_1 := Lib.hid (p1_0.out.below hb_1 p1_0.out.lt)
      have h1_1 := Lib.hid (h1_0.out.below hb_1 (Nat.le_refl _))
      have h2_1 := Lib.hid (h2_0.out.below hb_1 (Nat.le_refl _))
      have h3_1 := Lib.hid (h3_0.out.below hb_1 (Nat.le_refl _))
      have h4_1 := Lib.hid (h4_0.out.below hb_1 (Nat.le_refl _))
      have bel_1 := Lib.hid (bel_0.out.trans (hb_1.mono bel_0.out.size))
      clear hb_1 
      go_upto_region 3 with fail
      have hd_2 : Below w_1.heap.size w_1 w_1.drew := (Below.refl _ _).drew
      have p0_2 := Lib.hid (p0_1.out.below hd_2 p0_1.out.lt)
      have p1_2 := Lib.hid (p1_1.out.below hd_2 p1_1.out.lt)
      have h1_2 := Lib.hid (h1_1.out.below hd_2 (Nat.le_refl _))
      have h2_2 := Lib.hid (h2_1.out.below hd_2 (Nat.le_refl _))
      have h3_2 := Lib.hid (h3_1.out.below hd_2 (Nat.le_refl _))
      have h4_2 := Lib.hid (h4_1.out.below hd_2 (Nat.le_refl _))
      have bel_2 := Lib.hid (bel_1.out.trans (hd_2.mono bel_1.out.size))
      go_region_held3 (fun w' => w'.cell? ⟨w.heap.size, 0, none⟩ = some (.bool b1) ∧ w'.cell? ⟨w.heap.size, 1, none⟩ = some (.slice A1 k1 c1) ∧ w'.cell? ⟨w.heap.size, 2, none⟩ = some (.slice A2 k2 c2) ∧ w'.cell? ⟨w.heap.size + 1, 0, none⟩ = some (.bool b2) ∧ w'.cell? ⟨w.heap.size + 1, 1, none⟩ = some (.slice A3 k3 c3) ∧ w'.cell? ⟨w.heap.size + 1, 2, none⟩ = some (.slice A4 k4 c4)) (go_keep)
        (first
          | ((go_at_call 60; refine (hC2.out _ _ _ hv7'_8.out hv10'_8.out).mono ?_; rintro e w_9 ⟨rfl, hb_9⟩; have c0_0_9 : w_9.cell? ⟨w.heap.size, 0, none⟩ = some (.bool b1) := (p0_8.out.below hb_9 p0_8.out.lt).cell 0; have c0_1_9 : w_9.cell? ⟨w.heap.size, 1, none⟩ = some (.slice A1 k1 c1) := (p0_8.out.below hb_9 p0_8.out.lt).cell 1; have c0_2_9 : w_9.cell? ⟨w.heap.size, 2, none⟩ = some (.slice A2 k2 c2) := (p0_8.out.below hb_9 p0_8.out.lt).cell 2; have c1_0_9 : w_9.cell? ⟨w.heap.size + 1, 0, none⟩ = some (.bool b2) := (p1_8.out.below hb_9 p1_8.out.lt).cell 0; have c1_1_9 : w_9.cell? ⟨w.heap.size + 1, 1, none⟩ = some (.slice A3 k3 c3) := (p1_8.out.below hb_9 p1_8.out.lt).cell 1; have c1_2_9 : w_9.cell? ⟨w.heap.size + 1, 2, none⟩ = some (.slice A4 k4 c4) := (p1_8.out.below hb_9 p1_8.out.lt).cell 2; have p0_9 := Lib.hid (p0_8.out.below hb_9 p0_8.out.lt); have p1_9 := Lib.hid (p1_8.out.below hb_9 p1_8.out.lt); have h1_9 := Lib.hid (h1_8.out.below hb_9 (Nat.le_refl _)); have h2_9 := Lib.hid (h2_8.out.below hb_9 (Nat.le_refl _)); have h3_9 := Lib.hid (h3_8.out.below hb_9 (Nat.le_refl _)); have h4_9 := Lib.hid (h4_8.out.below hb_9 (Nat.le_refl _)); have hr5_9 := Lib.hid (hr5_8.out.below hb_9 (Nat.le_refl _)); have hv7'_9 := Lib.hid (hv7'_8.out.below hb_9 (Nat.le_refl _)); have hr8_9 := Lib.hid (hr8_8.out.below hb_9 (Nat.le_refl _)); have hv10'_9 := Lib.hid (hv10'_8.out.below hb_9 (Nat.le_refl _)); have bel_9 := Lib.hid (bel_8.out.trans (hb_9.mono bel_8.out.size)); clear hb_9 ))
          | ((go_at_call 56; refine (hM2.out _ _ h3_7.out hr8_7.out).mono ?_; rintro e w_8 ⟨v10, rfl, hv10, hb_8⟩; have hv10' := hv10.1; have HV10 := Lib.hid hv10.2; clear hv10; obtain ⟨A10, k10, c10, rfl⟩ := hv10'.slice; have c0_0_8 : w_8.cell? ⟨w.heap.size, 0, none⟩ = some (.bool b1) := (p0_7.out.below hb_8 p0_7.out.lt).cell 0; have c0_1_8 : w_8.cell? ⟨w.heap.size, 1, none⟩ = some (.slice A1 k1 c1) := (p0_7.out.below hb_8 p0_7.out.lt).cell 1; have c0_2_8 : w_8.cell? ⟨w.heap.size, 2, none⟩ = some (.slice A2 k2 c2) := (p0_7.out.below hb_8 p0_7.out.lt).cell 2; have c1_0_8 : w_8.cell? ⟨w.heap.size + 1, 0, none⟩ = some (.bool b2) := (p1_7.out.below hb_8 p1_7.out.lt).cell 0; have c1_1_8 : w_8.cell? ⟨w.heap.size + 1, 1, none⟩ = some (.slice A3 k3 c3) := (p1_7.out.below hb_8 p1_7.out.lt).cell 1; have c1_2_8 : w_8.cell? ⟨w.heap.size + 1, 2, none⟩ = some (.slice A4 k4 c4) := (p1_7.out.below hb_8 p1_7.out.lt).cell 2; have p0_8 := Lib.hid (p0_7.out.below hb_8 p0_7.out.lt); have p1_8 := Lib.hid (p1_7.out.below hb_8 p1_7.out.lt); have h1_8 := Lib.hid (h1_7.out.below hb_8 (Nat.le_refl _)); have h2_8 := Lib.hid (h2_7.out.below hb_8 (Nat.le_refl _)); have h3_8 := Lib.hid (h3_7.out.below hb_8 (Nat.le_refl _)); have h4_8 := Lib.hid (h4_7.out.below hb_8 (Nat.le_refl _)); have hr5_8 := Lib.hid (hr5_7.out.below hb_8 (Nat.le_refl _)); have hv7'_8 := Lib.hid (hv7'_7.out.below hb_8 (Nat.le_refl _)); have hr8_8 := Lib.hid (hr8_7.out.below hb_8 (Nat.le_refl _)); have hv10'_8 := Lib.hid hv10'; have bel_8 := Lib.hid (bel_7.out.trans (hb_8.mono bel_7.out.size)); clear hb_8 hv10'))
          | ((go_at_call 54; refine (hW1.out _ _ hr8_6.out).mono ?_; rintro e w_7 ⟨rfl, hx, hb_7⟩; clear hx; have c0_0_7 : w_7.cell? ⟨w.heap.size, 0, none⟩ = some (.bool b1) := (p0_6.out.below hb_7 p0_6.out.lt).cell 0; have c0_1_7 : w_7.cell? ⟨w.heap.size, 1, none⟩ = some (.slice A1 k1 c1) := (p0_6.out.below hb_7 p0_6.out.lt).cell 1; have c0_2_7 : w_7.cell? ⟨w.heap.size, 2, none⟩ = some (.slice A2 k2 c2) := (p0_6.out.below hb_7 p0_6.out.lt).cell 2; have c1_0_7 : w_7.cell? ⟨w.heap.size + 1, 0, none⟩ = some (.bool b2) := (p1_6.out.below hb_7 p1_6.out.lt).cell 0; have c1_1_7 : w_7.cell? ⟨w.heap.size + 1, 1, none⟩ = some (.slice A3 k3 c3) := (p1_6.out.below hb_7 p1_6.out.lt).cell 1; have c1_2_7 : w_7.cell? ⟨w.heap.size + 1, 2, none⟩ = some (.slice A4 k4 c4) := (p1_6.out.below hb_7 p1_6.out.lt).cell 2; have p0_7 := Lib.hid (p0_6.out.below hb_7 p0_6.out.lt); have p1_7 := Lib.hid (p1_6.out.below hb_7 p1_6.out.lt); have h1_7 := Lib.hid (h1_6.out.below hb_7 (Nat.le_refl _)); have h2_7 := Lib.hid (h2_6.out.below hb_7 (Nat.le_refl _)); have h3_7 := Lib.hid (h3_6.out.below hb_7 (Nat.le_refl _)); have h4_7 := Lib.hid (h4_6.out.below hb_7 (Nat.le_refl _)); have hr5_7 := Lib.hid (hr5_6.out.below hb_7 (Nat.le_refl _)); have hv7'_7 := Lib.hid (hv7'_6.out.below hb_7 (Nat.le_refl _)); have hr8_7 := Lib.hid (hr8_6.out.below hb_7 (Nat.le_refl _)); have bel_7 := Lib.hid (bel_6.out.trans (hb_7.mono bel_6.out.size)); clear hb_7 ))
          | ((go_at_call 52; refine (hD1.out _ h1_5.out h2_5.out).mono ?_; rintro e w_6 ⟨r8, rfl, hr8, hb_6⟩; obtain ⟨A8, k8, c8, rfl⟩ := hr8.slice; have c0_0_6 : w_6.cell? ⟨w.heap.size, 0, none⟩ = some (.bool b1) := (p0_5.out.below hb_6 p0_5.out.lt).cell 0; have c0_1_6 : w_6.cell? ⟨w.heap.size, 1, none⟩ = some (.slice A1 k1 c1) := (p0_5.out.below hb_6 p0_5.out.lt).cell 1; have c0_2_6 : w_6.cell? ⟨w.heap.size, 2, none⟩ = some (.slice A2 k2 c2) := (p0_5.out.below hb_6 p0_5.out.lt).cell 2; have c1_0_6 : w_6.cell? ⟨w.heap.size + 1, 0, none⟩ = some (.bool b2) := (p1_5.out.below hb_6 p1_5.out.lt).cell 0; have c1_1_6 : w_6.cell? ⟨w.heap.size + 1, 1, none⟩ = some (.slice A3 k3 c3) := (p1_5.out.below hb_6 p1_5.out.lt).cell 1; have c1_2_6 : w_6.cell? ⟨w.heap.size + 1, 2, none⟩ = some (.slice A4 k4 c4) := (p1_5.out.below hb_6 p1_5.out.lt).cell 2; have p0_6 := Lib.hid (p0_5.out.below hb_6 p0_5.out.lt); have p1_6 := Lib.hid (p1_5.out.below hb_6 p1_5.out.lt); have h1_6 := Lib.hid (h1_5.out.below hb_6 (Nat.le_refl _)); have h2_6 := Lib.hid (h2_5.out.below hb_6 (Nat.le_refl _)); have h3_6 := Lib.hid (h3_5.out.below hb_6 (Nat.le_refl _)); have h4_6 := Lib.hid (h4_5.out.below hb_6 (Nat.le_refl _)); have hr5_6 := Lib.hid (hr5_5.out.below hb_6 (Nat.le_refl _)); have hv7'_6 := Lib.hid (hv7'_5.out.below hb_6 (Nat.le_refl _)); have hr8_6 := Lib.hid hr8; have bel_6 := Lib.hid (bel_5.out.trans (hb_6.mono bel_5.out.size)); clear hb_6 hr8))
          | ((go_at_call 56; refine (hM1.out _ _ h1_4.out hr5_4.out).mono ?_; rintro e w_5 ⟨v7, rfl, hv7, hb_5⟩; have hv7' := hv7.1; have HV7 := Lib.hid hv7.2; clear hv7; obtain ⟨A7, k7, c7, rfl⟩ := hv7'.slice; have c0_0_5 : w_5.cell? ⟨w.heap.size, 0, none⟩ = some (.bool b1) := (p0_4.out.below hb_5 p0_4.out.lt).cell 0; have c0_1_5 : w_5.cell? ⟨w.heap.size, 1, none⟩ = some (.slice A1 k1 c1) := (p0_4.out.below hb_5 p0_4.out.lt).cell 1; have c0_2_5 : w_5.cell? ⟨w.heap.size, 2, none⟩ = some (.slice A2 k2 c2) := (p0_4.out.below hb_5 p0_4.out.lt).cell 2; have c1_0_5 : w_5.cell? ⟨w.heap.size + 1, 0, none⟩ = some (.bool b2) := (p1_4.out.below hb_5 p1_4.out.lt).cell 0; have c1_1_5 : w_5.cell? ⟨w.heap.size + 1, 1, none⟩ = some (.slice A3 k3 c3) := (p1_4.out.below hb_5 p1_4.out.lt).cell 1; have c1_2_5 : w_5.cell? ⟨w.heap.size + 1, 2, none⟩ = some (.slice A4 k4 c4) := (p1_4.out.below hb_5 p1_4.out.lt).cell 2; have p0_5 := Lib.hid (p0_4.out.below hb_5 p0_4.out.lt); have p1_5 := Lib.hid (p1_4.out.below hb_5 p1_4.out.lt); have h1_5 := Lib.hid (h1_4.out.below hb_5 (Nat.le_refl _)); have h2_5 := Lib.hid (h2_4.out.below hb_5 (Nat.le_refl _)); have h3_5 := Lib.hid (h3_4.out.below hb_5 (Nat.le_refl _)); have h4_5 := Lib.hid (h4_4.out.below hb_5 (Nat.le_refl _)); have hr5_5 := Lib.hid (hr5_4.out.below hb_5 (Nat.le_refl _)); have hv7'_5 := Lib.hid hv7'; have bel_5 := Lib.hid (bel_4.out.trans (hb_5.mono bel_4.out.size)); clear hb_5 hv7'))
          | ((go_at_call 54; refine (hW2.out _ _ hr5_3.out).mono ?_; rintro e w_4 ⟨rfl, hx, hb_4⟩; clear hx; have c0_0_4 : w_4.cell? ⟨w.heap.size, 0, none⟩ = some (.bool b1) := (p0_3.out.below hb_4 p0_3.out.lt).cell 0; have c0_1_4 : w_4.cell? ⟨w.heap.size, 1, none⟩ = some (.slice A1 k1 c1) := (p0_3.out.below hb_4 p0_3.out.lt).cell 1; have c0_2_4 : w_4.cell? ⟨w.heap.size, 2, none⟩ = some (.slice A2 k2 c2) := (p0_3.out.below hb_4 p0_3.out.lt).cell 2; have c1_0_4 : w_4.cell? ⟨w.heap.size + 1, 0, none⟩ = some (.bool b2) := (p1_3.out.below hb_4 p1_3.out.lt).cell 0; have c1_1_4 : w_4.cell? ⟨w.heap.size + 1, 1, none⟩ = some (.slice A3 k3 c3) := (p1_3.out.below hb_4 p1_3.out.lt).cell 1; have c1_2_4 : w_4.cell? ⟨w.heap.size + 1, 2, none⟩ = some (.slice A4 k4 c4) := (p1_3.out.below hb_4 p1_3.out.lt).cell 2; have p0_4 := Lib.hid (p0_3.out.below hb_4 p0_3.out.lt); have p1_4 := Lib.hid (p1_3.out.below hb_4 p1_3.out.lt); have h1_4 := Lib.hid (h1_3.out.below hb_4 (Nat.le_refl _)); have h2_4 := Lib.hid (h2_3.out.below hb_4 (Nat.le_refl _)); have h3_4 := Lib.hid (h3_3.out.below hb_4 (Nat.le_refl _)); have h4_4 := Lib.hid (h4_3.out.below hb_4 (Nat.le_refl _)); have hr5_4 := Lib.hid (hr5_3.out.below hb_4 (Nat.le_refl _)); have bel_4 := Lib.hid (bel_3.out.trans (hb_4.mono bel_3.out.size)); clear hb_4 ))
          | ((go_at_call 52; refine (hD2.out _ h3_2.out h4_2.out).mono ?_; rintro e w_3 ⟨r5, rfl, hr5, hb_3⟩; obtain ⟨A5, k5, c5, rfl⟩ := hr5.slice; have c0_0_3 : w_3.cell? ⟨w.heap.size, 0, none⟩ = some (.bool b1) := (p0_2.out.below hb_3 p0_2.out.lt).cell 0; have c0_1_3 : w_3.cell? ⟨w.heap.size, 1, none⟩ = some (.slice A1 k1 c1) := (p0_2.out.below hb_3 p0_2.out.lt).cell 1; have c0_2_3 : w_3.cell? ⟨w.heap.size, 2, none⟩ = some (.slice A2 k2 c2) := (p0_2.out.below hb_3 p0_2.out.lt).cell 2; have c1_0_3 : w_3.cell? ⟨w.heap.size + 1, 0, none⟩ = some (.bool b2) := (p1_2.out.below hb_3 p1_2.out.lt).cell 0; have c1_1_3 : w_3.cell? ⟨w.heap.size + 1, 1, none⟩ = some (.slice A3 k3 c3) := (p1_2.out.below hb_3 p1_2.out.lt).cell 1; have c1_2_3 : w_3.cell? ⟨w.heap.size + 1, 2, none⟩ = some (.slice A4 k4 c4) := (p1_2.out.below hb_3 p1_2.out.lt).cell 2; have p0_3 := Lib.hid (p0_2.out.below hb_3 p0_2.out.lt); have p1_3 := Lib.hid (p1_2.out.below hb_3 p1_2.out.lt); have h1_3 := Lib.hid (h1_2.out.below hb_3 (Nat.le_refl _)); have h2_3 := Lib.hid (h2_2.out.below hb_3 (Nat.le_refl _)); have h3_3 := Lib.hid (h3_2.out.below hb_3 (Nat.le_refl _)); have h4_3 := Lib.hid (h4_2.out.below hb_3 (Nat.le_refl _)); have hr5_3 := Lib.hid hr5; have bel_3 := Lib.hid (bel_2.out.trans (hb_3.mono bel_2.out.size)); clear hb_3 hr5))
          | ((fail)))
      all_goals go_wp2_with fail
      all_goals go_ret
      all_goals exact ⟨rfl, bel_9.out⟩
  · rw [cmp_sg hs] at hC
    unfold sgI at hs
    obtain ⟨s1, hs1⟩ : ∃ s : Int, (if p.num < 0 then (-1 : Int) else if p.num = 0 then 0 else 1) = s := ⟨_, rfl⟩
    obtain ⟨s2, hs2⟩ : ∃ s : Int, (if q.num < 0 then (-1 : Int) else if q.num = 0 then 0 else 1) = s := ⟨_, rfl⟩
    rw [hs1] at hS1 hs
    rw [hs2] at hS2 hs
    have tS : (s1 != s2) = true := bne_iff_ne.2 hs
    replace hS1 := Lib.hid hS1
    replace hS2 := Lib.hid hS2
    generalize cmpQ p q = cz at *
    replace hC := Lib.hid hC
    clear hs hs1 hs2 hb1 hb2 sp1 sp2 sp3 sq1 sq2 sq3 hpd hqd hdp hdq blp blq bln blm bld ble
    go_enter Tryz.func22, Tryz.ntmps22
    go_upto_region 1 with fail
    have kk00 := cell_regrown p0_0.out.c0
    have kk01 := cell_regrown p0_0.out.c1
    have kk02 := cell_regrown p0_0.out.c2
    have kk10 := cell_regrown p1_0.out.c0
    have kk11 := cell_regrown p1_0.out.c1
    have kk12 := cell_regrown p1_0.out.c2
    have cc0 := fun d os => Calls.regrown_of (hS1.out _ (h1_0.out.below (below_regrown (((w.alloc (.cells #[.bool b1, .slice A1 k1 c1, .slice A2 k2 c2] 40)).alloc (.cells #[.bool b2, .slice A3 k3 c3, .slice A4 k4 c4] 40))) d os) (Nat.le_refl _)) (h2_0.out.below (below_regrown (((w.alloc (.cells #[.bool b1, .slice A1 k1 c1, .slice A2 k2 c2] 40)).alloc (.cells #[.bool b2, .slice A3 k3 c3, .slice A4 k4 c4] 40))) d os) (Nat.le_refl _)))
    have cc1 := fun d os => Calls.regrown_of (hS2.out _ (h3_0.out.below (below_regrown (((w.alloc (.cells #[.bool b1, .slice A1 k1 c1, .slice A2 k2 c2] 40)).alloc (.cells #[.bool b2, .slice A3 k3 c3, .slice A4 k4 c4] 40))) d os) (Nat.le_refl _)) (h4_0.out.below (below_regrown (((w.alloc (.cells #[.bool b1, .slice A1 k1 c1, .slice A2 k2 c2] 40)).alloc (.cells #[.bool b2, .slice A3 k3 c3, .slice A4 k4 c4] 40))) d os) (Nat.le_refl _)))
    refine wp_region_quiet_below (by kernel_rfl) (by kernel_rfl) ?_
    repeat (quiet_step (first | with_reducible exact cc0 _ _ | with_reducible exact cc1 _ _))
    refine wpQuiet_nil ?_
    intro _ hw'
    obtain ⟨⟨dq, osq⟩, hw''⟩ := hw'
    subst hw''
    have hb_1 := below_regrown (((w.alloc (.cells #[.bool b1, .slice A1 k1 c1, .slice A2 k2 c2] 40)).alloc (.cells #[.bool b2, .slice A3 k3 c3, .slice A4 k4 c4] 40))) dq osq
    clear kk00 kk01 kk02 kk10 kk11 kk12 cc0 cc1
    generalize grow (redrawn (((w.alloc (.cells #[.bool b1, .slice A1 k1 c1, .slice A2 k2 c2] 40)).alloc (.cells #[.bool b2, .slice A3 k3 c3, .slice A4 k4 c4] 40))) dq) osq = w_1 at *
    have c0_0_1 : w_1.cell? ⟨w.heap.size, 0, none⟩ = some (.bool b1) := (p0_0.out.below hb_1 p0_0.out.lt).cell 0
    have c0_1_1 : w_1.cell? ⟨w.heap.size, 1, none⟩ = some (.slice A1 k1 c1) := (p0_0.out.below hb_1 p0_0.out.lt).cell 1
    have c0_2_1 : w_1.cell? ⟨w.heap.size, 2, none⟩ = some (.slice A2 k2 c2) := (p0_0.out.below hb_1 p0_0.out.lt).cell 2
    have c1_0_1 : w_1.cell? ⟨w.heap.size + 1, 0, none⟩ = some (.bool b2) := (p1_0.out.below hb_1 p1_0.out.lt).cell 0
    have c1_1_1 : w_1.cell? ⟨w.heap.size + 1, 1, none⟩ = some (.slice A3 k3 c3) := (p1_0.out.below hb_1 p1_0.out.lt).cell 1
    have c1_2_1 : w_1.cell? ⟨w.heap.size + 1, 2, none⟩ = some (.slice A4 k4 c4) := (p1_0.out.below hb_1 p1_0.out.lt).cell 2
    have p0_1 := Lib.hid (p0_0.out.below hb_1 p0_0.out.lt)
    have p1_1 := Lib.hid (p1_0.out.below hb_1 p1_0.out.lt)
    have h1_1 := Lib.hid (h1_0.out.below hb_1 (Nat.le_refl _))
    have h2_1 := Lib.hid (h2_0.out.below hb_1 (Nat.le_refl _))
    have h3_1 := Lib.hid (h3_0.out.below hb_1 (Nat.le_refl _))
    have h4_1 := Lib.hid (h4_0.out.below hb_1 (Nat.le_refl _))
    have bel_1 := Lib.hid (bel_0.out.trans (hb_1.mono bel_0.out.size))
    clear hb_1 
    all_goals go_wp2_with fail
    refine (hC.out _ h1_1.out h3_1.out).mono ?_
    rintro e w_2 ⟨rfl, hb_2⟩
    have c0_0_2 : w_2.cell? ⟨w.heap.size, 0, none⟩ = some (.bool b1) := (p0_1.out.below hb_2 p0_1.out.lt).cell 0
    have c0_1_2 : w_2.cell? ⟨w.heap.size, 1, none⟩ = some (.slice A1 k1 c1) := (p0_1.out.below hb_2 p0_1.out.lt).cell 1
    have c0_2_2 : w_2.cell? ⟨w.heap.size, 2, none⟩ = some (.slice A2 k2 c2) := (p0_1.out.below hb_2 p0_1.out.lt).cell 2
    have c1_0_2 : w_2.cell? ⟨w.heap.size + 1, 0, none⟩ = some (.bool b2) := (p1_1.out.below hb_2 p1_1.out.lt).cell 0
    have c1_1_2 : w_2.cell? ⟨w.heap.size + 1, 1, none⟩ = some (.slice A3 k3 c3) := (p1_1.out.below hb_2 p1_1.out.lt).cell 1
    have c1_2_2 : w_2.cell? ⟨w.heap.size + 1, 2, none⟩ = some (.slice A4 k4 c4) := (p1_1.out.below hb_2 p1_1.out.lt).cell 2
    have p0_2 := Lib.hid (p0_1.out.below hb_2 p0_1.out.lt)
    have p1_2 := Lib.hid (p1_1.out.below hb_2 p1_1.out.lt)
    have h1_2 := Lib.hid (h1_1.out.below hb_2 (Nat.le_refl _))
    have h2_2 := Lib.hid (h2_1.out.below hb_2 (Nat.le_refl _))
    have h3_2 := Lib.hid (h3_1.out.below hb_2 (Nat.le_refl _))
    have h4_2 := Lib.hid (h4_1.out.below hb_2 (Nat.le_refl _))
    have bel_2 := Lib.hid (bel_1.out.trans (hb_2.mono bel_1.out.size))
    clear hb_2 
    go_wp2_with fail
    go_ret
    exact ⟨rfl, bel_2.out⟩

end Go.Proofs.YtjfkniknmkcdcaaGreatDoor
