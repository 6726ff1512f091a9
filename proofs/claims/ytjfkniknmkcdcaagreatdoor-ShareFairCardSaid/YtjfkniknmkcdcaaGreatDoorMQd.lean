/- Texts of this claim, joined: Qc, Qd. -/
import Derived.Test.YtjfkniknmkcdcaaGreatDoorMQb
namespace Go.Proofs.YtjfkniknmkcdcaaGreatDoor
open Go.RowKit K Nu

/-- a fraction whose parts are short -/
def Short (q : Rat) : Prop := -2147483648 < q.num ∧ q.num < 2147483648 ∧ q.den < 2147483648
theorem add_int {p q : Rat} (hp : p.den = 1) (hq : q.den = 1) : (p + q).num = p.num + q.num ∧ (p + q).den = 1 := by
  have h1 : p = ((p.num : Int) : Rat) := Rat.ext (by simp) (by simp [hp])
  have h2 : q = ((q.num : Int) : Rat) := Rat.ext (by simp) (by simp [hq])
  have h3 : p + q = ((p.num + q.num : Int) : Rat) := by rw [Rat.intCast_add, ← h1, ← h2]
  rw [h3]; exact ⟨Rat.num_intCast _, Rat.den_intCast _⟩
theorem mul_int {p q : Rat} (hp : p.den = 1) (hq : q.den = 1) : (p * q).num = p.num * q.num ∧ (p * q).den = 1 := by
  have h1 : p = ((p.num : Int) : Rat) := Rat.ext (by simp) (by simp [hp])
  have h2 : q = ((q.num : Int) : Rat) := Rat.ext (by simp) (by simp [hq])
  have h3 : p * q = ((p.num * q.num : Int) : Rat) := by rw [Rat.intCast_mul, ← h1, ← h2]
  rw [h3]; exact ⟨Rat.num_intCast _, Rat.den_intCast _⟩
theorem add_mk (p q : Rat) : mkRat (p.num * q.den + q.num * p.den) (p.den * q.den) = p + q := by
  rw [← Rat.mkRat_add_mkRat _ _ p.den_nz q.den_nz, Rat.mkRat_self, Rat.mkRat_self]
theorem mul_mk (p q : Rat) : mkRat (p.num * q.num) (p.den * q.den) = p * q := by
  rw [← Rat.mkRat_mul_mkRat, Rat.mkRat_self, Rat.mkRat_self]
theorem prod_lt {a b : Int} (ha : -2147483648 < a) (ha' : a < 2147483648) (hb : -2147483648 < b) (hb' : b < 2147483648) : -4611686014132420609 ≤ a * b ∧ a * b ≤ 4611686014132420609 := by
  have h : (a * b).natAbs ≤ 2147483647 * 2147483647 := by
    rw [Int.natAbs_mul]; exact Nat.mul_le_mul (by omega) (by omega)
  omega
theorem bl_small {n : Nat} (h : n < 18446744073709551616) : bl n ≤ 64 := bl_le (Nat.lt_of_lt_of_le h (by decide))

set_option maxRecDepth 100000 in
set_option maxHeartbeats 2000000 in
theorem frAdd_small (b1 b2 : Bool) (v1 v2 v3 v4 : Value) (p q : Rat) (w : World) (hp : QV w b1 v1 v2 p) (hq : QV w b2 v3 v4 q) (sp : Short p) (sq : Short q) :
    Calls Tryz.prog 21 #[.agg #[.bool b1, v1, v2], .agg #[.bool b2, v3, v4]] w fun e w' => ∃ b vn vr, e = .returned (.agg #[.bool b, vn, vr]) ∧ QV w' b vn vr (p + q) ∧ Below w.heap.size w w' := by
  obtain ⟨⟨h1, hb1⟩, h2⟩ := hp
  obtain ⟨⟨h3, hb2⟩, h4⟩ := hq
  obtain ⟨A1, k1, c1, rfl⟩ := h1.slice
  obtain ⟨A2, k2, c2, rfl⟩ := h2.slice
  obtain ⟨A3, k3, c3, rfl⟩ := h3.slice
  obtain ⟨A4, k4, c4, rfl⟩ := h4.slice
  obtain ⟨sp1, sp2, sp3⟩ := sp
  obtain ⟨sq1, sq2, sq3⟩ := sq
  have hpd := p.den_nz
  have hqd := q.den_nz
  have hdp : dn p.den < 2147483648 := by unfold dn; split <;> omega
  have hdq : dn q.den < 2147483648 := by unfold dn; split <;> omega
  have blp := bl_small (n := dn p.den) (by omega)
  have blq := bl_small (n := dn q.den) (by omega)
  have p0_0 := Lib.hid ((((Blk.mk w (w.heap.size) rfl [.bool b1, .slice A1 k1 c1, .slice A2 k2 c2] 40).alloc (.cells #[.bool b2, .slice A3 k3 c3, .slice A4 k4 c4] 40)).alloc (.cells #[.bool false, .slice none 0 0, .slice none 0 0] 40)).drew)
  have p1_0 := Lib.hid (((Blk.mk (w.alloc (.cells #[.bool b1, .slice A1 k1 c1, .slice A2 k2 c2] 40)) (w.heap.size + 1) (by simp) [.bool b2, .slice A3 k3 c3, .slice A4 k4 c4] 40).alloc (.cells #[.bool false, .slice none 0 0, .slice none 0 0] 40)).drew)
  have p2_0 := Lib.hid ((Blk.mk ((w.alloc (.cells #[.bool b1, .slice A1 k1 c1, .slice A2 k2 c2] 40)).alloc (.cells #[.bool b2, .slice A3 k3 c3, .slice A4 k4 c4] 40)) (w.heap.size + 2) (by simp) [.bool false, .slice none 0 0, .slice none 0 0] 40).drew)
  have bel_0 := Lib.hid (show Below w.heap.size w (((w.alloc (.cells #[.bool b1, .slice A1 k1 c1, .slice A2 k2 c2] 40)).alloc (.cells #[.bool b2, .slice A3 k3 c3, .slice A4 k4 c4] 40)).alloc (.cells #[.bool false, .slice none 0 0, .slice none 0 0] 40)).drew by (repeat (first | assumption | exact Below.refl _ _ | refine Below.drew ?_ | refine Below.setCell ?_ (by simp <;> omega) _ | refine Below.alloc ?_ (by simp <;> omega) _)))
  have ne2 : ¬ w.heap.size + 1 + 1 = w.heap.size := by omega
  have en2 : ¬ w.heap.size = w.heap.size + 1 + 1 := by omega
  have h1_0 := Lib.hid (h1.below bel_0.out (Nat.le_refl _))
  have h2_0 := Lib.hid (h2.below bel_0.out (Nat.le_refl _))
  have h3_0 := Lib.hid (h3.below bel_0.out (Nat.le_refl _))
  have h4_0 := Lib.hid (h4.below bel_0.out (Nat.le_refl _))
  have hF1 := fun (wd : World) (ha : NatV wd (.slice A2 k2 c2) (dn p.den)) => bits_any _ _ wd ha (by omega)
  have hF2 := fun (wd : World) (ha : NatV wd (.slice A4 k4 c4) (dn q.den)) => bits_any _ _ wd ha (by omega)
  by_cases hc : p.den = 1 ∧ q.den = 1
  · obtain ⟨hc1, hc2⟩ := hc
    have hz1 : ((bl (dn p.den) : Nat) : Int) = 0 := by rw [hc1]; decide
    have hz2 : ((bl (dn q.den) : Nat) : Int) = 0 := by rw [hc2]; decide
    rw [hz1] at hF1
    rw [hz2] at hF2
    replace hF1 := Lib.hid hF1
    replace hF2 := Lib.hid hF2
    have hA := fun (wd : World) (ha : NatV wd (.slice A1 k1 c1) p.num.natAbs) (hc : NatV wd (.slice A3 k3 c3) q.num.natAbs) => whAdd_any b1 b2 _ _ p.num q.num wd ⟨ha, hb1⟩ ⟨hc, hb2⟩ (by have := bl_small (n := p.num.natAbs) (by omega); omega) (by have := bl_small (n := q.num.natAbs) (by omega); omega)
    obtain ⟨s, hs'⟩ : ∃ s, decide (p.num + q.num < 0) = s := ⟨_, rfl⟩
    rw [hs'] at hA
    replace hA := Lib.hid hA
    have HI := Lib.hid (add_int hc1 hc2)
    have HB := Lib.hid hs'
    clear hc1 hc2 hz1 hz2 hs' hb1 hb2 sp1 sp2 sp3 sq1 sq2 sq3 hpd hqd hdp hdq blp blq
    go_enter Tryz.func21, Tryz.ntmps21
    go_upto_region 1 with fail
    go_region_held3 (fun w' => w'.cell? ⟨w.heap.size, 2, none⟩ = some (.slice A2 k2 c2) ∧ w'.cell? ⟨w.heap.size + 1, 2, none⟩ = some (.slice A4 k4 c4)) (go_keep)
      (first
        | ((go_at_call 48; refine (hF2.out _ h4_1.out).mono ?_; rintro e w_2 ⟨rfl, hb_2⟩; have c0_2_2 : w_2.cell? ⟨w.heap.size, 2, none⟩ = some (.slice A2 k2 c2) := (p0_1.out.below hb_2 p0_1.out.lt).cell 2; have c1_2_2 : w_2.cell? ⟨w.heap.size + 1, 2, none⟩ = some (.slice A4 k4 c4) := (p1_1.out.below hb_2 p1_1.out.lt).cell 2; have p0_2 := Lib.hid (p0_1.out.below hb_2 p0_1.out.lt); have p1_2 := Lib.hid (p1_1.out.below hb_2 p1_1.out.lt); have p2_2 := Lib.hid (p2_1.out.below hb_2 p2_1.out.lt); have h1_2 := Lib.hid (h1_1.out.below hb_2 (Nat.le_refl _)); have h2_2 := Lib.hid (h2_1.out.below hb_2 (Nat.le_refl _)); have h3_2 := Lib.hid (h3_1.out.below hb_2 (Nat.le_refl _)); have h4_2 := Lib.hid (h4_1.out.below hb_2 (Nat.le_refl _)); have bel_2 := Lib.hid (bel_1.out.trans (hb_2.mono bel_1.out.size)); have o0_0 : w_2.cell? ⟨w.heap.size, 0, none⟩ = some (.bool b1) := p0_2.out.cell 0; have z0_0 := p0_2.out.frozen 0; have o0_1 : w_2.cell? ⟨w.heap.size, 1, none⟩ = some (.slice A1 k1 c1) := p0_2.out.cell 1; have z0_1 := p0_2.out.frozen 1; have z0_2 := p0_2.out.frozen 2; have o1_0 : w_2.cell? ⟨w.heap.size + 1, 0, none⟩ = some (.bool b2) := p1_2.out.cell 0; have z1_0 := p1_2.out.frozen 0; have o1_1 : w_2.cell? ⟨w.heap.size + 1, 1, none⟩ = some (.slice A3 k3 c3) := p1_2.out.cell 1; have z1_1 := p1_2.out.frozen 1; have z1_2 := p1_2.out.frozen 2; have o2_0 : w_2.cell? ⟨w.heap.size + 2, 0, none⟩ = some (.bool false) := p2_2.out.cell 0; have z2_0 := p2_2.out.frozen 0; have o2_1 : w_2.cell? ⟨w.heap.size + 2, 1, none⟩ = some (.slice none 0 0) := p2_2.out.cell 1; have z2_1 := p2_2.out.frozen 1; have o2_2 : w_2.cell? ⟨w.heap.size + 2, 2, none⟩ = some (.slice none 0 0) := p2_2.out.cell 2; have z2_2 := p2_2.out.frozen 2; clear hb_2 ))
        | ((go_at_call 48; refine (hF1.out _ h2_0.out).mono ?_; rintro e w_1 ⟨rfl, hb_1⟩; have c0_2_1 : w_1.cell? ⟨w.heap.size, 2, none⟩ = some (.slice A2 k2 c2) := (p0_0.out.below hb_1 p0_0.out.lt).cell 2; have c1_2_1 : w_1.cell? ⟨w.heap.size + 1, 2, none⟩ = some (.slice A4 k4 c4) := (p1_0.out.below hb_1 p1_0.out.lt).cell 2; have p0_1 := Lib.hid (p0_0.out.below hb_1 p0_0.out.lt); have p1_1 := Lib.hid (p1_0.out.below hb_1 p1_0.out.lt); have p2_1 := Lib.hid (p2_0.out.below hb_1 p2_0.out.lt); have h1_1 := Lib.hid (h1_0.out.below hb_1 (Nat.le_refl _)); have h2_1 := Lib.hid (h2_0.out.below hb_1 (Nat.le_refl _)); have h3_1 := Lib.hid (h3_0.out.below hb_1 (Nat.le_refl _)); have h4_1 := Lib.hid (h4_0.out.below hb_1 (Nat.le_refl _)); have bel_1 := Lib.hid (bel_0.out.trans (hb_1.mono bel_0.out.size)); clear hb_1 )))
    all_goals go_wp2_with fail
    refine (hA.out _ h1_2.out h3_2.out).mono ?_
    rintro e w_3 ⟨v, rfl, hv, hb_3⟩
    have hv1 := hv.1
    have HVS := Lib.hid hv.2
    clear hv
    obtain ⟨A5, k5, c5, rfl⟩ := hv1.slice
    have c0_2_3 : w_3.cell? ⟨w.heap.size, 2, none⟩ = some (.slice A2 k2 c2) := (p0_2.out.below hb_3 p0_2.out.lt).cell 2
    have c1_2_3 : w_3.cell? ⟨w.heap.size + 1, 2, none⟩ = some (.slice A4 k4 c4) := (p1_2.out.below hb_3 p1_2.out.lt).cell 2
    have p0_3 := Lib.hid (p0_2.out.below hb_3 p0_2.out.lt)
    have p1_3 := Lib.hid (p1_2.out.below hb_3 p1_2.out.lt)
    have p2_3 := Lib.hid (p2_2.out.below hb_3 p2_2.out.lt)
    have h1_3 := Lib.hid (h1_2.out.below hb_3 (Nat.le_refl _))
    have h2_3 := Lib.hid (h2_2.out.below hb_3 (Nat.le_refl _))
    have h3_3 := Lib.hid (h3_2.out.below hb_3 (Nat.le_refl _))
    have h4_3 := Lib.hid (h4_2.out.below hb_3 (Nat.le_refl _))
    have hv1_3 := Lib.hid hv1
    have bel_3 := Lib.hid (bel_2.out.trans (hb_3.mono bel_2.out.size))
    have o2_0 : w_3.cell? ⟨w.heap.size + 2, 0, none⟩ = some (.bool false) := p2_3.out.cell 0
    have z2_0 := p2_3.out.frozen 0
    have o2_1 : w_3.cell? ⟨w.heap.size + 2, 1, none⟩ = some (.slice none 0 0) := p2_3.out.cell 1
    have z2_1 := p2_3.out.frozen 1
    have o2_2 : w_3.cell? ⟨w.heap.size + 2, 2, none⟩ = some (.slice none 0 0) := p2_3.out.cell 2
    have z2_2 := p2_3.out.frozen 2
    clear hb_3 hv1
    go_wp2_with fail
    refine bodyPost_ret (v := .agg #[.bool s, .slice A5 k5 c5, .slice none 0 0]) (by simp [results, Tryz.results21, go_sem, o2_0, o2_1, o2_2]) rfl ?_
    refine ⟨_, _, _, rfl, ⟨⟨?_, by rw [HI.out.1]; exact HB.out.symm⟩, ?_⟩, ((bel_3.out.setCell (by simp <;> omega) _).setCell (by simp <;> omega) _).setCell (by simp <;> omega) _⟩
    · rw [HI.out.1]; exact hv1_3.out.box3 p2_3.out (by simp) (by simp)
    · rw [HI.out.2]; exact NatV.nil _
  · have hsum : IntKind.i64.wrap ((bl (dn p.den) : Int) + (bl (dn q.den) : Int)) = (bl (dn p.den) : Int) + (bl (dn q.den) : Int) := by rw [IntKind.wrap_i64]; omega
    have hne : ((bl (dn p.den) : Int) + (bl (dn q.den) : Int) == 0) = false := by
      by_cases h1' : p.den = 1
      · have h2' : q.den ≠ 1 := fun h => hc ⟨h1', h⟩
        have := bl_pos (n := dn q.den) (by unfold dn; rw [if_neg h2']; exact hqd)
        simp; omega
      · have := bl_pos (n := dn p.den) (by unfold dn; rw [if_neg h1']; exact hpd)
        simp; omega
    obtain ⟨B1, hB1⟩ : ∃ B1 : Int, ((bl (dn p.den) : Nat) : Int) = B1 := ⟨_, rfl⟩
    obtain ⟨B2, hB2⟩ : ∃ B2 : Int, ((bl (dn q.den) : Nat) : Int) = B2 := ⟨_, rfl⟩
    rw [hB1] at hsum hne hF1
    rw [hB2] at hsum hne hF2
    replace hF1 := Lib.hid hF1
    replace hF2 := Lib.hid hF2
    have hS1 := Lib.hid (fun (wd : World) (ha : NatV wd (.slice A1 k1 c1) p.num.natAbs) (hd : NatV wd (.slice A2 k2 c2) (dn p.den)) => short_small b1 _ _ p.num p.den wd ⟨ha, hb1⟩ hd sp1 sp2 hpd sp3)
    have hS2 := Lib.hid (fun (wd : World) (ha : NatV wd (.slice A3 k3 c3) q.num.natAbs) (hd : NatV wd (.slice A4 k4 c4) (dn q.den)) => short_small b2 _ _ q.num q.den wd ⟨ha, hb2⟩ hd sq1 sq2 hqd sq3)
    have e1 := prod_lt (a := p.num) (b := (q.den : Int)) (by omega) (by omega) (by omega) (by omega)
    have e2 := prod_lt (a := q.num) (b := (p.den : Int)) (by omega) (by omega) (by omega) (by omega)
    have e3 := prod_lt (a := (p.den : Int)) (b := (q.den : Int)) (by omega) (by omega) (by omega) (by omega)
    have m1 : IntKind.i64.wrap (p.num * (q.den : Int)) = p.num * (q.den : Int) := by rw [IntKind.wrap_i64]; omega
    have m2 : IntKind.i64.wrap (q.num * (p.den : Int)) = q.num * (p.den : Int) := by rw [IntKind.wrap_i64]; omega
    have m3 : IntKind.i64.wrap ((p.den : Int) * (q.den : Int)) = (p.den : Int) * (q.den : Int) := by rw [IntKind.wrap_i64]; omega
    have m4 : IntKind.i64.wrap (p.num * (q.den : Int) + q.num * (p.den : Int)) = p.num * (q.den : Int) + q.num * (p.den : Int) := by rw [IntKind.wrap_i64]; omega
    have hQ := fun wd => quick_any (p.num * (q.den : Int) + q.num * (p.den : Int)) (p.den * q.den) wd (by omega) (Nat.mul_ne_zero hpd hqd) (by have := e3.2; rw [← Int.natCast_mul] at this; omega)
    rw [add_mk, Int.natCast_mul] at hQ
    replace hQ := Lib.hid hQ
    have HH := Lib.hid (And.intro hB1 (And.intro hB2 (And.intro hb1 hb2)))
    clear hB1 hB2 hb1 hb2 hc
    go_enter Tryz.func21, Tryz.ntmps21
    go_upto_region 1 with fail
    go_region_held3 (fun w' => w'.cell? ⟨w.heap.size, 2, none⟩ = some (.slice A2 k2 c2) ∧ w'.cell? ⟨w.heap.size + 1, 2, none⟩ = some (.slice A4 k4 c4)) (go_keep)
      (first
        | ((go_at_call 48; refine (hF2.out _ h4_1.out).mono ?_; rintro e w_2 ⟨rfl, hb_2⟩; have c0_2_2 : w_2.cell? ⟨w.heap.size, 2, none⟩ = some (.slice A2 k2 c2) := (p0_1.out.below hb_2 p0_1.out.lt).cell 2; have c1_2_2 : w_2.cell? ⟨w.heap.size + 1, 2, none⟩ = some (.slice A4 k4 c4) := (p1_1.out.below hb_2 p1_1.out.lt).cell 2; have p0_2 := Lib.hid (p0_1.out.below hb_2 p0_1.out.lt); have p1_2 := Lib.hid (p1_1.out.below hb_2 p1_1.out.lt); have p2_2 := Lib.hid (p2_1.out.below hb_2 p2_1.out.lt); have h1_2 := Lib.hid (h1_1.out.below hb_2 (Nat.le_refl _)); have h2_2 := Lib.hid (h2_1.out.below hb_2 (Nat.le_refl _)); have h3_2 := Lib.hid (h3_1.out.below hb_2 (Nat.le_refl _)); have h4_2 := Lib.hid (h4_1.out.below hb_2 (Nat.le_refl _)); have bel_2 := Lib.hid (bel_1.out.trans (hb_2.mono bel_1.out.size)); have o0_0 : w_2.cell? ⟨w.heap.size, 0, none⟩ = some (.bool b1) := p0_2.out.cell 0; have z0_0 := p0_2.out.frozen 0; have o0_1 : w_2.cell? ⟨w.heap.size, 1, none⟩ = some (.slice A1 k1 c1) := p0_2.out.cell 1; have z0_1 := p0_2.out.frozen 1; have z0_2 := p0_2.out.frozen 2; have o1_0 : w_2.cell? ⟨w.heap.size + 1, 0, none⟩ = some (.bool b2) := p1_2.out.cell 0; have z1_0 := p1_2.out.frozen 0; have o1_1 : w_2.cell? ⟨w.heap.size + 1, 1, none⟩ = some (.slice A3 k3 c3) := p1_2.out.cell 1; have z1_1 := p1_2.out.frozen 1; have z1_2 := p1_2.out.frozen 2; have o2_0 : w_2.cell? ⟨w.heap.size + 2, 0, none⟩ = some (.bool false) := p2_2.out.cell 0; have z2_0 := p2_2.out.frozen 0; have o2_1 : w_2.cell? ⟨w.heap.size + 2, 1, none⟩ = some (.slice none 0 0) := p2_2.out.cell 1; have z2_1 := p2_2.out.frozen 1; have o2_2 : w_2.cell? ⟨w.heap.size + 2, 2, none⟩ = some (.slice none 0 0) := p2_2.out.cell 2; have z2_2 := p2_2.out.frozen 2; clear hb_2 ))
        | ((go_at_call 48; refine (hF1.out _ h2_0.out).mono ?_; rintro e w_1 ⟨rfl, hb_1⟩; have c0_2_1 : w_1.cell? ⟨w.heap.size, 2, none⟩ = some (.slice A2 k2 c2) := (p0_0.out.below hb_1 p0_0.out.lt).cell 2; have c1_2_1 : w_1.cell? ⟨w.heap.size + 1, 2, none⟩ = some (.slice A4 k4 c4) := (p1_0.out.below hb_1 p1_0.out.lt).cell 2; have p0_1 := Lib.hid (p0_0.out.below hb_1 p0_0.out.lt); have p1_1 := Lib.hid (p1_0.out.below hb_1 p1_0.out.lt); have p2_1 := Lib.hid (p2_0.out.below hb_1 p2_0.out.lt); have h1_1 := Lib.hid (h1_0.out.below hb_1 (Nat.le_refl _)); have h2_1 := Lib.hid (h2_0.out.below hb_1 (Nat.le_refl _)); have h3_1 := Lib.hid (h3_0.out.below hb_1 (Nat.le_refl _)); have h4_1 := Lib.hid (h4_0.out.below hb_1 (Nat.le_refl _)); have bel_1 := Lib.hid (bel_0.out.trans (hb_1.mono bel_0.out.size)); clear hb_1 )))
    all_goals go_wp2_with fail
    refine (hS1.out _ h1_2.out h2_2.out).mono ?_
    rintro e w_3 ⟨rfl, hb_3⟩
    have c0_2_3 : w_3.cell? ⟨w.heap.size, 2, none⟩ = some (.slice A2 k2 c2) := (p0_2.out.below hb_3 p0_2.out.lt).cell 2
    have c1_2_3 : w_3.cell? ⟨w.heap.size + 1, 2, none⟩ = some (.slice A4 k4 c4) := (p1_2.out.below hb_3 p1_2.out.lt).cell 2
    have p0_3 := Lib.hid (p0_2.out.below hb_3 p0_2.out.lt)
    have p1_3 := Lib.hid (p1_2.out.below hb_3 p1_2.out.lt)
    have p2_3 := Lib.hid (p2_2.out.below hb_3 p2_2.out.lt)
    have h1_3 := Lib.hid (h1_2.out.below hb_3 (Nat.le_refl _))
    have h2_3 := Lib.hid (h2_2.out.below hb_3 (Nat.le_refl _))
    have h3_3 := Lib.hid (h3_2.out.below hb_3 (Nat.le_refl _))
    have h4_3 := Lib.hid (h4_2.out.below hb_3 (Nat.le_refl _))
    have bel_3 := Lib.hid (bel_2.out.trans (hb_3.mono bel_2.out.size))
    have o1_0 : w_3.cell? ⟨w.heap.size + 1, 0, none⟩ = some (.bool b2) := p1_3.out.cell 0
    have z1_0 := p1_3.out.frozen 0
    have o1_1 : w_3.cell? ⟨w.heap.size + 1, 1, none⟩ = some (.slice A3 k3 c3) := p1_3.out.cell 1
    have z1_1 := p1_3.out.frozen 1
    have z1_2 := p1_3.out.frozen 2
    clear hb_3 
    go_wp2_with fail
    refine (hS2.out _ h3_3.out h4_3.out).mono ?_
    rintro e w_4 ⟨rfl, hb_4⟩
    have c0_2_4 : w_4.cell? ⟨w.heap.size, 2, none⟩ = some (.slice A2 k2 c2) := (p0_3.out.below hb_4 p0_3.out.lt).cell 2
    have c1_2_4 : w_4.cell? ⟨w.heap.size + 1, 2, none⟩ = some (.slice A4 k4 c4) := (p1_3.out.below hb_4 p1_3.out.lt).cell 2
    have p0_4 := Lib.hid (p0_3.out.below hb_4 p0_3.out.lt)
    have p1_4 := Lib.hid (p1_3.out.below hb_4 p1_3.out.lt)
    have p2_4 := Lib.hid (p2_3.out.below hb_4 p2_3.out.lt)
    have h1_4 := Lib.hid (h1_3.out.below hb_4 (Nat.le_refl _))
    have h2_4 := Lib.hid (h2_3.out.below hb_4 (Nat.le_refl _))
    have h3_4 := Lib.hid (h3_3.out.below hb_4 (Nat.le_refl _))
    have h4_4 := Lib.hid (h4_3.out.below hb_4 (Nat.le_refl _))
    have bel_4 := Lib.hid (bel_3.out.trans (hb_4.mono bel_3.out.size))
    have o2_0 : w_4.cell? ⟨w.heap.size + 2, 0, none⟩ = some (.bool false) := p2_4.out.cell 0
    have z2_0 := p2_4.out.frozen 0
    have o2_1 : w_4.cell? ⟨w.heap.size + 2, 1, none⟩ = some (.slice none 0 0) := p2_4.out.cell 1
    have z2_1 := p2_4.out.frozen 1
    have o2_2 : w_4.cell? ⟨w.heap.size + 2, 2, none⟩ = some (.slice none 0 0) := p2_4.out.cell 2
    have z2_2 := p2_4.out.frozen 2
    clear hb_4 
    go_wp2_with fail
    refine (hQ.out _).mono ?_
    rintro e w_5 ⟨b, v5, v6, rfl, hv, hb_5⟩
    have hv1 := hv.1.1
    have HVS := Lib.hid hv.1.2
    have hv2 := hv.2
    clear hv
    obtain ⟨A5, k5, c5, rfl⟩ := hv1.slice
    obtain ⟨A6, k6, c6, rfl⟩ := hv2.slice
    have c0_2_5 : w_5.cell? ⟨w.heap.size, 2, none⟩ = some (.slice A2 k2 c2) := (p0_4.out.below hb_5 p0_4.out.lt).cell 2
    have c1_2_5 : w_5.cell? ⟨w.heap.size + 1, 2, none⟩ = some (.slice A4 k4 c4) := (p1_4.out.below hb_5 p1_4.out.lt).cell 2
    have p0_5 := Lib.hid (p0_4.out.below hb_5 p0_4.out.lt)
    have p1_5 := Lib.hid (p1_4.out.below hb_5 p1_4.out.lt)
    have p2_5 := Lib.hid (p2_4.out.below hb_5 p2_4.out.lt)
    have h1_5 := Lib.hid (h1_4.out.below hb_5 (Nat.le_refl _))
    have h2_5 := Lib.hid (h2_4.out.below hb_5 (Nat.le_refl _))
    have h3_5 := Lib.hid (h3_4.out.below hb_5 (Nat.le_refl _))
    have h4_5 := Lib.hid (h4_4.out.below hb_5 (Nat.le_refl _))
    have hv1_5 := Lib.hid hv1
    have hv2_5 := Lib.hid hv2
    have bel_5 := Lib.hid (bel_4.out.trans (hb_5.mono bel_4.out.size))
    have o2_0 : w_5.cell? ⟨w.heap.size + 2, 0, none⟩ = some (.bool false) := p2_5.out.cell 0
    have z2_0 := p2_5.out.frozen 0
    have o2_1 : w_5.cell? ⟨w.heap.size + 2, 1, none⟩ = some (.slice none 0 0) := p2_5.out.cell 1
    have z2_1 := p2_5.out.frozen 1
    have o2_2 : w_5.cell? ⟨w.heap.size + 2, 2, none⟩ = some (.slice none 0 0) := p2_5.out.cell 2
    have z2_2 := p2_5.out.frozen 2
    clear hb_5 hv1 hv2
    go_wp2_with fail
    refine bodyPost_ret (v := .agg #[.bool b, .slice A5 k5 c5, .slice A6 k6 c6]) (by simp [results, Tryz.results21, go_sem, o2_0, o2_1, o2_2]) rfl ?_
    exact ⟨_, _, _, rfl, ⟨⟨hv1_5.out.box3 p2_5.out (by simp) (by simp), HVS.out⟩, hv2_5.out.box3 p2_5.out (by simp) (by simp)⟩, ((bel_5.out.setCell (by simp <;> omega) _).setCell (by simp <;> omega) _).setCell (by simp <;> omega) _⟩

set_option maxRecDepth 100000 in
set_option maxHeartbeats 2000000 in
theorem frMul_small (b1 b2 : Bool) (v1 v2 v3 v4 : Value) (p q : Rat) (w : World) (hp : QV w b1 v1 v2 p) (hq : QV w b2 v3 v4 q) (sp : Short p) (sq : Short q) :
    Calls Tryz.prog 65 #[.agg #[.bool b1, v1, v2], .agg #[.bool b2, v3, v4]] w fun e w' => ∃ b vn vr, e = .returned (.agg #[.bool b, vn, vr]) ∧ QV w' b vn vr (p * q) ∧ Below w.heap.size w w' := by
  obtain ⟨⟨h1, hb1⟩, h2⟩ := hp
  obtain ⟨⟨h3, hb2⟩, h4⟩ := hq
  obtain ⟨A1, k1, c1, rfl⟩ := h1.slice
  obtain ⟨A2, k2, c2, rfl⟩ := h2.slice
  obtain ⟨A3, k3, c3, rfl⟩ := h3.slice
  obtain ⟨A4, k4, c4, rfl⟩ := h4.slice
  obtain ⟨sp1, sp2, sp3⟩ := sp
  obtain ⟨sq1, sq2, sq3⟩ := sq
  have hpd := p.den_nz
  have hqd := q.den_nz
  have hdp : dn p.den < 2147483648 := by unfold dn; split <;> omega
  have hdq : dn q.den < 2147483648 := by unfold dn; split <;> omega
  have blp := bl_small (n := dn p.den) (by omega)
  have blq := bl_small (n := dn q.den) (by omega)
  have p0_0 := Lib.hid ((((Blk.mk w (w.heap.size) rfl [.bool b1, .slice A1 k1 c1, .slice A2 k2 c2] 40).alloc (.cells #[.bool b2, .slice A3 k3 c3, .slice A4 k4 c4] 40)).alloc (.cells #[.bool false, .slice none 0 0, .slice none 0 0] 40)).drew)
  have p1_0 := Lib.hid (((Blk.mk (w.alloc (.cells #[.bool b1, .slice A1 k1 c1, .slice A2 k2 c2] 40)) (w.heap.size + 1) (by simp) [.bool b2, .slice A3 k3 c3, .slice A4 k4 c4] 40).alloc (.cells #[.bool false, .slice none 0 0, .slice none 0 0] 40)).drew)
  have p2_0 := Lib.hid ((Blk.mk ((w.alloc (.cells #[.bool b1, .slice A1 k1 c1, .slice A2 k2 c2] 40)).alloc (.cells #[.bool b2, .slice A3 k3 c3, .slice A4 k4 c4] 40)) (w.heap.size + 2) (by simp) [.bool false, .slice none 0 0, .slice none 0 0] 40).drew)
  have bel_0 := Lib.hid (show Below w.heap.size w (((w.alloc (.cells #[.bool b1, .slice A1 k1 c1, .slice A2 k2 c2] 40)).alloc (.cells #[.bool b2, .slice A3 k3 c3, .slice A4 k4 c4] 40)).alloc (.cells #[.bool false, .slice none 0 0, .slice none 0 0] 40)).drew by (repeat (first | assumption | exact Below.refl _ _ | refine Below.drew ?_ | refine Below.setCell ?_ (by simp <;> omega) _ | refine Below.alloc ?_ (by simp <;> omega) _)))
  have ne2 : ¬ w.heap.size + 1 + 1 = w.heap.size := by omega
  have en2 : ¬ w.heap.size = w.heap.size + 1 + 1 := by omega
  have h1_0 := Lib.hid (h1.below bel_0.out (Nat.le_refl _))
  have h2_0 := Lib.hid (h2.below bel_0.out (Nat.le_refl _))
  have h3_0 := Lib.hid (h3.below bel_0.out (Nat.le_refl _))
  have h4_0 := Lib.hid (h4.below bel_0.out (Nat.le_refl _))
  have hF1 := fun (wd : World) (ha : NatV wd (.slice A2 k2 c2) (dn p.den)) => bits_any _ _ wd ha (by omega)
  have hF2 := fun (wd : World) (ha : NatV wd (.slice A4 k4 c4) (dn q.den)) => bits_any _ _ wd ha (by omega)
  by_cases hc : p.den = 1 ∧ q.den = 1
  · obtain ⟨hc1, hc2⟩ := hc
    have hz1 : ((bl (dn p.den) : Nat) : Int) = 0 := by rw [hc1]; decide
    have hz2 : ((bl (dn q.den) : Nat) : Int) = 0 := by rw [hc2]; decide
    rw [hz1] at hF1
    rw [hz2] at hF2
    replace hF1 := Lib.hid hF1
    replace hF2 := Lib.hid hF2
    have hA := fun (wd : World) (ha : NatV wd (.slice A1 k1 c1) p.num.natAbs) (hc : NatV wd (.slice A3 k3 c3) q.num.natAbs) => whMul_any b1 b2 _ _ p.num q.num wd ⟨ha, hb1⟩ ⟨hc, hb2⟩ (by have := bl_small (n := p.num.natAbs) (by omega); omega) (by have := bl_small (n := q.num.natAbs) (by omega); omega)
    obtain ⟨s, hs'⟩ : ∃ s, decide (p.num * q.num < 0) = s := ⟨_, rfl⟩
    rw [hs'] at hA
    replace hA := Lib.hid hA
    have HI := Lib.hid (mul_int hc1 hc2)
    have HB := Lib.hid hs'
    clear hc1 hc2 hz1 hz2 hs' hb1 hb2 sp1 sp2 sp3 sq1 sq2 sq3 hpd hqd hdp hdq blp blq
    go_enter Tryz.func65, Tryz.ntmps65
    go_upto_region 1 with fail
    go_region_held3 (fun w' => w'.cell? ⟨w.heap.size, 2, none⟩ = some (.slice A2 k2 c2) ∧ w'.cell? ⟨w.heap.size + 1, 2, none⟩ = some (.slice A4 k4 c4)) (go_keep)
      (first
        | ((go_at_call 48; refine (hF2.out _ h4_1.out).mono ?_; rintro e w_2 ⟨rfl, hb_2⟩; have c0_2_2 : w_2.cell? ⟨w.heap.size, 2, none⟩ = some (.slice A2 k2 c2) := (p0_1.out.below hb_2 p0_1.out.lt).cell 2; have c1_2_2 : w_2.cell? ⟨w.heap.size + 1, 2, none⟩ = some (.slice A4 k4 c4) := (p1_1.out.below hb_2 p1_1.out.lt).cell 2; have p0_2 := Lib.hid (p0_1.out.below hb_2 p0_1.out.lt); have p1_2 := Lib.hid (p1_1.out.below hb_2 p1_1.out.lt); have p2_2 := Lib.hid (p2_1.out.below hb_2 p2_1.out.lt); have h1_2 := Lib.hid (h1_1.out.below hb_2 (Nat.le_refl _)); have h2_2 := Lib.hid (h2_1.out.below hb_2 (Nat.le_refl _)); have h3_2 := Lib.hid (h3_1.out.below hb_2 (Nat.le_refl _)); have h4_2 := Lib.hid (h4_1.out.below hb_2 (Nat.le_refl _)); have bel_2 := Lib.hid (bel_1.out.trans (hb_2.mono bel_1.out.size)); have o0_0 : w_2.cell? ⟨w.heap.size, 0, none⟩ = some (.bool b1) := p0_2.out.cell 0; have z0_0 := p0_2.out.frozen 0; have o0_1 : w_2.cell? ⟨w.heap.size, 1, none⟩ = some (.slice A1 k1 c1) := p0_2.out.cell 1; have z0_1 := p0_2.out.frozen 1; have z0_2 := p0_2.out.frozen 2; have o1_0 : w_2.cell? ⟨w.heap.size + 1, 0, none⟩ = some (.bool b2) := p1_2.out.cell 0; have z1_0 := p1_2.out.frozen 0; have o1_1 : w_2.cell? ⟨w.heap.size + 1, 1, none⟩ = some (.slice A3 k3 c3) := p1_2.out.cell 1; have z1_1 := p1_2.out.frozen 1; have z1_2 := p1_2.out.frozen 2; have o2_0 : w_2.cell? ⟨w.heap.size + 2, 0, none⟩ = some (.bool false) := p2_2.out.cell 0; have z2_0 := p2_2.out.frozen 0; have o2_1 : w_2.cell? ⟨w.heap.size + 2, 1, none⟩ = some (.slice none 0 0) := p2_2.out.cell 1; have z2_1 := p2_2.out.frozen 1; have o2_2 : w_2.cell? ⟨w.heap.size + 2, 2, none⟩ = some (.slice none 0 0) := p2_2.out.cell 2; have z2_2 := p2_2.out.frozen 2; clear hb_2 ))
        | ((go_at_call 48; refine (hF1.out _ h2_0.out).mono ?_; rintro e w_1 ⟨rfl, hb_1⟩; have c0_2_1 : w_1.cell? ⟨w.heap.size, 2, none⟩ = some (.slice A2 k2 c2) := (p0_0.out.below hb_1 p0_0.out.lt).cell 2; have c1_2_1 : w_1.cell? ⟨w.heap.size + 1, 2, none⟩ = some (.slice A4 k4 c4) := (p1_0.out.below hb_1 p1_0.out.lt).cell 2; have p0_1 := Lib.hid (p0_0.out.below hb_1 p0_0.out.lt); have p1_1 := Lib.hid (p1_0.out.below hb_1 p1_0.out.lt); have p2_1 := Lib.hid (p2_0.out.below hb_1 p2_0.out.lt); have h1_1 := Lib.hid (h1_0.out.below hb_1 (Nat.le_refl _)); have h2_1 := Lib.hid (h2_0.out.below hb_1 (Nat.le_refl _)); have h3_1 := Lib.hid (h3_0.out.below hb_1 (Nat.le_refl _)); have h4_1 := Lib.hid (h4_0.out.below hb_1 (Nat.le_refl _)); have bel_1 := Lib.hid (bel_0.out.trans (hb_1.mono bel_0.out.size)); clear hb_1 )))
    all_goals go_wp2_with fail
    refine (hA.out _ h1_2.out h3_2.out).mono ?_
    rintro e w_3 ⟨v, rfl, hv, hb_3⟩
    have hv1 := hv.1
    have HVS := Lib.hid hv.2
    clear hv
    obtain ⟨A5, k5, c5, rfl⟩ := hv1.slice
    have c0_2_3 : w_3.cell? ⟨w.heap.size, 2, none⟩ = some (.slice A2 k2 c2) := (p0_2.out.below hb_3 p0_2.out.lt).cell 2
    have c1_2_3 : w_3.cell? ⟨w.heap.size + 1, 2, none⟩ = some (.slice A4 k4 c4) := (p1_2.out.below hb_3 p1_2.out.lt).cell 2
    have p0_3 := Lib.hid (p0_2.out.below hb_3 p0_2.out.lt)
    have p1_3 := Lib.hid (p1_2.out.below hb_3 p1_2.out.lt)
    have p2_3 := Lib.hid (p2_2.out.below hb_3 p2_2.out.lt)
    have h1_3 := Lib.hid (h1_2.out.below hb_3 (Nat.le_refl _))
    have h2_3 := Lib.hid (h2_2.out.below hb_3 (Nat.le_refl _))
    have h3_3 := Lib.hid (h3_2.out.below hb_3 (Nat.le_refl _))
    have h4_3 := Lib.hid (h4_2.out.below hb_3 (Nat.le_refl _))
    have hv1_3 := Lib.hid hv1
    have bel_3 := Lib.hid (bel_2.out.trans (hb_3.mono bel_2.out.size))
    have o2_0 : w_3.cell? ⟨w.heap.size + 2, 0, none⟩ = some (.bool false) := p2_3.out.cell 0
    have z2_0 := p2_3.out.frozen 0
    have o2_1 : w_3.cell? ⟨w.heap.size + 2, 1, none⟩ = some (.slice none 0 0) := p2_3.out.cell 1
    have z2_1 := p2_3.out.frozen 1
    have o2_2 : w_3.cell? ⟨w.heap.size + 2, 2, none⟩ = some (.slice none 0 0) := p2_3.out.cell 2
    have z2_2 := p2_3.out.frozen 2
    clear hb_3 hv1
    go_wp2_with fail
    refine bodyPost_ret (v := .agg #[.bool s, .slice A5 k5 c5, .slice none 0 0]) (by simp [results, Tryz.results65, go_sem, o2_0, o2_1, o2_2]) rfl ?_
    refine ⟨_, _, _, rfl, ⟨⟨?_, by rw [HI.out.1]; exact HB.out.symm⟩, ?_⟩, ((bel_3.out.setCell (by simp <;> omega) _).setCell (by simp <;> omega) _).setCell (by simp <;> omega) _⟩
    · rw [HI.out.1]; exact hv1_3.out.box3 p2_3.out (by simp) (by simp)
    · rw [HI.out.2]; exact NatV.nil _
  · have hsum : IntKind.i64.wrap ((bl (dn p.den) : Int) + (bl (dn q.den) : Int)) = (bl (dn p.den) : Int) + (bl (dn q.den) : Int) := by rw [IntKind.wrap_i64]; omega
    have hne : ((bl (dn p.den) : Int) + (bl (dn q.den) : Int) == 0) = false := by
      by_cases h1' : p.den = 1
      · have h2' : q.den ≠ 1 := fun h => hc ⟨h1', h⟩
        have := bl_pos (n := dn q.den) (by unfold dn; rw [if_neg h2']; exact hqd)
        simp; omega
      · have := bl_pos (n := dn p.den) (by unfold dn; rw [if_neg h1']; exact hpd)
        simp; omega
    obtain ⟨B1, hB1⟩ : ∃ B1 : Int, ((bl (dn p.den) : Nat) : Int) = B1 := ⟨_, rfl⟩
    obtain ⟨B2, hB2⟩ : ∃ B2 : Int, ((bl (dn q.den) : Nat) : Int) = B2 := ⟨_, rfl⟩
    rw [hB1] at hsum hne hF1
    rw [hB2] at hsum hne hF2
    replace hF1 := Lib.hid hF1
    replace hF2 := Lib.hid hF2
    have hS1 := Lib.hid (fun (wd : World) (ha : NatV wd (.slice A1 k1 c1) p.num.natAbs) (hd : NatV wd (.slice A2 k2 c2) (dn p.den)) => short_small b1 _ _ p.num p.den wd ⟨ha, hb1⟩ hd sp1 sp2 hpd sp3)
    have hS2 := Lib.hid (fun (wd : World) (ha : NatV wd (.slice A3 k3 c3) q.num.natAbs) (hd : NatV wd (.slice A4 k4 c4) (dn q.den)) => short_small b2 _ _ q.num q.den wd ⟨ha, hb2⟩ hd sq1 sq2 hqd sq3)
    have e1 := prod_lt (a := p.num) (b := q.num) (by omega) (by omega) (by omega) (by omega)
    have e3 := prod_lt (a := (p.den : Int)) (b := (q.den : Int)) (by omega) (by omega) (by omega) (by omega)
    have m1 : IntKind.i64.wrap (p.num * q.num) = p.num * q.num := by rw [IntKind.wrap_i64]; omega
    have m3 : IntKind.i64.wrap ((p.den : Int) * (q.den : Int)) = (p.den : Int) * (q.den : Int) := by rw [IntKind.wrap_i64]; omega
    have hQ := fun wd => quick_any (p.num * q.num) (p.den * q.den) wd (by omega) (Nat.mul_ne_zero hpd hqd) (by have := e3.2; rw [← Int.natCast_mul] at this; omega)
    rw [mul_mk, Int.natCast_mul] at hQ
    replace hQ := Lib.hid hQ
    have HH := Lib.hid (And.intro hB1 (And.intro hB2 (And.intro hb1 hb2)))
    clear hB1 hB2 hb1 hb2 hc
    go_enter Tryz.func65, Tryz.ntmps65
    go_upto_region 1 with fail
    go_region_held3 (fun w' => w'.cell? ⟨w.heap.size, 2, none⟩ = some (.slice A2 k2 c2) ∧ w'.cell? ⟨w.heap.size + 1, 2, none⟩ = some (.slice A4 k4 c4)) (go_keep)
      (first
        | ((go_at_call 48; refine (hF2.out _ h4_1.out).mono ?_; rintro e w_2 ⟨rfl, hb_2⟩; have c0_2_2 : w_2.cell? ⟨w.heap.size, 2, none⟩ = some (.slice A2 k2 c2) := (p0_1.out.below hb_2 p0_1.out.lt).cell 2; have c1_2_2 : w_2.cell? ⟨w.heap.size + 1, 2, none⟩ = some (.slice A4 k4 c4) := (p1_1.out.below hb_2 p1_1.out.lt).cell 2; have p0_2 := Lib.hid (p0_1.out.below hb_2 p0_1.out.lt); have p1_2 := Lib.hid (p1_1.out.below hb_2 p1_1.out.lt); have p2_2 := Lib.hid (p2_1.out.below hb_2 p2_1.out.lt); have h1_2 := Lib.hid (h1_1.out.below hb_2 (Nat.le_refl _)); have h2_2 := Lib.hid (h2_1.out.below hb_2 (Nat.le_refl _)); have h3_2 := Lib.hid (h3_1.out.below hb_2 (Nat.le_refl _)); have h4_2 := Lib.hid (h4_1.out.below hb_2 (Nat.le_refl _)); have bel_2 := Lib.hid (bel_1.out.trans (hb_2.mono bel_1.out.size)); have o0_0 : w_2.cell? ⟨w.heap.size, 0, none⟩ = some (.bool b1) := p0_2.out.cell 0; have z0_0 := p0_2.out.frozen 0; have o0_1 : w_2.cell? ⟨w.heap.size, 1, none⟩ = some (.slice A1 k1 c1) := p0_2.out.cell 1; have z0_1 := p0_2.out.frozen 1; have z0_2 := p0_2.out.frozen 2; have o1_0 : w_2.cell? ⟨w.heap.size + 1, 0, none⟩ = some (.bool b2) := p1_2.out.cell 0; have z1_0 := p1_2.out.frozen 0; have o1_1 : w_2.cell? ⟨w.heap.size + 1, 1, none⟩ = some (.slice A3 k3 c3) := p1_2.out.cell 1; have z1_1 := p1_2.out.frozen 1; have z1_2 := p1_2.out.frozen 2; have o2_0 : w_2.cell? ⟨w.heap.size + 2, 0, none⟩ = some (.bool false) := p2_2.out.cell 0; have z2_0 := p2_2.out.frozen 0; have o2_1 : w_2.cell? ⟨w.heap.size + 2, 1, none⟩ = some (.slice none 0 0) := p2_2.out.cell 1; have z2_1 := p2_2.out.frozen 1; have o2_2 : w_2.cell? ⟨w.heap.size + 2, 2, none⟩ = some (.slice none 0 0) := p2_2.out.cell 2; have z2_2 := p2_2.out.frozen 2; clear hb_2 ))
        | ((go_at_call 48; refine (hF1.out _ h2_0.out).mono ?_; rintro e w_1 ⟨rfl, hb_1⟩; have c0_2_1 : w_1.cell? ⟨w.heap.size, 2, none⟩ = some (.slice A2 k2 c2) := (p0_0.out.below hb_1 p0_0.out.lt).cell 2; have c1_2_1 : w_1.cell? ⟨w.heap.size + 1, 2, none⟩ = some (.slice A4 k4 c4) := (p1_0.out.below hb_1 p1_0.out.lt).cell 2; have p0_1 := Lib.hid (p0_0.out.below hb_1 p0_0.out.lt); have p1_1 := Lib.hid (p1_0.out.below hb_1 p1_0.out.lt); have p2_1 := Lib.hid (p2_0.out.below hb_1 p2_0.out.lt); have h1_1 := Lib.hid (h1_0.out.below hb_1 (Nat.le_refl _)); have h2_1 := Lib.hid (h2_0.out.below hb_1 (Nat.le_refl _)); have h3_1 := Lib.hid (h3_0.out.below hb_1 (Nat.le_refl _)); have h4_1 := Lib.hid (h4_0.out.below hb_1 (Nat.le_refl _)); have bel_1 := Lib.hid (bel_0.out.trans (hb_1.mono bel_0.out.size)); clear hb_1 )))
    all_goals go_wp2_with fail
    refine (hS1.out _ h1_2.out h2_2.out).mono ?_
    rintro e w_3 ⟨rfl, hb_3⟩
    have c0_2_3 : w_3.cell? ⟨w.heap.size, 2, none⟩ = some (.slice A2 k2 c2) := (p0_2.out.below hb_3 p0_2.out.lt).cell 2
    have c1_2_3 : w_3.cell? ⟨w.heap.size + 1, 2, none⟩ = some (.slice A4 k4 c4) := (p1_2.out.below hb_3 p1_2.out.lt).cell 2
    have p0_3 := Lib.hid (p0_2.out.below hb_3 p0_2.out.lt)
    have p1_3 := Lib.hid (p1_2.out.below hb_3 p1_2.out.lt)
    have p2_3 := Lib.hid (p2_2.out.below hb_3 p2_2.out.lt)
    have h1_3 := Lib.hid (h1_2.out.below hb_3 (Nat.le_refl _))
    have h2_3 := Lib.hid (h2_2.out.below hb_3 (Nat.le_refl _))
    have h3_3 := Lib.hid (h3_2.out.below hb_3 (Nat.le_refl _))
    have h4_3 := Lib.hid (h4_2.out.below hb_3 (Nat.le_refl _))
    have bel_3 := Lib.hid (bel_2.out.trans (hb_3.mono bel_2.out.size))
    have o1_0 : w_3.cell? ⟨w.heap.size + 1, 0, none⟩ = some (.bool b2) := p1_3.out.cell 0
    have z1_0 := p1_3.out.frozen 0
    have o1_1 : w_3.cell? ⟨w.heap.size + 1, 1, none⟩ = some (.slice A3 k3 c3) := p1_3.out.cell 1
    have z1_1 := p1_3.out.frozen 1
    have z1_2 := p1_3.out.frozen 2
    clear hb_3 
    go_wp2_with fail
    refine (hS2.out _ h3_3.out h4_3.out).mono ?_
    rintro e w_4 ⟨rfl, hb_4⟩
    have c0_2_4 : w_4.cell? ⟨w.heap.size, 2, none⟩ = some (.slice A2 k2 c2) := (p0_3.out.below hb_4 p0_3.out.lt).cell 2
    have c1_2_4 : w_4.cell? ⟨w.heap.size + 1, 2, none⟩ = some (.slice A4 k4 c4) := (p1_3.out.below hb_4 p1_3.out.lt).cell 2
    have p0_4 := Lib.hid (p0_3.out.below hb_4 p0_3.out.lt)
    have p1_4 := Lib.hid (p1_3.out.below hb_4 p1_3.out.lt)
    have p2_4 := Lib.hid (p2_3.out.below hb_4 p2_3.out.lt)
    have h1_4 := Lib.hid (h1_3.out.below hb_4 (Nat.le_refl _))
    have h2_4 := Lib.hid (h2_3.out.below hb_4 (Nat.le_refl _))
    have h3_4 := Lib.hid (h3_3.out.below hb_4 (Nat.le_refl _))
    have h4_4 := Lib.hid (h4_3.out.below hb_4 (Nat.le_refl _))
    have bel_4 := Lib.hid (bel_3.out.trans (hb_4.mono bel_3.out.size))
    have o2_0 : w_4.cell? ⟨w.heap.size + 2, 0, none⟩ = some (.bool false) := p2_4.out.cell 0
    have z2_0 := p2_4.out.frozen 0
    have o2_1 : w_4.cell? ⟨w.heap.size + 2, 1, none⟩ = some (.slice none 0 0) := p2_4.out.cell 1
    have z2_1 := p2_4.out.frozen 1
    have o2_2 : w_4.cell? ⟨w.heap.size + 2, 2, none⟩ = some (.slice none 0 0) := p2_4.out.cell 2
    have z2_2 := p2_4.out.frozen 2
    clear hb_4 
    go_wp2_with fail
    refine (hQ.out _).mono ?_
    rintro e w_5 ⟨b, v5, v6, rfl, hv, hb_5⟩
    have hv1 := hv.1.1
    have HVS := Lib.hid hv.1.2
    have hv2 := hv.2
    clear hv
    obtain ⟨A5, k5, c5, rfl⟩ := hv1.slice
    obtain ⟨A6, k6, c6, rfl⟩ := hv2.slice
    have c0_2_5 : w_5.cell? ⟨w.heap.size, 2, none⟩ = some (.slice A2 k2 c2) := (p0_4.out.below hb_5 p0_4.out.lt).cell 2
    have c1_2_5 : w_5.cell? ⟨w.heap.size + 1, 2, none⟩ = some (.slice A4 k4 c4) := (p1_4.out.below hb_5 p1_4.out.lt).cell 2
    have p0_5 := Lib.hid (p0_4.out.below hb_5 p0_4.out.lt)
    have p1_5 := Lib.hid (p1_4.out.below hb_5 p1_4.out.lt)
    have p2_5 := Lib.hid (p2_4.out.below hb_5 p2_4.out.lt)
    have h1_5 := Lib.hid (h1_4.out.below hb_5 (Nat.le_refl _))
    have h2_5 := Lib.hid (h2_4.out.below hb_5 (Nat.le_refl _))
    have h3_5 := Lib.hid (h3_4.out.below hb_5 (Nat.le_refl _))
    have h4_5 := Lib.hid (h4_4.out.below hb_5 (Nat.le_refl _))
    have hv1_5 := Lib.hid hv1
    have hv2_5 := Lib.hid hv2
    have bel_5 := Lib.hid (bel_4.out.trans (hb_5.mono bel_4.out.size))
    have o2_0 : w_5.cell? ⟨w.heap.size + 2, 0, none⟩ = some (.bool false) := p2_5.out.cell 0
    have z2_0 := p2_5.out.frozen 0
    have o2_1 : w_5.cell? ⟨w.heap.size + 2, 1, none⟩ = some (.slice none 0 0) := p2_5.out.cell 1
    have z2_1 := p2_5.out.frozen 1
    have o2_2 : w_5.cell? ⟨w.heap.size + 2, 2, none⟩ = some (.slice none 0 0) := p2_5.out.cell 2
    have z2_2 := p2_5.out.frozen 2
    clear hb_5 hv1 hv2
    go_wp2_with fail
    refine bodyPost_ret (v := .agg #[.bool b, .slice A5 k5 c5, .slice A6 k6 c6]) (by simp [results, Tryz.results65, go_sem, o2_0, o2_1, o2_2]) rfl ?_
    exact ⟨_, _, _, rfl, ⟨⟨hv1_5.out.box3 p2_5.out (by simp) (by simp), HVS.out⟩, hv2_5.out.box3 p2_5.out (by simp) (by simp)⟩, ((bel_5.out.setCell (by simp <;> omega) _).setCell (by simp <;> omega) _).setCell (by simp <;> omega) _⟩

end Go.Proofs.YtjfkniknmkcdcaaGreatDoor

namespace Go.Proofs.YtjfkniknmkcdcaaGreatDoor
open Go.RowKit K Nu

theorem Short.neg {q : Rat} (h : Short q) : Short (-q) := by
  obtain ⟨h1, h2, h3⟩ := h
  exact ⟨by rw [Rat.neg_num]; omega, by rw [Rat.neg_num]; omega, by rw [Rat.neg_den]; exact h3⟩
/-- -1, 0, 1 -/
def cmpQ (p q : Rat) : Int := cmpI (p.num * q.den) (q.num * p.den)

set_option maxRecDepth 100000 in
set_option maxHeartbeats 2000000 in
theorem frSub_small (b1 b2 : Bool) (v1 v2 v3 v4 : Value) (p q : Rat) (w : World) (hp : QV w b1 v1 v2 p) (hq : QV w b2 v3 v4 q) (sp : Short p) (sq : Short q) :
    Calls Tryz.prog 23 #[.agg #[.bool b1, v1, v2], .agg #[.bool b2, v3, v4]] w fun e w' => ∃ b vn vr, e = .returned (.agg #[.bool b, vn, vr]) ∧ QV w' b vn vr (p - q) ∧ Below w.heap.size w w' := by
  obtain ⟨⟨h1, hb1⟩, h2⟩ := hp
  obtain ⟨⟨h3, hb2⟩, h4⟩ := hq
  obtain ⟨A1, k1, c1, rfl⟩ := h1.slice
  obtain ⟨A2, k2, c2, rfl⟩ := h2.slice
  obtain ⟨A3, k3, c3, rfl⟩ := h3.slice
  obtain ⟨A4, k4, c4, rfl⟩ := h4.slice
  have p0_0 := Lib.hid ((((Blk.mk w (w.heap.size) rfl [.bool b1, .slice A1 k1 c1, .slice A2 k2 c2] 40).alloc (.cells #[.bool b2, .slice A3 k3 c3, .slice A4 k4 c4] 40)).alloc (.cells #[.bool false, .slice none 0 0, .slice none 0 0] 40)).drew)
  have p1_0 := Lib.hid (((Blk.mk (w.alloc (.cells #[.bool b1, .slice A1 k1 c1, .slice A2 k2 c2] 40)) (w.heap.size + 1) (by simp) [.bool b2, .slice A3 k3 c3, .slice A4 k4 c4] 40).alloc (.cells #[.bool false, .slice none 0 0, .slice none 0 0] 40)).drew)
  have p2_0 := Lib.hid ((Blk.mk ((w.alloc (.cells #[.bool b1, .slice A1 k1 c1, .slice A2 k2 c2] 40)).alloc (.cells #[.bool b2, .slice A3 k3 c3, .slice A4 k4 c4] 40)) (w.heap.size + 2) (by simp) [.bool false, .slice none 0 0, .slice none 0 0] 40).drew)
  have bel_0 := Lib.hid (show Below w.heap.size w (((w.alloc (.cells #[.bool b1, .slice A1 k1 c1, .slice A2 k2 c2] 40)).alloc (.cells #[.bool b2, .slice A3 k3 c3, .slice A4 k4 c4] 40)).alloc (.cells #[.bool false, .slice none 0 0, .slice none 0 0] 40)).drew by (repeat (first | assumption | exact Below.refl _ _ | refine Below.drew ?_ | refine Below.setCell ?_ (by simp <;> omega) _ | refine Below.alloc ?_ (by simp <;> omega) _)))
  have ne2 : ¬ w.heap.size + 1 + 1 = w.heap.size := by omega
  have en2 : ¬ w.heap.size = w.heap.size + 1 + 1 := by omega
  have h1_0 := Lib.hid (h1.below bel_0.out (Nat.le_refl _))
  have h2_0 := Lib.hid (h2.below bel_0.out (Nat.le_refl _))
  have h3_0 := Lib.hid (h3.below bel_0.out (Nat.le_refl _))
  have h4_0 := Lib.hid (h4.below bel_0.out (Nat.le_refl _))
  have hbl := bl_small (n := q.num.natAbs) (by have := sq.1; have := sq.2.1; omega)
  have hN := fun (wd : World) (ha : NatV wd (.slice A3 k3 c3) q.num.natAbs) (hc : NatV wd (.slice A4 k4 c4) (dn q.den)) => frNeg_any b2 _ _ q.num (dn q.den) wd ⟨ha, hb2⟩ hc (by omega)
  have hA := fun (wd : World) (ha : NatV wd (.slice A1 k1 c1) p.num.natAbs) (hc : NatV wd (.slice A2 k2 c2) (dn p.den)) (ha' : NatV wd (.slice A3 k3 c3) (-q.num).natAbs) (hc' : NatV wd (.slice A4 k4 c4) (dn q.den)) => frAdd_small b1 (decide (-q.num < 0)) _ _ _ _ p (-q) wd ⟨⟨ha, hb1⟩, hc⟩ ⟨⟨by rw [Rat.neg_num]; exact ha', by rw [Rat.neg_num]⟩, by rw [Rat.neg_den]; exact hc'⟩ sp sq.neg
  rw [← Rat.sub_eq_add_neg] at hA
  obtain ⟨s, hs'⟩ : ∃ s, decide (-q.num < 0) = s := ⟨_, rfl⟩
  rw [hs'] at hA hN
  replace hA := Lib.hid hA
  replace hN := Lib.hid hN
  clear hs' hb1 hb2 hbl
  go_enter Tryz.func23, Tryz.ntmps23
  go_upto_region 1 with fail
  go_region_held3 (fun w' => w'.cell? ⟨w.heap.size, 0, none⟩ = some (.bool b1) ∧ w'.cell? ⟨w.heap.size, 1, none⟩ = some (.slice A1 k1 c1) ∧ w'.cell? ⟨w.heap.size, 2, none⟩ = some (.slice A2 k2 c2) ∧ w'.cell? ⟨w.heap.size + 1, 0, none⟩ = some (.bool b2) ∧ w'.cell? ⟨w.heap.size + 1, 1, none⟩ = some (.slice A3 k3 c3) ∧ w'.cell? ⟨w.heap.size + 1, 2, none⟩ = some (.slice A4 k4 c4)) (go_keep)
    (first
      | ((go_at_call 21; refine (hA.out _ h1_1.out h2_1.out hv1_1.out hr_1.out).mono ?_; rintro e w_2 ⟨b, v5, v6, rfl, hv, hb_2⟩; have hw1 := hv.1.1; have HVS := Lib.hid hv.1.2; have hw2 := hv.2; clear hv; obtain ⟨A5, k5, c5, rfl⟩ := hw1.slice; obtain ⟨A6, k6, c6, rfl⟩ := hw2.slice; have c0_0_2 : w_2.cell? ⟨w.heap.size, 0, none⟩ = some (.bool b1) := (p0_1.out.below hb_2 p0_1.out.lt).cell 0; have c0_1_2 : w_2.cell? ⟨w.heap.size, 1, none⟩ = some (.slice A1 k1 c1) := (p0_1.out.below hb_2 p0_1.out.lt).cell 1; have c0_2_2 : w_2.cell? ⟨w.heap.size, 2, none⟩ = some (.slice A2 k2 c2) := (p0_1.out.below hb_2 p0_1.out.lt).cell 2; have c1_0_2 : w_2.cell? ⟨w.heap.size + 1, 0, none⟩ = some (.bool b2) := (p1_1.out.below hb_2 p1_1.out.lt).cell 0; have c1_1_2 : w_2.cell? ⟨w.heap.size + 1, 1, none⟩ = some (.slice A3 k3 c3) := (p1_1.out.below hb_2 p1_1.out.lt).cell 1; have c1_2_2 : w_2.cell? ⟨w.heap.size + 1, 2, none⟩ = some (.slice A4 k4 c4) := (p1_1.out.below hb_2 p1_1.out.lt).cell 2; have p0_2 := Lib.hid (p0_1.out.below hb_2 p0_1.out.lt); have p1_2 := Lib.hid (p1_1.out.below hb_2 p1_1.out.lt); have p2_2 := Lib.hid (p2_1.out.below hb_2 p2_1.out.lt); have h1_2 := Lib.hid (h1_1.out.below hb_2 (Nat.le_refl _)); have h2_2 := Lib.hid (h2_1.out.below hb_2 (Nat.le_refl _)); have h3_2 := Lib.hid (h3_1.out.below hb_2 (Nat.le_refl _)); have h4_2 := Lib.hid (h4_1.out.below hb_2 (Nat.le_refl _)); have hv1_2 := Lib.hid (hv1_1.out.below hb_2 (Nat.le_refl _)); have hr_2 := Lib.hid (hr_1.out.below hb_2 (Nat.le_refl _)); have hw1_2 := Lib.hid hw1; have hw2_2 := Lib.hid hw2; have bel_2 := Lib.hid (bel_1.out.trans (hb_2.mono bel_1.out.size)); have o2_0 : w_2.cell? ⟨w.heap.size + 2, 0, none⟩ = some (.bool false) := p2_2.out.cell 0; have z2_0 := p2_2.out.frozen 0; have o2_1 : w_2.cell? ⟨w.heap.size + 2, 1, none⟩ = some (.slice none 0 0) := p2_2.out.cell 1; have z2_1 := p2_2.out.frozen 1; have o2_2 : w_2.cell? ⟨w.heap.size + 2, 2, none⟩ = some (.slice none 0 0) := p2_2.out.cell 2; have z2_2 := p2_2.out.frozen 2; clear hb_2 hw1 hw2))
      | ((go_at_call 61; refine (hN.out _ h3_0.out h4_0.out).mono ?_; rintro e w_1 ⟨rfl, hv, hr, hb_1⟩; have hv1 := hv.1; clear hv; have c0_0_1 : w_1.cell? ⟨w.heap.size, 0, none⟩ = some (.bool b1) := (p0_0.out.below hb_1 p0_0.out.lt).cell 0; have c0_1_1 : w_1.cell? ⟨w.heap.size, 1, none⟩ = some (.slice A1 k1 c1) := (p0_0.out.below hb_1 p0_0.out.lt).cell 1; have c0_2_1 : w_1.cell? ⟨w.heap.size, 2, none⟩ = some (.slice A2 k2 c2) := (p0_0.out.below hb_1 p0_0.out.lt).cell 2; have c1_0_1 : w_1.cell? ⟨w.heap.size + 1, 0, none⟩ = some (.bool b2) := (p1_0.out.below hb_1 p1_0.out.lt).cell 0; have c1_1_1 : w_1.cell? ⟨w.heap.size + 1, 1, none⟩ = some (.slice A3 k3 c3) := (p1_0.out.below hb_1 p1_0.out.lt).cell 1; have c1_2_1 : w_1.cell? ⟨w.heap.size + 1, 2, none⟩ = some (.slice A4 k4 c4) := (p1_0.out.below hb_1 p1_0.out.lt).cell 2; have p0_1 := Lib.hid (p0_0.out.below hb_1 p0_0.out.lt); have p1_1 := Lib.hid (p1_0.out.below hb_1 p1_0.out.lt); have p2_1 := Lib.hid (p2_0.out.below hb_1 p2_0.out.lt); have h1_1 := Lib.hid (h1_0.out.below hb_1 (Nat.le_refl _)); have h2_1 := Lib.hid (h2_0.out.below hb_1 (Nat.le_refl _)); have h3_1 := Lib.hid (h3_0.out.below hb_1 (Nat.le_refl _)); have h4_1 := Lib.hid (h4_0.out.below hb_1 (Nat.le_refl _)); have hv1_1 := Lib.hid hv1; have hr_1 := Lib.hid hr; have bel_1 := Lib.hid (bel_0.out.trans (hb_1.mono bel_0.out.size)); clear hb_1 hv1 hr)))
  all_goals go_wp2
  all_goals
    refine bodyPost_ret (v := .agg #[.bool b, .slice A5 k5 c5, .slice A6 k6 c6]) (by simp [results, Tryz.results23, go_sem, o2_0, o2_1, o2_2]) rfl ?_
    exact ⟨_, _, _, rfl, ⟨⟨hw1_2.out.box3 p2_2.out (by simp) (by simp), HVS.out⟩, hw2_2.out.box3 p2_2.out (by simp) (by simp)⟩, ((bel_2.out.setCell (by simp <;> omega) _).setCell (by simp <;> omega) _).setCell (by simp <;> omega) _⟩

end Go.Proofs.YtjfkniknmkcdcaaGreatDoor
