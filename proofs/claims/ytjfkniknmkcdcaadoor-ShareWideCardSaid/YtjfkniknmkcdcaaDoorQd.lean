/- The walk of frac: Sub, Cmp of short fractions. (printed by wip/gen/qd.py) -/
import Derived.Test.YtjfkniknmkcdcaaDoorQc
namespace Go.Proofs.YtjfkniknmkcdcaaDoor
open Go.RowKit K Nu

theorem Short.neg {q : Rat} (h : Short q) : Short (-q) := by
  obtain ⟨h1, h2, h3⟩ := h
  exact ⟨by rw [Rat.neg_num]; omega, by rw [Rat.neg_num]; omega, by rw [Rat.neg_den]; exact h3⟩
/-- -1, 0, 1 -/
def cmpQ (p q : Rat) : Int := cmpI (p.num * q.den) (q.num * p.den)

set_option maxRecDepth 100000 in
set_option maxHeartbeats 2000000 in
theorem frSub_small (b1 b2 : Bool) (v1 v2 v3 v4 : Value) (p q : Rat) (w : World) (hp : QV w b1 v1 v2 p) (hq : QV w b2 v3 v4 q) (sp : Short p) (sq : Short q) :
    Calls Tryd.prog 43 #[.agg #[.bool b1, v1, v2], .agg #[.bool b2, v3, v4]] w fun e w' => ∃ b vn vr, e = .returned (.agg #[.bool b, vn, vr]) ∧ QV w' b vn vr (p - q) ∧ Below w.heap.size w w' := by
  obtain ⟨⟨h1, hb1⟩, h2⟩ := hp
  obtain ⟨⟨h3, hb2⟩, h4⟩ := hq
  obtain ⟨A1, k1, c1, rfl⟩ := h1.slice
  obtain ⟨A2, k2, c2, rfl⟩ := h2.slice
  obtain ⟨A3, k3, c3, rfl⟩ := h3.slice
  obtain ⟨A4, k4, c4, rfl⟩ := h4.slice
  have p0_0 := Lib.hid ((((Blk.mk w (w.heap.size) rfl [.bool b1, .slice A1 k1 c1, .slice A2 k2 c2] 43).alloc (.cells #[.bool b2, .slice A3 k3 c3, .slice A4 k4 c4] 43)).alloc (.cells #[.bool false, .slice none 0 0, .slice none 0 0] 43)).drew)
  have p1_0 := Lib.hid (((Blk.mk (w.alloc (.cells #[.bool b1, .slice A1 k1 c1, .slice A2 k2 c2] 43)) (w.heap.size + 1) (by simp) [.bool b2, .slice A3 k3 c3, .slice A4 k4 c4] 43).alloc (.cells #[.bool false, .slice none 0 0, .slice none 0 0] 43)).drew)
  have p2_0 := Lib.hid ((Blk.mk ((w.alloc (.cells #[.bool b1, .slice A1 k1 c1, .slice A2 k2 c2] 43)).alloc (.cells #[.bool b2, .slice A3 k3 c3, .slice A4 k4 c4] 43)) (w.heap.size + 2) (by simp) [.bool false, .slice none 0 0, .slice none 0 0] 43).drew)
  have bel_0 := Lib.hid (show Below w.heap.size w (((w.alloc (.cells #[.bool b1, .slice A1 k1 c1, .slice A2 k2 c2] 43)).alloc (.cells #[.bool b2, .slice A3 k3 c3, .slice A4 k4 c4] 43)).alloc (.cells #[.bool false, .slice none 0 0, .slice none 0 0] 43)).drew by (repeat (first | assumption | exact Below.refl _ _ | refine Below.drew ?_ | refine Below.setCell ?_ (by simp <;> omega) _ | refine Below.alloc ?_ (by simp <;> omega) _)))
  have ne2 : ¬ w.heap.size + 1 + 1 = w.heap.size := by omega
  have en2 : ¬ w.heap.size = w.heap.size + 1 + 1 := by omega
  have h1_0 := Lib.hid (h1.below bel_0.out (Nat.le_refl _))
  have h2_0 := Lib.hid (h2.below bel_0.out (Nat.le_refl _))
  have h3_0 := Lib.hid (h3.below bel_0.out (Nat.le_refl _))
  have h4_0 := Lib.hid (h4.below bel_0.out (Nat.le_refl _))
  have hbl := bl_small (n := q.num.natAbs) (by have := sq.1; have := sq.2.1; omega)
  have hN := fun (wd : World) (ha : NatV wd (.slice A3 k3 c3) q.num.natAbs) (hc : NatV wd (.slice A4 k4 c4) (dn q.den)) => frNeg_any b2 _ _ q.num (dn q.den) wd ⟨ha, hb2⟩ hc (by omega)
  have hA := fun (wd : World) (ha : NatV wd (.slice A1 k1 c1) p.num.natAbs) (hc : NatV wd (.slice A2 k2 c2) (dn p.den)) (ha' : NatV wd (.slice A3 k3 c3) (-q.num).natAbs) (hc' : NatV wd (.slice A4 k4 c4) (dn q.den)) => frAdd_small b1 (decide (-q.num < 0)) _ _ _ _ p (-q) wd ⟨⟨ha, hb1⟩, hc⟩ ⟨⟨by rw [Rat.neg_num]; exact ha', by rw [Rat.neg_num]⟩, by rw [Rat.neg_den]; exact hc'⟩ sp sq.neg
  rw [← Rat.sub_eq_add_neg] at hA
  obtain ⟨s, hs'⟩ : ∃ s, decide (-q.num < 0) = s := ⟨_, rfl⟩
  rw [hs'] at hA hN
  replace hA := Lib.hid hA
  replace hN := Lib.hid hN
  clear hs' hb1 hb2 hbl
  go_enter Tryd.func43, Tryd.ntmps43
  go_upto_region 1 with fail
  go_region_held3 (fun w' => w'.cell? ⟨w.heap.size, 0, none⟩ = some (.bool b1) ∧ w'.cell? ⟨w.heap.size, 1, none⟩ = some (.slice A1 k1 c1) ∧ w'.cell? ⟨w.heap.size, 2, none⟩ = some (.slice A2 k2 c2) ∧ w'.cell? ⟨w.heap.size + 1, 0, none⟩ = some (.bool b2) ∧ w'.cell? ⟨w.heap.size + 1, 1, none⟩ = some (.slice A3 k3 c3) ∧ w'.cell? ⟨w.heap.size + 1, 2, none⟩ = some (.slice A4 k4 c4)) (go_keep)
    (first
      | ((go_at_call 13; refine (hA.out _ h1_1.out h2_1.out hv1_1.out hr_1.out).mono ?_; rintro e w_2 ⟨b, v5, v6, rfl, hv, hb_2⟩; have hw1 := hv.1.1; have HVS := Lib.hid hv.1.2; have hw2 := hv.2; clear hv; obtain ⟨A5, k5, c5, rfl⟩ := hw1.slice; obtain ⟨A6, k6, c6, rfl⟩ := hw2.slice; have c0_0_2 : w_2.cell? ⟨w.heap.size, 0, none⟩ = some (.bool b1) := (p0_1.out.below hb_2 p0_1.out.lt).cell 0; have c0_1_2 : w_2.cell? ⟨w.heap.size, 1, none⟩ = some (.slice A1 k1 c1) := (p0_1.out.below hb_2 p0_1.out.lt).cell 1; have c0_2_2 : w_2.cell? ⟨w.heap.size, 2, none⟩ = some (.slice A2 k2 c2) := (p0_1.out.below hb_2 p0_1.out.lt).cell 2; have c1_0_2 : w_2.cell? ⟨w.heap.size + 1, 0, none⟩ = some (.bool b2) := (p1_1.out.below hb_2 p1_1.out.lt).cell 0; have c1_1_2 : w_2.cell? ⟨w.heap.size + 1, 1, none⟩ = some (.slice A3 k3 c3) := (p1_1.out.below hb_2 p1_1.out.lt).cell 1; have c1_2_2 : w_2.cell? ⟨w.heap.size + 1, 2, none⟩ = some (.slice A4 k4 c4) := (p1_1.out.below hb_2 p1_1.out.lt).cell 2; have p0_2 := Lib.hid (p0_1.out.below hb_2 p0_1.out.lt); have p1_2 := Lib.hid (p1_1.out.below hb_2 p1_1.out.lt); have p2_2 := Lib.hid (p2_1.out.below hb_2 p2_1.out.lt); have h1_2 := Lib.hid (h1_1.out.below hb_2 (Nat.le_refl _)); have h2_2 := Lib.hid (h2_1.out.below hb_2 (Nat.le_refl _)); have h3_2 := Lib.hid (h3_1.out.below hb_2 (Nat.le_refl _)); have h4_2 := Lib.hid (h4_1.out.below hb_2 (Nat.le_refl _)); have hv1_2 := Lib.hid (hv1_1.out.below hb_2 (Nat.le_refl _)); have hr_2 := Lib.hid (hr_1.out.below hb_2 (Nat.le_refl _)); have hw1_2 := Lib.hid hw1; have hw2_2 := Lib.hid hw2; have bel_2 := Lib.hid (bel_1.out.trans (hb_2.mono bel_1.out.size)); have o2_0 : w_2.cell? ⟨w.heap.size + 2, 0, none⟩ = some (.bool false) := p2_2.out.cell 0; have z2_0 := p2_2.out.frozen 0; have o2_1 : w_2.cell? ⟨w.heap.size + 2, 1, none⟩ = some (.slice none 0 0) := p2_2.out.cell 1; have z2_1 := p2_2.out.frozen 1; have o2_2 : w_2.cell? ⟨w.heap.size + 2, 2, none⟩ = some (.slice none 0 0) := p2_2.out.cell 2; have z2_2 := p2_2.out.frozen 2; clear hb_2 hw1 hw2))
      | ((go_at_call 72; refine (hN.out _ h3_0.out h4_0.out).mono ?_; rintro e w_1 ⟨rfl, hv, hr, hb_1⟩; have hv1 := hv.1; clear hv; have c0_0_1 : w_1.cell? ⟨w.heap.size, 0, none⟩ = some (.bool b1) := (p0_0.out.below hb_1 p0_0.out.lt).cell 0; have c0_1_1 : w_1.cell? ⟨w.heap.size, 1, none⟩ = some (.slice A1 k1 c1) := (p0_0.out.below hb_1 p0_0.out.lt).cell 1; have c0_2_1 : w_1.cell? ⟨w.heap.size, 2, none⟩ = some (.slice A2 k2 c2) := (p0_0.out.below hb_1 p0_0.out.lt).cell 2; have c1_0_1 : w_1.cell? ⟨w.heap.size + 1, 0, none⟩ = some (.bool b2) := (p1_0.out.below hb_1 p1_0.out.lt).cell 0; have c1_1_1 : w_1.cell? ⟨w.heap.size + 1, 1, none⟩ = some (.slice A3 k3 c3) := (p1_0.out.below hb_1 p1_0.out.lt).cell 1; have c1_2_1 : w_1.cell? ⟨w.heap.size + 1, 2, none⟩ = some (.slice A4 k4 c4) := (p1_0.out.below hb_1 p1_0.out.lt).cell 2; have p0_1 := Lib.hid (p0_0.out.below hb_1 p0_0.out.lt); have p1_1 := Lib.hid (p1_0.out.below hb_1 p1_0.out.lt); have p2_1 := Lib.hid (p2_0.out.below hb_1 p2_0.out.lt); have h1_1 := Lib.hid (h1_0.out.below hb_1 (Nat.le_refl _)); have h2_1 := Lib.hid (h2_0.out.below hb_1 (Nat.le_refl _)); have h3_1 := Lib.hid (h3_0.out.below hb_1 (Nat.le_refl _)); have h4_1 := Lib.hid (h4_0.out.below hb_1 (Nat.le_refl _)); have hv1_1 := Lib.hid hv1; have hr_1 := Lib.hid hr; have bel_1 := Lib.hid (bel_0.out.trans (hb_1.mono bel_0.out.size)); clear hb_1 hv1 hr)))
  all_goals go_wp2
  all_goals
    refine bodyPost_ret (v := .agg #[.bool b, .slice A5 k5 c5, .slice A6 k6 c6]) (by simp [results, Tryd.results43, go_sem, o2_0, o2_1, o2_2]) rfl ?_
    exact ⟨_, _, _, rfl, ⟨⟨hw1_2.out.box3 p2_2.out (by simp) (by simp), HVS.out⟩, hw2_2.out.box3 p2_2.out (by simp) (by simp)⟩, ((bel_2.out.setCell (by simp <;> omega) _).setCell (by simp <;> omega) _).setCell (by simp <;> omega) _⟩

end Go.Proofs.YtjfkniknmkcdcaaDoor
