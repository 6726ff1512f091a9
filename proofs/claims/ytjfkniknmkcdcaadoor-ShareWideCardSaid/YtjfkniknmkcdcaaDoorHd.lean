/- The walks of hand's OutNat, OutInt, Out. (printed by wip/gen/hd.py) -/
import Derived.Test.YtjfkniknmkcdcaaDoorHa
namespace Go.Proofs.YtjfkniknmkcdcaaDoor
open Go.RowKit K Nu

set_option maxRecDepth 100000 in
set_option maxHeartbeats 8000000 in
theorem outNat_any (v : Value) (n : Nat) (w : World) (h : NatV w v n) (hn : n < 4294967296) :
    Calls Tryd.prog 83 #[.agg #[v]] w fun e w' => ∃ r, e = .returned r ∧ RN w' r n ∧ Below w.heap.size w w' := by
  obtain ⟨A1, k1, c1, rfl⟩ := h.slice
  have p0_0 := Lib.hid ((Blk.mk w (w.heap.size) rfl [.slice A1 k1 c1] 39))
  have bel_0 := Lib.hid (show Below w.heap.size w (w.alloc (.cells #[.slice A1 k1 c1] 39)) by (repeat (first | assumption | exact Below.refl _ _ | refine Below.drew ?_ | refine Below.setCell ?_ (by simp <;> omega) _ | refine Below.alloc ?_ (by simp <;> omega) _)))
  have h_0 := Lib.hid (h.below bel_0.out (Nat.le_refl _))
  have hB := Lib.hid (fun (wd : World) (ha : NatV wd (.slice A1 k1 c1) n) => bytes_any _ n wd ha (by have := bl_small (n := n) (by omega); omega))
  have hF := Lib.hid (fun (wd : World) u (ha : BytesV wd u n) => natFrom_any u n wd ha hn)
  go_enter Tryd.func83, Tryd.ntmps83
  go_wp2_with fail
  refine (hB.out _ h_0.out).mono ?_
  rintro e w_1 ⟨r, rfl, hr, hb_1⟩
  have p0_1 := Lib.hid (p0_0.out.below hb_1 p0_0.out.lt)
  have h_1 := Lib.hid (h_0.out.below hb_1 (Nat.le_refl _))
  have hr_1 := Lib.hid hr
  have bel_1 := Lib.hid (bel_0.out.trans (hb_1.mono bel_0.out.size))
  clear hb_1 hr
  go_wp2_with fail
  refine (hF.out _ _ hr_1.out).mono ?_
  rintro e w_2 ⟨r2, rfl, hr2, hb_2⟩
  have p0_2 := Lib.hid (p0_1.out.below hb_2 p0_1.out.lt)
  have h_2 := Lib.hid (h_1.out.below hb_2 (Nat.le_refl _))
  have hr_2 := Lib.hid (hr_1.out.below hb_2 (Nat.le_refl _))
  have hr2_2 := Lib.hid hr2
  have bel_2 := Lib.hid (bel_1.out.trans (hb_2.mono bel_1.out.size))
  clear hb_2 hr2
  go_wp2_with fail
  go_ret
  exact ⟨_, rfl, hr2_2.out, bel_2.out⟩

set_option maxRecDepth 100000 in
set_option maxHeartbeats 8000000 in
theorem outInt_any (b : Bool) (v : Value) (z : Int) (w : World) (h1 : NatV w v z.natAbs) (hb : b = decide (z < 0)) (hz : z.natAbs < 4294967296) :
    Calls Tryd.prog 81 #[.agg #[.bool b, v]] w fun e w' => ∃ r, e = .returned (.agg #[.bool b, r]) ∧ RN w' r z.natAbs ∧ Below w.heap.size w w' := by
  obtain ⟨A1, k1, c1, rfl⟩ := h1.slice
  have p0_0 := Lib.hid (((Blk.mk w (w.heap.size) rfl [.bool b, .slice A1 k1 c1] 41).alloc (.cells #[.bool false, .slice none 0 0] 56)).drew)
  have p1_0 := Lib.hid ((Blk.mk (w.alloc (.cells #[.bool b, .slice A1 k1 c1] 41)) (w.heap.size + 1) (by simp) [.bool false, .slice none 0 0] 56).drew)
  have bel_0 := Lib.hid (show Below w.heap.size w ((w.alloc (.cells #[.bool b, .slice A1 k1 c1] 41)).alloc (.cells #[.bool false, .slice none 0 0] 56)).drew by (repeat (first | assumption | exact Below.refl _ _ | refine Below.drew ?_ | refine Below.setCell ?_ (by simp <;> omega) _ | refine Below.alloc ?_ (by simp <;> omega) _)))
  have h1_0 := Lib.hid (h1.below bel_0.out (Nat.le_refl _))
  have hS := fun (wd : World) (ha : NatV wd (.slice A1 k1 c1) z.natAbs) => whSign_any b _ z wd ⟨ha, hb⟩ (by have := bl_small (n := z.natAbs) (by omega); omega)
  obtain ⟨s, hs⟩ : ∃ s : Int, (if z < 0 then (-1 : Int) else if z = 0 then 0 else 1) = s := ⟨_, rfl⟩
  rw [hs] at hS
  have hsb : decide (s < 0) = b := by rw [hb, ← hs]; by_cases h : z < 0 <;> simp [h]; split <;> omega
  replace hS := Lib.hid hS
  have hA := Lib.hid (fun (wd : World) (ha : NatV wd (.slice A1 k1 c1) z.natAbs) => whAbs_any b _ z.natAbs wd ha)
  have hO := Lib.hid (fun (wd : World) (ha : NatV wd (.slice A1 k1 c1) z.natAbs) => outNat_any _ _ wd ha hz)
  have hI := fun (wd : World) u (ha : RN wd u z.natAbs) => i_any b u z.natAbs wd ha hz
  have hbb : (b && decide (z.natAbs ≠ 0)) = b := by
    rw [hb]; by_cases hneg : z < 0
    · simp [hneg]; omega
    · simp [hneg]
  rw [hbb] at hI
  replace hI := Lib.hid hI
  clear hbb hb hs
  go_enter Tryd.func81, Tryd.ntmps81
  go_upto_region 1 with fail
  go_region_held3 (fun w' => w'.cell? ⟨w.heap.size, 0, none⟩ = some (.bool b) ∧ w'.cell? ⟨w.heap.size, 1, none⟩ = some (.slice A1 k1 c1)) (go_keep)
    (first
      | ((go_at_call 74; refine (hI.out _ _ hr_3.out).mono ?_; rintro e w_4 ⟨rfl, hb_4⟩; have c0_0_4 : w_4.cell? ⟨w.heap.size, 0, none⟩ = some (.bool b) := (p0_3.out.below hb_4 p0_3.out.lt).cell 0; have c0_1_4 : w_4.cell? ⟨w.heap.size, 1, none⟩ = some (.slice A1 k1 c1) := (p0_3.out.below hb_4 p0_3.out.lt).cell 1; have p0_4 := Lib.hid (p0_3.out.below hb_4 p0_3.out.lt); have p1_4 := Lib.hid (p1_3.out.below hb_4 p1_3.out.lt); have h1_4 := Lib.hid (h1_3.out.below hb_4 (Nat.le_refl _)); have hr_4 := Lib.hid (hr_3.out.below hb_4 (Nat.le_refl _)); have bel_4 := Lib.hid (bel_3.out.trans (hb_4.mono bel_3.out.size)); have o1_0 : w_4.cell? ⟨w.heap.size + 1, 0, none⟩ = some (.bool false) := p1_4.out.cell 0; have z1_0 := p1_4.out.frozen 0; have o1_1 : w_4.cell? ⟨w.heap.size + 1, 1, none⟩ = some (.slice none 0 0) := p1_4.out.cell 1; have z1_1 := p1_4.out.frozen 1; clear hb_4 ))
      | ((go_at_call 83; refine (hO.out _ h1_2.out).mono ?_; rintro e w_3 ⟨r, rfl, hr, hb_3⟩; obtain ⟨A2, k2, c2, rfl⟩ := hr.slice; have c0_0_3 : w_3.cell? ⟨w.heap.size, 0, none⟩ = some (.bool b) := (p0_2.out.below hb_3 p0_2.out.lt).cell 0; have c0_1_3 : w_3.cell? ⟨w.heap.size, 1, none⟩ = some (.slice A1 k1 c1) := (p0_2.out.below hb_3 p0_2.out.lt).cell 1; have p0_3 := Lib.hid (p0_2.out.below hb_3 p0_2.out.lt); have p1_3 := Lib.hid (p1_2.out.below hb_3 p1_2.out.lt); have h1_3 := Lib.hid (h1_2.out.below hb_3 (Nat.le_refl _)); have hr_3 := Lib.hid hr; have bel_3 := Lib.hid (bel_2.out.trans (hb_3.mono bel_2.out.size)); clear hb_3 hr))
      | ((go_at_call 78; refine (hA.out _ h1_1.out).mono ?_; rintro e w_2 ⟨rfl, hb_2⟩; have c0_0_2 : w_2.cell? ⟨w.heap.size, 0, none⟩ = some (.bool b) := (p0_1.out.below hb_2 p0_1.out.lt).cell 0; have c0_1_2 : w_2.cell? ⟨w.heap.size, 1, none⟩ = some (.slice A1 k1 c1) := (p0_1.out.below hb_2 p0_1.out.lt).cell 1; have p0_2 := Lib.hid (p0_1.out.below hb_2 p0_1.out.lt); have p1_2 := Lib.hid (p1_1.out.below hb_2 p1_1.out.lt); have h1_2 := Lib.hid (h1_1.out.below hb_2 (Nat.le_refl _)); have bel_2 := Lib.hid (bel_1.out.trans (hb_2.mono bel_1.out.size)); clear hb_2 ))
      | ((go_at_call 76; refine (hS.out _ h1_0.out).mono ?_; rintro e w_1 ⟨rfl, hb_1⟩; have c0_0_1 : w_1.cell? ⟨w.heap.size, 0, none⟩ = some (.bool b) := (p0_0.out.below hb_1 p0_0.out.lt).cell 0; have c0_1_1 : w_1.cell? ⟨w.heap.size, 1, none⟩ = some (.slice A1 k1 c1) := (p0_0.out.below hb_1 p0_0.out.lt).cell 1; have p0_1 := Lib.hid (p0_0.out.below hb_1 p0_0.out.lt); have p1_1 := Lib.hid (p1_0.out.below hb_1 p1_0.out.lt); have h1_1 := Lib.hid (h1_0.out.below hb_1 (Nat.le_refl _)); have bel_1 := Lib.hid (bel_0.out.trans (hb_1.mono bel_0.out.size)); clear hb_1 ))
      | ((fail)))
  all_goals go_wp2
  all_goals
    refine bodyPost_ret (v := .agg #[.bool b, .slice A2 k2 c2]) (by simp [results, Tryd.results81, go_sem, o1_0, o1_1]) rfl ?_
    exact ⟨_, rfl, hr_4.out.box2 p1_4.out (by simp) (by simp), (bel_4.out.setCell (by simp <;> omega) _).setCell (by simp <;> omega) _⟩

set_option maxRecDepth 100000 in
set_option maxHeartbeats 8000000 in
theorem out_any (b : Bool) (v1 v2 : Value) (q : Rat) (w : World) (h : QV w b v1 v2 q) (sq : Short q) :
    Calls Tryd.prog 51 #[.agg #[.bool b, v1, v2]] w fun e w' => ∃ b' vn vd, e = .returned (.agg #[.bool b', vn, vd]) ∧ RQ w' b' vn vd q ∧ Below w.heap.size w w' := by
  obtain ⟨⟨h1, hb⟩, h2⟩ := h
  obtain ⟨sq1, sq2, sq3⟩ := sq
  have hqd := q.den_nz
  obtain ⟨A1, k1, c1, rfl⟩ := h1.slice
  obtain ⟨A2, k2, c2, rfl⟩ := h2.slice
  have p0_0 := Lib.hid (((Blk.mk w (w.heap.size) rfl [.bool b, .slice A1 k1 c1, .slice A2 k2 c2] 43).alloc (.cells #[.bool false, .slice none 0 0, .slice none 0 0] 58)).drew)
  have p1_0 := Lib.hid ((Blk.mk (w.alloc (.cells #[.bool b, .slice A1 k1 c1, .slice A2 k2 c2] 43)) (w.heap.size + 1) (by simp) [.bool false, .slice none 0 0, .slice none 0 0] 58).drew)
  have bel_0 := Lib.hid (show Below w.heap.size w ((w.alloc (.cells #[.bool b, .slice A1 k1 c1, .slice A2 k2 c2] 43)).alloc (.cells #[.bool false, .slice none 0 0, .slice none 0 0] 58)).drew by (repeat (first | assumption | exact Below.refl _ _ | refine Below.drew ?_ | refine Below.setCell ?_ (by simp <;> omega) _ | refine Below.alloc ?_ (by simp <;> omega) _)))
  have h1_0 := Lib.hid (h1.below bel_0.out (Nat.le_refl _))
  have h2_0 := Lib.hid (h2.below bel_0.out (Nat.le_refl _))
  have hN := Lib.hid (fun (wd : World) (ha : NatV wd (.slice A1 k1 c1) q.num.natAbs) (hc : NatV wd (.slice A2 k2 c2) (dn q.den)) => num_any b _ _ _ _ wd ha hc)
  have hI := Lib.hid (fun (wd : World) (ha : NatV wd (.slice A1 k1 c1) q.num.natAbs) => outInt_any b _ q.num wd ha hb (by omega))
  have hD := Lib.hid (fun (wd : World) (ha : NatV wd (.slice A1 k1 c1) q.num.natAbs) (hc : NatV wd (.slice A2 k2 c2) (dn q.den)) => den_any b _ _ _ q.den wd ha hc hqd (by have := bl_small (n := q.den) (by omega); omega))
  have hO := Lib.hid (fun (wd : World) u (ha : NatV wd u q.den) => outNat_any u q.den wd ha (by omega))
  have HB := Lib.hid hb
  clear hb hqd sq1 sq2 sq3
  go_enter Tryd.func51, Tryd.ntmps51
  go_upto_region 1 with fail
  go_region_held3 (fun w' => w'.cell? ⟨w.heap.size, 0, none⟩ = some (.bool b) ∧ w'.cell? ⟨w.heap.size, 1, none⟩ = some (.slice A1 k1 c1) ∧ w'.cell? ⟨w.heap.size, 2, none⟩ = some (.slice A2 k2 c2)) (go_keep)
    (first
      | ((go_at_call 83; refine (hO.out _ _ hr4_3.out).mono ?_; rintro e w_4 ⟨r5, rfl, hr5, hb_4⟩; obtain ⟨A5, k5, c5, rfl⟩ := hr5.slice; have c0_0_4 : w_4.cell? ⟨w.heap.size, 0, none⟩ = some (.bool b) := (p0_3.out.below hb_4 p0_3.out.lt).cell 0; have c0_1_4 : w_4.cell? ⟨w.heap.size, 1, none⟩ = some (.slice A1 k1 c1) := (p0_3.out.below hb_4 p0_3.out.lt).cell 1; have c0_2_4 : w_4.cell? ⟨w.heap.size, 2, none⟩ = some (.slice A2 k2 c2) := (p0_3.out.below hb_4 p0_3.out.lt).cell 2; have p0_4 := Lib.hid (p0_3.out.below hb_4 p0_3.out.lt); have p1_4 := Lib.hid (p1_3.out.below hb_4 p1_3.out.lt); have h1_4 := Lib.hid (h1_3.out.below hb_4 (Nat.le_refl _)); have h2_4 := Lib.hid (h2_3.out.below hb_4 (Nat.le_refl _)); have hr_4 := Lib.hid (hr_3.out.below hb_4 (Nat.le_refl _)); have hr4_4 := Lib.hid (hr4_3.out.below hb_4 (Nat.le_refl _)); have hr5_4 := Lib.hid hr5; have bel_4 := Lib.hid (bel_3.out.trans (hb_4.mono bel_3.out.size)); have o1_0 : w_4.cell? ⟨w.heap.size + 1, 0, none⟩ = some (.bool false) := p1_4.out.cell 0; have z1_0 := p1_4.out.frozen 0; have o1_1 : w_4.cell? ⟨w.heap.size + 1, 1, none⟩ = some (.slice none 0 0) := p1_4.out.cell 1; have z1_1 := p1_4.out.frozen 1; have o1_2 : w_4.cell? ⟨w.heap.size + 1, 2, none⟩ = some (.slice none 0 0) := p1_4.out.cell 2; have z1_2 := p1_4.out.frozen 2; clear hb_4 hr5))
      | ((go_at_call 29; refine (hD.out _ h1_2.out h2_2.out).mono ?_; rintro e w_3 ⟨r4, rfl, hr4, hb_3⟩; obtain ⟨A4, k4, c4, rfl⟩ := hr4.slice; have c0_0_3 : w_3.cell? ⟨w.heap.size, 0, none⟩ = some (.bool b) := (p0_2.out.below hb_3 p0_2.out.lt).cell 0; have c0_1_3 : w_3.cell? ⟨w.heap.size, 1, none⟩ = some (.slice A1 k1 c1) := (p0_2.out.below hb_3 p0_2.out.lt).cell 1; have c0_2_3 : w_3.cell? ⟨w.heap.size, 2, none⟩ = some (.slice A2 k2 c2) := (p0_2.out.below hb_3 p0_2.out.lt).cell 2; have p0_3 := Lib.hid (p0_2.out.below hb_3 p0_2.out.lt); have p1_3 := Lib.hid (p1_2.out.below hb_3 p1_2.out.lt); have h1_3 := Lib.hid (h1_2.out.below hb_3 (Nat.le_refl _)); have h2_3 := Lib.hid (h2_2.out.below hb_3 (Nat.le_refl _)); have hr_3 := Lib.hid (hr_2.out.below hb_3 (Nat.le_refl _)); have hr4_3 := Lib.hid hr4; have bel_3 := Lib.hid (bel_2.out.trans (hb_3.mono bel_2.out.size)); clear hb_3 hr4))
      | ((go_at_call 81; refine (hI.out _ h1_1.out).mono ?_; rintro e w_2 ⟨r, rfl, hr, hb_2⟩; obtain ⟨A3, k3, c3, rfl⟩ := hr.slice; have c0_0_2 : w_2.cell? ⟨w.heap.size, 0, none⟩ = some (.bool b) := (p0_1.out.below hb_2 p0_1.out.lt).cell 0; have c0_1_2 : w_2.cell? ⟨w.heap.size, 1, none⟩ = some (.slice A1 k1 c1) := (p0_1.out.below hb_2 p0_1.out.lt).cell 1; have c0_2_2 : w_2.cell? ⟨w.heap.size, 2, none⟩ = some (.slice A2 k2 c2) := (p0_1.out.below hb_2 p0_1.out.lt).cell 2; have p0_2 := Lib.hid (p0_1.out.below hb_2 p0_1.out.lt); have p1_2 := Lib.hid (p1_1.out.below hb_2 p1_1.out.lt); have h1_2 := Lib.hid (h1_1.out.below hb_2 (Nat.le_refl _)); have h2_2 := Lib.hid (h2_1.out.below hb_2 (Nat.le_refl _)); have hr_2 := Lib.hid hr; have bel_2 := Lib.hid (bel_1.out.trans (hb_2.mono bel_1.out.size)); clear hb_2 hr))
      | ((go_at_call 82; refine (hN.out _ h1_0.out h2_0.out).mono ?_; rintro e w_1 ⟨rfl, hb_1⟩; have c0_0_1 : w_1.cell? ⟨w.heap.size, 0, none⟩ = some (.bool b) := (p0_0.out.below hb_1 p0_0.out.lt).cell 0; have c0_1_1 : w_1.cell? ⟨w.heap.size, 1, none⟩ = some (.slice A1 k1 c1) := (p0_0.out.below hb_1 p0_0.out.lt).cell 1; have c0_2_1 : w_1.cell? ⟨w.heap.size, 2, none⟩ = some (.slice A2 k2 c2) := (p0_0.out.below hb_1 p0_0.out.lt).cell 2; have p0_1 := Lib.hid (p0_0.out.below hb_1 p0_0.out.lt); have p1_1 := Lib.hid (p1_0.out.below hb_1 p1_0.out.lt); have h1_1 := Lib.hid (h1_0.out.below hb_1 (Nat.le_refl _)); have h2_1 := Lib.hid (h2_0.out.below hb_1 (Nat.le_refl _)); have bel_1 := Lib.hid (bel_0.out.trans (hb_1.mono bel_0.out.size)); clear hb_1 ))
      | ((fail)))
  all_goals go_wp2
  all_goals
    refine bodyPost_ret (v := .agg #[.bool b, .slice A3 k3 c3, .slice A5 k5 c5]) (by simp [results, Tryd.results51, go_sem, o1_0, o1_1, o1_2]) rfl ?_
    exact ⟨_, _, _, rfl, ⟨⟨hr_4.out.box3 p1_4.out (by simp) (by simp), HB.out⟩, hr5_4.out.box3 p1_4.out (by simp) (by simp)⟩, Below.set3 bel_4.out (by omega)⟩

end Go.Proofs.YtjfkniknmkcdcaaDoor
