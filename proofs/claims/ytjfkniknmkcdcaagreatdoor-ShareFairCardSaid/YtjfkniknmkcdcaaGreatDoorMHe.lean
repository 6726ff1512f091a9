/- Texts of this claim, joined: Hd, He. -/
import Derived.Test.YtjfkniknmkcdcaaGreatDoorMHa
import Derived.Test.YtjfkniknmkcdcaaGreatDoorMHb
namespace Go.Proofs.YtjfkniknmkcdcaaGreatDoor
open Go.RowKit K Nu

set_option maxRecDepth 100000 in
set_option maxHeartbeats 8000000 in
theorem outNat_any (v : Value) (n : Nat) (w : World) (h : NatV w v n) (hn : n < 4294967296) :
    Calls Tryz.prog 75 #[.agg #[v]] w fun e w' => ∃ r, e = .returned r ∧ RN w' r n ∧ Below w.heap.size w w' := by
  obtain ⟨A1, k1, c1, rfl⟩ := h.slice
  have p0_0 := Lib.hid ((Blk.mk w (w.heap.size) rfl [.slice A1 k1 c1] 36))
  have bel_0 := Lib.hid (show Below w.heap.size w (w.alloc (.cells #[.slice A1 k1 c1] 36)) by (repeat (first | assumption | exact Below.refl _ _ | refine Below.drew ?_ | refine Below.setCell ?_ (by simp <;> omega) _ | refine Below.alloc ?_ (by simp <;> omega) _)))
  have h_0 := Lib.hid (h.below bel_0.out (Nat.le_refl _))
  have hB := Lib.hid (fun (wd : World) (ha : NatV wd (.slice A1 k1 c1) n) => bytes_any _ n wd ha (by have := bl_small (n := n) (by omega); omega))
  have hF := Lib.hid (fun (wd : World) u (ha : BytesV wd u n) => natFrom_any u n wd ha hn)
  go_enter Tryz.func75, Tryz.ntmps75
  go_wp2_with fail
  refine (hB.out _ h_0.out).mono ?_
  rintro e w_1 ⟨r, rfl, hr, hb_1⟩
  have p0_1 := Lib.hid (p0_0.out.below hb_1 p0_0.out.lt)
  have h_1 := Lib.hid (h_0.out.below hb_1 (Nat.le_refl _))
  have hr_1 := Lib.hid hr
  have bel_1 := Lib.hid (bel_0.out.trans (hb_1.mono bel_0.out.size))
  clear hb_1 hr
  go_wp2_with fail
  refine (hF.out _ _ hr_1.out).mono ?_
  rintro e w_2 ⟨r2, rfl, hr2, hb_2⟩
  have p0_2 := Lib.hid (p0_1.out.below hb_2 p0_1.out.lt)
  have h_2 := Lib.hid (h_1.out.below hb_2 (Nat.le_refl _))
  have hr_2 := Lib.hid (hr_1.out.below hb_2 (Nat.le_refl _))
  have hr2_2 := Lib.hid hr2
  have bel_2 := Lib.hid (bel_1.out.trans (hb_2.mono bel_1.out.size))
  clear hb_2 hr2
  go_wp2_with fail
  go_ret
  exact ⟨_, rfl, hr2_2.out, bel_2.out⟩

set_option maxRecDepth 100000 in
set_option maxHeartbeats 8000000 in
theorem outInt_any (b : Bool) (v : Value) (z : Int) (w : World) (h1 : NatV w v z.natAbs) (hb : b = decide (z < 0)) (hz : z.natAbs < 4294967296) :
    Calls Tryz.prog 73 #[.agg #[.bool b, v]] w fun e w' => ∃ r, e = .returned (.agg #[.bool b, r]) ∧ RN w' r z.natAbs ∧ Below w.heap.size w w' := by
  obtain ⟨A1, k1, c1, rfl⟩ := h1.slice
  have p0_0 := Lib.hid (((Blk.mk w (w.heap.size) rfl [.bool b, .slice A1 k1 c1] 38).alloc (.cells #[.bool false, .slice none 0 0] 53)).drew)
  have p1_0 := Lib.hid ((Blk.mk (w.alloc (.cells #[.bool b, .slice A1 k1 c1] 38)) (w.heap.size + 1) (by simp) [.bool false, .slice none 0 0] 53).drew)
  have bel_0 := Lib.hid (show Below w.heap.size w ((w.alloc (.cells #[.bool b, .slice A1 k1 c1] 38)).alloc (.cells #[.bool false, .slice none 0 0] 53)).drew by (repeat (first | assumption | exact Below.refl _ _ | refine Below.drew ?_ | refine Below.setCell ?_ (by simp <;> omega) _ | refine Below.alloc ?_ (by simp <;> omega) _)))
  have h1_0 := Lib.hid (h1.below bel_0.out (Nat.le_refl _))
  have hS := fun (wd : World) (ha : NatV wd (.slice A1 k1 c1) z.natAbs) => whSign_any b _ z wd ⟨ha, hb⟩ (by have := bl_small (n := z.natAbs) (by omega); omega)
  obtain ⟨s, hs⟩ : ∃ s : Int, (if z < 0 then (-1 : Int) else if z = 0 then 0 else 1) = s := ⟨_, rfl⟩
  rw [hs] at hS
  have hsb : decide (s < 0) = b := by rw [hb, ← hs]; by_cases h : z < 0 <;> simp [h]; split <;> omega
  replace hS := Lib.hid hS
  have hA := Lib.hid (fun (wd : World) (ha : NatV wd (.slice A1 k1 c1) z.natAbs) => whAbs_any b _ z.natAbs wd ha)
  have hO := Lib.hid (fun (wd : World) (ha : NatV wd (.slice A1 k1 c1) z.natAbs) => outNat_any _ _ wd ha hz)
  have hI := fun (wd : World) u (ha : RN wd u z.natAbs) => i_any b u z.natAbs wd ha hz
  have hbb : (b && decide (z.natAbs ≠ 0)) = b := by
    rw [hb]; by_cases hneg : z < 0
    · simp [hneg]; omega
    · simp [hneg]
  rw [hbb] at hI
  replace hI := Lib.hid hI
  clear hbb hb hs
  go_enter Tryz.func73, Tryz.ntmps73
  go_upto_region 1 with fail
  go_region_held3 (fun w' => w'.cell? ⟨w.heap.size, 0, none⟩ = some (.bool b) ∧ w'.cell? ⟨w.heap.size, 1, none⟩ = some (.slice A1 k1 c1)) (go_keep)
    (first
      | ((go_at_call 46; refine (hI.out _ _ hr_3.out).mono ?_; rintro e w_4 ⟨rfl, hb_4⟩; have c0_0_4 : w_4.cell? ⟨w.heap.size, 0, none⟩ = some (.bool b) := (p0_3.out.below hb_4 p0_3.out.lt).cell 0; have c0_1_4 : w_4.cell? ⟨w.heap.size, 1, none⟩ = some (.slice A1 k1 c1) := (p0_3.out.below hb_4 p0_3.out.lt).cell 1; have p0_4 := Lib.hid (p0_3.out.below hb_4 p0_3.out.lt); have p1_4 := Lib.hid (p1_3.out.below hb_4 p1_3.out.lt); have h1_4 := Lib.hid (h1_3.out.below hb_4 (Nat.le_refl _)); have hr_4 := Lib.hid (hr_3.out.below hb_4 (Nat.le_refl _)); have bel_4 := Lib.hid (bel_3.out.trans (hb_4.mono bel_3.out.size)); have o1_0 : w_4.cell? ⟨w.heap.size + 1, 0, none⟩ = some (.bool false) := p1_4.out.cell 0; have z1_0 := p1_4.out.frozen 0; have o1_1 : w_4.cell? ⟨w.heap.size + 1, 1, none⟩ = some (.slice none 0 0) := p1_4.out.cell 1; have z1_1 := p1_4.out.frozen 1; clear hb_4 ))
      | ((go_at_call 75; refine (hO.out _ h1_2.out).mono ?_; rintro e w_3 ⟨r, rfl, hr, hb_3⟩; obtain ⟨A2, k2, c2, rfl⟩ := hr.slice; have c0_0_3 : w_3.cell? ⟨w.heap.size, 0, none⟩ = some (.bool b) := (p0_2.out.below hb_3 p0_2.out.lt).cell 0; have c0_1_3 : w_3.cell? ⟨w.heap.size, 1, none⟩ = some (.slice A1 k1 c1) := (p0_2.out.below hb_3 p0_2.out.lt).cell 1; have p0_3 := Lib.hid (p0_2.out.below hb_3 p0_2.out.lt); have p1_3 := Lib.hid (p1_2.out.below hb_3 p1_2.out.lt); have h1_3 := Lib.hid (h1_2.out.below hb_3 (Nat.le_refl _)); have hr_3 := Lib.hid hr; have bel_3 := Lib.hid (bel_2.out.trans (hb_3.mono bel_2.out.size)); clear hb_3 hr))
      | ((go_at_call 78; refine (hA.out _ h1_1.out).mono ?_; rintro e w_2 ⟨rfl, hb_2⟩; have c0_0_2 : w_2.cell? ⟨w.heap.size, 0, none⟩ = some (.bool b) := (p0_1.out.below hb_2 p0_1.out.lt).cell 0; have c0_1_2 : w_2.cell? ⟨w.heap.size, 1, none⟩ = some (.slice A1 k1 c1) := (p0_1.out.below hb_2 p0_1.out.lt).cell 1; have p0_2 := Lib.hid (p0_1.out.below hb_2 p0_1.out.lt); have p1_2 := Lib.hid (p1_1.out.below hb_2 p1_1.out.lt); have h1_2 := Lib.hid (h1_1.out.below hb_2 (Nat.le_refl _)); have bel_2 := Lib.hid (bel_1.out.trans (hb_2.mono bel_1.out.size)); clear hb_2 ))
      | ((go_at_call 30; refine (hS.out _ h1_0.out).mono ?_; rintro e w_1 ⟨rfl, hb_1⟩; have c0_0_1 : w_1.cell? ⟨w.heap.size, 0, none⟩ = some (.bool b) := (p0_0.out.below hb_1 p0_0.out.lt).cell 0; have c0_1_1 : w_1.cell? ⟨w.heap.size, 1, none⟩ = some (.slice A1 k1 c1) := (p0_0.out.below hb_1 p0_0.out.lt).cell 1; have p0_1 := Lib.hid (p0_0.out.below hb_1 p0_0.out.lt); have p1_1 := Lib.hid (p1_0.out.below hb_1 p1_0.out.lt); have h1_1 := Lib.hid (h1_0.out.below hb_1 (Nat.le_refl _)); have bel_1 := Lib.hid (bel_0.out.trans (hb_1.mono bel_0.out.size)); clear hb_1 ))
      | ((fail)))
  all_goals go_wp2
  all_goals
    refine bodyPost_ret (v := .agg #[.bool b, .slice A2 k2 c2]) (by simp [results, Tryz.results73, go_sem, o1_0, o1_1]) rfl ?_
    exact ⟨_, rfl, hr_4.out.box2 p1_4.out (by simp) (by simp), (bel_4.out.setCell (by simp <;> omega) _).setCell (by simp <;> omega) _⟩

set_option maxRecDepth 100000 in
set_option maxHeartbeats 8000000 in
theorem out_any (b : Bool) (v1 v2 : Value) (q : Rat) (w : World) (h : QV w b v1 v2 q) (sq : Short q) :
    Calls Tryz.prog 35 #[.agg #[.bool b, v1, v2]] w fun e w' => ∃ b' vn vd, e = .returned (.agg #[.bool b', vn, vd]) ∧ RQ w' b' vn vd q ∧ Below w.heap.size w w' := by
  obtain ⟨⟨h1, hb⟩, h2⟩ := h
  obtain ⟨sq1, sq2, sq3⟩ := sq
  have hqd := q.den_nz
  obtain ⟨A1, k1, c1, rfl⟩ := h1.slice
  obtain ⟨A2, k2, c2, rfl⟩ := h2.slice
  have p0_0 := Lib.hid (((Blk.mk w (w.heap.size) rfl [.bool b, .slice A1 k1 c1, .slice A2 k2 c2] 40).alloc (.cells #[.bool false, .slice none 0 0, .slice none 0 0] 55)).drew)
  have p1_0 := Lib.hid ((Blk.mk (w.alloc (.cells #[.bool b, .slice A1 k1 c1, .slice A2 k2 c2] 40)) (w.heap.size + 1) (by simp) [.bool false, .slice none 0 0, .slice none 0 0] 55).drew)
  have bel_0 := Lib.hid (show Below w.heap.size w ((w.alloc (.cells #[.bool b, .slice A1 k1 c1, .slice A2 k2 c2] 40)).alloc (.cells #[.bool false, .slice none 0 0, .slice none 0 0] 55)).drew by (repeat (first | assumption | exact Below.refl _ _ | refine Below.drew ?_ | refine Below.setCell ?_ (by simp <;> omega) _ | refine Below.alloc ?_ (by simp <;> omega) _)))
  have h1_0 := Lib.hid (h1.below bel_0.out (Nat.le_refl _))
  have h2_0 := Lib.hid (h2.below bel_0.out (Nat.le_refl _))
  have hN := Lib.hid (fun (wd : World) (ha : NatV wd (.slice A1 k1 c1) q.num.natAbs) (hc : NatV wd (.slice A2 k2 c2) (dn q.den)) => num_any b _ _ _ _ wd ha hc)
  have hI := Lib.hid (fun (wd : World) (ha : NatV wd (.slice A1 k1 c1) q.num.natAbs) => outInt_any b _ q.num wd ha hb (by omega))
  have hD := Lib.hid (fun (wd : World) (ha : NatV wd (.slice A1 k1 c1) q.num.natAbs) (hc : NatV wd (.slice A2 k2 c2) (dn q.den)) => den_any b _ _ _ q.den wd ha hc hqd (by have := bl_small (n := q.den) (by omega); omega))
  have hO := Lib.hid (fun (wd : World) u (ha : NatV wd u q.den) => outNat_any u q.den wd ha (by omega))
  have HB := Lib.hid hb
  clear hb hqd sq1 sq2 sq3
  go_enter Tryz.func35, Tryz.ntmps35
  go_upto_region 1 with fail
  go_region_held3 (fun w' => w'.cell? ⟨w.heap.size, 0, none⟩ = some (.bool b) ∧ w'.cell? ⟨w.heap.size, 1, none⟩ = some (.slice A1 k1 c1) ∧ w'.cell? ⟨w.heap.size, 2, none⟩ = some (.slice A2 k2 c2)) (go_keep)
    (first
      | ((go_at_call 75; refine (hO.out _ _ hr4_3.out).mono ?_; rintro e w_4 ⟨r5, rfl, hr5, hb_4⟩; obtain ⟨A5, k5, c5, rfl⟩ := hr5.slice; have c0_0_4 : w_4.cell? ⟨w.heap.size, 0, none⟩ = some (.bool b) := (p0_3.out.below hb_4 p0_3.out.lt).cell 0; have c0_1_4 : w_4.cell? ⟨w.heap.size, 1, none⟩ = some (.slice A1 k1 c1) := (p0_3.out.below hb_4 p0_3.out.lt).cell 1; have c0_2_4 : w_4.cell? ⟨w.heap.size, 2, none⟩ = some (.slice A2 k2 c2) := (p0_3.out.below hb_4 p0_3.out.lt).cell 2; have p0_4 := Lib.hid (p0_3.out.below hb_4 p0_3.out.lt); have p1_4 := Lib.hid (p1_3.out.below hb_4 p1_3.out.lt); have h1_4 := Lib.hid (h1_3.out.below hb_4 (Nat.le_refl _)); have h2_4 := Lib.hid (h2_3.out.below hb_4 (Nat.le_refl _)); have hr_4 := Lib.hid (hr_3.out.below hb_4 (Nat.le_refl _)); have hr4_4 := Lib.hid (hr4_3.out.below hb_4 (Nat.le_refl _)); have hr5_4 := Lib.hid hr5; have bel_4 := Lib.hid (bel_3.out.trans (hb_4.mono bel_3.out.size)); have o1_0 : w_4.cell? ⟨w.heap.size + 1, 0, none⟩ = some (.bool false) := p1_4.out.cell 0; have z1_0 := p1_4.out.frozen 0; have o1_1 : w_4.cell? ⟨w.heap.size + 1, 1, none⟩ = some (.slice none 0 0) := p1_4.out.cell 1; have z1_1 := p1_4.out.frozen 1; have o1_2 : w_4.cell? ⟨w.heap.size + 1, 2, none⟩ = some (.slice none 0 0) := p1_4.out.cell 2; have z1_2 := p1_4.out.frozen 2; clear hb_4 hr5))
      | ((go_at_call 52; refine (hD.out _ h1_2.out h2_2.out).mono ?_; rintro e w_3 ⟨r4, rfl, hr4, hb_3⟩; obtain ⟨A4, k4, c4, rfl⟩ := hr4.slice; have c0_0_3 : w_3.cell? ⟨w.heap.size, 0, none⟩ = some (.bool b) := (p0_2.out.below hb_3 p0_2.out.lt).cell 0; have c0_1_3 : w_3.cell? ⟨w.heap.size, 1, none⟩ = some (.slice A1 k1 c1) := (p0_2.out.below hb_3 p0_2.out.lt).cell 1; have c0_2_3 : w_3.cell? ⟨w.heap.size, 2, none⟩ = some (.slice A2 k2 c2) := (p0_2.out.below hb_3 p0_2.out.lt).cell 2; have p0_3 := Lib.hid (p0_2.out.below hb_3 p0_2.out.lt); have p1_3 := Lib.hid (p1_2.out.below hb_3 p1_2.out.lt); have h1_3 := Lib.hid (h1_2.out.below hb_3 (Nat.le_refl _)); have h2_3 := Lib.hid (h2_2.out.below hb_3 (Nat.le_refl _)); have hr_3 := Lib.hid (hr_2.out.below hb_3 (Nat.le_refl _)); have hr4_3 := Lib.hid hr4; have bel_3 := Lib.hid (bel_2.out.trans (hb_3.mono bel_2.out.size)); clear hb_3 hr4))
      | ((go_at_call 73; refine (hI.out _ h1_1.out).mono ?_; rintro e w_2 ⟨r, rfl, hr, hb_2⟩; obtain ⟨A3, k3, c3, rfl⟩ := hr.slice; have c0_0_2 : w_2.cell? ⟨w.heap.size, 0, none⟩ = some (.bool b) := (p0_1.out.below hb_2 p0_1.out.lt).cell 0; have c0_1_2 : w_2.cell? ⟨w.heap.size, 1, none⟩ = some (.slice A1 k1 c1) := (p0_1.out.below hb_2 p0_1.out.lt).cell 1; have c0_2_2 : w_2.cell? ⟨w.heap.size, 2, none⟩ = some (.slice A2 k2 c2) := (p0_1.out.below hb_2 p0_1.out.lt).cell 2; have p0_2 := Lib.hid (p0_1.out.below hb_2 p0_1.out.lt); have p1_2 := Lib.hid (p1_1.out.below hb_2 p1_1.out.lt); have h1_2 := Lib.hid (h1_1.out.below hb_2 (Nat.le_refl _)); have h2_2 := Lib.hid (h2_1.out.below hb_2 (Nat.le_refl _)); have hr_2 := Lib.hid hr; have bel_2 := Lib.hid (bel_1.out.trans (hb_2.mono bel_1.out.size)); clear hb_2 hr))
      | ((go_at_call 74; refine (hN.out _ h1_0.out h2_0.out).mono ?_; rintro e w_1 ⟨rfl, hb_1⟩; have c0_0_1 : w_1.cell? ⟨w.heap.size, 0, none⟩ = some (.bool b) := (p0_0.out.below hb_1 p0_0.out.lt).cell 0; have c0_1_1 : w_1.cell? ⟨w.heap.size, 1, none⟩ = some (.slice A1 k1 c1) := (p0_0.out.below hb_1 p0_0.out.lt).cell 1; have c0_2_1 : w_1.cell? ⟨w.heap.size, 2, none⟩ = some (.slice A2 k2 c2) := (p0_0.out.below hb_1 p0_0.out.lt).cell 2; have p0_1 := Lib.hid (p0_0.out.below hb_1 p0_0.out.lt); have p1_1 := Lib.hid (p1_0.out.below hb_1 p1_0.out.lt); have h1_1 := Lib.hid (h1_0.out.below hb_1 (Nat.le_refl _)); have h2_1 := Lib.hid (h2_0.out.below hb_1 (Nat.le_refl _)); have bel_1 := Lib.hid (bel_0.out.trans (hb_1.mono bel_0.out.size)); clear hb_1 ))
      | ((fail)))
  all_goals go_wp2
  all_goals
    refine bodyPost_ret (v := .agg #[.bool b, .slice A3 k3 c3, .slice A5 k5 c5]) (by simp [results, Tryz.results35, go_sem, o1_0, o1_1, o1_2]) rfl ?_
    exact ⟨_, _, _, rfl, ⟨⟨hr_4.out.box3 p1_4.out (by simp) (by simp), HB.out⟩, hr5_4.out.box3 p1_4.out (by simp) (by simp)⟩, Below.set3 bel_4.out (by omega)⟩

end Go.Proofs.YtjfkniknmkcdcaaGreatDoor

namespace Go.Proofs.YtjfkniknmkcdcaaGreatDoor
open Go.RowKit K Nu

theorem cmpN_beq {a b : Nat} : (cmpN a b == 0) = decide (a = b) := by
  unfold cmpN
  by_cases h1 : a < b
  · rw [if_pos h1, decide_eq_false (by omega)]; rfl
  · rw [if_neg h1]
    by_cases h2 : b < a
    · rw [if_pos h2, decide_eq_false (by omega)]; rfl
    · rw [if_neg h2, decide_eq_true (by omega)]; rfl

set_option maxRecDepth 100000 in
set_option maxHeartbeats 8000000 in
theorem same_any (b1 b2 : Bool) (v1 v2 v3 v4 : Value) (p q : Rat) (w : World) (hp : QV w b1 v1 v2 p) (sp : Short p) (hq : RQ w b2 v3 v4 q) (sq : Short q) :
    Calls Tryz.prog 16 #[.agg #[.bool b1, v1, v2], .agg #[.bool b2, v3, v4]] w fun e w' => e = .returned (.bool (decide (p = q))) ∧ Below w.heap.size w w' := by
  obtain ⟨⟨h1, hb1⟩, h2⟩ := hp
  obtain ⟨⟨h3, hb2⟩, h4⟩ := hq
  have hqd := q.den_nz
  have hpd := p.den_nz
  have sp' := sp
  obtain ⟨sp1, sp2, sp3⟩ := sp
  obtain ⟨sq1, sq2, sq3⟩ := sq
  obtain ⟨A1, k1, c1, rfl⟩ := h1.slice
  obtain ⟨A2, k2, c2, rfl⟩ := h2.slice
  obtain ⟨A3, k3, c3, rfl⟩ := h3.slice
  rcases h4.cases (by omega) with ⟨h0, -⟩ | ⟨-, g4, o4, c4, rfl, -, -, -⟩
  · exact absurd h0 hqd
  have p0_0 := Lib.hid (((Blk.mk w (w.heap.size) rfl [.bool b1, .slice A1 k1 c1, .slice A2 k2 c2] 40).alloc (.cells #[.bool b2, .slice A3 k3 c3, .slice (some ⟨g4, o4, none⟩) 1 c4] 55)))
  have p1_0 := Lib.hid ((Blk.mk (w.alloc (.cells #[.bool b1, .slice A1 k1 c1, .slice A2 k2 c2] 40)) (w.heap.size + 1) (by simp) [.bool b2, .slice A3 k3 c3, .slice (some ⟨g4, o4, none⟩) 1 c4] 55))
  have bel_0 := Lib.hid (show Below w.heap.size w ((w.alloc (.cells #[.bool b1, .slice A1 k1 c1, .slice A2 k2 c2] 40)).alloc (.cells #[.bool b2, .slice A3 k3 c3, .slice (some ⟨g4, o4, none⟩) 1 c4] 55)) by (repeat (first | assumption | exact Below.refl _ _ | refine Below.drew ?_ | refine Below.setCell ?_ (by simp <;> omega) _ | refine Below.alloc ?_ (by simp <;> omega) _)))
  have h1_0 := Lib.hid (h1.below bel_0.out (Nat.le_refl _))
  have h2_0 := Lib.hid (h2.below bel_0.out (Nat.le_refl _))
  have h3_0 := Lib.hid (h3.below bel_0.out (Nat.le_refl _))
  have h4_0 := Lib.hid (h4.below bel_0.out (Nat.le_refl _))
  have hO := Lib.hid (fun (wd : World) (ha : NatV wd (.slice A1 k1 c1) p.num.natAbs) (hc : NatV wd (.slice A2 k2 c2) (dn p.den)) => out_any b1 _ _ p wd ⟨⟨ha, hb1⟩, hc⟩ sp')
  have hC1 := fun (wd : World) u (ha : RN wd u p.num.natAbs) (hc : RN wd (.slice A3 k3 c3) q.num.natAbs) => rcmp_any u _ _ _ wd ha hc (by omega) (by omega)
  have hC2 := fun (wd : World) u (ha : RN wd u p.den) (hc : RN wd (.slice (some ⟨g4, o4, none⟩) 1 c4) q.den) => rcmp_any u _ _ _ wd ha hc (by omega) (by omega)
  have t1 := cmpN_beq (a := p.num.natAbs) (b := q.num.natAbs)
  have t2 := cmpN_beq (a := p.den) (b := q.den)
  generalize cmpN p.num.natAbs q.num.natAbs = z1 at *
  generalize cmpN p.den q.den = z2 at *
  replace hC1 := Lib.hid hC1
  replace hC2 := Lib.hid hC2
  obtain ⟨r, hr⟩ : ∃ r, decide (p = q) = r := ⟨_, rfl⟩
  rw [hr]
  have HR := Lib.hid hr
  have HB := Lib.hid hb2
  have T1 := Lib.hid t1
  have T2 := Lib.hid t2
  clear hr hb1 hb2 hqd hpd sp' sp1 sp2 sp3 sq1 sq2 sq3 t1 t2
  go_enter Tryz.func16, Tryz.ntmps16
  go_wp2_with fail
  refine (hO.out _ h1_0.out h2_0.out).mono ?_
  rintro e w_1 ⟨b5, v5, v6, rfl, hq, hb_1⟩
  obtain ⟨A5, k5, c5, A6, k6, c6, rfl, rfl⟩ := hq.slices
  have hq1 := hq.1.1
  have HVS := Lib.hid hq.1.2
  have hq2 := hq.2
  clear hq
  have p0_1 := Lib.hid (p0_0.out.below hb_1 p0_0.out.lt)
  have p1_1 := Lib.hid (p1_0.out.below hb_1 p1_0.out.lt)
  have h1_1 := Lib.hid (h1_0.out.below hb_1 (Nat.le_refl _))
  have h2_1 := Lib.hid (h2_0.out.below hb_1 (Nat.le_refl _))
  have h3_1 := Lib.hid (h3_0.out.below hb_1 (Nat.le_refl _))
  have h4_1 := Lib.hid (h4_0.out.below hb_1 (Nat.le_refl _))
  have hq1_1 := Lib.hid hq1
  have hq2_1 := Lib.hid hq2
  have bel_1 := Lib.hid (bel_0.out.trans (hb_1.mono bel_0.out.size))
  have o1_0 : w_1.cell? ⟨w.heap.size + 1, 0, none⟩ = some (.bool b2) := p1_1.out.cell 0
  have z1_0 := p1_1.out.frozen 0
  have o1_1 : w_1.cell? ⟨w.heap.size + 1, 1, none⟩ = some (.slice A3 k3 c3) := p1_1.out.cell 1
  have z1_1 := p1_1.out.frozen 1
  have o1_2 : w_1.cell? ⟨w.heap.size + 1, 2, none⟩ = some (.slice (some ⟨g4, o4, none⟩) 1 c4) := p1_1.out.cell 2
  have z1_2 := p1_1.out.frozen 2
  clear hb_1 hq1 hq2
  have hg_2 : Below w_1.heap.size w_1 (w_1.alloc (.cells #[.bool b5, .slice A5 k5 c5, .slice A6 k6 c6] 55)) := by (repeat (first | assumption | exact Below.refl _ _ | refine Below.drew ?_ | refine Below.setCell ?_ (by simp <;> omega) _ | refine Below.alloc ?_ (by simp <;> omega) _))
  have p0_2 := Lib.hid (p0_1.out.below hg_2 p0_1.out.lt)
  have p1_2 := Lib.hid (p1_1.out.below hg_2 p1_1.out.lt)
  have h1_2 := Lib.hid (h1_1.out.below hg_2 (Nat.le_refl _))
  have h2_2 := Lib.hid (h2_1.out.below hg_2 (Nat.le_refl _))
  have h3_2 := Lib.hid (h3_1.out.below hg_2 (Nat.le_refl _))
  have h4_2 := Lib.hid (h4_1.out.below hg_2 (Nat.le_refl _))
  have hq1_2 := Lib.hid (hq1_1.out.below hg_2 (Nat.le_refl _))
  have hq2_2 := Lib.hid (hq2_1.out.below hg_2 (Nat.le_refl _))
  have bel_2 := Lib.hid (bel_1.out.trans (hg_2.mono bel_1.out.size))
  have o1_0 : (w_1.alloc (.cells #[.bool b5, .slice A5 k5 c5, .slice A6 k6 c6] 55)).cell? ⟨w.heap.size + 1, 0, none⟩ = some (.bool b2) := p1_2.out.cell 0
  have z1_0 := p1_2.out.frozen 0
  have o1_1 : (w_1.alloc (.cells #[.bool b5, .slice A5 k5 c5, .slice A6 k6 c6] 55)).cell? ⟨w.heap.size + 1, 1, none⟩ = some (.slice A3 k3 c3) := p1_2.out.cell 1
  have z1_1 := p1_2.out.frozen 1
  have o1_2 : (w_1.alloc (.cells #[.bool b5, .slice A5 k5 c5, .slice A6 k6 c6] 55)).cell? ⟨w.heap.size + 1, 2, none⟩ = some (.slice (some ⟨g4, o4, none⟩) 1 c4) := p1_2.out.cell 2
  have z1_2 := p1_2.out.frozen 2
  clear hg_2
  have lw : w.heap.size + 1 < w_1.heap.size := p1_1.out.lt
  have P2_2 := Lib.hid (show Blk (w_1.alloc (.cells #[.bool b5, .slice A5 k5 c5, .slice A6 k6 c6] 55)) w_1.heap.size [.bool b5, .slice A5 k5 c5, .slice A6 k6 c6] 55 from Blk.new w_1 _ _)
  have nx0 : ¬ w_1.heap.size = w.heap.size := ne_hi 0 lw (by decide)
  have xn0 : ¬ w.heap.size = w_1.heap.size := ne_lo 0 lw (by decide)
  have nx1 : ¬ w_1.heap.size = w.heap.size + 1 := ne_hi 1 lw (by decide)
  have xn1 : ¬ w.heap.size + 1 = w_1.heap.size := ne_lo 1 lw (by decide)
  have p2_2 := P2_2
  clear P2_2
  go_wp2_with fail
  refine (hC1.out _ _ hq1_2.out h3_2.out).mono ?_
  rintro e w_3 ⟨rfl, hb_3⟩
  have p0_3 := Lib.hid (p0_2.out.below hb_3 p0_2.out.lt)
  have p1_3 := Lib.hid (p1_2.out.below hb_3 p1_2.out.lt)
  have p2_3 := Lib.hid (p2_2.out.below hb_3 p2_2.out.lt)
  have h1_3 := Lib.hid (h1_2.out.below hb_3 (Nat.le_refl _))
  have h2_3 := Lib.hid (h2_2.out.below hb_3 (Nat.le_refl _))
  have h3_3 := Lib.hid (h3_2.out.below hb_3 (Nat.le_refl _))
  have h4_3 := Lib.hid (h4_2.out.below hb_3 (Nat.le_refl _))
  have hq1_3 := Lib.hid (hq1_2.out.below hb_3 (Nat.le_refl _))
  have hq2_3 := Lib.hid (hq2_2.out.below hb_3 (Nat.le_refl _))
  have bel_3 := Lib.hid (bel_2.out.trans (hb_3.mono bel_2.out.size))
  have o1_0 : w_3.cell? ⟨w.heap.size + 1, 0, none⟩ = some (.bool b2) := p1_3.out.cell 0
  have z1_0 := p1_3.out.frozen 0
  have o1_1 : w_3.cell? ⟨w.heap.size + 1, 1, none⟩ = some (.slice A3 k3 c3) := p1_3.out.cell 1
  have z1_1 := p1_3.out.frozen 1
  have o1_2 : w_3.cell? ⟨w.heap.size + 1, 2, none⟩ = some (.slice (some ⟨g4, o4, none⟩) 1 c4) := p1_3.out.cell 2
  have z1_2 := p1_3.out.frozen 2
  have o2_0 : w_3.cell? ⟨w_1.heap.size, 0, none⟩ = some (.bool b5) := p2_3.out.cell 0
  have z2_0 := p2_3.out.frozen 0
  have o2_1 : w_3.cell? ⟨w_1.heap.size, 1, none⟩ = some (.slice A5 k5 c5) := p2_3.out.cell 1
  have z2_1 := p2_3.out.frozen 1
  have o2_2 : w_3.cell? ⟨w_1.heap.size, 2, none⟩ = some (.slice A6 k6 c6) := p2_3.out.cell 2
  have z2_2 := p2_3.out.frozen 2
  clear hb_3 
  by_cases he : p.num.natAbs = q.num.natAbs
  · have t1 : (z1 == 0) = true := by rw [T1.out, decide_eq_true he]
    by_cases hs : b5 = b2
    · have t3 : (b5 == b2) = true := by rw [hs]; simp
      have hnum : p.num = q.num := by
        have e1 := HVS.out
        have e2 := HB.out
        rw [← hs, e1] at e2
        by_cases h7 : p.num < 0
        · rw [decide_eq_true h7] at e2
          have := of_decide_eq_true e2.symm
          omega
        · rw [decide_eq_false h7] at e2
          have := of_decide_eq_false e2.symm
          omega
      have HN := Lib.hid hnum
      clear he hnum hs
      go_wp2_with fail
      refine (hC2.out _ _ hq2_3.out h4_3.out).mono ?_
      rintro e w_4 ⟨rfl, hb_4⟩
      have p0_4 := Lib.hid (p0_3.out.below hb_4 p0_3.out.lt)
      have p1_4 := Lib.hid (p1_3.out.below hb_4 p1_3.out.lt)
      have p2_4 := Lib.hid (p2_3.out.below hb_4 p2_3.out.lt)
      have h1_4 := Lib.hid (h1_3.out.below hb_4 (Nat.le_refl _))
      have h2_4 := Lib.hid (h2_3.out.below hb_4 (Nat.le_refl _))
      have h3_4 := Lib.hid (h3_3.out.below hb_4 (Nat.le_refl _))
      have h4_4 := Lib.hid (h4_3.out.below hb_4 (Nat.le_refl _))
      have hq1_4 := Lib.hid (hq1_3.out.below hb_4 (Nat.le_refl _))
      have hq2_4 := Lib.hid (hq2_3.out.below hb_4 (Nat.le_refl _))
      have bel_4 := Lib.hid (bel_3.out.trans (hb_4.mono bel_3.out.size))
      have o1_0 : w_4.cell? ⟨w.heap.size + 1, 0, none⟩ = some (.bool b2) := p1_4.out.cell 0
      have z1_0 := p1_4.out.frozen 0
      have o1_1 : w_4.cell? ⟨w.heap.size + 1, 1, none⟩ = some (.slice A3 k3 c3) := p1_4.out.cell 1
      have z1_1 := p1_4.out.frozen 1
      have o1_2 : w_4.cell? ⟨w.heap.size + 1, 2, none⟩ = some (.slice (some ⟨g4, o4, none⟩) 1 c4) := p1_4.out.cell 2
      have z1_2 := p1_4.out.frozen 2
      have o2_0 : w_4.cell? ⟨w_1.heap.size, 0, none⟩ = some (.bool b5) := p2_4.out.cell 0
      have z2_0 := p2_4.out.frozen 0
      have o2_1 : w_4.cell? ⟨w_1.heap.size, 1, none⟩ = some (.slice A5 k5 c5) := p2_4.out.cell 1
      have z2_1 := p2_4.out.frozen 1
      have o2_2 : w_4.cell? ⟨w_1.heap.size, 2, none⟩ = some (.slice A6 k6 c6) := p2_4.out.cell 2
      have z2_2 := p2_4.out.frozen 2
      clear hb_4 
      have hz : (z2 == 0) = r := by
        rw [T2.out, ← HR.out]
        by_cases h8 : p.den = q.den
        · rw [decide_eq_true h8, decide_eq_true (Rat.ext HN.out h8)]
        · rw [decide_eq_false h8, decide_eq_false (fun h9 => h8 (by rw [h9]))]
      go_wp2_with fail
      go_ret
      exact ⟨rfl, bel_4.out⟩
    · have t3 : (b5 == b2) = false := by simpa using hs
      have HZ := Lib.hid (show r = false by rw [← HR.out]; exact decide_eq_false (fun h9 => hs (by rw [HVS.out, HB.out, h9])))
      clear hs he
      go_wp2_with fail
      go_ret
      rw [HZ.out]
      exact ⟨rfl, bel_3.out⟩
  · have t1 : (z1 == 0) = false := by rw [T1.out, decide_eq_false he]
    have HZ := Lib.hid (show r = false by rw [← HR.out]; exact decide_eq_false (fun h9 => he (by rw [h9])))
    clear he
    go_wp2_with fail
    go_ret
    rw [HZ.out]
    exact ⟨rfl, bel_3.out⟩

set_option maxRecDepth 100000 in
set_option maxHeartbeats 8000000 in
theorem is_any (b : Bool) (v1 v2 : Value) (q : Rat) (n : Int) (d : Nat) (w : World) (h : QV w b v1 v2 q) (sq : Short q) (sn : Short (mkRat n d)) (h0 : -2147483648 < n) (h1' : n < 2147483648) (hd : d ≠ 0) (hd1 : d < 2147483648) :
    Calls Tryz.prog 29 #[.agg #[.bool b, v1, v2], .int .i64 n, .int .i64 (d : Int)] w fun e w' => e = .returned (.bool (decide (q = mkRat n d))) ∧ Below w.heap.size w w' := by
  obtain ⟨⟨h1, hb⟩, h2⟩ := h
  obtain ⟨A1, k1, c1, rfl⟩ := h1.slice
  obtain ⟨A2, k2, c2, rfl⟩ := h2.slice
  have p0_0 := Lib.hid ((Blk.mk w (w.heap.size) rfl [.bool b, .slice A1 k1 c1, .slice A2 k2 c2] 40).drew)
  have bel_0 := Lib.hid (show Below w.heap.size w (w.alloc (.cells #[.bool b, .slice A1 k1 c1, .slice A2 k2 c2] 40)).drew by (repeat (first | assumption | exact Below.refl _ _ | refine Below.drew ?_ | refine Below.setCell ?_ (by simp <;> omega) _ | refine Below.alloc ?_ (by simp <;> omega) _)))
  have h1_0 := Lib.hid (h1.below bel_0.out (Nat.le_refl _))
  have h2_0 := Lib.hid (h2.below bel_0.out (Nat.le_refl _))
  have hO := Lib.hid (fun wd => rover_any n d wd (by omega) (by omega) hd (by omega))
  have hS := Lib.hid (fun (wd : World) b3 u v (ha : NatV wd (.slice A1 k1 c1) q.num.natAbs) (hc : NatV wd (.slice A2 k2 c2) (dn q.den)) (h5 : RN wd u (mkRat n d).num.natAbs) (h6 : b3 = decide ((mkRat n d).num < 0)) (h7 : RN wd v (mkRat n d).den) => same_any b b3 _ _ u v q _ wd ⟨⟨ha, hb⟩, hc⟩ sq ⟨⟨h5, h6⟩, h7⟩ sn)
  clear hb sq sn hd hd1 h0 h1'
  go_enter Tryz.func29, Tryz.ntmps29
  go_upto_region 1 with fail
  go_region_held3 (fun w' => w'.cell? ⟨w.heap.size, 0, none⟩ = some (.bool b) ∧ w'.cell? ⟨w.heap.size, 1, none⟩ = some (.slice A1 k1 c1) ∧ w'.cell? ⟨w.heap.size, 2, none⟩ = some (.slice A2 k2 c2)) (go_keep)
    (first
      | ((go_at_call 16; refine (hS.out _ _ _ _ h1_1.out h2_1.out hq1_1.out HVS.out hq2_1.out).mono ?_; rintro e w_2 ⟨rfl, hb_2⟩; have c0_0_2 : w_2.cell? ⟨w.heap.size, 0, none⟩ = some (.bool b) := (p0_1.out.below hb_2 p0_1.out.lt).cell 0; have c0_1_2 : w_2.cell? ⟨w.heap.size, 1, none⟩ = some (.slice A1 k1 c1) := (p0_1.out.below hb_2 p0_1.out.lt).cell 1; have c0_2_2 : w_2.cell? ⟨w.heap.size, 2, none⟩ = some (.slice A2 k2 c2) := (p0_1.out.below hb_2 p0_1.out.lt).cell 2; have p0_2 := Lib.hid (p0_1.out.below hb_2 p0_1.out.lt); have h1_2 := Lib.hid (h1_1.out.below hb_2 (Nat.le_refl _)); have h2_2 := Lib.hid (h2_1.out.below hb_2 (Nat.le_refl _)); have hq1_2 := Lib.hid (hq1_1.out.below hb_2 (Nat.le_refl _)); have hq2_2 := Lib.hid (hq2_1.out.below hb_2 (Nat.le_refl _)); have bel_2 := Lib.hid (bel_1.out.trans (hb_2.mono bel_1.out.size)); clear hb_2 ))
      | ((go_at_call 67; refine (hO.out _).mono ?_; rintro e w_1 ⟨b3, v3, v4, rfl, hq, hb_1⟩; obtain ⟨A3, k3, c3, A4, k4, c4, rfl, rfl⟩ := hq.slices; have hq1 := hq.1.1; have HVS := Lib.hid hq.1.2; have hq2 := hq.2; clear hq; have c0_0_1 : w_1.cell? ⟨w.heap.size, 0, none⟩ = some (.bool b) := (p0_0.out.below hb_1 p0_0.out.lt).cell 0; have c0_1_1 : w_1.cell? ⟨w.heap.size, 1, none⟩ = some (.slice A1 k1 c1) := (p0_0.out.below hb_1 p0_0.out.lt).cell 1; have c0_2_1 : w_1.cell? ⟨w.heap.size, 2, none⟩ = some (.slice A2 k2 c2) := (p0_0.out.below hb_1 p0_0.out.lt).cell 2; have p0_1 := Lib.hid (p0_0.out.below hb_1 p0_0.out.lt); have h1_1 := Lib.hid (h1_0.out.below hb_1 (Nat.le_refl _)); have h2_1 := Lib.hid (h2_0.out.below hb_1 (Nat.le_refl _)); have hq1_1 := Lib.hid hq1; have hq2_1 := Lib.hid hq2; have bel_1 := Lib.hid (bel_0.out.trans (hb_1.mono bel_0.out.size)); clear hb_1 hq1 hq2))
      | ((fail)))
  all_goals go_wp2
  all_goals go_ret
  all_goals exact ⟨rfl, bel_2.out⟩

set_option maxRecDepth 100000 in
set_option maxHeartbeats 8000000 in
theorem sameRow_any (v1 v2 : Value) (ps qs : List Rat) (w : World) (h1 : Row3 QV w v1 ps) (h2 : Row3 RQ w v2 qs) (sp : ∀ p, p ∈ ps → Short p) (sq : ∀ q, q ∈ qs → Short q) (hlen : ps.length = qs.length) :
    Calls Tryz.prog 14 #[v1, v2] w fun e w' => e = .returned (.bool (decide (ps = qs))) ∧ Below w.heap.size w w' := by
  obtain ⟨B1, c1, rfl, hlc1, hcm1, hat1⟩ := h1.at
  obtain ⟨B2, c2, rfl, hlc2, hcm2, hat2⟩ := h2.at
  obtain ⟨L, hL⟩ : ∃ L, ps.length = L := ⟨_, rfl⟩
  have hL2 : qs.length = L := by rw [← hlen, hL]
  rw [hL] at hlc1 hat1 ⊢
  rw [hL2] at hlc2 hat2 ⊢
  unfold maxLen at hcm1 hcm2
  have HL := Lib.hid (And.intro hL hL2)
  clear hL hL2 hlen
  obtain ⟨r, hr⟩ : ∃ r, decide (ps = qs) = r := ⟨_, rfl⟩
  rw [hr]
  have HR := Lib.hid hr
  clear hr
  go_enter Tryz.func14, Tryz.ntmps14
  go_wp2
  go_loopw [5] (fun i wr => ∃ k : Nat, k ≤ L ∧ i = .int .i64 k ∧ Hid (∀ t, t < k → ps.getD t 0 = qs.getD t 0) ∧ Below w.heap.size w wr) (fun i _ => L - (intOf i).toNat)
  case atStart => exact ⟨0, by omega, rfl, Lib.hid (by simp), Below.refl _ _⟩
  case round =>
    obtain ⟨k, hk, rfl, heq, hbel⟩ := hrel
    by_cases hlt : k < L
    · obtain ⟨g1, o1, x1, u1, u2, rfl, hg1, y0, y1, y2, hQ1⟩ := hat1 k hlt
      obtain ⟨g2, o2, x2, u3, u4, rfl, hg2, y3, y4, y5, hQ2⟩ := hat2 k hlt
      replace y0 := (hbel.cell (p := ⟨g1, o1 + k * 3, none⟩) hg1).trans y0
      replace y1 := (hbel.cell (p := ⟨g1, o1 + k * 3 + 1, none⟩) hg1).trans y1
      replace y2 := (hbel.cell (p := ⟨g1, o1 + k * 3 + 2, none⟩) hg1).trans y2
      replace y3 := (hbel.cell (p := ⟨g2, o2 + k * 3, none⟩) hg2).trans y3
      replace y4 := (hbel.cell (p := ⟨g2, o2 + k * 3 + 1, none⟩) hg2).trans y4
      replace y5 := (hbel.cell (p := ⟨g2, o2 + k * 3 + 2, none⟩) hg2).trans y5
      have hl1 : k < ps.length := by rw [HL.out.1]; exact hlt
      have hl2 : k < qs.length := by rw [HL.out.2]; exact hlt
      have hS := fun (wd : World) (hb : Below wr.heap.size wr wd) => same_any x1 x2 u1 u2 u3 u4 (ps.getD k 0) (qs.getD k 0) wd ((hQ1.below hbel (Nat.le_refl _)).below hb (Nat.le_refl _)) (sp _ (getD_mem' hl1)) ((hQ2.below hbel (Nat.le_refl _)).below hb (Nat.le_refl _)) (sq _ (getD_mem' hl2))
      have hg1' : g1 < wr.heap.size := Nat.lt_of_lt_of_le hg1 hbel.size
      have hg2' : g2 < wr.heap.size := Nat.lt_of_lt_of_le hg2 hbel.size
      clear hQ1 hQ2 hl1 hl2
      obtain ⟨d, hd⟩ : ∃ d, decide (ps.getD k 0 = qs.getD k 0) = d := ⟨_, rfl⟩
      rw [hd] at hS
      replace hS := Lib.hid hS
      have HD := Lib.hid hd
      clear hd
      go_upto_region 7 with fail
      go_region_held3 (fun w' => w'.cell? ⟨g1, o1 + k * 3, none⟩ = some (Value.bool x1) ∧ w'.cell? ⟨g1, o1 + k * 3 + 1, none⟩ = some (u1) ∧ w'.cell? ⟨g1, o1 + k * 3 + 2, none⟩ = some (u2) ∧ w'.cell? ⟨g2, o2 + k * 3, none⟩ = some (Value.bool x2) ∧ w'.cell? ⟨g2, o2 + k * 3 + 1, none⟩ = some (u3) ∧ w'.cell? ⟨g2, o2 + k * 3 + 2, none⟩ = some (u4)) (go_keep)
        (first
          | ((go_at_call 16; refine (hS.out _ ((Below.refl _ _).drew)).mono ?_; rintro e w1 ⟨rfl, hb1⟩; have a0 : w1.cell? ⟨g1, o1 + k * 3, none⟩ = some (Value.bool x1) := (hb1.cell (p := ⟨g1, o1 + k * 3, none⟩) hg1').trans y0; have a1 : w1.cell? ⟨g1, o1 + k * 3 + 1, none⟩ = some (u1) := (hb1.cell (p := ⟨g1, o1 + k * 3 + 1, none⟩) hg1').trans y1; have a2 : w1.cell? ⟨g1, o1 + k * 3 + 2, none⟩ = some (u2) := (hb1.cell (p := ⟨g1, o1 + k * 3 + 2, none⟩) hg1').trans y2; have a3 : w1.cell? ⟨g2, o2 + k * 3, none⟩ = some (Value.bool x2) := (hb1.cell (p := ⟨g2, o2 + k * 3, none⟩) hg2').trans y3; have a4 : w1.cell? ⟨g2, o2 + k * 3 + 1, none⟩ = some (u3) := (hb1.cell (p := ⟨g2, o2 + k * 3 + 1, none⟩) hg2').trans y4; have a5 : w1.cell? ⟨g2, o2 + k * 3 + 2, none⟩ = some (u4) := (hb1.cell (p := ⟨g2, o2 + k * 3 + 2, none⟩) hg2').trans y5; have hbel1 := hbel.trans (((Below.refl wr.heap.size wr).drew.trans hb1).mono hbel.size)))
          | ((fail)))
      all_goals cases d
      · have HZ := Lib.hid (show r = false by
          rw [← HR.out]; refine decide_eq_false (fun h9 => of_decide_eq_false HD.out (by rw [h9])))
        go_wp2
        go_ret
        rw [HZ.out]
        exact ⟨rfl, hbel1⟩
      · go_wp2
        go_roundw
        case rel =>
          refine ⟨k + 1, by omega, by go_num, Lib.hid (fun t ht => ?_), hbel1⟩
          by_cases e : t = k
          · subst e; exact of_decide_eq_true HD.out
          · exact heq.out t (by omega)
        case measure => simp [intOf]; omega
    · obtain rfl : k = L := by omega
      have HZ := Lib.hid (show r = true by
        rw [← HR.out]; refine decide_eq_true (List.ext_getElem (by rw [HL.out.1, HL.out.2]) fun i h3 h4 => ?_)
        have := heq.out i (by rw [HL.out.1] at h3; exact h3)
        rw [List.getD_eq_getElem?_getD, List.getD_eq_getElem?_getD, List.getElem?_eq_getElem h3, List.getElem?_eq_getElem h4] at this
        simpa using this)
      go_wp2
      go_ret
      rw [HZ.out]
      exact ⟨rfl, hbel⟩

end Go.Proofs.YtjfkniknmkcdcaaGreatDoor
