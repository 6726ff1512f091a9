/- Texts of this claim, joined: Rh, Ri. -/
import Derived.Test.YtjfkniknmkcdcaaGreatDoorMRf
import Derived.Test.YtjfkniknmkcdcaaGreatDoorMRg
import Derived.Test.YtjfkniknmkcdcaaGreatDoorMQd
namespace Go.Proofs.YtjfkniknmkcdcaaGreatDoor
open Go.RowKit K Nu

theorem sg_neg {z : Int} : ((!decide (z < 0)) && decide (z.natAbs ≠ 0)) = decide (-z < 0) := by
  by_cases h : z < 0
  · simp [h]; omega
  · by_cases h2 : z = 0
    · subst h2; rfl
    · have h3 : -z < 0 := by omega
      have h4 : z.natAbs ≠ 0 := by omega
      rw [decide_eq_false h, decide_eq_true h4, decide_eq_true h3]; rfl
theorem sg_of {z : Int} {b : Bool} (h : z ≠ 0 → b = decide (z < 0)) : (b && decide (z.natAbs ≠ 0)) = decide (z < 0) := by
  by_cases h2 : z = 0
  · subst h2; simp
  · have h4 : z.natAbs ≠ 0 := by omega
    rw [h h2, decide_eq_true h4, Bool.and_true]

set_option maxRecDepth 100000 in
set_option maxHeartbeats 8000000 in
theorem ineg_any (b : Bool) (v : Value) (z : Int) (w : World) (h1 : RN w v z.natAbs) (hb : b = decide (z < 0)) (hz : z.natAbs < 4294967296) :
    Calls Tryz.prog 103 #[.agg #[.bool b, v]] w fun e w' => e = .returned (.agg #[.bool (decide (-z < 0)), v]) ∧ RN w' v z.natAbs ∧ Below w.heap.size w w' := by
  obtain ⟨A1, k1, c1, rfl⟩ := h1.slice
  have p0_0 := Lib.hid (((Blk.mk w (w.heap.size) rfl [.bool b, .slice A1 k1 c1] 53).alloc (.cells #[.bool false, .slice none 0 0] 53)))
  have p1_0 := Lib.hid ((Blk.mk (w.alloc (.cells #[.bool b, .slice A1 k1 c1] 53)) (w.heap.size + 1) (by simp) [.bool false, .slice none 0 0] 53))
  have bel_0 := Lib.hid (show Below w.heap.size w ((w.alloc (.cells #[.bool b, .slice A1 k1 c1] 53)).alloc (.cells #[.bool false, .slice none 0 0] 53)) by (repeat (first | assumption | exact Below.refl _ _ | refine Below.drew ?_ | refine Below.setCell ?_ (by simp <;> omega) _ | refine Below.alloc ?_ (by simp <;> omega) _)))
  have h1_0 := Lib.hid (h1.below bel_0.out (Nat.le_refl _))
  have hI := fun (wd : World) (ha : RN wd (.slice A1 k1 c1) z.natAbs) => i_any (!b) _ z.natAbs wd ha hz
  have hs : ((!b) && decide (z.natAbs ≠ 0)) = decide (-z < 0) := by rw [hb]; exact sg_neg
  rw [hs] at hI
  obtain ⟨sg, hsg⟩ : ∃ sg, decide (-z < 0) = sg := ⟨_, rfl⟩
  rw [hsg] at hI ⊢
  replace hI := Lib.hid hI
  clear hs hsg hb hz
  go_enter Tryz.func103, Tryz.ntmps103
  go_wp2_with fail
  refine (hI.out _ h1_0.out).mono ?_
  rintro e w_1 ⟨rfl, hb_1⟩
  have p0_1 := Lib.hid (p0_0.out.below hb_1 p0_0.out.lt)
  have p1_1 := Lib.hid (p1_0.out.below hb_1 p1_0.out.lt)
  have h1_1 := Lib.hid (h1_0.out.below hb_1 (Nat.le_refl _))
  have bel_1 := Lib.hid (bel_0.out.trans (hb_1.mono bel_0.out.size))
  have o1_0 : w_1.cell? ⟨w.heap.size + 1, 0, none⟩ = some (.bool false) := p1_1.out.cell 0
  have z1_0 := p1_1.out.frozen 0
  have o1_1 : w_1.cell? ⟨w.heap.size + 1, 1, none⟩ = some (.slice none 0 0) := p1_1.out.cell 1
  have z1_1 := p1_1.out.frozen 1
  clear hb_1 
  go_wp2_with fail
  refine bodyPost_ret (v := .agg #[.bool sg, .slice A1 k1 c1]) (by simp [results, Tryz.results103, go_sem, o1_0, o1_1]) rfl ?_
  exact ⟨rfl, h1_1.out.box2 p1_1.out (by simp) (by simp), (bel_1.out.setCell (by simp <;> omega) _).setCell (by simp <;> omega) _⟩

set_option maxRecDepth 100000 in
set_option maxHeartbeats 8000000 in
theorem imul_any (b1 b2 : Bool) (v1 v2 : Value) (x y : Int) (w : World) (h1 : RN w v1 x.natAbs) (hb1 : b1 = decide (x < 0)) (h2 : RN w v2 y.natAbs) (hb2 : b2 = decide (y < 0)) (hx : x.natAbs < 4294967296) (hy : y.natAbs < 4294967296) (hxy : x.natAbs * y.natAbs < 4294967296) :
    Calls Tryz.prog 44 #[.agg #[.bool b1, v1], .agg #[.bool b2, v2]] w fun e w' => ∃ r, e = .returned (.agg #[.bool (decide (x * y < 0)), r]) ∧ RN w' r (x * y).natAbs ∧ Below w.heap.size w w' := by
  obtain ⟨A1, k1, c1, rfl⟩ := h1.slice
  obtain ⟨A2, k2, c2, rfl⟩ := h2.slice
  have p0_0 := Lib.hid ((((Blk.mk w (w.heap.size) rfl [.bool b1, .slice A1 k1 c1] 53).alloc (.cells #[.bool b2, .slice A2 k2 c2] 53)).alloc (.cells #[.bool false, .slice none 0 0] 53)).drew)
  have p1_0 := Lib.hid (((Blk.mk (w.alloc (.cells #[.bool b1, .slice A1 k1 c1] 53)) (w.heap.size + 1) (by simp) [.bool b2, .slice A2 k2 c2] 53).alloc (.cells #[.bool false, .slice none 0 0] 53)).drew)
  have p2_0 := Lib.hid ((Blk.mk ((w.alloc (.cells #[.bool b1, .slice A1 k1 c1] 53)).alloc (.cells #[.bool b2, .slice A2 k2 c2] 53)) (w.heap.size + 2) (by simp) [.bool false, .slice none 0 0] 53).drew)
  have bel_0 := Lib.hid (show Below w.heap.size w (((w.alloc (.cells #[.bool b1, .slice A1 k1 c1] 53)).alloc (.cells #[.bool b2, .slice A2 k2 c2] 53)).alloc (.cells #[.bool false, .slice none 0 0] 53)).drew by (repeat (first | assumption | exact Below.refl _ _ | refine Below.drew ?_ | refine Below.setCell ?_ (by simp <;> omega) _ | refine Below.alloc ?_ (by simp <;> omega) _)))
  have ne2 : ¬ w.heap.size + 1 + 1 = w.heap.size := by omega
  have en2 : ¬ w.heap.size = w.heap.size + 1 + 1 := by omega
  have h1_0 := Lib.hid (h1.below bel_0.out (Nat.le_refl _))
  have h2_0 := Lib.hid (h2.below bel_0.out (Nat.le_refl _))
  have hM := Lib.hid (fun (wd : World) (ha : RN wd (.slice A1 k1 c1) x.natAbs) (hc : RN wd (.slice A2 k2 c2) y.natAbs) => natMul_any _ _ _ _ wd ha hc hx hy)
  have hI := fun (wd : World) u (ha : RN wd u (x.natAbs * y.natAbs)) => i_any (b1 != b2) u _ wd ha hxy
  have e1 : x.natAbs * y.natAbs = (x * y).natAbs := (Int.natAbs_mul x y).symm
  have hs : ((b1 != b2) && decide ((x * y).natAbs ≠ 0)) = decide (x * y < 0) := sg_of (fun h0 => by
    have hx0 : x ≠ 0 := fun h => h0 (by rw [h, Int.zero_mul])
    have hy0 : y ≠ 0 := fun h => h0 (by rw [h, Int.mul_zero])
    rw [hb1, hb2]
    by_cases h3 : x < 0 <;> by_cases h4 : y < 0
    · have := Int.mul_pos_of_neg_of_neg h3 h4; simp [h3, h4]; omega
    · have := Int.mul_neg_of_neg_of_pos h3 (show 0 < y by omega); simp [h3, h4, this]
    · have := Int.mul_neg_of_pos_of_neg (show 0 < x by omega) h4; simp [h3, h4, this]
    · have := Int.mul_pos (show 0 < x by omega) (show 0 < y by omega); simp [h3, h4]; omega)
  rw [e1] at hI
  rw [hs] at hI
  have HE := Lib.hid e1
  obtain ⟨sg, hsg⟩ : ∃ sg, decide (x * y < 0) = sg := ⟨_, rfl⟩
  rw [hsg] at hI ⊢
  replace hI := Lib.hid hI
  rw [e1] at hM
  clear hs hsg hb1 hb2 hx hy hxy e1
  go_enter Tryz.func44, Tryz.ntmps44
  go_upto_region 1 with fail
  go_region_held3 (fun w' => w'.cell? ⟨w.heap.size, 0, none⟩ = some (.bool b1) ∧ w'.cell? ⟨w.heap.size, 1, none⟩ = some (.slice A1 k1 c1) ∧ w'.cell? ⟨w.heap.size + 1, 0, none⟩ = some (.bool b2) ∧ w'.cell? ⟨w.heap.size + 1, 1, none⟩ = some (.slice A2 k2 c2)) (go_keep)
    (first
      | ((go_at_call 46; refine (hI.out _ _ hr_1.out).mono ?_; rintro e w_2 ⟨rfl, hb_2⟩; have c0_0_2 : w_2.cell? ⟨w.heap.size, 0, none⟩ = some (.bool b1) := (p0_1.out.below hb_2 p0_1.out.lt).cell 0; have c0_1_2 : w_2.cell? ⟨w.heap.size, 1, none⟩ = some (.slice A1 k1 c1) := (p0_1.out.below hb_2 p0_1.out.lt).cell 1; have c1_0_2 : w_2.cell? ⟨w.heap.size + 1, 0, none⟩ = some (.bool b2) := (p1_1.out.below hb_2 p1_1.out.lt).cell 0; have c1_1_2 : w_2.cell? ⟨w.heap.size + 1, 1, none⟩ = some (.slice A2 k2 c2) := (p1_1.out.below hb_2 p1_1.out.lt).cell 1; have p0_2 := Lib.hid (p0_1.out.below hb_2 p0_1.out.lt); have p1_2 := Lib.hid (p1_1.out.below hb_2 p1_1.out.lt); have p2_2 := Lib.hid (p2_1.out.below hb_2 p2_1.out.lt); have h1_2 := Lib.hid (h1_1.out.below hb_2 (Nat.le_refl _)); have h2_2 := Lib.hid (h2_1.out.below hb_2 (Nat.le_refl _)); have hr_2 := Lib.hid (hr_1.out.below hb_2 (Nat.le_refl _)); have bel_2 := Lib.hid (bel_1.out.trans (hb_2.mono bel_1.out.size)); have o2_0 : w_2.cell? ⟨w.heap.size + 2, 0, none⟩ = some (.bool false) := p2_2.out.cell 0; have z2_0 := p2_2.out.frozen 0; have o2_1 : w_2.cell? ⟨w.heap.size + 2, 1, none⟩ = some (.slice none 0 0) := p2_2.out.cell 1; have z2_1 := p2_2.out.frozen 1; clear hb_2 ))
      | ((go_at_call 47; refine (hM.out _ h1_0.out h2_0.out).mono ?_; rintro e w_1 ⟨r, rfl, hr, hb_1⟩; obtain ⟨A3, k3, c3, rfl⟩ := hr.slice; have c0_0_1 : w_1.cell? ⟨w.heap.size, 0, none⟩ = some (.bool b1) := (p0_0.out.below hb_1 p0_0.out.lt).cell 0; have c0_1_1 : w_1.cell? ⟨w.heap.size, 1, none⟩ = some (.slice A1 k1 c1) := (p0_0.out.below hb_1 p0_0.out.lt).cell 1; have c1_0_1 : w_1.cell? ⟨w.heap.size + 1, 0, none⟩ = some (.bool b2) := (p1_0.out.below hb_1 p1_0.out.lt).cell 0; have c1_1_1 : w_1.cell? ⟨w.heap.size + 1, 1, none⟩ = some (.slice A2 k2 c2) := (p1_0.out.below hb_1 p1_0.out.lt).cell 1; have p0_1 := Lib.hid (p0_0.out.below hb_1 p0_0.out.lt); have p1_1 := Lib.hid (p1_0.out.below hb_1 p1_0.out.lt); have p2_1 := Lib.hid (p2_0.out.below hb_1 p2_0.out.lt); have h1_1 := Lib.hid (h1_0.out.below hb_1 (Nat.le_refl _)); have h2_1 := Lib.hid (h2_0.out.below hb_1 (Nat.le_refl _)); have hr_1 := Lib.hid hr; have bel_1 := Lib.hid (bel_0.out.trans (hb_1.mono bel_0.out.size)); clear hb_1 hr))
      | ((fail)))
  all_goals go_wp2
  all_goals
    refine bodyPost_ret (v := .agg #[.bool sg, .slice A3 k3 c3]) (by simp [results, Tryz.results44, go_sem, o2_0, o2_1]) rfl ?_
    exact ⟨_, rfl, hr_2.out.box2 p2_2.out (by simp) (by simp), (bel_2.out.setCell (by simp <;> omega) _).setCell (by simp <;> omega) _⟩

set_option maxRecDepth 100000 in
set_option maxHeartbeats 8000000 in
theorem iadd_any (b1 b2 : Bool) (v1 v2 : Value) (x y : Int) (w : World) (h1 : RN w v1 x.natAbs) (hb1 : b1 = decide (x < 0)) (h2 : RN w v2 y.natAbs) (hb2 : b2 = decide (y < 0)) (hx : x.natAbs < 2147483648) (hy : y.natAbs < 2147483648) :
    Calls Tryz.prog 43 #[.agg #[.bool b1, v1], .agg #[.bool b2, v2]] w fun e w' => ∃ r, e = .returned (.agg #[.bool (decide (x + y < 0)), r]) ∧ RN w' r (x + y).natAbs ∧ Below w.heap.size w w' := by
  obtain ⟨A1, k1, c1, rfl⟩ := h1.slice
  obtain ⟨A2, k2, c2, rfl⟩ := h2.slice
  have hA1 := fun (wd : World) (ha : RN wd (.slice A1 k1 c1) x.natAbs) (hc : RN wd (.slice A2 k2 c2) y.natAbs) => natAdd_any _ _ _ _ wd ha hc (by omega) (by omega)
  have hC := Lib.hid (fun (wd : World) (ha : RN wd (.slice A1 k1 c1) x.natAbs) (hc : RN wd (.slice A2 k2 c2) y.natAbs) => rcmp_any _ _ _ _ wd ha hc (by omega) (by omega))
  have hS1 := fun (hle : y.natAbs ≤ x.natAbs) (wd : World) (ha : RN wd (.slice A1 k1 c1) x.natAbs) (hc : RN wd (.slice A2 k2 c2) y.natAbs) => natSub_any _ _ _ _ wd ha hc (by omega) hle
  have hS2 := fun (hle : x.natAbs ≤ y.natAbs) (wd : World) (ha : RN wd (.slice A2 k2 c2) y.natAbs) (hc : RN wd (.slice A1 k1 c1) x.natAbs) => natSub_any _ _ _ _ wd ha hc (by omega) hle
  have hI := fun (b : Bool) (wd : World) u (ha : RN wd u (x + y).natAbs) => i_any b u _ wd ha (by omega)
  obtain ⟨sg, hsg⟩ : ∃ sg, decide (x + y < 0) = sg := ⟨_, rfl⟩
  rw [hsg]
  have hg : ∀ b : Bool, (x + y ≠ 0 → b = decide (x + y < 0)) → ∀ (wd : World) u (ha : RN wd u (x + y).natAbs), Calls Tryz.prog 46 #[.bool b, u] wd fun e w' => e = .returned (.agg #[.bool sg, u]) ∧ Below wd.heap.size wd w' := fun b hb wd u ha => by
    have := hI b wd u ha
    rw [sg_of hb, hsg] at this
    exact this
  have HB := Lib.hid (And.intro hb1 hb2)
  have hG := Lib.hid hg
  have HA := Lib.hid hA1
  have HS1 := Lib.hid hS1
  have HS2 := Lib.hid hS2
  clear hsg hI hg hb1 hb2 hA1 hS1 hS2
  by_cases hbb : b1 = b2
  · have t1 : (b1 == b2) = true := by rw [hbb]; simp
    have hab : x.natAbs + y.natAbs = (x + y).natAbs := by
      have e1 := HB.out.1
      have e2 := HB.out.2
      rw [← hbb, e1] at e2
      by_cases h3 : x < 0
      · rw [decide_eq_true h3] at e2; have := of_decide_eq_true e2.symm; omega
      · rw [decide_eq_false h3] at e2; have := of_decide_eq_false e2.symm; omega
    have hA := HA.out
    rw [hab] at hA
    replace hA := Lib.hid hA
    have hI := Lib.hid (hG.out b1 (fun h0 => by
      have e1 := HB.out.1
      have e2 := HB.out.2
      rw [← hbb, e1] at e2
      by_cases h3 : x < 0
      · rw [decide_eq_true h3] at e2 e1; have := of_decide_eq_true e2.symm; rw [e1]; exact (decide_eq_true (by omega)).symm
      · rw [decide_eq_false h3] at e2 e1; have := of_decide_eq_false e2.symm; rw [e1]; exact (decide_eq_false (by omega)).symm))
    clear hab hbb hx hy
    have p0_0 := Lib.hid ((((Blk.mk w (w.heap.size) rfl [.bool b1, .slice A1 k1 c1] 53).alloc (.cells #[.bool b2, .slice A2 k2 c2] 53)).alloc (.cells #[.bool false, .slice none 0 0] 53)).drew)
    have p1_0 := Lib.hid (((Blk.mk (w.alloc (.cells #[.bool b1, .slice A1 k1 c1] 53)) (w.heap.size + 1) (by simp) [.bool b2, .slice A2 k2 c2] 53).alloc (.cells #[.bool false, .slice none 0 0] 53)).drew)
    have p2_0 := Lib.hid ((Blk.mk ((w.alloc (.cells #[.bool b1, .slice A1 k1 c1] 53)).alloc (.cells #[.bool b2, .slice A2 k2 c2] 53)) (w.heap.size + 2) (by simp) [.bool false, .slice none 0 0] 53).drew)
    have bel_0 := Lib.hid (show Below w.heap.size w (((w.alloc (.cells #[.bool b1, .slice A1 k1 c1] 53)).alloc (.cells #[.bool b2, .slice A2 k2 c2] 53)).alloc (.cells #[.bool false, .slice none 0 0] 53)).drew by (repeat (first | assumption | exact Below.refl _ _ | refine Below.drew ?_ | refine Below.setCell ?_ (by simp <;> omega) _ | refine Below.alloc ?_ (by simp <;> omega) _)))
    have ne2 : ¬ w.heap.size + 1 + 1 = w.heap.size := by omega
    have en2 : ¬ w.heap.size = w.heap.size + 1 + 1 := by omega
    have h1_0 := Lib.hid (h1.below bel_0.out (Nat.le_refl _))
    have h2_0 := Lib.hid (h2.below bel_0.out (Nat.le_refl _))
    go_enter Tryz.func43, Tryz.ntmps43
    go_upto_region 2 with fail
    go_region_held3 (fun w' => w'.cell? ⟨w.heap.size, 0, none⟩ = some (.bool b1) ∧ w'.cell? ⟨w.heap.size, 1, none⟩ = some (.slice A1 k1 c1) ∧ w'.cell? ⟨w.heap.size + 1, 0, none⟩ = some (.bool b2) ∧ w'.cell? ⟨w.heap.size + 1, 1, none⟩ = some (.slice A2 k2 c2)) (go_keep)
      (first
        | ((go_at_call 46; refine (hI.out _ _ hr_1.out).mono ?_; rintro e w_2 ⟨rfl, hb_2⟩; have c0_0_2 : w_2.cell? ⟨w.heap.size, 0, none⟩ = some (.bool b1) := (p0_1.out.below hb_2 p0_1.out.lt).cell 0; have c0_1_2 : w_2.cell? ⟨w.heap.size, 1, none⟩ = some (.slice A1 k1 c1) := (p0_1.out.below hb_2 p0_1.out.lt).cell 1; have c1_0_2 : w_2.cell? ⟨w.heap.size + 1, 0, none⟩ = some (.bool b2) := (p1_1.out.below hb_2 p1_1.out.lt).cell 0; have c1_1_2 : w_2.cell? ⟨w.heap.size + 1, 1, none⟩ = some (.slice A2 k2 c2) := (p1_1.out.below hb_2 p1_1.out.lt).cell 1; have p0_2 := Lib.hid (p0_1.out.below hb_2 p0_1.out.lt); have p1_2 := Lib.hid (p1_1.out.below hb_2 p1_1.out.lt); have p2_2 := Lib.hid (p2_1.out.below hb_2 p2_1.out.lt); have h1_2 := Lib.hid (h1_1.out.below hb_2 (Nat.le_refl _)); have h2_2 := Lib.hid (h2_1.out.below hb_2 (Nat.le_refl _)); have hr_2 := Lib.hid (hr_1.out.below hb_2 (Nat.le_refl _)); have bel_2 := Lib.hid (bel_1.out.trans (hb_2.mono bel_1.out.size)); have o2_0 : w_2.cell? ⟨w.heap.size + 2, 0, none⟩ = some (.bool false) := p2_2.out.cell 0; have z2_0 := p2_2.out.frozen 0; have o2_1 : w_2.cell? ⟨w.heap.size + 2, 1, none⟩ = some (.slice none 0 0) := p2_2.out.cell 1; have z2_1 := p2_2.out.frozen 1; clear hb_2 ))
        | ((go_at_call 83; refine (hA.out _ h1_0.out h2_0.out).mono ?_; rintro e w_1 ⟨r, rfl, hr, hb_1⟩; obtain ⟨A3, k3, c3, rfl⟩ := hr.slice; have c0_0_1 : w_1.cell? ⟨w.heap.size, 0, none⟩ = some (.bool b1) := (p0_0.out.below hb_1 p0_0.out.lt).cell 0; have c0_1_1 : w_1.cell? ⟨w.heap.size, 1, none⟩ = some (.slice A1 k1 c1) := (p0_0.out.below hb_1 p0_0.out.lt).cell 1; have c1_0_1 : w_1.cell? ⟨w.heap.size + 1, 0, none⟩ = some (.bool b2) := (p1_0.out.below hb_1 p1_0.out.lt).cell 0; have c1_1_1 : w_1.cell? ⟨w.heap.size + 1, 1, none⟩ = some (.slice A2 k2 c2) := (p1_0.out.below hb_1 p1_0.out.lt).cell 1; have p0_1 := Lib.hid (p0_0.out.below hb_1 p0_0.out.lt); have p1_1 := Lib.hid (p1_0.out.below hb_1 p1_0.out.lt); have p2_1 := Lib.hid (p2_0.out.below hb_1 p2_0.out.lt); have h1_1 := Lib.hid (h1_0.out.below hb_1 (Nat.le_refl _)); have h2_1 := Lib.hid (h2_0.out.below hb_1 (Nat.le_refl _)); have hr_1 := Lib.hid hr; have bel_1 := Lib.hid (bel_0.out.trans (hb_1.mono bel_0.out.size)); clear hb_1 hr))
        | ((fail)))
    all_goals go_wp2
    all_goals
      refine bodyPost_ret (v := .agg #[.bool sg, .slice A3 k3 c3]) (by simp [results, Tryz.results43, go_sem, o2_0, o2_1]) rfl ?_
      exact ⟨_, rfl, hr_2.out.box2 p2_2.out (by simp) (by simp), (bel_2.out.setCell (by simp <;> omega) _).setCell (by simp <;> omega) _⟩
  · have t1 : (b1 == b2) = false := by simpa using hbb
    have hne : ¬ (x < 0 ↔ y < 0) := fun h => hbb (by rw [HB.out.1, HB.out.2]; exact decide_eq_decide.2 h)
    have p0_0 := Lib.hid ((((Blk.mk w (w.heap.size) rfl [.bool b1, .slice A1 k1 c1] 53).alloc (.cells #[.bool b2, .slice A2 k2 c2] 53)).alloc (.cells #[.bool false, .slice none 0 0] 53)))
    have p1_0 := Lib.hid (((Blk.mk (w.alloc (.cells #[.bool b1, .slice A1 k1 c1] 53)) (w.heap.size + 1) (by simp) [.bool b2, .slice A2 k2 c2] 53).alloc (.cells #[.bool false, .slice none 0 0] 53)))
    have p2_0 := Lib.hid ((Blk.mk ((w.alloc (.cells #[.bool b1, .slice A1 k1 c1] 53)).alloc (.cells #[.bool b2, .slice A2 k2 c2] 53)) (w.heap.size + 2) (by simp) [.bool false, .slice none 0 0] 53))
    have bel_0 := Lib.hid (show Below w.heap.size w (((w.alloc (.cells #[.bool b1, .slice A1 k1 c1] 53)).alloc (.cells #[.bool b2, .slice A2 k2 c2] 53)).alloc (.cells #[.bool false, .slice none 0 0] 53)) by (repeat (first | assumption | exact Below.refl _ _ | refine Below.drew ?_ | refine Below.setCell ?_ (by simp <;> omega) _ | refine Below.alloc ?_ (by simp <;> omega) _)))
    have ne2 : ¬ w.heap.size + 1 + 1 = w.heap.size := by omega
    have en2 : ¬ w.heap.size = w.heap.size + 1 + 1 := by omega
    have h1_0 := Lib.hid (h1.below bel_0.out (Nat.le_refl _))
    have h2_0 := Lib.hid (h2.below bel_0.out (Nat.le_refl _))
    by_cases hle : y.natAbs ≤ x.natAbs
    · have t2 : (0 : Int) ≤ cmpN x.natAbs y.natAbs := by unfold cmpN; split <;> (try split) <;> omega
      have hS := HS1.out hle
      rw [show x.natAbs - y.natAbs = (x + y).natAbs by omega] at hS
      replace hS := Lib.hid hS
      have hI := Lib.hid (hG.out b1 (fun h0 => by
        rw [HB.out.1]
        by_cases h3 : x < 0
        · rw [decide_eq_true h3]; exact (decide_eq_true (by omega)).symm
        · rw [decide_eq_false h3]; exact (decide_eq_false (by omega)).symm))
      generalize cmpN x.natAbs y.natAbs = z at *
      clear hle hbb hne hx hy
      go_enter Tryz.func43, Tryz.ntmps43
      go_wp2_with fail
      refine (hC.out _ h1_0.out h2_0.out).mono ?_
      rintro e w_1 ⟨rfl, hb_1⟩
      have c0_0_1 : w_1.cell? ⟨w.heap.size, 0, none⟩ = some (.bool b1) := (p0_0.out.below hb_1 p0_0.out.lt).cell 0
      have c0_1_1 : w_1.cell? ⟨w.heap.size, 1, none⟩ = some (.slice A1 k1 c1) := (p0_0.out.below hb_1 p0_0.out.lt).cell 1
      have c1_0_1 : w_1.cell? ⟨w.heap.size + 1, 0, none⟩ = some (.bool b2) := (p1_0.out.below hb_1 p1_0.out.lt).cell 0
      have c1_1_1 : w_1.cell? ⟨w.heap.size + 1, 1, none⟩ = some (.slice A2 k2 c2) := (p1_0.out.below hb_1 p1_0.out.lt).cell 1
      have p0_1 := Lib.hid (p0_0.out.below hb_1 p0_0.out.lt)
      have p1_1 := Lib.hid (p1_0.out.below hb_1 p1_0.out.lt)
      have p2_1 := Lib.hid (p2_0.out.below hb_1 p2_0.out.lt)
      have h1_1 := Lib.hid (h1_0.out.below hb_1 (Nat.le_refl _))
      have h2_1 := Lib.hid (h2_0.out.below hb_1 (Nat.le_refl _))
      have bel_1 := Lib.hid (bel_0.out.trans (hb_1.mono bel_0.out.size))
      clear hb_1 
      have cc0_0 : w_1.cell? ⟨w.heap.size, 0, none⟩ = some (.bool b1) := p0_1.out.cell 0
      have cc0_1 : w_1.cell? ⟨w.heap.size, 1, none⟩ = some (.slice A1 k1 c1) := p0_1.out.cell 1
      have cc1_0 : w_1.cell? ⟨w.heap.size + 1, 0, none⟩ = some (.bool b2) := p1_1.out.cell 0
      have cc1_1 : w_1.cell? ⟨w.heap.size + 1, 1, none⟩ = some (.slice A2 k2 c2) := p1_1.out.cell 1
      have h1_1 := Lib.hid (show RN w_1.drew _ x.natAbs from h1_1.out)
      have h2_1 := Lib.hid (show RN w_1.drew _ y.natAbs from h2_1.out)
      have p0_1 := Lib.hid (p0_1.out.drew)
      have p1_1 := Lib.hid (p1_1.out.drew)
      have p2_1 := Lib.hid (p2_1.out.drew)
      have bel_1 := Lib.hid (bel_1.out.drew)
      go_upto_region 4 with fail
      go_region_held3 (fun w' => w'.cell? ⟨w.heap.size, 0, none⟩ = some (.bool b1) ∧ w'.cell? ⟨w.heap.size, 1, none⟩ = some (.slice A1 k1 c1) ∧ w'.cell? ⟨w.heap.size + 1, 0, none⟩ = some (.bool b2) ∧ w'.cell? ⟨w.heap.size + 1, 1, none⟩ = some (.slice A2 k2 c2)) (go_keep)
        (first
          | ((go_at_call 46; refine (hI.out _ _ hr_2.out).mono ?_; rintro e w_3 ⟨rfl, hb_3⟩; have c0_0_3 : w_3.cell? ⟨w.heap.size, 0, none⟩ = some (.bool b1) := (p0_2.out.below hb_3 p0_2.out.lt).cell 0; have c0_1_3 : w_3.cell? ⟨w.heap.size, 1, none⟩ = some (.slice A1 k1 c1) := (p0_2.out.below hb_3 p0_2.out.lt).cell 1; have c1_0_3 : w_3.cell? ⟨w.heap.size + 1, 0, none⟩ = some (.bool b2) := (p1_2.out.below hb_3 p1_2.out.lt).cell 0; have c1_1_3 : w_3.cell? ⟨w.heap.size + 1, 1, none⟩ = some (.slice A2 k2 c2) := (p1_2.out.below hb_3 p1_2.out.lt).cell 1; have p0_3 := Lib.hid (p0_2.out.below hb_3 p0_2.out.lt); have p1_3 := Lib.hid (p1_2.out.below hb_3 p1_2.out.lt); have p2_3 := Lib.hid (p2_2.out.below hb_3 p2_2.out.lt); have h1_3 := Lib.hid (h1_2.out.below hb_3 (Nat.le_refl _)); have h2_3 := Lib.hid (h2_2.out.below hb_3 (Nat.le_refl _)); have hr_3 := Lib.hid (hr_2.out.below hb_3 (Nat.le_refl _)); have bel_3 := Lib.hid (bel_2.out.trans (hb_3.mono bel_2.out.size)); have o2_0 : w_3.cell? ⟨w.heap.size + 2, 0, none⟩ = some (.bool false) := p2_3.out.cell 0; have z2_0 := p2_3.out.frozen 0; have o2_1 : w_3.cell? ⟨w.heap.size + 2, 1, none⟩ = some (.slice none 0 0) := p2_3.out.cell 1; have z2_1 := p2_3.out.frozen 1; clear hb_3 ))
          | ((go_at_call 84; refine (hS.out _ h1_1.out h2_1.out).mono ?_; rintro e w_2 ⟨r, rfl, hr, hb_2⟩; obtain ⟨A3, k3, c3, rfl⟩ := hr.slice; have c0_0_2 : w_2.cell? ⟨w.heap.size, 0, none⟩ = some (.bool b1) := (p0_1.out.below hb_2 p0_1.out.lt).cell 0; have c0_1_2 : w_2.cell? ⟨w.heap.size, 1, none⟩ = some (.slice A1 k1 c1) := (p0_1.out.below hb_2 p0_1.out.lt).cell 1; have c1_0_2 : w_2.cell? ⟨w.heap.size + 1, 0, none⟩ = some (.bool b2) := (p1_1.out.below hb_2 p1_1.out.lt).cell 0; have c1_1_2 : w_2.cell? ⟨w.heap.size + 1, 1, none⟩ = some (.slice A2 k2 c2) := (p1_1.out.below hb_2 p1_1.out.lt).cell 1; have p0_2 := Lib.hid (p0_1.out.below hb_2 p0_1.out.lt); have p1_2 := Lib.hid (p1_1.out.below hb_2 p1_1.out.lt); have p2_2 := Lib.hid (p2_1.out.below hb_2 p2_1.out.lt); have h1_2 := Lib.hid (h1_1.out.below hb_2 (Nat.le_refl _)); have h2_2 := Lib.hid (h2_1.out.below hb_2 (Nat.le_refl _)); have hr_2 := Lib.hid hr; have bel_2 := Lib.hid (bel_1.out.trans (hb_2.mono bel_1.out.size)); clear hb_2 hr))
          | ((fail)))
      all_goals go_wp2
      all_goals
        refine bodyPost_ret (v := .agg #[.bool sg, .slice A3 k3 c3]) (by simp [results, Tryz.results43, go_sem, o2_0, o2_1]) rfl ?_
        exact ⟨_, rfl, hr_3.out.box2 p2_3.out (by simp) (by simp), (bel_3.out.setCell (by simp <;> omega) _).setCell (by simp <;> omega) _⟩
    · have t2 : ¬ (0 : Int) ≤ cmpN x.natAbs y.natAbs := by unfold cmpN; rw [if_pos (by omega)]; decide
      have hS := HS2.out (by omega)
      rw [show y.natAbs - x.natAbs = (x + y).natAbs by omega] at hS
      replace hS := Lib.hid hS
      have hI := Lib.hid (hG.out b2 (fun h0 => by
        rw [HB.out.2]
        by_cases h3 : y < 0
        · rw [decide_eq_true h3]; exact (decide_eq_true (by omega)).symm
        · rw [decide_eq_false h3]; exact (decide_eq_false (by omega)).symm))
      generalize cmpN x.natAbs y.natAbs = z at *
      clear hle hbb hne hx hy
      go_enter Tryz.func43, Tryz.ntmps43
      go_wp2_with fail
      refine (hC.out _ h1_0.out h2_0.out).mono ?_
      rintro e w_1 ⟨rfl, hb_1⟩
      have c0_0_1 : w_1.cell? ⟨w.heap.size, 0, none⟩ = some (.bool b1) := (p0_0.out.below hb_1 p0_0.out.lt).cell 0
      have c0_1_1 : w_1.cell? ⟨w.heap.size, 1, none⟩ = some (.slice A1 k1 c1) := (p0_0.out.below hb_1 p0_0.out.lt).cell 1
      have c1_0_1 : w_1.cell? ⟨w.heap.size + 1, 0, none⟩ = some (.bool b2) := (p1_0.out.below hb_1 p1_0.out.lt).cell 0
      have c1_1_1 : w_1.cell? ⟨w.heap.size + 1, 1, none⟩ = some (.slice A2 k2 c2) := (p1_0.out.below hb_1 p1_0.out.lt).cell 1
      have p0_1 := Lib.hid (p0_0.out.below hb_1 p0_0.out.lt)
      have p1_1 := Lib.hid (p1_0.out.below hb_1 p1_0.out.lt)
      have p2_1 := Lib.hid (p2_0.out.below hb_1 p2_0.out.lt)
      have h1_1 := Lib.hid (h1_0.out.below hb_1 (Nat.le_refl _))
      have h2_1 := Lib.hid (h2_0.out.below hb_1 (Nat.le_refl _))
      have bel_1 := Lib.hid (bel_0.out.trans (hb_1.mono bel_0.out.size))
      clear hb_1 
      have cc0_0 : w_1.cell? ⟨w.heap.size, 0, none⟩ = some (.bool b1) := p0_1.out.cell 0
      have cc0_1 : w_1.cell? ⟨w.heap.size, 1, none⟩ = some (.slice A1 k1 c1) := p0_1.out.cell 1
      have cc1_0 : w_1.cell? ⟨w.heap.size + 1, 0, none⟩ = some (.bool b2) := p1_1.out.cell 0
      have cc1_1 : w_1.cell? ⟨w.heap.size + 1, 1, none⟩ = some (.slice A2 k2 c2) := p1_1.out.cell 1
      have h1_1 := Lib.hid (show RN w_1.drew _ x.natAbs from h1_1.out)
      have h2_1 := Lib.hid (show RN w_1.drew _ y.natAbs from h2_1.out)
      have p0_1 := Lib.hid (p0_1.out.drew)
      have p1_1 := Lib.hid (p1_1.out.drew)
      have p2_1 := Lib.hid (p2_1.out.drew)
      have bel_1 := Lib.hid (bel_1.out.drew)
      go_upto_region 5 with fail
      go_region_held3 (fun w' => w'.cell? ⟨w.heap.size, 0, none⟩ = some (.bool b1) ∧ w'.cell? ⟨w.heap.size, 1, none⟩ = some (.slice A1 k1 c1) ∧ w'.cell? ⟨w.heap.size + 1, 0, none⟩ = some (.bool b2) ∧ w'.cell? ⟨w.heap.size + 1, 1, none⟩ = some (.slice A2 k2 c2)) (go_keep)
        (first
          | ((go_at_call 46; refine (hI.out _ _ hr_2.out).mono ?_; rintro e w_3 ⟨rfl, hb_3⟩; have c0_0_3 : w_3.cell? ⟨w.heap.size, 0, none⟩ = some (.bool b1) := (p0_2.out.below hb_3 p0_2.out.lt).cell 0; have c0_1_3 : w_3.cell? ⟨w.heap.size, 1, none⟩ = some (.slice A1 k1 c1) := (p0_2.out.below hb_3 p0_2.out.lt).cell 1; have c1_0_3 : w_3.cell? ⟨w.heap.size + 1, 0, none⟩ = some (.bool b2) := (p1_2.out.below hb_3 p1_2.out.lt).cell 0; have c1_1_3 : w_3.cell? ⟨w.heap.size + 1, 1, none⟩ = some (.slice A2 k2 c2) := (p1_2.out.below hb_3 p1_2.out.lt).cell 1; have p0_3 := Lib.hid (p0_2.out.below hb_3 p0_2.out.lt); have p1_3 := Lib.hid (p1_2.out.below hb_3 p1_2.out.lt); have p2_3 := Lib.hid (p2_2.out.below hb_3 p2_2.out.lt); have h1_3 := Lib.hid (h1_2.out.below hb_3 (Nat.le_refl _)); have h2_3 := Lib.hid (h2_2.out.below hb_3 (Nat.le_refl _)); have hr_3 := Lib.hid (hr_2.out.below hb_3 (Nat.le_refl _)); have bel_3 := Lib.hid (bel_2.out.trans (hb_3.mono bel_2.out.size)); have o2_0 : w_3.cell? ⟨w.heap.size + 2, 0, none⟩ = some (.bool false) := p2_3.out.cell 0; have z2_0 := p2_3.out.frozen 0; have o2_1 : w_3.cell? ⟨w.heap.size + 2, 1, none⟩ = some (.slice none 0 0) := p2_3.out.cell 1; have z2_1 := p2_3.out.frozen 1; clear hb_3 ))
          | ((go_at_call 84; refine (hS.out _ h2_1.out h1_1.out).mono ?_; rintro e w_2 ⟨r, rfl, hr, hb_2⟩; obtain ⟨A3, k3, c3, rfl⟩ := hr.slice; have c0_0_2 : w_2.cell? ⟨w.heap.size, 0, none⟩ = some (.bool b1) := (p0_1.out.below hb_2 p0_1.out.lt).cell 0; have c0_1_2 : w_2.cell? ⟨w.heap.size, 1, none⟩ = some (.slice A1 k1 c1) := (p0_1.out.below hb_2 p0_1.out.lt).cell 1; have c1_0_2 : w_2.cell? ⟨w.heap.size + 1, 0, none⟩ = some (.bool b2) := (p1_1.out.below hb_2 p1_1.out.lt).cell 0; have c1_1_2 : w_2.cell? ⟨w.heap.size + 1, 1, none⟩ = some (.slice A2 k2 c2) := (p1_1.out.below hb_2 p1_1.out.lt).cell 1; have p0_2 := Lib.hid (p0_1.out.below hb_2 p0_1.out.lt); have p1_2 := Lib.hid (p1_1.out.below hb_2 p1_1.out.lt); have p2_2 := Lib.hid (p2_1.out.below hb_2 p2_1.out.lt); have h1_2 := Lib.hid (h1_1.out.below hb_2 (Nat.le_refl _)); have h2_2 := Lib.hid (h2_1.out.below hb_2 (Nat.le_refl _)); have hr_2 := Lib.hid hr; have bel_2 := Lib.hid (bel_1.out.trans (hb_2.mono bel_1.out.size)); clear hb_2 hr))
          | ((fail)))
      all_goals go_wp2
      all_goals
        refine bodyPost_ret (v := .agg #[.bool sg, .slice A3 k3 c3]) (by simp [results, Tryz.results43, go_sem, o2_0, o2_1]) rfl ?_
        exact ⟨_, rfl, hr_3.out.box2 p2_3.out (by simp) (by simp), (bel_3.out.setCell (by simp <;> omega) _).setCell (by simp <;> omega) _⟩

set_option maxRecDepth 100000 in
set_option maxHeartbeats 8000000 in
theorem rden_any (b : Bool) (v1 v2 : Value) (d : Nat) (w : World) (h1 : ∃ A k c, v1 = .slice A k c) (h2 : RN w v2 d) (hd : d < 4294967296) :
    Calls Tryz.prog 45 #[.agg #[.bool b, v1, v2]] w fun e w' => e = .returned (.agg #[.bool false, v2]) ∧ RN w' v2 d ∧ Below w.heap.size w w' := by
  obtain ⟨A1, k1, c1, rfl⟩ := h1
  obtain ⟨A2, k2, c2, rfl⟩ := h2.slice
  have p0_0 := Lib.hid (((Blk.mk w (w.heap.size) rfl [.bool b, .slice A1 k1 c1, .slice A2 k2 c2] 55).alloc (.cells #[.bool false, .slice none 0 0] 53)))
  have p1_0 := Lib.hid ((Blk.mk (w.alloc (.cells #[.bool b, .slice A1 k1 c1, .slice A2 k2 c2] 55)) (w.heap.size + 1) (by simp) [.bool false, .slice none 0 0] 53))
  have bel_0 := Lib.hid (show Below w.heap.size w ((w.alloc (.cells #[.bool b, .slice A1 k1 c1, .slice A2 k2 c2] 55)).alloc (.cells #[.bool false, .slice none 0 0] 53)) by (repeat (first | assumption | exact Below.refl _ _ | refine Below.drew ?_ | refine Below.setCell ?_ (by simp <;> omega) _ | refine Below.alloc ?_ (by simp <;> omega) _)))
  have h2_0 := Lib.hid (h2.below bel_0.out (Nat.le_refl _))
  have hI := fun (wd : World) (ha : RN wd (.slice A2 k2 c2) d) => i_any false _ d wd ha hd
  rw [Bool.false_and] at hI
  replace hI := Lib.hid hI
  clear hd
  go_enter Tryz.func45, Tryz.ntmps45
  go_wp2_with fail
  refine (hI.out _ h2_0.out).mono ?_
  rintro e w_1 ⟨rfl, hb_1⟩
  have p0_1 := Lib.hid (p0_0.out.below hb_1 p0_0.out.lt)
  have p1_1 := Lib.hid (p1_0.out.below hb_1 p1_0.out.lt)
  have h2_1 := Lib.hid (h2_0.out.below hb_1 (Nat.le_refl _))
  have bel_1 := Lib.hid (bel_0.out.trans (hb_1.mono bel_0.out.size))
  have o1_0 : w_1.cell? ⟨w.heap.size + 1, 0, none⟩ = some (.bool false) := p1_1.out.cell 0
  have z1_0 := p1_1.out.frozen 0
  have o1_1 : w_1.cell? ⟨w.heap.size + 1, 1, none⟩ = some (.slice none 0 0) := p1_1.out.cell 1
  have z1_1 := p1_1.out.frozen 1
  clear hb_1 
  go_wp2_with fail
  refine bodyPost_ret (v := .agg #[.bool false, .slice A2 k2 c2]) (by simp [results, Tryz.results45, go_sem, o1_0, o1_1]) rfl ?_
  exact ⟨rfl, h2_1.out.box2 p1_1.out (by simp) (by simp), (bel_1.out.setCell (by simp <;> omega) _).setCell (by simp <;> omega) _⟩

end Go.Proofs.YtjfkniknmkcdcaaGreatDoor

namespace Go.Proofs.YtjfkniknmkcdcaaGreatDoor
open Go.RowKit K Nu

def Tiny (q : Rat) : Prop := q.num.natAbs < 32768 ∧ q.den < 32768
theorem Tiny.neg {q : Rat} (h : Tiny q) : Tiny (-q) := by
  obtain ⟨h1, h2⟩ := h
  exact ⟨by rw [Rat.neg_num]; omega, by rw [Rat.neg_den]; exact h2⟩
theorem imul_nat (b : Bool) (v u : Value) (x : Int) (d : Nat) (w : World) (h1 : RN w v x.natAbs) (hb : b = decide (x < 0)) (h2 : RN w u d) (hx : x.natAbs < 32768) (hd : d < 32768) :
    Calls Tryz.prog 44 #[.agg #[.bool b, v], .agg #[.bool false, u]] w fun e w' => ∃ r, e = .returned (.agg #[.bool (decide (x * (d : Int) < 0)), r]) ∧ RN w' r (x * (d : Int)).natAbs ∧ Below w.heap.size w w' :=
  imul_any b false v u x d w h1 hb (by rw [Int.natAbs_natCast]; exact h2) (decide_eq_false (by omega)).symm (by omega) (by rw [Int.natAbs_natCast]; omega) (by
    rw [Int.natAbs_natCast]
    have : x.natAbs * d ≤ 32767 * 32767 := Nat.mul_le_mul (by omega) (by omega)
    omega)
theorem nat_mul_lt {a b : Nat} (ha : a < 32768) (hb : b < 32768) : a * b < 1073741824 := by
  have : a * b ≤ 32767 * 32767 := Nat.mul_le_mul (by omega) (by omega)
  omega

set_option maxRecDepth 100000 in
set_option maxHeartbeats 8000000 in
theorem rneg_any (b1 : Bool) (v1 v2 : Value) (q : Rat) (w : World) (h : RQ w b1 v1 v2 q) (tq : Tiny q) :
    Calls Tryz.prog 76 #[.agg #[.bool b1, v1, v2]] w fun e w' => ∃ b', e = .returned (.agg #[.bool b', v1, v2]) ∧ RQ w' b' v1 v2 (-q) ∧ Below w.heap.size w w' := by
  obtain ⟨⟨h1, hb⟩, h2⟩ := h
  obtain ⟨A1, k1, c1, rfl⟩ := h1.slice
  obtain ⟨A2, k2, c2, rfl⟩ := h2.slice
  have p0_0 := Lib.hid (((Blk.mk w (w.heap.size) rfl [.bool b1, .slice A1 k1 c1, .slice A2 k2 c2] 55).alloc (.cells #[.bool false, .slice none 0 0, .slice none 0 0] 55)).drew)
  have p1_0 := Lib.hid ((Blk.mk (w.alloc (.cells #[.bool b1, .slice A1 k1 c1, .slice A2 k2 c2] 55)) (w.heap.size + 1) (by simp) [.bool false, .slice none 0 0, .slice none 0 0] 55).drew)
  have bel_0 := Lib.hid (show Below w.heap.size w ((w.alloc (.cells #[.bool b1, .slice A1 k1 c1, .slice A2 k2 c2] 55)).alloc (.cells #[.bool false, .slice none 0 0, .slice none 0 0] 55)).drew by (repeat (first | assumption | exact Below.refl _ _ | refine Below.drew ?_ | refine Below.setCell ?_ (by simp <;> omega) _ | refine Below.alloc ?_ (by simp <;> omega) _)))
  have h1_0 := Lib.hid (h1.below bel_0.out (Nat.le_refl _))
  have h2_0 := Lib.hid (h2.below bel_0.out (Nat.le_refl _))
  have hI := fun (wd : World) (ha : RN wd (.slice A1 k1 c1) q.num.natAbs) => ineg_any b1 _ q.num wd ha hb (by have := tq.1; omega)
  obtain ⟨sg, hsg⟩ : ∃ sg, decide (-q.num < 0) = sg := ⟨_, rfl⟩
  rw [hsg] at hI
  have HS := Lib.hid hsg
  replace hI := Lib.hid hI
  clear hsg hb tq
  go_enter Tryz.func76, Tryz.ntmps76
  go_upto_region 1 with fail
  go_region_held3 (fun w' => w'.cell? ⟨w.heap.size, 0, none⟩ = some (.bool b1) ∧ w'.cell? ⟨w.heap.size, 1, none⟩ = some (.slice A1 k1 c1) ∧ w'.cell? ⟨w.heap.size, 2, none⟩ = some (.slice A2 k2 c2)) (go_keep)
    (first
      | ((go_at_call 103; refine (hI.out _ h1_0.out).mono ?_; rintro e w_1 ⟨rfl, -, hb_1⟩; have c0_0_1 : w_1.cell? ⟨w.heap.size, 0, none⟩ = some (.bool b1) := (p0_0.out.below hb_1 p0_0.out.lt).cell 0; have c0_1_1 : w_1.cell? ⟨w.heap.size, 1, none⟩ = some (.slice A1 k1 c1) := (p0_0.out.below hb_1 p0_0.out.lt).cell 1; have c0_2_1 : w_1.cell? ⟨w.heap.size, 2, none⟩ = some (.slice A2 k2 c2) := (p0_0.out.below hb_1 p0_0.out.lt).cell 2; have p0_1 := Lib.hid (p0_0.out.below hb_1 p0_0.out.lt); have p1_1 := Lib.hid (p1_0.out.below hb_1 p1_0.out.lt); have h1_1 := Lib.hid (h1_0.out.below hb_1 (Nat.le_refl _)); have h2_1 := Lib.hid (h2_0.out.below hb_1 (Nat.le_refl _)); have bel_1 := Lib.hid (bel_0.out.trans (hb_1.mono bel_0.out.size)); have o1_0 : w_1.cell? ⟨w.heap.size + 1, 0, none⟩ = some (.bool false) := p1_1.out.cell 0; have z1_0 := p1_1.out.frozen 0; have o1_1 : w_1.cell? ⟨w.heap.size + 1, 1, none⟩ = some (.slice none 0 0) := p1_1.out.cell 1; have z1_1 := p1_1.out.frozen 1; have o1_2 : w_1.cell? ⟨w.heap.size + 1, 2, none⟩ = some (.slice none 0 0) := p1_1.out.cell 2; have z1_2 := p1_1.out.frozen 2; clear hb_1 ))
      | ((fail)))
  all_goals go_wp2
  all_goals
    refine bodyPost_ret (v := .agg #[.bool sg, .slice A1 k1 c1, .slice A2 k2 c2]) (by simp [results, Tryz.results76, go_sem, o1_0, o1_1, o1_2]) rfl ?_
    refine ⟨_, rfl, ⟨⟨?_, ?_⟩, ?_⟩, ((bel_1.out.setCell (by simp <;> omega) _).setCell (by simp <;> omega) _).setCell (by simp <;> omega) _⟩
    · rw [Rat.neg_num, Int.natAbs_neg]; exact h1_1.out.box3 p1_1.out (by simp) (by simp)
    · rw [Rat.neg_num]; exact HS.out.symm
    · rw [Rat.neg_den]; exact h2_1.out.box3 p1_1.out (by simp) (by simp)

set_option maxRecDepth 100000 in
set_option maxHeartbeats 8000000 in
theorem radd_any (b1 b2 : Bool) (v1 v2 v3 v4 : Value) (p q : Rat) (w : World) (hp : RQ w b1 v1 v2 p) (hq : RQ w b2 v3 v4 q) (tp : Tiny p) (tq : Tiny q) :
    Calls Tryz.prog 19 #[.agg #[.bool b1, v1, v2], .agg #[.bool b2, v3, v4]] w fun e w' => ∃ b' vn vd, e = .returned (.agg #[.bool b', vn, vd]) ∧ RQ w' b' vn vd (p + q) ∧ Below w.heap.size w w' := by
  obtain ⟨⟨h1, hb1⟩, h2⟩ := hp
  obtain ⟨⟨h3, hb2⟩, h4⟩ := hq
  obtain ⟨A1, k1, c1, rfl⟩ := h1.slice
  obtain ⟨A2, k2, c2, rfl⟩ := h2.slice
  obtain ⟨A3, k3, c3, rfl⟩ := h3.slice
  obtain ⟨A4, k4, c4, rfl⟩ := h4.slice
  have p0_0 := Lib.hid ((((Blk.mk w (w.heap.size) rfl [.bool b1, .slice A1 k1 c1, .slice A2 k2 c2] 55).alloc (.cells #[.bool b2, .slice A3 k3 c3, .slice A4 k4 c4] 55)).alloc (.cells #[.bool false, .slice none 0 0, .slice none 0 0] 55)).drew)
  have p1_0 := Lib.hid (((Blk.mk (w.alloc (.cells #[.bool b1, .slice A1 k1 c1, .slice A2 k2 c2] 55)) (w.heap.size + 1) (by simp) [.bool b2, .slice A3 k3 c3, .slice A4 k4 c4] 55).alloc (.cells #[.bool false, .slice none 0 0, .slice none 0 0] 55)).drew)
  have p2_0 := Lib.hid ((Blk.mk ((w.alloc (.cells #[.bool b1, .slice A1 k1 c1, .slice A2 k2 c2] 55)).alloc (.cells #[.bool b2, .slice A3 k3 c3, .slice A4 k4 c4] 55)) (w.heap.size + 2) (by simp) [.bool false, .slice none 0 0, .slice none 0 0] 55).drew)
  have bel_0 := Lib.hid (show Below w.heap.size w (((w.alloc (.cells #[.bool b1, .slice A1 k1 c1, .slice A2 k2 c2] 55)).alloc (.cells #[.bool b2, .slice A3 k3 c3, .slice A4 k4 c4] 55)).alloc (.cells #[.bool false, .slice none 0 0, .slice none 0 0] 55)).drew by (repeat (first | assumption | exact Below.refl _ _ | refine Below.drew ?_ | refine Below.setCell ?_ (by simp <;> omega) _ | refine Below.alloc ?_ (by simp <;> omega) _)))
  have ne2 : ¬ w.heap.size + 1 + 1 = w.heap.size := by omega
  have en2 : ¬ w.heap.size = w.heap.size + 1 + 1 := by omega
  have h1_0 := Lib.hid (h1.below bel_0.out (Nat.le_refl _))
  have h2_0 := Lib.hid (h2.below bel_0.out (Nat.le_refl _))
  have h3_0 := Lib.hid (h3.below bel_0.out (Nat.le_refl _))
  have h4_0 := Lib.hid (h4.below bel_0.out (Nat.le_refl _))
  have hpd := p.den_nz
  have hqd := q.den_nz
  have l1 := nat_mul_lt tp.1 tq.2
  have l2 := nat_mul_lt tq.1 tp.2
  have l3 := nat_mul_lt tp.2 tq.2
  have hD2 := Lib.hid (fun (wd : World) (hc : RN wd (.slice A4 k4 c4) q.den) => rden_any b2 (.slice A3 k3 c3) _ q.den wd ⟨_, _, _, rfl⟩ hc (by have := tq.2; omega))
  have hM1 := fun (wd : World) (ha : RN wd (.slice A1 k1 c1) p.num.natAbs) (hc : RN wd (.slice A4 k4 c4) q.den) => imul_nat b1 _ _ p.num q.den wd ha hb1 hc tp.1 tq.2
  have hM2 := fun (wd : World) (ha : RN wd (.slice A3 k3 c3) q.num.natAbs) (hc : RN wd (.slice A2 k2 c2) p.den) => imul_nat b2 _ _ q.num p.den wd ha hb2 hc tq.1 tp.2
  have HE := Lib.hid (add_mk p q)
  have e1 : (p.num * (q.den : Int)).natAbs = p.num.natAbs * q.den := by rw [Int.natAbs_mul, Int.natAbs_natCast]
  have e2 : (q.num * (p.den : Int)).natAbs = q.num.natAbs * p.den := by rw [Int.natAbs_mul, Int.natAbs_natCast]
  have hN := Lib.hid (fun (wd : World) (ha : RN wd (.slice A2 k2 c2) p.den) (hc : RN wd (.slice A4 k4 c4) q.den) => natMul_any _ _ _ _ wd ha hc (by have := tp.2; omega) (by have := tq.2; omega))
  have hm0 : p.den * q.den ≠ 0 := Nat.mul_ne_zero hpd hqd
  obtain ⟨x, hx⟩ : ∃ x, p.num * (q.den : Int) = x := ⟨_, rfl⟩
  obtain ⟨y, hy⟩ : ∃ y, q.num * (p.den : Int) = y := ⟨_, rfl⟩
  rw [hx] at hM1 e1 HE
  rw [hy] at hM2 e2 HE
  have hA := fun (wd : World) u v (ha : RN wd u x.natAbs) (hc : RN wd v y.natAbs) => iadd_any (decide (x < 0)) (decide (y < 0)) u v x y wd ha rfl hc rfl (by omega) (by omega)
  have hD1 := Lib.hid (fun (wd : World) {u : Value} (hc : RN wd (.slice A2 k2 c2) p.den) (_ : RN wd u x.natAbs) => rden_any b1 (.slice A1 k1 c1) _ p.den wd ⟨_, _, _, rfl⟩ hc (by have := tp.2; omega))
  generalize p.den * q.den = m at *
  have hI := fun (wd : World) u (ha : RN wd u m) => i_any false u m wd ha (by omega)
  rw [Bool.false_and] at hI
  have hK := fun (wd : World) u v (ha : RN wd u (x + y).natAbs) (hc : RN wd v m) => rmake_any (decide (x + y < 0)) u v (x + y) m wd ha rfl hc (by omega) hm0 (by omega)
  rw [HE.out] at hK
  obtain ⟨s1, hs1⟩ : ∃ s, decide (x < 0) = s := ⟨_, rfl⟩
  obtain ⟨s2, hs2⟩ : ∃ s, decide (y < 0) = s := ⟨_, rfl⟩
  obtain ⟨s3, hs3⟩ : ∃ s, decide (x + y < 0) = s := ⟨_, rfl⟩
  rw [hs1] at hM1 hA
  rw [hs2] at hM2 hA
  rw [hs3] at hA hK
  replace hM1 := Lib.hid hM1
  replace hM2 := Lib.hid hM2
  replace hA := Lib.hid hA
  replace hI := Lib.hid hI
  replace hK := Lib.hid hK
  clear hx hy hs1 hs2 hs3 hb1 hb2 tp tq hpd hqd l1 l2 l3 e1 e2 hm0
  go_enter Tryz.func19, Tryz.ntmps19
  go_upto_region 1 with fail
  go_region_held3 (fun w' => w'.cell? ⟨w.heap.size, 0, none⟩ = some (.bool b1) ∧ w'.cell? ⟨w.heap.size, 1, none⟩ = some (.slice A1 k1 c1) ∧ w'.cell? ⟨w.heap.size, 2, none⟩ = some (.slice A2 k2 c2) ∧ w'.cell? ⟨w.heap.size + 1, 0, none⟩ = some (.bool b2) ∧ w'.cell? ⟨w.heap.size + 1, 1, none⟩ = some (.slice A3 k3 c3) ∧ w'.cell? ⟨w.heap.size + 1, 2, none⟩ = some (.slice A4 k4 c4)) (go_keep)
    (first
      | ((go_at_call 42; refine (hK.out _ _ _ hr7_7.out hr8_7.out).mono ?_; rintro e w_8 ⟨b9, v9, v10, rfl, hq9, hb_8⟩; have hq1 := hq9.1.1; have HVS := Lib.hid hq9.1.2; have hq2 := hq9.2; clear hq9; obtain ⟨A9, k9, c9, rfl⟩ := hq1.slice; obtain ⟨A10, k10, c10, rfl⟩ := hq2.slice; have c0_0_8 : w_8.cell? ⟨w.heap.size, 0, none⟩ = some (.bool b1) := (p0_7.out.below hb_8 p0_7.out.lt).cell 0; have c0_1_8 : w_8.cell? ⟨w.heap.size, 1, none⟩ = some (.slice A1 k1 c1) := (p0_7.out.below hb_8 p0_7.out.lt).cell 1; have c0_2_8 : w_8.cell? ⟨w.heap.size, 2, none⟩ = some (.slice A2 k2 c2) := (p0_7.out.below hb_8 p0_7.out.lt).cell 2; have c1_0_8 : w_8.cell? ⟨w.heap.size + 1, 0, none⟩ = some (.bool b2) := (p1_7.out.below hb_8 p1_7.out.lt).cell 0; have c1_1_8 : w_8.cell? ⟨w.heap.size + 1, 1, none⟩ = some (.slice A3 k3 c3) := (p1_7.out.below hb_8 p1_7.out.lt).cell 1; have c1_2_8 : w_8.cell? ⟨w.heap.size + 1, 2, none⟩ = some (.slice A4 k4 c4) := (p1_7.out.below hb_8 p1_7.out.lt).cell 2; have p0_8 := Lib.hid (p0_7.out.below hb_8 p0_7.out.lt); have p1_8 := Lib.hid (p1_7.out.below hb_8 p1_7.out.lt); have p2_8 := Lib.hid (p2_7.out.below hb_8 p2_7.out.lt); have h1_8 := Lib.hid (h1_7.out.below hb_8 (Nat.le_refl _)); have h2_8 := Lib.hid (h2_7.out.below hb_8 (Nat.le_refl _)); have h3_8 := Lib.hid (h3_7.out.below hb_8 (Nat.le_refl _)); have h4_8 := Lib.hid (h4_7.out.below hb_8 (Nat.le_refl _)); have hr5_8 := Lib.hid (hr5_7.out.below hb_8 (Nat.le_refl _)); have hr6_8 := Lib.hid (hr6_7.out.below hb_8 (Nat.le_refl _)); have hr7_8 := Lib.hid (hr7_7.out.below hb_8 (Nat.le_refl _)); have hr8_8 := Lib.hid (hr8_7.out.below hb_8 (Nat.le_refl _)); have hq1_8 := Lib.hid hq1; have hq2_8 := Lib.hid hq2; have bel_8 := Lib.hid (bel_7.out.trans (hb_8.mono bel_7.out.size)); have o2_0 : w_8.cell? ⟨w.heap.size + 2, 0, none⟩ = some (.bool false) := p2_8.out.cell 0; have z2_0 := p2_8.out.frozen 0; have o2_1 : w_8.cell? ⟨w.heap.size + 2, 1, none⟩ = some (.slice none 0 0) := p2_8.out.cell 1; have z2_1 := p2_8.out.frozen 1; have o2_2 : w_8.cell? ⟨w.heap.size + 2, 2, none⟩ = some (.slice none 0 0) := p2_8.out.cell 2; have z2_2 := p2_8.out.frozen 2; clear hb_8 hq1 hq2))
      | ((go_at_call 46; refine (hI.out _ _ hr8_6.out).mono ?_; rintro e w_7 ⟨rfl, hb_7⟩; have c0_0_7 : w_7.cell? ⟨w.heap.size, 0, none⟩ = some (.bool b1) := (p0_6.out.below hb_7 p0_6.out.lt).cell 0; have c0_1_7 : w_7.cell? ⟨w.heap.size, 1, none⟩ = some (.slice A1 k1 c1) := (p0_6.out.below hb_7 p0_6.out.lt).cell 1; have c0_2_7 : w_7.cell? ⟨w.heap.size, 2, none⟩ = some (.slice A2 k2 c2) := (p0_6.out.below hb_7 p0_6.out.lt).cell 2; have c1_0_7 : w_7.cell? ⟨w.heap.size + 1, 0, none⟩ = some (.bool b2) := (p1_6.out.below hb_7 p1_6.out.lt).cell 0; have c1_1_7 : w_7.cell? ⟨w.heap.size + 1, 1, none⟩ = some (.slice A3 k3 c3) := (p1_6.out.below hb_7 p1_6.out.lt).cell 1; have c1_2_7 : w_7.cell? ⟨w.heap.size + 1, 2, none⟩ = some (.slice A4 k4 c4) := (p1_6.out.below hb_7 p1_6.out.lt).cell 2; have p0_7 := Lib.hid (p0_6.out.below hb_7 p0_6.out.lt); have p1_7 := Lib.hid (p1_6.out.below hb_7 p1_6.out.lt); have p2_7 := Lib.hid (p2_6.out.below hb_7 p2_6.out.lt); have h1_7 := Lib.hid (h1_6.out.below hb_7 (Nat.le_refl _)); have h2_7 := Lib.hid (h2_6.out.below hb_7 (Nat.le_refl _)); have h3_7 := Lib.hid (h3_6.out.below hb_7 (Nat.le_refl _)); have h4_7 := Lib.hid (h4_6.out.below hb_7 (Nat.le_refl _)); have hr5_7 := Lib.hid (hr5_6.out.below hb_7 (Nat.le_refl _)); have hr6_7 := Lib.hid (hr6_6.out.below hb_7 (Nat.le_refl _)); have hr7_7 := Lib.hid (hr7_6.out.below hb_7 (Nat.le_refl _)); have hr8_7 := Lib.hid (hr8_6.out.below hb_7 (Nat.le_refl _)); have bel_7 := Lib.hid (bel_6.out.trans (hb_7.mono bel_6.out.size)); clear hb_7 ))
      | ((go_at_call 47; refine (hN.out _ h2_5.out h4_5.out).mono ?_; rintro e w_6 ⟨r8, rfl, hr8, hb_6⟩; obtain ⟨A8, k8, c8, rfl⟩ := hr8.slice; have c0_0_6 : w_6.cell? ⟨w.heap.size, 0, none⟩ = some (.bool b1) := (p0_5.out.below hb_6 p0_5.out.lt).cell 0; have c0_1_6 : w_6.cell? ⟨w.heap.size, 1, none⟩ = some (.slice A1 k1 c1) := (p0_5.out.below hb_6 p0_5.out.lt).cell 1; have c0_2_6 : w_6.cell? ⟨w.heap.size, 2, none⟩ = some (.slice A2 k2 c2) := (p0_5.out.below hb_6 p0_5.out.lt).cell 2; have c1_0_6 : w_6.cell? ⟨w.heap.size + 1, 0, none⟩ = some (.bool b2) := (p1_5.out.below hb_6 p1_5.out.lt).cell 0; have c1_1_6 : w_6.cell? ⟨w.heap.size + 1, 1, none⟩ = some (.slice A3 k3 c3) := (p1_5.out.below hb_6 p1_5.out.lt).cell 1; have c1_2_6 : w_6.cell? ⟨w.heap.size + 1, 2, none⟩ = some (.slice A4 k4 c4) := (p1_5.out.below hb_6 p1_5.out.lt).cell 2; have p0_6 := Lib.hid (p0_5.out.below hb_6 p0_5.out.lt); have p1_6 := Lib.hid (p1_5.out.below hb_6 p1_5.out.lt); have p2_6 := Lib.hid (p2_5.out.below hb_6 p2_5.out.lt); have h1_6 := Lib.hid (h1_5.out.below hb_6 (Nat.le_refl _)); have h2_6 := Lib.hid (h2_5.out.below hb_6 (Nat.le_refl _)); have h3_6 := Lib.hid (h3_5.out.below hb_6 (Nat.le_refl _)); have h4_6 := Lib.hid (h4_5.out.below hb_6 (Nat.le_refl _)); have hr5_6 := Lib.hid (hr5_5.out.below hb_6 (Nat.le_refl _)); have hr6_6 := Lib.hid (hr6_5.out.below hb_6 (Nat.le_refl _)); have hr7_6 := Lib.hid (hr7_5.out.below hb_6 (Nat.le_refl _)); have hr8_6 := Lib.hid hr8; have bel_6 := Lib.hid (bel_5.out.trans (hb_6.mono bel_5.out.size)); clear hb_6 hr8))
      | ((go_at_call 43; refine (hA.out _ _ _ hr5_4.out hr6_4.out).mono ?_; rintro e w_5 ⟨r7, rfl, hr7, hb_5⟩; obtain ⟨A7, k7, c7, rfl⟩ := hr7.slice; have c0_0_5 : w_5.cell? ⟨w.heap.size, 0, none⟩ = some (.bool b1) := (p0_4.out.below hb_5 p0_4.out.lt).cell 0; have c0_1_5 : w_5.cell? ⟨w.heap.size, 1, none⟩ = some (.slice A1 k1 c1) := (p0_4.out.below hb_5 p0_4.out.lt).cell 1; have c0_2_5 : w_5.cell? ⟨w.heap.size, 2, none⟩ = some (.slice A2 k2 c2) := (p0_4.out.below hb_5 p0_4.out.lt).cell 2; have c1_0_5 : w_5.cell? ⟨w.heap.size + 1, 0, none⟩ = some (.bool b2) := (p1_4.out.below hb_5 p1_4.out.lt).cell 0; have c1_1_5 : w_5.cell? ⟨w.heap.size + 1, 1, none⟩ = some (.slice A3 k3 c3) := (p1_4.out.below hb_5 p1_4.out.lt).cell 1; have c1_2_5 : w_5.cell? ⟨w.heap.size + 1, 2, none⟩ = some (.slice A4 k4 c4) := (p1_4.out.below hb_5 p1_4.out.lt).cell 2; have p0_5 := Lib.hid (p0_4.out.below hb_5 p0_4.out.lt); have p1_5 := Lib.hid (p1_4.out.below hb_5 p1_4.out.lt); have p2_5 := Lib.hid (p2_4.out.below hb_5 p2_4.out.lt); have h1_5 := Lib.hid (h1_4.out.below hb_5 (Nat.le_refl _)); have h2_5 := Lib.hid (h2_4.out.below hb_5 (Nat.le_refl _)); have h3_5 := Lib.hid (h3_4.out.below hb_5 (Nat.le_refl _)); have h4_5 := Lib.hid (h4_4.out.below hb_5 (Nat.le_refl _)); have hr5_5 := Lib.hid (hr5_4.out.below hb_5 (Nat.le_refl _)); have hr6_5 := Lib.hid (hr6_4.out.below hb_5 (Nat.le_refl _)); have hr7_5 := Lib.hid hr7; have bel_5 := Lib.hid (bel_4.out.trans (hb_5.mono bel_4.out.size)); clear hb_5 hr7))
      | ((go_at_call 44; refine (hM2.out _ h3_3.out h2_3.out).mono ?_; rintro e w_4 ⟨r6, rfl, hr6, hb_4⟩; obtain ⟨A6, k6, c6, rfl⟩ := hr6.slice; have c0_0_4 : w_4.cell? ⟨w.heap.size, 0, none⟩ = some (.bool b1) := (p0_3.out.below hb_4 p0_3.out.lt).cell 0; have c0_1_4 : w_4.cell? ⟨w.heap.size, 1, none⟩ = some (.slice A1 k1 c1) := (p0_3.out.below hb_4 p0_3.out.lt).cell 1; have c0_2_4 : w_4.cell? ⟨w.heap.size, 2, none⟩ = some (.slice A2 k2 c2) := (p0_3.out.below hb_4 p0_3.out.lt).cell 2; have c1_0_4 : w_4.cell? ⟨w.heap.size + 1, 0, none⟩ = some (.bool b2) := (p1_3.out.below hb_4 p1_3.out.lt).cell 0; have c1_1_4 : w_4.cell? ⟨w.heap.size + 1, 1, none⟩ = some (.slice A3 k3 c3) := (p1_3.out.below hb_4 p1_3.out.lt).cell 1; have c1_2_4 : w_4.cell? ⟨w.heap.size + 1, 2, none⟩ = some (.slice A4 k4 c4) := (p1_3.out.below hb_4 p1_3.out.lt).cell 2; have p0_4 := Lib.hid (p0_3.out.below hb_4 p0_3.out.lt); have p1_4 := Lib.hid (p1_3.out.below hb_4 p1_3.out.lt); have p2_4 := Lib.hid (p2_3.out.below hb_4 p2_3.out.lt); have h1_4 := Lib.hid (h1_3.out.below hb_4 (Nat.le_refl _)); have h2_4 := Lib.hid (h2_3.out.below hb_4 (Nat.le_refl _)); have h3_4 := Lib.hid (h3_3.out.below hb_4 (Nat.le_refl _)); have h4_4 := Lib.hid (h4_3.out.below hb_4 (Nat.le_refl _)); have hr5_4 := Lib.hid (hr5_3.out.below hb_4 (Nat.le_refl _)); have hr6_4 := Lib.hid hr6; have bel_4 := Lib.hid (bel_3.out.trans (hb_4.mono bel_3.out.size)); clear hb_4 hr6))
      | ((go_at_call 45; refine (hD1.out _ h2_2.out hr5_2.out).mono ?_; rintro e w_3 ⟨rfl, -, hb_3⟩; have c0_0_3 : w_3.cell? ⟨w.heap.size, 0, none⟩ = some (.bool b1) := (p0_2.out.below hb_3 p0_2.out.lt).cell 0; have c0_1_3 : w_3.cell? ⟨w.heap.size, 1, none⟩ = some (.slice A1 k1 c1) := (p0_2.out.below hb_3 p0_2.out.lt).cell 1; have c0_2_3 : w_3.cell? ⟨w.heap.size, 2, none⟩ = some (.slice A2 k2 c2) := (p0_2.out.below hb_3 p0_2.out.lt).cell 2; have c1_0_3 : w_3.cell? ⟨w.heap.size + 1, 0, none⟩ = some (.bool b2) := (p1_2.out.below hb_3 p1_2.out.lt).cell 0; have c1_1_3 : w_3.cell? ⟨w.heap.size + 1, 1, none⟩ = some (.slice A3 k3 c3) := (p1_2.out.below hb_3 p1_2.out.lt).cell 1; have c1_2_3 : w_3.cell? ⟨w.heap.size + 1, 2, none⟩ = some (.slice A4 k4 c4) := (p1_2.out.below hb_3 p1_2.out.lt).cell 2; have p0_3 := Lib.hid (p0_2.out.below hb_3 p0_2.out.lt); have p1_3 := Lib.hid (p1_2.out.below hb_3 p1_2.out.lt); have p2_3 := Lib.hid (p2_2.out.below hb_3 p2_2.out.lt); have h1_3 := Lib.hid (h1_2.out.below hb_3 (Nat.le_refl _)); have h2_3 := Lib.hid (h2_2.out.below hb_3 (Nat.le_refl _)); have h3_3 := Lib.hid (h3_2.out.below hb_3 (Nat.le_refl _)); have h4_3 := Lib.hid (h4_2.out.below hb_3 (Nat.le_refl _)); have hr5_3 := Lib.hid (hr5_2.out.below hb_3 (Nat.le_refl _)); have bel_3 := Lib.hid (bel_2.out.trans (hb_3.mono bel_2.out.size)); clear hb_3 ))
      | ((go_at_call 44; refine (hM1.out _ h1_1.out h4_1.out).mono ?_; rintro e w_2 ⟨r5, rfl, hr5, hb_2⟩; obtain ⟨A5, k5, c5, rfl⟩ := hr5.slice; have c0_0_2 : w_2.cell? ⟨w.heap.size, 0, none⟩ = some (.bool b1) := (p0_1.out.below hb_2 p0_1.out.lt).cell 0; have c0_1_2 : w_2.cell? ⟨w.heap.size, 1, none⟩ = some (.slice A1 k1 c1) := (p0_1.out.below hb_2 p0_1.out.lt).cell 1; have c0_2_2 : w_2.cell? ⟨w.heap.size, 2, none⟩ = some (.slice A2 k2 c2) := (p0_1.out.below hb_2 p0_1.out.lt).cell 2; have c1_0_2 : w_2.cell? ⟨w.heap.size + 1, 0, none⟩ = some (.bool b2) := (p1_1.out.below hb_2 p1_1.out.lt).cell 0; have c1_1_2 : w_2.cell? ⟨w.heap.size + 1, 1, none⟩ = some (.slice A3 k3 c3) := (p1_1.out.below hb_2 p1_1.out.lt).cell 1; have c1_2_2 : w_2.cell? ⟨w.heap.size + 1, 2, none⟩ = some (.slice A4 k4 c4) := (p1_1.out.below hb_2 p1_1.out.lt).cell 2; have p0_2 := Lib.hid (p0_1.out.below hb_2 p0_1.out.lt); have p1_2 := Lib.hid (p1_1.out.below hb_2 p1_1.out.lt); have p2_2 := Lib.hid (p2_1.out.below hb_2 p2_1.out.lt); have h1_2 := Lib.hid (h1_1.out.below hb_2 (Nat.le_refl _)); have h2_2 := Lib.hid (h2_1.out.below hb_2 (Nat.le_refl _)); have h3_2 := Lib.hid (h3_1.out.below hb_2 (Nat.le_refl _)); have h4_2 := Lib.hid (h4_1.out.below hb_2 (Nat.le_refl _)); have hr5_2 := Lib.hid hr5; have bel_2 := Lib.hid (bel_1.out.trans (hb_2.mono bel_1.out.size)); clear hb_2 hr5))
      | ((go_at_call 45; refine (hD2.out _ h4_0.out).mono ?_; rintro e w_1 ⟨rfl, -, hb_1⟩; have c0_0_1 : w_1.cell? ⟨w.heap.size, 0, none⟩ = some (.bool b1) := (p0_0.out.below hb_1 p0_0.out.lt).cell 0; have c0_1_1 : w_1.cell? ⟨w.heap.size, 1, none⟩ = some (.slice A1 k1 c1) := (p0_0.out.below hb_1 p0_0.out.lt).cell 1; have c0_2_1 : w_1.cell? ⟨w.heap.size, 2, none⟩ = some (.slice A2 k2 c2) := (p0_0.out.below hb_1 p0_0.out.lt).cell 2; have c1_0_1 : w_1.cell? ⟨w.heap.size + 1, 0, none⟩ = some (.bool b2) := (p1_0.out.below hb_1 p1_0.out.lt).cell 0; have c1_1_1 : w_1.cell? ⟨w.heap.size + 1, 1, none⟩ = some (.slice A3 k3 c3) := (p1_0.out.below hb_1 p1_0.out.lt).cell 1; have c1_2_1 : w_1.cell? ⟨w.heap.size + 1, 2, none⟩ = some (.slice A4 k4 c4) := (p1_0.out.below hb_1 p1_0.out.lt).cell 2; have p0_1 := Lib.hid (p0_0.out.below hb_1 p0_0.out.lt); have p1_1 := Lib.hid (p1_0.out.below hb_1 p1_0.out.lt); have p2_1 := Lib.hid (p2_0.out.below hb_1 p2_0.out.lt); have h1_1 := Lib.hid (h1_0.out.below hb_1 (Nat.le_refl _)); have h2_1 := Lib.hid (h2_0.out.below hb_1 (Nat.le_refl _)); have h3_1 := Lib.hid (h3_0.out.below hb_1 (Nat.le_refl _)); have h4_1 := Lib.hid (h4_0.out.below hb_1 (Nat.le_refl _)); have bel_1 := Lib.hid (bel_0.out.trans (hb_1.mono bel_0.out.size)); clear hb_1 ))
      | ((fail)))
  all_goals go_wp2
  all_goals
    refine bodyPost_ret (v := .agg #[.bool b9, .slice A9 k9 c9, .slice A10 k10 c10]) (by simp [results, Tryz.results19, go_sem, o2_0, o2_1, o2_2]) rfl ?_
    exact ⟨_, _, _, rfl, ⟨⟨hq1_8.out.box3 p2_8.out (by simp) (by simp), HVS.out⟩, hq2_8.out.box3 p2_8.out (by simp) (by simp)⟩, ((bel_8.out.setCell (by simp <;> omega) _).setCell (by simp <;> omega) _).setCell (by simp <;> omega) _⟩

set_option maxRecDepth 100000 in
set_option maxHeartbeats 8000000 in
theorem rsub_any (b1 b2 : Bool) (v1 v2 v3 v4 : Value) (p q : Rat) (w : World) (hp : RQ w b1 v1 v2 p) (hq : RQ w b2 v3 v4 q) (tp : Tiny p) (tq : Tiny q) :
    Calls Tryz.prog 37 #[.agg #[.bool b1, v1, v2], .agg #[.bool b2, v3, v4]] w fun e w' => ∃ b' vn vd, e = .returned (.agg #[.bool b', vn, vd]) ∧ RQ w' b' vn vd (p - q) ∧ Below w.heap.size w w' := by
  obtain ⟨⟨h1, hb1⟩, h2⟩ := hp
  obtain ⟨⟨h3, hb2⟩, h4⟩ := hq
  obtain ⟨A1, k1, c1, rfl⟩ := h1.slice
  obtain ⟨A2, k2, c2, rfl⟩ := h2.slice
  obtain ⟨A3, k3, c3, rfl⟩ := h3.slice
  obtain ⟨A4, k4, c4, rfl⟩ := h4.slice
  have p0_0 := Lib.hid ((((Blk.mk w (w.heap.size) rfl [.bool b1, .slice A1 k1 c1, .slice A2 k2 c2] 55).alloc (.cells #[.bool b2, .slice A3 k3 c3, .slice A4 k4 c4] 55)).alloc (.cells #[.bool false, .slice none 0 0, .slice none 0 0] 55)).drew)
  have p1_0 := Lib.hid (((Blk.mk (w.alloc (.cells #[.bool b1, .slice A1 k1 c1, .slice A2 k2 c2] 55)) (w.heap.size + 1) (by simp) [.bool b2, .slice A3 k3 c3, .slice A4 k4 c4] 55).alloc (.cells #[.bool false, .slice none 0 0, .slice none 0 0] 55)).drew)
  have p2_0 := Lib.hid ((Blk.mk ((w.alloc (.cells #[.bool b1, .slice A1 k1 c1, .slice A2 k2 c2] 55)).alloc (.cells #[.bool b2, .slice A3 k3 c3, .slice A4 k4 c4] 55)) (w.heap.size + 2) (by simp) [.bool false, .slice none 0 0, .slice none 0 0] 55).drew)
  have bel_0 := Lib.hid (show Below w.heap.size w (((w.alloc (.cells #[.bool b1, .slice A1 k1 c1, .slice A2 k2 c2] 55)).alloc (.cells #[.bool b2, .slice A3 k3 c3, .slice A4 k4 c4] 55)).alloc (.cells #[.bool false, .slice none 0 0, .slice none 0 0] 55)).drew by (repeat (first | assumption | exact Below.refl _ _ | refine Below.drew ?_ | refine Below.setCell ?_ (by simp <;> omega) _ | refine Below.alloc ?_ (by simp <;> omega) _)))
  have ne2 : ¬ w.heap.size + 1 + 1 = w.heap.size := by omega
  have en2 : ¬ w.heap.size = w.heap.size + 1 + 1 := by omega
  have h1_0 := Lib.hid (h1.below bel_0.out (Nat.le_refl _))
  have h2_0 := Lib.hid (h2.below bel_0.out (Nat.le_refl _))
  have h3_0 := Lib.hid (h3.below bel_0.out (Nat.le_refl _))
  have h4_0 := Lib.hid (h4.below bel_0.out (Nat.le_refl _))
  have hN := Lib.hid (fun (wd : World) (ha : RN wd (.slice A3 k3 c3) q.num.natAbs) (hc : RN wd (.slice A4 k4 c4) q.den) => rneg_any b2 _ _ q wd ⟨⟨ha, hb2⟩, hc⟩ tq)
  have hA := fun (wd : World) b5 (ha : RN wd (.slice A1 k1 c1) p.num.natAbs) (hc : RN wd (.slice A2 k2 c2) p.den) (h5 : RQ wd b5 (.slice A3 k3 c3) (.slice A4 k4 c4) (-q)) => radd_any b1 b5 _ _ _ _ p (-q) wd ⟨⟨ha, hb1⟩, hc⟩ h5 tp tq.neg
  rw [show p + -q = p - q from (Rat.sub_eq_add_neg p q).symm] at hA
  replace hA := Lib.hid hA
  clear hb1 hb2 tp tq
  go_enter Tryz.func37, Tryz.ntmps37
  go_upto_region 1 with fail
  go_region_held3 (fun w' => w'.cell? ⟨w.heap.size, 0, none⟩ = some (.bool b1) ∧ w'.cell? ⟨w.heap.size, 1, none⟩ = some (.slice A1 k1 c1) ∧ w'.cell? ⟨w.heap.size, 2, none⟩ = some (.slice A2 k2 c2) ∧ w'.cell? ⟨w.heap.size + 1, 0, none⟩ = some (.bool b2) ∧ w'.cell? ⟨w.heap.size + 1, 1, none⟩ = some (.slice A3 k3 c3) ∧ w'.cell? ⟨w.heap.size + 1, 2, none⟩ = some (.slice A4 k4 c4)) (go_keep)
    (first
      | ((go_at_call 19; refine (hA.out _ _ h1_1.out h2_1.out HQ5.out).mono ?_; rintro e w_2 ⟨b9, v9, v10, rfl, hq9, hb_2⟩; have hq1 := hq9.1.1; have HVS := Lib.hid hq9.1.2; have hq2 := hq9.2; clear hq9; obtain ⟨A9, k9, c9, rfl⟩ := hq1.slice; obtain ⟨A10, k10, c10, rfl⟩ := hq2.slice; have c0_0_2 : w_2.cell? ⟨w.heap.size, 0, none⟩ = some (.bool b1) := (p0_1.out.below hb_2 p0_1.out.lt).cell 0; have c0_1_2 : w_2.cell? ⟨w.heap.size, 1, none⟩ = some (.slice A1 k1 c1) := (p0_1.out.below hb_2 p0_1.out.lt).cell 1; have c0_2_2 : w_2.cell? ⟨w.heap.size, 2, none⟩ = some (.slice A2 k2 c2) := (p0_1.out.below hb_2 p0_1.out.lt).cell 2; have c1_0_2 : w_2.cell? ⟨w.heap.size + 1, 0, none⟩ = some (.bool b2) := (p1_1.out.below hb_2 p1_1.out.lt).cell 0; have c1_1_2 : w_2.cell? ⟨w.heap.size + 1, 1, none⟩ = some (.slice A3 k3 c3) := (p1_1.out.below hb_2 p1_1.out.lt).cell 1; have c1_2_2 : w_2.cell? ⟨w.heap.size + 1, 2, none⟩ = some (.slice A4 k4 c4) := (p1_1.out.below hb_2 p1_1.out.lt).cell 2; have p0_2 := Lib.hid (p0_1.out.below hb_2 p0_1.out.lt); have p1_2 := Lib.hid (p1_1.out.below hb_2 p1_1.out.lt); have p2_2 := Lib.hid (p2_1.out.below hb_2 p2_1.out.lt); have h1_2 := Lib.hid (h1_1.out.below hb_2 (Nat.le_refl _)); have h2_2 := Lib.hid (h2_1.out.below hb_2 (Nat.le_refl _)); have h3_2 := Lib.hid (h3_1.out.below hb_2 (Nat.le_refl _)); have h4_2 := Lib.hid (h4_1.out.below hb_2 (Nat.le_refl _)); have hq1_2 := Lib.hid hq1; have hq2_2 := Lib.hid hq2; have bel_2 := Lib.hid (bel_1.out.trans (hb_2.mono bel_1.out.size)); have o2_0 : w_2.cell? ⟨w.heap.size + 2, 0, none⟩ = some (.bool false) := p2_2.out.cell 0; have z2_0 := p2_2.out.frozen 0; have o2_1 : w_2.cell? ⟨w.heap.size + 2, 1, none⟩ = some (.slice none 0 0) := p2_2.out.cell 1; have z2_1 := p2_2.out.frozen 1; have o2_2 : w_2.cell? ⟨w.heap.size + 2, 2, none⟩ = some (.slice none 0 0) := p2_2.out.cell 2; have z2_2 := p2_2.out.frozen 2; clear hb_2 hq1 hq2))
      | ((go_at_call 76; refine (hN.out _ h3_0.out h4_0.out).mono ?_; rintro e w_1 ⟨b5, rfl, hq5, hb_1⟩; have HQ5 := Lib.hid hq5; clear hq5; have c0_0_1 : w_1.cell? ⟨w.heap.size, 0, none⟩ = some (.bool b1) := (p0_0.out.below hb_1 p0_0.out.lt).cell 0; have c0_1_1 : w_1.cell? ⟨w.heap.size, 1, none⟩ = some (.slice A1 k1 c1) := (p0_0.out.below hb_1 p0_0.out.lt).cell 1; have c0_2_1 : w_1.cell? ⟨w.heap.size, 2, none⟩ = some (.slice A2 k2 c2) := (p0_0.out.below hb_1 p0_0.out.lt).cell 2; have c1_0_1 : w_1.cell? ⟨w.heap.size + 1, 0, none⟩ = some (.bool b2) := (p1_0.out.below hb_1 p1_0.out.lt).cell 0; have c1_1_1 : w_1.cell? ⟨w.heap.size + 1, 1, none⟩ = some (.slice A3 k3 c3) := (p1_0.out.below hb_1 p1_0.out.lt).cell 1; have c1_2_1 : w_1.cell? ⟨w.heap.size + 1, 2, none⟩ = some (.slice A4 k4 c4) := (p1_0.out.below hb_1 p1_0.out.lt).cell 2; have p0_1 := Lib.hid (p0_0.out.below hb_1 p0_0.out.lt); have p1_1 := Lib.hid (p1_0.out.below hb_1 p1_0.out.lt); have p2_1 := Lib.hid (p2_0.out.below hb_1 p2_0.out.lt); have h1_1 := Lib.hid (h1_0.out.below hb_1 (Nat.le_refl _)); have h2_1 := Lib.hid (h2_0.out.below hb_1 (Nat.le_refl _)); have h3_1 := Lib.hid (h3_0.out.below hb_1 (Nat.le_refl _)); have h4_1 := Lib.hid (h4_0.out.below hb_1 (Nat.le_refl _)); have bel_1 := Lib.hid (bel_0.out.trans (hb_1.mono bel_0.out.size)); clear hb_1 ))
      | ((fail)))
  all_goals go_wp2
  all_goals
    refine bodyPost_ret (v := .agg #[.bool b9, .slice A9 k9 c9, .slice A10 k10 c10]) (by simp [results, Tryz.results37, go_sem, o2_0, o2_1, o2_2]) rfl ?_
    exact ⟨_, _, _, rfl, ⟨⟨hq1_2.out.box3 p2_2.out (by simp) (by simp), HVS.out⟩, hq2_2.out.box3 p2_2.out (by simp) (by simp)⟩, ((bel_2.out.setCell (by simp <;> omega) _).setCell (by simp <;> omega) _).setCell (by simp <;> omega) _⟩

set_option maxRecDepth 100000 in
set_option maxHeartbeats 8000000 in
theorem rdiv_any (b1 b2 : Bool) (v1 v2 v3 v4 : Value) (p : Rat) (k : Nat) (w : World) (hp : RQ w b1 v1 v2 p) (hq : RQ w b2 v3 v4 (((k : Nat) : Int) : Rat)) (tp : Tiny p) (hk : k ≠ 0) (hk1 : k < 32768) :
    Calls Tryz.prog 34 #[.agg #[.bool b1, v1, v2], .agg #[.bool b2, v3, v4]] w fun e w' => ∃ b' vn vd, e = .returned (.agg #[.bool b', vn, vd]) ∧ RQ w' b' vn vd (p * mkRat 1 k) ∧ Below w.heap.size w w' := by
  obtain ⟨⟨h1, hb1⟩, h2⟩ := hp
  obtain ⟨⟨h3, hb2⟩, h4⟩ := hq
  rw [Rat.num_intCast] at h3 hb2
  rw [Rat.den_intCast] at h4
  rw [Int.natAbs_natCast] at h3
  obtain rfl : b2 = false := by rw [hb2]; exact decide_eq_false (by omega)
  obtain ⟨A1, k1, c1, rfl⟩ := h1.slice
  obtain ⟨A2, k2, c2, rfl⟩ := h2.slice
  obtain ⟨A3, k3, c3, rfl⟩ := h3.slice
  obtain ⟨A4, k4, c4, rfl⟩ := h4.slice
  have p0_0 := Lib.hid ((((Blk.mk w (w.heap.size) rfl [.bool b1, .slice A1 k1 c1, .slice A2 k2 c2] 55).alloc (.cells #[.bool false, .slice A3 k3 c3, .slice A4 k4 c4] 55)).alloc (.cells #[.bool false, .slice none 0 0, .slice none 0 0] 55)).drew)
  have p1_0 := Lib.hid (((Blk.mk (w.alloc (.cells #[.bool b1, .slice A1 k1 c1, .slice A2 k2 c2] 55)) (w.heap.size + 1) (by simp) [.bool false, .slice A3 k3 c3, .slice A4 k4 c4] 55).alloc (.cells #[.bool false, .slice none 0 0, .slice none 0 0] 55)).drew)
  have p2_0 := Lib.hid ((Blk.mk ((w.alloc (.cells #[.bool b1, .slice A1 k1 c1, .slice A2 k2 c2] 55)).alloc (.cells #[.bool false, .slice A3 k3 c3, .slice A4 k4 c4] 55)) (w.heap.size + 2) (by simp) [.bool false, .slice none 0 0, .slice none 0 0] 55).drew)
  have bel_0 := Lib.hid (show Below w.heap.size w (((w.alloc (.cells #[.bool b1, .slice A1 k1 c1, .slice A2 k2 c2] 55)).alloc (.cells #[.bool false, .slice A3 k3 c3, .slice A4 k4 c4] 55)).alloc (.cells #[.bool false, .slice none 0 0, .slice none 0 0] 55)).drew by (repeat (first | assumption | exact Below.refl _ _ | refine Below.drew ?_ | refine Below.setCell ?_ (by simp <;> omega) _ | refine Below.alloc ?_ (by simp <;> omega) _)))
  have ne2 : ¬ w.heap.size + 1 + 1 = w.heap.size := by omega
  have en2 : ¬ w.heap.size = w.heap.size + 1 + 1 := by omega
  have h1_0 := Lib.hid (h1.below bel_0.out (Nat.le_refl _))
  have h2_0 := Lib.hid (h2.below bel_0.out (Nat.le_refl _))
  have h3_0 := Lib.hid (h3.below bel_0.out (Nat.le_refl _))
  have h4_0 := Lib.hid (h4.below bel_0.out (Nat.le_refl _))
  have hpd := p.den_nz
  have l3 := nat_mul_lt tp.2 hk1
  have hD2 := Lib.hid (fun (wd : World) (hc : RN wd (.slice A4 k4 c4) 1) => rden_any false (.slice A3 k3 c3) _ 1 wd ⟨_, _, _, rfl⟩ hc (by decide))
  have hM1 := fun (wd : World) (ha : RN wd (.slice A1 k1 c1) p.num.natAbs) (hc : RN wd (.slice A4 k4 c4) 1) => imul_nat b1 _ _ p.num 1 wd ha hb1 hc tp.1 (by decide)
  have hM2 := fun (wd : World) (ha : RN wd (.slice A2 k2 c2) p.den) (hc : RN wd (.slice A3 k3 c3) k) => imul_nat false _ _ (p.den : Int) k wd (by rw [Int.natAbs_natCast]; exact ha) (decide_eq_false (by omega)).symm hc (by rw [Int.natAbs_natCast]; exact tp.2) hk1
  have HE := Lib.hid (show mkRat p.num (p.den * k) = p * mkRat 1 k by
    have := Rat.mkRat_mul_mkRat p.num 1 p.den k
    rw [Rat.mkRat_self, Int.mul_one] at this
    exact this.symm)
  have hm0 : p.den * k ≠ 0 := Nat.mul_ne_zero hpd hk
  have e1 : p.num * ((1 : Nat) : Int) = p.num := Int.mul_one _
  have e2 : (p.den : Int) * (k : Int) = ((p.den * k : Nat) : Int) := (Int.natCast_mul _ _).symm
  rw [e1] at hM1
  rw [e2, Int.natAbs_natCast, show decide (((p.den * k : Nat) : Int) < 0) = false from decide_eq_false (by omega)] at hM2
  have hD1 := Lib.hid (fun (wd : World) {u : Value} (hc : RN wd (.slice A2 k2 c2) p.den) (_ : RN wd u p.num.natAbs) => rden_any b1 (.slice A1 k1 c1) _ p.den wd ⟨_, _, _, rfl⟩ hc (by have := tp.2; omega))
  generalize p.den * k = m at *
  have hK := fun (wd : World) u v (ha : RN wd u p.num.natAbs) (hc : RN wd v m) => rmake_any (decide (p.num < 0)) u v p.num m wd ha rfl hc (by have := tp.1; omega) hm0 (by omega)
  rw [HE.out] at hK
  obtain ⟨s1, hs1⟩ : ∃ s, decide (p.num < 0) = s := ⟨_, rfl⟩
  rw [hs1] at hM1 hK
  replace hM1 := Lib.hid hM1
  replace hM2 := Lib.hid hM2
  replace hK := Lib.hid hK
  clear hs1 hb1 hb2 tp hpd l3 e1 e2 hm0 hk hk1
  go_enter Tryz.func34, Tryz.ntmps34
  go_upto_region 1 with fail
  go_region_held3 (fun w' => w'.cell? ⟨w.heap.size, 0, none⟩ = some (.bool b1) ∧ w'.cell? ⟨w.heap.size, 1, none⟩ = some (.slice A1 k1 c1) ∧ w'.cell? ⟨w.heap.size, 2, none⟩ = some (.slice A2 k2 c2) ∧ w'.cell? ⟨w.heap.size + 1, 0, none⟩ = some (.bool false) ∧ w'.cell? ⟨w.heap.size + 1, 1, none⟩ = some (.slice A3 k3 c3) ∧ w'.cell? ⟨w.heap.size + 1, 2, none⟩ = some (.slice A4 k4 c4)) (go_keep)
    (first
      | ((go_at_call 42; refine (hK.out _ _ _ hr5_4.out hr6_4.out).mono ?_; rintro e w_5 ⟨b9, v9, v10, rfl, hq9, hb_5⟩; have hq1 := hq9.1.1; have HVS := Lib.hid hq9.1.2; have hq2 := hq9.2; clear hq9; obtain ⟨A9, k9, c9, rfl⟩ := hq1.slice; obtain ⟨A10, k10, c10, rfl⟩ := hq2.slice; have c0_0_5 : w_5.cell? ⟨w.heap.size, 0, none⟩ = some (.bool b1) := (p0_4.out.below hb_5 p0_4.out.lt).cell 0; have c0_1_5 : w_5.cell? ⟨w.heap.size, 1, none⟩ = some (.slice A1 k1 c1) := (p0_4.out.below hb_5 p0_4.out.lt).cell 1; have c0_2_5 : w_5.cell? ⟨w.heap.size, 2, none⟩ = some (.slice A2 k2 c2) := (p0_4.out.below hb_5 p0_4.out.lt).cell 2; have c1_0_5 : w_5.cell? ⟨w.heap.size + 1, 0, none⟩ = some (.bool false) := (p1_4.out.below hb_5 p1_4.out.lt).cell 0; have c1_1_5 : w_5.cell? ⟨w.heap.size + 1, 1, none⟩ = some (.slice A3 k3 c3) := (p1_4.out.below hb_5 p1_4.out.lt).cell 1; have c1_2_5 : w_5.cell? ⟨w.heap.size + 1, 2, none⟩ = some (.slice A4 k4 c4) := (p1_4.out.below hb_5 p1_4.out.lt).cell 2; have p0_5 := Lib.hid (p0_4.out.below hb_5 p0_4.out.lt); have p1_5 := Lib.hid (p1_4.out.below hb_5 p1_4.out.lt); have p2_5 := Lib.hid (p2_4.out.below hb_5 p2_4.out.lt); have h1_5 := Lib.hid (h1_4.out.below hb_5 (Nat.le_refl _)); have h2_5 := Lib.hid (h2_4.out.below hb_5 (Nat.le_refl _)); have h3_5 := Lib.hid (h3_4.out.below hb_5 (Nat.le_refl _)); have h4_5 := Lib.hid (h4_4.out.below hb_5 (Nat.le_refl _)); have hr5_5 := Lib.hid (hr5_4.out.below hb_5 (Nat.le_refl _)); have hr6_5 := Lib.hid (hr6_4.out.below hb_5 (Nat.le_refl _)); have hq1_5 := Lib.hid hq1; have hq2_5 := Lib.hid hq2; have bel_5 := Lib.hid (bel_4.out.trans (hb_5.mono bel_4.out.size)); have o2_0 : w_5.cell? ⟨w.heap.size + 2, 0, none⟩ = some (.bool false) := p2_5.out.cell 0; have z2_0 := p2_5.out.frozen 0; have o2_1 : w_5.cell? ⟨w.heap.size + 2, 1, none⟩ = some (.slice none 0 0) := p2_5.out.cell 1; have z2_1 := p2_5.out.frozen 1; have o2_2 : w_5.cell? ⟨w.heap.size + 2, 2, none⟩ = some (.slice none 0 0) := p2_5.out.cell 2; have z2_2 := p2_5.out.frozen 2; clear hb_5 hq1 hq2))
      | ((go_at_call 44; refine (hM2.out _ h2_3.out h3_3.out).mono ?_; rintro e w_4 ⟨r6, rfl, hr6, hb_4⟩; obtain ⟨A6, k6, c6, rfl⟩ := hr6.slice; have c0_0_4 : w_4.cell? ⟨w.heap.size, 0, none⟩ = some (.bool b1) := (p0_3.out.below hb_4 p0_3.out.lt).cell 0; have c0_1_4 : w_4.cell? ⟨w.heap.size, 1, none⟩ = some (.slice A1 k1 c1) := (p0_3.out.below hb_4 p0_3.out.lt).cell 1; have c0_2_4 : w_4.cell? ⟨w.heap.size, 2, none⟩ = some (.slice A2 k2 c2) := (p0_3.out.below hb_4 p0_3.out.lt).cell 2; have c1_0_4 : w_4.cell? ⟨w.heap.size + 1, 0, none⟩ = some (.bool false) := (p1_3.out.below hb_4 p1_3.out.lt).cell 0; have c1_1_4 : w_4.cell? ⟨w.heap.size + 1, 1, none⟩ = some (.slice A3 k3 c3) := (p1_3.out.below hb_4 p1_3.out.lt).cell 1; have c1_2_4 : w_4.cell? ⟨w.heap.size + 1, 2, none⟩ = some (.slice A4 k4 c4) := (p1_3.out.below hb_4 p1_3.out.lt).cell 2; have p0_4 := Lib.hid (p0_3.out.below hb_4 p0_3.out.lt); have p1_4 := Lib.hid (p1_3.out.below hb_4 p1_3.out.lt); have p2_4 := Lib.hid (p2_3.out.below hb_4 p2_3.out.lt); have h1_4 := Lib.hid (h1_3.out.below hb_4 (Nat.le_refl _)); have h2_4 := Lib.hid (h2_3.out.below hb_4 (Nat.le_refl _)); have h3_4 := Lib.hid (h3_3.out.below hb_4 (Nat.le_refl _)); have h4_4 := Lib.hid (h4_3.out.below hb_4 (Nat.le_refl _)); have hr5_4 := Lib.hid (hr5_3.out.below hb_4 (Nat.le_refl _)); have hr6_4 := Lib.hid hr6; have bel_4 := Lib.hid (bel_3.out.trans (hb_4.mono bel_3.out.size)); clear hb_4 hr6))
      | ((go_at_call 45; refine (hD1.out _ h2_2.out hr5_2.out).mono ?_; rintro e w_3 ⟨rfl, -, hb_3⟩; have c0_0_3 : w_3.cell? ⟨w.heap.size, 0, none⟩ = some (.bool b1) := (p0_2.out.below hb_3 p0_2.out.lt).cell 0; have c0_1_3 : w_3.cell? ⟨w.heap.size, 1, none⟩ = some (.slice A1 k1 c1) := (p0_2.out.below hb_3 p0_2.out.lt).cell 1; have c0_2_3 : w_3.cell? ⟨w.heap.size, 2, none⟩ = some (.slice A2 k2 c2) := (p0_2.out.below hb_3 p0_2.out.lt).cell 2; have c1_0_3 : w_3.cell? ⟨w.heap.size + 1, 0, none⟩ = some (.bool false) := (p1_2.out.below hb_3 p1_2.out.lt).cell 0; have c1_1_3 : w_3.cell? ⟨w.heap.size + 1, 1, none⟩ = some (.slice A3 k3 c3) := (p1_2.out.below hb_3 p1_2.out.lt).cell 1; have c1_2_3 : w_3.cell? ⟨w.heap.size + 1, 2, none⟩ = some (.slice A4 k4 c4) := (p1_2.out.below hb_3 p1_2.out.lt).cell 2; have p0_3 := Lib.hid (p0_2.out.below hb_3 p0_2.out.lt); have p1_3 := Lib.hid (p1_2.out.below hb_3 p1_2.out.lt); have p2_3 := Lib.hid (p2_2.out.below hb_3 p2_2.out.lt); have h1_3 := Lib.hid (h1_2.out.below hb_3 (Nat.le_refl _)); have h2_3 := Lib.hid (h2_2.out.below hb_3 (Nat.le_refl _)); have h3_3 := Lib.hid (h3_2.out.below hb_3 (Nat.le_refl _)); have h4_3 := Lib.hid (h4_2.out.below hb_3 (Nat.le_refl _)); have hr5_3 := Lib.hid (hr5_2.out.below hb_3 (Nat.le_refl _)); have bel_3 := Lib.hid (bel_2.out.trans (hb_3.mono bel_2.out.size)); clear hb_3 ))
      | ((go_at_call 44; refine (hM1.out _ h1_1.out h4_1.out).mono ?_; rintro e w_2 ⟨r5, rfl, hr5, hb_2⟩; obtain ⟨A5, k5, c5, rfl⟩ := hr5.slice; have c0_0_2 : w_2.cell? ⟨w.heap.size, 0, none⟩ = some (.bool b1) := (p0_1.out.below hb_2 p0_1.out.lt).cell 0; have c0_1_2 : w_2.cell? ⟨w.heap.size, 1, none⟩ = some (.slice A1 k1 c1) := (p0_1.out.below hb_2 p0_1.out.lt).cell 1; have c0_2_2 : w_2.cell? ⟨w.heap.size, 2, none⟩ = some (.slice A2 k2 c2) := (p0_1.out.below hb_2 p0_1.out.lt).cell 2; have c1_0_2 : w_2.cell? ⟨w.heap.size + 1, 0, none⟩ = some (.bool false) := (p1_1.out.below hb_2 p1_1.out.lt).cell 0; have c1_1_2 : w_2.cell? ⟨w.heap.size + 1, 1, none⟩ = some (.slice A3 k3 c3) := (p1_1.out.below hb_2 p1_1.out.lt).cell 1; have c1_2_2 : w_2.cell? ⟨w.heap.size + 1, 2, none⟩ = some (.slice A4 k4 c4) := (p1_1.out.below hb_2 p1_1.out.lt).cell 2; have p0_2 := Lib.hid (p0_1.out.below hb_2 p0_1.out.lt); have p1_2 := Lib.hid (p1_1.out.below hb_2 p1_1.out.lt); have p2_2 := Lib.hid (p2_1.out.below hb_2 p2_1.out.lt); have h1_2 := Lib.hid (h1_1.out.below hb_2 (Nat.le_refl _)); have h2_2 := Lib.hid (h2_1.out.below hb_2 (Nat.le_refl _)); have h3_2 := Lib.hid (h3_1.out.below hb_2 (Nat.le_refl _)); have h4_2 := Lib.hid (h4_1.out.below hb_2 (Nat.le_refl _)); have hr5_2 := Lib.hid hr5; have bel_2 := Lib.hid (bel_1.out.trans (hb_2.mono bel_1.out.size)); clear hb_2 hr5))
      | ((go_at_call 45; refine (hD2.out _ h4_0.out).mono ?_; rintro e w_1 ⟨rfl, -, hb_1⟩; have c0_0_1 : w_1.cell? ⟨w.heap.size, 0, none⟩ = some (.bool b1) := (p0_0.out.below hb_1 p0_0.out.lt).cell 0; have c0_1_1 : w_1.cell? ⟨w.heap.size, 1, none⟩ = some (.slice A1 k1 c1) := (p0_0.out.below hb_1 p0_0.out.lt).cell 1; have c0_2_1 : w_1.cell? ⟨w.heap.size, 2, none⟩ = some (.slice A2 k2 c2) := (p0_0.out.below hb_1 p0_0.out.lt).cell 2; have c1_0_1 : w_1.cell? ⟨w.heap.size + 1, 0, none⟩ = some (.bool false) := (p1_0.out.below hb_1 p1_0.out.lt).cell 0; have c1_1_1 : w_1.cell? ⟨w.heap.size + 1, 1, none⟩ = some (.slice A3 k3 c3) := (p1_0.out.below hb_1 p1_0.out.lt).cell 1; have c1_2_1 : w_1.cell? ⟨w.heap.size + 1, 2, none⟩ = some (.slice A4 k4 c4) := (p1_0.out.below hb_1 p1_0.out.lt).cell 2; have p0_1 := Lib.hid (p0_0.out.below hb_1 p0_0.out.lt); have p1_1 := Lib.hid (p1_0.out.below hb_1 p1_0.out.lt); have p2_1 := Lib.hid (p2_0.out.below hb_1 p2_0.out.lt); have h1_1 := Lib.hid (h1_0.out.below hb_1 (Nat.le_refl _)); have h2_1 := Lib.hid (h2_0.out.below hb_1 (Nat.le_refl _)); have h3_1 := Lib.hid (h3_0.out.below hb_1 (Nat.le_refl _)); have h4_1 := Lib.hid (h4_0.out.below hb_1 (Nat.le_refl _)); have bel_1 := Lib.hid (bel_0.out.trans (hb_1.mono bel_0.out.size)); clear hb_1 ))
      | ((fail)))
  all_goals go_wp2
  all_goals
    refine bodyPost_ret (v := .agg #[.bool b9, .slice A9 k9 c9, .slice A10 k10 c10]) (by simp [results, Tryz.results34, go_sem, o2_0, o2_1, o2_2]) rfl ?_
    exact ⟨_, _, _, rfl, ⟨⟨hq1_5.out.box3 p2_5.out (by simp) (by simp), HVS.out⟩, hq2_5.out.box3 p2_5.out (by simp) (by simp)⟩, ((bel_5.out.setCell (by simp <;> omega) _).setCell (by simp <;> omega) _).setCell (by simp <;> omega) _⟩

end Go.Proofs.YtjfkniknmkcdcaaGreatDoor
