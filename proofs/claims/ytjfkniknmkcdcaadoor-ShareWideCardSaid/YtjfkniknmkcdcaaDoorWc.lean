/- The walk of whole: Add. -/
import Derived.Test.YtjfkniknmkcdcaaDoorWb
namespace Go.Proofs.YtjfkniknmkcdcaaDoor
open Go.RowKit K Nu


theorem add_sgn_same (x y : Int) (h : decide (x < 0) = decide (y < 0)) : (x + y).natAbs = x.natAbs + y.natAbs ∧ (decide (x < 0) && decide (x.natAbs + y.natAbs ≠ 0)) = decide (x + y < 0) := by
  by_cases hx : x < 0
  · rw [decide_eq_true hx] at h
    have hy : y < 0 := of_decide_eq_true h.symm
    refine ⟨by omega, ?_⟩
    rw [decide_eq_true hx, decide_eq_true (show x.natAbs + y.natAbs ≠ 0 by omega), decide_eq_true (show x + y < 0 by omega)]; rfl
  · rw [decide_eq_false hx] at h
    have hy : ¬ y < 0 := of_decide_eq_false h.symm
    refine ⟨by omega, ?_⟩
    rw [decide_eq_false hx, decide_eq_false (show ¬ x + y < 0 by omega)]; rfl

theorem add_sgn_ge (x y : Int) (h : decide (y < 0) = !decide (x < 0)) (hge : y.natAbs ≤ x.natAbs) : (x + y).natAbs = x.natAbs - y.natAbs ∧ (decide (x < 0) && decide (x.natAbs - y.natAbs ≠ 0)) = decide (x + y < 0) := by
  by_cases hx : x < 0
  · rw [decide_eq_true hx] at h
    have hy : ¬ y < 0 := of_decide_eq_false h
    refine ⟨by omega, ?_⟩
    rw [decide_eq_true hx]
    by_cases h0 : x.natAbs = y.natAbs
    · rw [decide_eq_false (show ¬ x.natAbs - y.natAbs ≠ 0 by omega), decide_eq_false (show ¬ x + y < 0 by omega)]; rfl
    · rw [decide_eq_true (show x.natAbs - y.natAbs ≠ 0 by omega), decide_eq_true (show x + y < 0 by omega)]; rfl
  · rw [decide_eq_false hx] at h
    have hy : y < 0 := of_decide_eq_true h
    refine ⟨by omega, ?_⟩
    rw [decide_eq_false hx, decide_eq_false (show ¬ x + y < 0 by omega)]; rfl

set_option maxRecDepth 100000 in
set_option maxHeartbeats 2000000 in
theorem whAdd_same (b : Bool) (v1 v2 : Value) (x y : Int) (w : World) (h1 : IntV w b v1 x) (h2 : IntV w b v2 y) (hs1 : bl x.natAbs ≤ 1073741824) (hs2 : bl y.natAbs ≤ 1073741824) :
    Calls Tryd.prog 26 #[.agg #[.bool b, v1], .agg #[.bool b, v2]] w fun e w' => ∃ v, e = .returned (.agg #[.bool (decide (x + y < 0)), v]) ∧ IntV w' (decide (x + y < 0)) v (x + y) ∧ Below w.heap.size w w' := by
  obtain ⟨hv1, hb1⟩ := h1
  obtain ⟨hv2, hb2⟩ := h2
  obtain ⟨A1, k1, c1, rfl⟩ := hv1.slice
  obtain ⟨A2, k2, c2, rfl⟩ := hv2.slice
  have hM := Lib.hid (fun (wd : World) (ha : NatV wd (.slice A1 k1 c1) x.natAbs) (hb : NatV wd (.slice A2 k2 c2) y.natAbs) => add_any _ _ _ _ wd ha hb hs1 hs2)
  have hsz : bl (x.natAbs + y.natAbs) ≤ 4611686018427387904 := by have := bl_add x.natAbs y.natAbs; omega
  have hF := Lib.hid (fun v (wd : World) (ha : NatV wd v (x.natAbs + y.natAbs)) => from_any b v _ wd ha hsz)
  obtain ⟨hna, hsg⟩ := add_sgn_same x y (hb1.symm.trans hb2)
  rw [← hb1] at hsg
  rw [hsg] at hF
  have HNA := Lib.hid hna
  generalize hsgn : decide (x + y < 0) = sg at *
  have HSG := Lib.hid hsgn
  clear hsgn hsg hb1 hb2 hna hsz
  have p1 := Lib.hid (((Blk.mk w _ rfl [.bool b, .slice A1 k1 c1] 41).alloc (.cells #[.bool b, .slice A2 k2 c2] 41)).alloc (.cells #[.bool false, .slice none 0 0] 41)).drew
  have p2 := Lib.hid ((Blk.mk (w.alloc (.cells #[.bool b, .slice A1 k1 c1] 41)) (w.heap.size + 1) (by simp) [.bool b, .slice A2 k2 c2] 41).alloc (.cells #[.bool false, .slice none 0 0] 41)).drew
  have p3 := Lib.hid (Blk.mk ((w.alloc (.cells #[.bool b, .slice A1 k1 c1] 41)).alloc (.cells #[.bool b, .slice A2 k2 c2] 41)) (w.heap.size + 2) (by simp) [.bool false, .slice none 0 0] 41).drew
  have bel0 := Lib.hid (box3 (w := w) (x := #[.bool b, .slice A1 k1 c1]) (y := #[.bool b, .slice A2 k2 c2]) (z := #[.bool false, .slice none 0 0]) (S := 41) (T := 41) (U := 41)).drew
  have n1 : ¬ w.heap.size + 1 + 1 = w.heap.size := by omega
  have n2 : ¬ w.heap.size = w.heap.size + 1 + 1 := by omega
  have tb : (b == b) = true := by simp
  go_enter Tryd.func26, Tryd.ntmps26
  go_upto_region 2 with fail
  go_region_held3 (fun w' => w'.cell? ⟨w.heap.size, 0, none⟩ = some (.bool b) ∧ w'.cell? ⟨w.heap.size, 1, none⟩ = some (.slice A1 k1 c1) ∧ w'.cell? ⟨w.heap.size + 1, 1, none⟩ = some (.slice A2 k2 c2)) (go_keep)
    (first
      | ((go_at_call 54; refine (hM.out _ ?hs1 ?hs2).mono ?_; (case hs1 => exact hv1.below bel0.out (Nat.le_refl _)); (case hs2 => exact hv2.below bel0.out (Nat.le_refl _)); rintro e w2 ⟨r, rfl, hr, hb2⟩; obtain ⟨A3, k3, c3, rfl⟩ := hr.slice; have d0 : w2.cell? ⟨w.heap.size, 0, none⟩ = some (.bool b) := (p1.out.below hb2 p1.out.lt).cell 0; have d1 : w2.cell? ⟨w.heap.size, 1, none⟩ = some (.slice A1 k1 c1) := (p1.out.below hb2 p1.out.lt).cell 1; have d3 : w2.cell? ⟨w.heap.size + 1, 1, none⟩ = some (.slice A2 k2 c2) := (p2.out.below hb2 p2.out.lt).cell 1; have P1 := Lib.hid (p1.out.below hb2 p1.out.lt); have P2 := Lib.hid (p2.out.below hb2 p2.out.lt); have P3 := Lib.hid (p3.out.below hb2 p3.out.lt); have BEL2 := Lib.hid (bel0.out.trans (hb2.mono bel0.out.size)); clear hb2))
      | ((go_at_call 49; refine (hF.out _ _ hr).mono ?_; rintro e w3 ⟨rfl, hb3⟩; have t0 : w3.cell? ⟨w.heap.size, 0, none⟩ = some (.bool b) := (P1.out.below hb3 P1.out.lt).cell 0; have t1 : w3.cell? ⟨w.heap.size, 1, none⟩ = some (.slice A1 k1 c1) := (P1.out.below hb3 P1.out.lt).cell 1; have t3 : w3.cell? ⟨w.heap.size + 1, 1, none⟩ = some (.slice A2 k2 c2) := (P2.out.below hb3 P2.out.lt).cell 1; have e3 := Lib.hid (P3.out.below hb3 P3.out.lt); have s0 : w3.cell? ⟨w.heap.size + 2, 0, none⟩ = some (.bool false) := e3.out.cell 0; have s1 : w3.cell? ⟨w.heap.size + 2, 1, none⟩ = some (.slice none 0 0) := e3.out.cell 1; have s2 := e3.out.frozen 0; have s3 := e3.out.frozen 1; have HR3 := Lib.hid (hr.below hb3 (Nat.le_refl _)); have BEL3 := Lib.hid (BEL2.out.trans (hb3.mono BEL2.out.size)); clear hb3)))
  all_goals go_wp2
  all_goals
    refine bodyPost_ret (v := .agg #[.bool sg, .slice A3 k3 c3]) (by simp [results, Tryd.results26, go_sem, s0, s1]) rfl ?_
    refine ⟨_, rfl, ⟨?_, HSG.out.symm⟩, (BEL3.out.setCell (by simp <;> omega) _).setCell (by simp <;> omega) _⟩
    rw [HNA.out]
    exact (HR3.out.box e3.out (by simp) 0 (.bool sg)).box (e3.out.set 0 (.bool sg)) (by simp) 1 (.slice A3 k3 c3)

set_option maxRecDepth 100000 in
set_option maxHeartbeats 2000000 in
theorem whAdd_ge (b : Bool) (v1 v2 : Value) (x y : Int) (w : World) (h1 : IntV w b v1 x) (h2 : IntV w (!b) v2 y) (hge : y.natAbs ≤ x.natAbs) (hs1 : bl x.natAbs ≤ 1073741824) :
    Calls Tryd.prog 26 #[.agg #[.bool b, v1], .agg #[.bool (!b), v2]] w fun e w' => ∃ v, e = .returned (.agg #[.bool (decide (x + y < 0)), v]) ∧ IntV w' (decide (x + y < 0)) v (x + y) ∧ Below w.heap.size w w' := by
  obtain ⟨hv1, hb1⟩ := h1
  obtain ⟨hv2, hb2⟩ := h2
  obtain ⟨A1, k1, c1, rfl⟩ := hv1.slice
  obtain ⟨A2, k2, c2, rfl⟩ := hv2.slice
  obtain ⟨b', hb'⟩ : ∃ b', (!b) = b' := ⟨_, rfl⟩
  have hsz : bl (x.natAbs - y.natAbs) ≤ 4611686018427387904 := by have := bl_sub x.natAbs y.natAbs; omega
  have hF := Lib.hid (fun v (wd : World) (ha : NatV wd v (x.natAbs - y.natAbs)) => from_any b v _ wd ha hsz)
  obtain ⟨hna, hsg⟩ := add_sgn_ge x y (hb2.symm.trans (congrArg _ hb1)) hge
  rw [← hb1] at hsg
  rw [hsg] at hF
  have tb : (b == b') = false := by rw [← hb']; cases b <;> rfl
  rw [hb']
  have HNA := Lib.hid hna
  generalize hsgn : decide (x + y < 0) = sg at *
  have HSG := Lib.hid hsgn
  clear hsgn hsg hb1 hb2 hna hsz hb'
  have p1 := (((Blk.mk w _ rfl [.bool b, .slice A1 k1 c1] 41).alloc (.cells #[.bool b', .slice A2 k2 c2] 41)).alloc (.cells #[.bool false, .slice none 0 0] 41))
  have p3 := (Blk.mk ((w.alloc (.cells #[.bool b, .slice A1 k1 c1] 41)).alloc (.cells #[.bool b', .slice A2 k2 c2] 41)) (w.heap.size + 2) (by simp) [.bool false, .slice none 0 0] 41)
  have bel := (box3 (w := w) (x := #[.bool b, .slice A1 k1 c1]) (y := #[.bool b', .slice A2 k2 c2]) (z := #[.bool false, .slice none 0 0]) (S := 41) (T := 41) (U := 41))
  have hS := Lib.hid (sub_ge _ _ x.natAbs y.natAbs _ (hv1.below bel (Nat.le_refl _)) (hv2.below bel (Nat.le_refl _)) hge hs1)
  go_enter Tryd.func26, Tryd.ntmps26
  go_wp2_with fail
  refine hS.out.mono ?_
  rintro e w2 ⟨r, rfl, hr, hb2⟩
  replace p1 := p1.below hb2 p1.lt
  replace p3 := p3.below hb2 p3.lt
  replace bel := bel.trans (hb2.mono bel.size)
  obtain ⟨A3, k3, c3, rfl⟩ := hr.slice
  have d0 : w2.cell? ⟨w.heap.size, 0, none⟩ = some (.bool b) := p1.cell 0
  have l0 := p1.lt
  have l3 := p3.lt
  have HP3 := Lib.hid p3
  clear hb2 hS p3
  go_wp2_with fail
  refine (hF.out _ _ (hr.below ((Below.refl _ _).alloc (Nat.le_refl _) _) (Nat.le_refl _))).mono ?_
  rintro e w3 ⟨rfl, hb3⟩
  have e3 := Lib.hid ((HP3.out.alloc (.cells #[.slice A3 k3 c3] 39)).below hb3 (by simp; omega))
  have s0 : w3.cell? ⟨w.heap.size + 2, 0, none⟩ = some (.bool false) := e3.out.cell 0
  have s1 : w3.cell? ⟨w.heap.size + 2, 1, none⟩ = some (.slice none 0 0) := e3.out.cell 1
  have s2 := e3.out.frozen 0
  have s3 := e3.out.frozen 1
  have HR3 := Lib.hid (hr.below (((Below.refl w2.heap.size w2).alloc (Nat.le_refl _) (.cells #[.slice A3 k3 c3] 39)).trans (hb3.mono (by simp))) (Nat.le_refl _))
  have BEL3 := Lib.hid ((bel.alloc bel.size (.cells #[.slice A3 k3 c3] 39)).trans (hb3.mono (by simp; omega)))
  clear hb3 hF
  go_wp2
  refine bodyPost_ret (v := .agg #[.bool sg, .slice A3 k3 c3]) (by simp [results, Tryd.results26, go_sem, s0, s1]) rfl ?_
  refine ⟨_, rfl, ⟨?_, HSG.out.symm⟩, (BEL3.out.setCell (by simp <;> omega) _).setCell (by simp <;> omega) _⟩
  rw [HNA.out]
  exact (HR3.out.box e3.out (by simp) 0 (.bool sg)).box (e3.out.set 0 (.bool sg)) (by simp) 1 (.slice A3 k3 c3)

set_option maxRecDepth 100000 in
set_option maxHeartbeats 2000000 in
theorem whAdd_lt (b : Bool) (v1 v2 : Value) (x y : Int) (w : World) (h1 : IntV w b v1 x) (h2 : IntV w (!b) v2 y) (hlt : x.natAbs < y.natAbs) (hs2 : bl y.natAbs ≤ 1073741824) :
    Calls Tryd.prog 26 #[.agg #[.bool b, v1], .agg #[.bool (!b), v2]] w fun e w' => ∃ v, e = .returned (.agg #[.bool (decide (x + y < 0)), v]) ∧ IntV w' (decide (x + y < 0)) v (x + y) ∧ Below w.heap.size w w' := by
  obtain ⟨hv1, hb1⟩ := h1
  obtain ⟨hv2, hb2⟩ := h2
  obtain ⟨A1, k1, c1, rfl⟩ := hv1.slice
  obtain ⟨A2, k2, c2, rfl⟩ := hv2.slice
  obtain ⟨b', hb'⟩ : ∃ b', (!b) = b' := ⟨_, rfl⟩
  have hsz : bl (y.natAbs - x.natAbs) ≤ 4611686018427387904 := by have := bl_sub y.natAbs x.natAbs; omega
  have hF := Lib.hid (fun v (wd : World) (ha : NatV wd v (y.natAbs - x.natAbs)) => from_any b' v _ wd ha hsz)
  obtain ⟨hna, hsg⟩ := add_sgn_ge y x (by rw [← hb1, ← hb2]; simp) (by omega)
  rw [← hb2, hb', Int.add_comm y x] at hsg
  rw [Int.add_comm y x] at hna
  rw [hsg] at hF
  have tb : (b == b') = false := by rw [← hb']; cases b <;> rfl
  have tn : (!b) = b' := hb'
  rw [hb']
  have HNA := Lib.hid hna
  generalize hsgn : decide (x + y < 0) = sg at *
  have HSG := Lib.hid hsgn
  clear hsgn hsg hb1 hb2 hna hsz hb'
  have p1 := (((Blk.mk w _ rfl [.bool b, .slice A1 k1 c1] 41).alloc (.cells #[.bool b', .slice A2 k2 c2] 41)).alloc (.cells #[.bool false, .slice none 0 0] 41))
  have p2 := ((Blk.mk (w.alloc (.cells #[.bool b, .slice A1 k1 c1] 41)) (w.heap.size + 1) (by simp) [.bool b', .slice A2 k2 c2] 41).alloc (.cells #[.bool false, .slice none 0 0] 41))
  have p3 := (Blk.mk ((w.alloc (.cells #[.bool b, .slice A1 k1 c1] 41)).alloc (.cells #[.bool b', .slice A2 k2 c2] 41)) (w.heap.size + 2) (by simp) [.bool false, .slice none 0 0] 41)
  have bel := (box3 (w := w) (x := #[.bool b, .slice A1 k1 c1]) (y := #[.bool b', .slice A2 k2 c2]) (z := #[.bool false, .slice none 0 0]) (S := 41) (T := 41) (U := 41))
  have hS := Lib.hid (sub_lt _ _ x.natAbs y.natAbs _ (hv1.below bel (Nat.le_refl _)) (hv2.below bel (Nat.le_refl _)) hlt)
  have hT := Lib.hid (fun (wd : World) (ha : NatV wd (.slice A1 k1 c1) x.natAbs) (hb : NatV wd (.slice A2 k2 c2) y.natAbs) => sub_ge _ _ y.natAbs x.natAbs wd hb ha (by omega) hs2)
  have n1 : ¬ w.heap.size + 1 + 1 = w.heap.size := by omega
  have n2 : ¬ w.heap.size = w.heap.size + 1 + 1 := by omega
  go_enter Tryd.func26, Tryd.ntmps26
  go_wp2_with fail
  refine hS.out.mono ?_
  rintro e w2 ⟨rfl, hb2⟩
  replace p1 := p1.below hb2 p1.lt
  replace p2 := p2.below hb2 p2.lt
  replace p3 := p3.below hb2 p3.lt
  replace bel := bel.trans (hb2.mono bel.size)
  have d0 : w2.cell? ⟨w.heap.size, 0, none⟩ = some (.bool b) := p1.cell 0
  have d1 : w2.cell? ⟨w.heap.size, 1, none⟩ = some (.slice A1 k1 c1) := p1.cell 1
  have d3 : w2.cell? ⟨w.heap.size + 1, 1, none⟩ = some (.slice A2 k2 c2) := p2.cell 1
  have d2 : w2.cell? ⟨w.heap.size + 1, 0, none⟩ = some (.bool b') := p2.cell 0
  have l0 := p1.lt
  have l2 := p2.lt
  have l3 := p3.lt
  have HP1 := Lib.hid p1
  have HP2 := Lib.hid p2
  have HP3 := Lib.hid p3
  clear hb2 hS p1 p2 p3
  go_wp2_with fail
  have hd : Below w2.heap.size w2 (w2.alloc (.cells #[.slice none 0 0] 39)) := (Below.refl _ _).alloc (Nat.le_refl _) _
  have hx2 : NatV w2 (.slice A1 k1 c1) x.natAbs := hv1.below bel (Nat.le_refl _)
  have hy2 : NatV w2 (.slice A2 k2 c2) y.natAbs := hv2.below bel (Nat.le_refl _)
  refine (hT.out _ (hx2.below hd (Nat.le_refl _)) (hy2.below hd (Nat.le_refl _))).mono ?_
  rintro e w3 ⟨r, rfl, hr, hb3⟩
  obtain ⟨A3, k3, c3, rfl⟩ := hr.slice
  have e1 := (HP1.out.alloc (.cells #[.slice none 0 0] 39)).below hb3 (by simp; omega)
  have e2 := (HP2.out.alloc (.cells #[.slice none 0 0] 39)).below hb3 (by simp; omega)
  have HP3' := Lib.hid ((HP3.out.alloc (.cells #[.slice none 0 0] 39)).below hb3 (by simp; omega))
  have HD := Lib.hid ((Blk.mk w2 w2.heap.size rfl [.slice none 0 0] 39).below hb3 (by simp))
  have BEL2 := Lib.hid ((bel.alloc bel.size (.cells #[.slice none 0 0] 39)).trans (hb3.mono (by simp; omega)))
  have hlt3 := Lib.hid hb3.size
  have t0 : w3.cell? ⟨w.heap.size, 0, none⟩ = some (.bool b) := e1.cell 0
  have t2 : w3.cell? ⟨w.heap.size + 1, 0, none⟩ = some (.bool b') := e2.cell 0
  have t4 : w3.cell? ⟨w2.heap.size, 0, none⟩ = some (.slice none 0 0) := HD.out.cell 0
  have t5 := HD.out.frozen 0
  have le1 := e1.lt
  have le2 := e2.lt
  have ld := HD.out.lt
  clear hb3 hd hT e1 e2 d0 d1 d2 d3 hx2 hy2 l0 l2
  go_wp2_with fail
  have hz : w2.heap.size < w3.heap.size := ld
  refine (hF.out _ _ (hr.below ((Below.refl _ _).alloc (Nat.le_refl _) _) (Nat.le_refl _))).mono ?_
  rintro e w4 ⟨rfl, hb4⟩
  have e3 := Lib.hid ((HP3'.out.alloc (.cells #[.slice A3 k3 c3] 39)).below hb4 (by simp; omega))
  have s0 : w4.cell? ⟨w.heap.size + 2, 0, none⟩ = some (.bool false) := e3.out.cell 0
  have s1 : w4.cell? ⟨w.heap.size + 2, 1, none⟩ = some (.slice none 0 0) := e3.out.cell 1
  have s2 := e3.out.frozen 0
  have s3 := e3.out.frozen 1
  have HR3 := Lib.hid (hr.below (((Below.refl w3.heap.size w3).alloc (Nat.le_refl _) (.cells #[.slice A3 k3 c3] 39)).trans (hb4.mono (by simp))) (Nat.le_refl _))
  have BEL3 := Lib.hid ((BEL2.out.alloc BEL2.out.size (.cells #[.slice A3 k3 c3] 39)).trans (hb4.mono (by simp; omega)))
  clear hb4 hF t0 t2 t4 t5
  go_wp2
  refine bodyPost_ret (v := .agg #[.bool sg, .slice A3 k3 c3]) (by simp [results, Tryd.results26, go_sem, s0, s1]) rfl ?_
  refine ⟨_, rfl, ⟨?_, HSG.out.symm⟩, (BEL3.out.setCell (by simp <;> omega) _).setCell (by simp <;> omega) _⟩
  rw [HNA.out]
  exact (HR3.out.box e3.out (by simp) 0 (.bool sg)).box (e3.out.set 0 (.bool sg)) (by simp) 1 (.slice A3 k3 c3)

theorem whAdd_any (b1 b2 : Bool) (v1 v2 : Value) (x y : Int) (w : World) (h1 : IntV w b1 v1 x) (h2 : IntV w b2 v2 y) (hs1 : bl x.natAbs ≤ 1073741824) (hs2 : bl y.natAbs ≤ 1073741824) :
    Calls Tryd.prog 26 #[.agg #[.bool b1, v1], .agg #[.bool b2, v2]] w fun e w' => ∃ v, e = .returned (.agg #[.bool (decide (x + y < 0)), v]) ∧ IntV w' (decide (x + y < 0)) v (x + y) ∧ Below w.heap.size w w' := by
  by_cases hb : b2 = b1
  · subst hb; exact whAdd_same b2 v1 v2 x y w h1 h2 hs1 hs2
  · have hb' : b2 = !b1 := by cases b1 <;> cases b2 <;> simp_all
    subst hb'
    by_cases hxy : y.natAbs ≤ x.natAbs
    · exact whAdd_ge b1 v1 v2 x y w h1 h2 hxy hs1
    · exact whAdd_lt b1 v1 v2 x y w h1 h2 (by omega) hs2
end Go.Proofs.YtjfkniknmkcdcaaDoor
