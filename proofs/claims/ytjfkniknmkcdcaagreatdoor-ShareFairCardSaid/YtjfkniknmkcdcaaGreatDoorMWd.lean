/- Texts of this claim, joined: Wc, Wd. -/
import Derived.Test.YtjfkniknmkcdcaaGreatDoorMWb
namespace Go.Proofs.YtjfkniknmkcdcaaGreatDoor
open Go.RowKit K Nu


theorem add_sgn_same (x y : Int) (h : decide (x < 0) = decide (y < 0)) : (x + y).natAbs = x.natAbs + y.natAbs ∧ (decide (x < 0) && decide (x.natAbs + y.natAbs ≠ 0)) = decide (x + y < 0) := by
  by_cases hx : x < 0
  · rw [decide_eq_true hx] at h
    have hy : y < 0 := of_decide_eq_true h.symm
    refine ⟨by omega, ?_⟩
    rw [decide_eq_true hx, decide_eq_true (show x.natAbs + y.natAbs ≠ 0 by omega), decide_eq_true (show x + y < 0 by omega)]; rfl
  · rw [decide_eq_false hx] at h
    have hy : ¬ y < 0 := of_decide_eq_false h.symm
    refine ⟨by omega, ?_⟩
    rw [decide_eq_false hx, decide_eq_false (show ¬ x + y < 0 by omega)]; rfl

theorem add_sgn_ge (x y : Int) (h : decide (y < 0) = !decide (x < 0)) (hge : y.natAbs ≤ x.natAbs) : (x + y).natAbs = x.natAbs - y.natAbs ∧ (decide (x < 0) && decide (x.natAbs - y.natAbs ≠ 0)) = decide (x + y < 0) := by
  by_cases hx : x < 0
  · rw [decide_eq_true hx] at h
    have hy : ¬ y < 0 := of_decide_eq_false h
    refine ⟨by omega, ?_⟩
    rw [decide_eq_true hx]
    by_cases h0 : x.natAbs = y.natAbs
    · rw [decide_eq_false (show ¬ x.natAbs - y.natAbs ≠ 0 by omega), decide_eq_false (show ¬ x + y < 0 by omega)]; rfl
    · rw [decide_eq_true (show x.natAbs - y.natAbs ≠ 0 by omega), decide_eq_true (show x + y < 0 by omega)]; rfl
  · rw [decide_eq_false hx] at h
    have hy : y < 0 := of_decide_eq_true h
    refine ⟨by omega, ?_⟩
    rw [decide_eq_false hx, decide_eq_false (show ¬ x + y < 0 by omega)]; rfl

set_option maxRecDepth 100000 in
set_option maxHeartbeats 2000000 in
theorem whAdd_same (b : Bool) (v1 v2 : Value) (x y : Int) (w : World) (h1 : IntV w b v1 x) (h2 : IntV w b v2 y) (hs1 : bl x.natAbs ≤ 1073741824) (hs2 : bl y.natAbs ≤ 1073741824) :
    Calls Tryz.prog 49 #[.agg #[.bool b, v1], .agg #[.bool b, v2]] w fun e w' => ∃ v, e = .returned (.agg #[.bool (decide (x + y < 0)), v]) ∧ IntV w' (decide (x + y < 0)) v (x + y) ∧ Below w.heap.size w w' := by
  obtain ⟨hv1, hb1⟩ := h1
  obtain ⟨hv2, hb2⟩ := h2
  obtain ⟨A1, k1, c1, rfl⟩ := hv1.slice
  obtain ⟨A2, k2, c2, rfl⟩ := hv2.slice
  have hM := Lib.hid (fun (wd : World) (ha : NatV wd (.slice A1 k1 c1) x.natAbs) (hb : NatV wd (.slice A2 k2 c2) y.natAbs) => add_any _ _ _ _ wd ha hb hs1 hs2)
  have hsz : bl (x.natAbs + y.natAbs) ≤ 4611686018427387904 := by have := bl_add x.natAbs y.natAbs; omega
  have hF := Lib.hid (fun v (wd : World) (ha : NatV wd v (x.natAbs + y.natAbs)) => from_any b v _ wd ha hsz)
  obtain ⟨hna, hsg⟩ := add_sgn_same x y (hb1.symm.trans hb2)
  rw [← hb1] at hsg
  rw [hsg] at hF
  have HNA := Lib.hid hna
  generalize hsgn : decide (x + y < 0) = sg at *
  have HSG := Lib.hid hsgn
  clear hsgn hsg hb1 hb2 hna hsz
  have p1 := Lib.hid (((Blk.mk w _ rfl [.bool b, .slice A1 k1 c1] 38).alloc (.cells #[.bool b, .slice A2 k2 c2] 38)).alloc (.cells #[.bool false, .slice none 0 0] 38)).drew
  have p2 := Lib.hid ((Blk.mk (w.alloc (.cells #[.bool b, .slice A1 k1 c1] 38)) (w.heap.size + 1) (by simp) [.bool b, .slice A2 k2 c2] 38).alloc (.cells #[.bool false, .slice none 0 0] 38)).drew
  have p3 := Lib.hid (Blk.mk ((w.alloc (.cells #[.bool b, .slice A1 k1 c1] 38)).alloc (.cells #[.bool b, .slice A2 k2 c2] 38)) (w.heap.size + 2) (by simp) [.bool false, .slice none 0 0] 38).drew
  have bel0 := Lib.hid (box3 (w := w) (x := #[.bool b, .slice A1 k1 c1]) (y := #[.bool b, .slice A2 k2 c2]) (z := #[.bool false, .slice none 0 0]) (S := 38) (T := 38) (U := 38)).drew
  have n1 : ¬ w.heap.size + 1 + 1 = w.heap.size := by omega
  have n2 : ¬ w.heap.size = w.heap.size + 1 + 1 := by omega
  have tb : (b == b) = true := by simp
  go_enter Tryz.func49, Tryz.ntmps49
  go_upto_region 2 with fail
  go_region_held3 (fun w' => w'.cell? ⟨w.heap.size, 0, none⟩ = some (.bool b) ∧ w'.cell? ⟨w.heap.size, 1, none⟩ = some (.slice A1 k1 c1) ∧ w'.cell? ⟨w.heap.size + 1, 1, none⟩ = some (.slice A2 k2 c2)) (go_keep)
    (first
      | ((go_at_call 87; refine (hM.out _ ?hs1 ?hs2).mono ?_; (case hs1 => exact hv1.below bel0.out (Nat.le_refl _)); (case hs2 => exact hv2.below bel0.out (Nat.le_refl _)); rintro e w2 ⟨r, rfl, hr, hb2⟩; obtain ⟨A3, k3, c3, rfl⟩ := hr.slice; have d0 : w2.cell? ⟨w.heap.size, 0, none⟩ = some (.bool b) := (p1.out.below hb2 p1.out.lt).cell 0; have d1 : w2.cell? ⟨w.heap.size, 1, none⟩ = some (.slice A1 k1 c1) := (p1.out.below hb2 p1.out.lt).cell 1; have d3 : w2.cell? ⟨w.heap.size + 1, 1, none⟩ = some (.slice A2 k2 c2) := (p2.out.below hb2 p2.out.lt).cell 1; have P1 := Lib.hid (p1.out.below hb2 p1.out.lt); have P2 := Lib.hid (p2.out.below hb2 p2.out.lt); have P3 := Lib.hid (p3.out.below hb2 p3.out.lt); have BEL2 := Lib.hid (bel0.out.trans (hb2.mono bel0.out.size)); clear hb2))
      | ((go_at_call 40; refine (hF.out _ _ hr).mono ?_; rintro e w3 ⟨rfl, hb3⟩; have t0 : w3.cell? ⟨w.heap.size, 0, none⟩ = some (.bool b) := (P1.out.below hb3 P1.out.lt).cell 0; have t1 : w3.cell? ⟨w.heap.size, 1, none⟩ = some (.slice A1 k1 c1) := (P1.out.below hb3 P1.out.lt).cell 1; have t3 : w3.cell? ⟨w.heap.size + 1, 1, none⟩ = some (.slice A2 k2 c2) := (P2.out.below hb3 P2.out.lt).cell 1; have e3 := Lib.hid (P3.out.below hb3 P3.out.lt); have s0 : w3.cell? ⟨w.heap.size + 2, 0, none⟩ = some (.bool false) := e3.out.cell 0; have s1 : w3.cell? ⟨w.heap.size + 2, 1, none⟩ = some (.slice none 0 0) := e3.out.cell 1; have s2 := e3.out.frozen 0; have s3 := e3.out.frozen 1; have HR3 := Lib.hid (hr.below hb3 (Nat.le_refl _)); have BEL3 := Lib.hid (BEL2.out.trans (hb3.mono BEL2.out.size)); clear hb3)))
  all_goals go_wp2
  all_goals
    refine bodyPost_ret (v := .agg #[.bool sg, .slice A3 k3 c3]) (by simp [results, Tryz.results49, go_sem, s0, s1]) rfl ?_
    refine ⟨_, rfl, ⟨?_, HSG.out.symm⟩, (BEL3.out.setCell (by simp <;> omega) _).setCell (by simp <;> omega) _⟩
    rw [HNA.out]
    exact (HR3.out.box e3.out (by simp) 0 (.bool sg)).box (e3.out.set 0 (.bool sg)) (by simp) 1 (.slice A3 k3 c3)

set_option maxRecDepth 100000 in
set_option maxHeartbeats 2000000 in
theorem whAdd_ge (b : Bool) (v1 v2 : Value) (x y : Int) (w : World) (h1 : IntV w b v1 x) (h2 : IntV w (!b) v2 y) (hge : y.natAbs ≤ x.natAbs) (hs1 : bl x.natAbs ≤ 1073741824) :
    Calls Tryz.prog 49 #[.agg #[.bool b, v1], .agg #[.bool (!b), v2]] w fun e w' => ∃ v, e = .returned (.agg #[.bool (decide (x + y < 0)), v]) ∧ IntV w' (decide (x + y < 0)) v (x + y) ∧ Below w.heap.size w w' := by
  obtain ⟨hv1, hb1⟩ := h1
  obtain ⟨hv2, hb2⟩ := h2
  obtain ⟨A1, k1, c1, rfl⟩ := hv1.slice
  obtain ⟨A2, k2, c2, rfl⟩ := hv2.slice
  obtain ⟨b', hb'⟩ : ∃ b', (!b) = b' := ⟨_, rfl⟩
  have hsz : bl (x.natAbs - y.natAbs) ≤ 4611686018427387904 := by have := bl_sub x.natAbs y.natAbs; omega
  have hF := Lib.hid (fun v (wd : World) (ha : NatV wd v (x.natAbs - y.natAbs)) => from_any b v _ wd ha hsz)
  obtain ⟨hna, hsg⟩ := add_sgn_ge x y (hb2.symm.trans (congrArg _ hb1)) hge
  rw [← hb1] at hsg
  rw [hsg] at hF
  have tb : (b == b') = false := by rw [← hb']; cases b <;> rfl
  rw [hb']
  have HNA := Lib.hid hna
  generalize hsgn : decide (x + y < 0) = sg at *
  have HSG := Lib.hid hsgn
  clear hsgn hsg hb1 hb2 hna hsz hb'
  have p1 := (((Blk.mk w _ rfl [.bool b, .slice A1 k1 c1] 38).alloc (.cells #[.bool b', .slice A2 k2 c2] 38)).alloc (.cells #[.bool false, .slice none 0 0] 38))
  have p3 := (Blk.mk ((w.alloc (.cells #[.bool b, .slice A1 k1 c1] 38)).alloc (.cells #[.bool b', .slice A2 k2 c2] 38)) (w.heap.size + 2) (by simp) [.bool false, .slice none 0 0] 38)
  have bel := (box3 (w := w) (x := #[.bool b, .slice A1 k1 c1]) (y := #[.bool b', .slice A2 k2 c2]) (z := #[.bool false, .slice none 0 0]) (S := 38) (T := 38) (U := 38))
  have hS := Lib.hid (sub_ge _ _ x.natAbs y.natAbs _ (hv1.below bel (Nat.le_refl _)) (hv2.below bel (Nat.le_refl _)) hge hs1)
  go_enter Tryz.func49, Tryz.ntmps49
  go_wp2_with fail
  refine hS.out.mono ?_
  rintro e w2 ⟨r, rfl, hr, hb2⟩
  replace p1 := p1.below hb2 p1.lt
  replace p3 := p3.below hb2 p3.lt
  replace bel := bel.trans (hb2.mono bel.size)
  obtain ⟨A3, k3, c3, rfl⟩ := hr.slice
  have d0 : w2.cell? ⟨w.heap.size, 0, none⟩ = some (.bool b) := p1.cell 0
  have l0 := p1.lt
  have l3 := p3.lt
  have HP3 := Lib.hid p3
  clear hb2 hS p3
  go_wp2_with fail
  refine (hF.out _ _ (hr.below ((Below.refl _ _).alloc (Nat.le_refl _) _) (Nat.le_refl _))).mono ?_
  rintro e w3 ⟨rfl, hb3⟩
  have e3 := Lib.hid ((HP3.out.alloc (.cells #[.slice A3 k3 c3] 36)).below hb3 (by simp; omega))
  have s0 : w3.cell? ⟨w.heap.size + 2, 0, none⟩ = some (.bool false) := e3.out.cell 0
  have s1 : w3.cell? ⟨w.heap.size + 2, 1, none⟩ = some (.slice none 0 0) := e3.out.cell 1
  have s2 := e3.out.frozen 0
  have s3 := e3.out.frozen 1
  have HR3 := Lib.hid (hr.below (((Below.refl w2.heap.size w2).alloc (Nat.le_refl _) (.cells #[.slice A3 k3 c3] 36)).trans (hb3.mono (by simp))) (Nat.le_refl _))
  have BEL3 := Lib.hid ((bel.alloc bel.size (.cells #[.slice A3 k3 c3] 36)).trans (hb3.mono (by simp; omega)))
  clear hb3 hF
  go_wp2
  refine bodyPost_ret (v := .agg #[.bool sg, .slice A3 k3 c3]) (by simp [results, Tryz.results49, go_sem, s0, s1]) rfl ?_
  refine ⟨_, rfl, ⟨?_, HSG.out.symm⟩, (BEL3.out.setCell (by simp <;> omega) _).setCell (by simp <;> omega) _⟩
  rw [HNA.out]
  exact (HR3.out.box e3.out (by simp) 0 (.bool sg)).box (e3.out.set 0 (.bool sg)) (by simp) 1 (.slice A3 k3 c3)

set_option maxRecDepth 100000 in
set_option maxHeartbeats 2000000 in
theorem whAdd_lt (b : Bool) (v1 v2 : Value) (x y : Int) (w : World) (h1 : IntV w b v1 x) (h2 : IntV w (!b) v2 y) (hlt : x.natAbs < y.natAbs) (hs2 : bl y.natAbs ≤ 1073741824) :
    Calls Tryz.prog 49 #[.agg #[.bool b, v1], .agg #[.bool (!b), v2]] w fun e w' => ∃ v, e = .returned (.agg #[.bool (decide (x + y < 0)), v]) ∧ IntV w' (decide (x + y < 0)) v (x + y) ∧ Below w.heap.size w w' := by
  obtain ⟨hv1, hb1⟩ := h1
  obtain ⟨hv2, hb2⟩ := h2
  obtain ⟨A1, k1, c1, rfl⟩ := hv1.slice
  obtain ⟨A2, k2, c2, rfl⟩ := hv2.slice
  obtain ⟨b', hb'⟩ : ∃ b', (!b) = b' := ⟨_, rfl⟩
  have hsz : bl (y.natAbs - x.natAbs) ≤ 4611686018427387904 := by have := bl_sub y.natAbs x.natAbs; omega
  have hF := Lib.hid (fun v (wd : World) (ha : NatV wd v (y.natAbs - x.natAbs)) => from_any b' v _ wd ha hsz)
  obtain ⟨hna, hsg⟩ := add_sgn_ge y x (by rw [← hb1, ← hb2]; simp) (by omega)
  rw [← hb2, hb', Int.add_comm y x] at hsg
  rw [Int.add_comm y x] at hna
  rw [hsg] at hF
  have tb : (b == b') = false := by rw [← hb']; cases b <;> rfl
  have tn : (!b) = b' := hb'
  rw [hb']
  have HNA := Lib.hid hna
  generalize hsgn : decide (x + y < 0) = sg at *
  have HSG := Lib.hid hsgn
  clear hsgn hsg hb1 hb2 hna hsz hb'
  have p1 := (((Blk.mk w _ rfl [.bool b, .slice A1 k1 c1] 38).alloc (.cells #[.bool b', .slice A2 k2 c2] 38)).alloc (.cells #[.bool false, .slice none 0 0] 38))
  have p2 := ((Blk.mk (w.alloc (.cells #[.bool b, .slice A1 k1 c1] 38)) (w.heap.size + 1) (by simp) [.bool b', .slice A2 k2 c2] 38).alloc (.cells #[.bool false, .slice none 0 0] 38))
  have p3 := (Blk.mk ((w.alloc (.cells #[.bool b, .slice A1 k1 c1] 38)).alloc (.cells #[.bool b', .slice A2 k2 c2] 38)) (w.heap.size + 2) (by simp) [.bool false, .slice none 0 0] 38)
  have bel := (box3 (w := w) (x := #[.bool b, .slice A1 k1 c1]) (y := #[.bool b', .slice A2 k2 c2]) (z := #[.bool false, .slice none 0 0]) (S := 38) (T := 38) (U := 38))
  have hS := Lib.hid (sub_lt _ _ x.natAbs y.natAbs _ (hv1.below bel (Nat.le_refl _)) (hv2.below bel (Nat.le_refl _)) hlt)
  have hT := Lib.hid (fun (wd : World) (ha : NatV wd (.slice A1 k1 c1) x.natAbs) (hb : NatV wd (.slice A2 k2 c2) y.natAbs) => sub_ge _ _ y.natAbs x.natAbs wd hb ha (by omega) hs2)
  have n1 : ¬ w.heap.size + 1 + 1 = w.heap.size := by omega
  have n2 : ¬ w.heap.size = w.heap.size + 1 + 1 := by omega
  go_enter Tryz.func49, Tryz.ntmps49
  go_wp2_with fail
  refine hS.out.mono ?_
  rintro e w2 ⟨rfl, hb2⟩
  replace p1 := p1.below hb2 p1.lt
  replace p2 := p2.below hb2 p2.lt
  replace p3 := p3.below hb2 p3.lt
  replace bel := bel.trans (hb2.mono bel.size)
  have d0 : w2.cell? ⟨w.heap.size, 0, none⟩ = some (.bool b) := p1.cell 0
  have d1 : w2.cell? ⟨w.heap.size, 1, none⟩ = some (.slice A1 k1 c1) := p1.cell 1
  have d3 : w2.cell? ⟨w.heap.size + 1, 1, none⟩ = some (.slice A2 k2 c2) := p2.cell 1
  have d2 : w2.cell? ⟨w.heap.size + 1, 0, none⟩ = some (.bool b') := p2.cell 0
  have l0 := p1.lt
  have l2 := p2.lt
  have l3 := p3.lt
  have HP1 := Lib.hid p1
  have HP2 := Lib.hid p2
  have HP3 := Lib.hid p3
  clear hb2 hS p1 p2 p3
  go_wp2_with fail
  have hd : Below w2.heap.size w2 (w2.alloc (.cells #[.slice none 0 0] 36)) := (Below.refl _ _).alloc (Nat.le_refl _) _
  have hx2 : NatV w2 (.slice A1 k1 c1) x.natAbs := hv1.below bel (Nat.le_refl _)
  have hy2 : NatV w2 (.slice A2 k2 c2) y.natAbs := hv2.below bel (Nat.le_refl _)
  refine (hT.out _ (hx2.below hd (Nat.le_refl _)) (hy2.below hd (Nat.le_refl _))).mono ?_
  rintro e w3 ⟨r, rfl, hr, hb3⟩
  obtain ⟨A3, k3, c3, rfl⟩ := hr.slice
  have e1 := (HP1.out.alloc (.cells #[.slice none 0 0] 36)).below hb3 (by simp; omega)
  have e2 := (HP2.out.alloc (.cells #[.slice none 0 0] 36)).below hb3 (by simp; omega)
  have HP3' := Lib.hid ((HP3.out.alloc (.cells #[.slice none 0 0] 36)).below hb3 (by simp; omega))
  have HD := Lib.hid ((Blk.mk w2 w2.heap.size rfl [.slice none 0 0] 36).below hb3 (by simp))
  have BEL2 := Lib.hid ((bel.alloc bel.size (.cells #[.slice none 0 0] 36)).trans (hb3.mono (by simp; omega)))
  have hlt3 := Lib.hid hb3.size
  have t0 : w3.cell? ⟨w.heap.size, 0, none⟩ = some (.bool b) := e1.cell 0
  have t2 : w3.cell? ⟨w.heap.size + 1, 0, none⟩ = some (.bool b') := e2.cell 0
  have t4 : w3.cell? ⟨w2.heap.size, 0, none⟩ = some (.slice none 0 0) := HD.out.cell 0
  have t5 := HD.out.frozen 0
  have le1 := e1.lt
  have le2 := e2.lt
  have ld := HD.out.lt
  clear hb3 hd hT e1 e2 d0 d1 d2 d3 hx2 hy2 l0 l2
  go_wp2_with fail
  have hz : w2.heap.size < w3.heap.size := ld
  refine (hF.out _ _ (hr.below ((Below.refl _ _).alloc (Nat.le_refl _) _) (Nat.le_refl _))).mono ?_
  rintro e w4 ⟨rfl, hb4⟩
  have e3 := Lib.hid ((HP3'.out.alloc (.cells #[.slice A3 k3 c3] 36)).below hb4 (by simp; omega))
  have s0 : w4.cell? ⟨w.heap.size + 2, 0, none⟩ = some (.bool false) := e3.out.cell 0
  have s1 : w4.cell? ⟨w.heap.size + 2, 1, none⟩ = some (.slice none 0 0) := e3.out.cell 1
  have s2 := e3.out.frozen 0
  have s3 := e3.out.frozen 1
  have HR3 := Lib.hid (hr.below (((Below.refl w3.heap.size w3).alloc (Nat.le_refl _) (.cells #[.slice A3 k3 c3] 36)).trans (hb4.mono (by simp))) (Nat.le_refl _))
  have BEL3 := Lib.hid ((BEL2.out.alloc BEL2.out.size (.cells #[.slice A3 k3 c3] 36)).trans (hb4.mono (by simp; omega)))
  clear hb4 hF t0 t2 t4 t5
  go_wp2
  refine bodyPost_ret (v := .agg #[.bool sg, .slice A3 k3 c3]) (by simp [results, Tryz.results49, go_sem, s0, s1]) rfl ?_
  refine ⟨_, rfl, ⟨?_, HSG.out.symm⟩, (BEL3.out.setCell (by simp <;> omega) _).setCell (by simp <;> omega) _⟩
  rw [HNA.out]
  exact (HR3.out.box e3.out (by simp) 0 (.bool sg)).box (e3.out.set 0 (.bool sg)) (by simp) 1 (.slice A3 k3 c3)

theorem whAdd_any (b1 b2 : Bool) (v1 v2 : Value) (x y : Int) (w : World) (h1 : IntV w b1 v1 x) (h2 : IntV w b2 v2 y) (hs1 : bl x.natAbs ≤ 1073741824) (hs2 : bl y.natAbs ≤ 1073741824) :
    Calls Tryz.prog 49 #[.agg #[.bool b1, v1], .agg #[.bool b2, v2]] w fun e w' => ∃ v, e = .returned (.agg #[.bool (decide (x + y < 0)), v]) ∧ IntV w' (decide (x + y < 0)) v (x + y) ∧ Below w.heap.size w w' := by
  by_cases hb : b2 = b1
  · subst hb; exact whAdd_same b2 v1 v2 x y w h1 h2 hs1 hs2
  · have hb' : b2 = !b1 := by cases b1 <;> cases b2 <;> simp_all
    subst hb'
    by_cases hxy : y.natAbs ≤ x.natAbs
    · exact whAdd_ge b1 v1 v2 x y w h1 h2 hxy hs1
    · exact whAdd_lt b1 v1 v2 x y w h1 h2 (by omega) hs2
end Go.Proofs.YtjfkniknmkcdcaaGreatDoor

namespace Go.Proofs.YtjfkniknmkcdcaaGreatDoor
open Go.RowKit K Nu

theorem div_sgn (b1 b2 : Bool) (x y : Int) (h1 : b1 = decide (x < 0)) (h2 : b2 = decide (y < 0)) (hd : x.natAbs % y.natAbs = 0) (hy : y ≠ 0) :
    (x / y).natAbs = x.natAbs / y.natAbs ∧ ((b1 != b2) && decide (x.natAbs / y.natAbs ≠ 0)) = decide (x / y < 0) := by
  obtain ⟨k, hk⟩ : y ∣ x := Int.natAbs_dvd_natAbs.1 (Nat.dvd_of_mod_eq_zero hd)
  subst hk
  have hq : y * k / y = k := Int.mul_ediv_cancel_left k hy
  have hn : (y * k).natAbs / y.natAbs = k.natAbs := by
    rw [Int.natAbs_mul]; exact Nat.mul_div_cancel_left _ (Int.natAbs_pos.2 hy)
  rw [hq, hn]
  refine ⟨rfl, ?_⟩
  rw [h1, h2]
  by_cases hk0 : k = 0
  · subst hk0; simp
  · rw [decide_eq_true (show k.natAbs ≠ 0 by omega), Bool.and_true]
    by_cases hk' : k < 0
    · rw [decide_eq_true hk']
      by_cases hy' : y < 0
      · have := Int.mul_pos_of_neg_of_neg hy' hk'
        rw [decide_eq_true hy', decide_eq_false (by omega)]; rfl
      · have := Int.mul_neg_of_pos_of_neg (show 0 < y by omega) hk'
        rw [decide_eq_false hy', decide_eq_true this]; rfl
    · rw [decide_eq_false hk']
      by_cases hy' : y < 0
      · have := Int.mul_neg_of_neg_of_pos hy' (show 0 < k by omega)
        rw [decide_eq_true hy', decide_eq_true this]; rfl
      · have := Int.mul_pos (show 0 < y by omega) (show 0 < k by omega)
        rw [decide_eq_false hy', decide_eq_false (by omega)]; rfl

set_option maxRecDepth 100000 in
set_option maxHeartbeats 2000000 in
theorem whDiv_dvd (b1 b2 : Bool) (v1 v2 : Value) (x y : Int) (w : World) (h1 : IntV w b1 v1 x) (h2 : IntV w b2 v2 y) (hy : y ≠ 0) (hd : x.natAbs % y.natAbs = 0) (hs1 : bl x.natAbs ≤ 1073741824) :
    Calls Tryz.prog 96 #[.agg #[.bool b1, v1], .agg #[.bool b2, v2]] w fun e w' => ∃ v r, e = .returned (.tuple #[.agg #[.bool (decide (x / y < 0)), v], .agg #[.bool false, r], .bool true]) ∧ IntV w' (decide (x / y < 0)) v (x / y) ∧ NatV w' r 0 ∧ Below w.heap.size w w' := by
  obtain ⟨hv1, hb1⟩ := h1
  obtain ⟨hv2, hb2⟩ := h2
  obtain ⟨A1, k1, c1, rfl⟩ := hv1.slice
  obtain ⟨A2, k2, c2, rfl⟩ := hv2.slice
  obtain ⟨hna, hsg⟩ := div_sgn b1 b2 x y hb1 hb2 hd hy
  have hsz : bl (x.natAbs / y.natAbs) ≤ 4611686018427387904 := by have := bl_mono (Nat.div_le_self x.natAbs y.natAbs); omega
  have hF := Lib.hid (fun v (wd : World) (ha : NatV wd v (x.natAbs / y.natAbs)) => from_any (b1 != b2) v _ wd ha hsz)
  rw [hsg] at hF
  have hbe : (b1 != b2) = !(b1 == b2) := rfl
  rw [hbe] at hF
  clear hbe
  have hG := Lib.hid (fun v (wd : World) (ha : NatV wd v 0) => from_any b2 v 0 wd ha (by decide))
  have hB := Lib.hid (fun v (wd : World) (ha : NatV wd v 0) => bits_any v 0 wd ha (by decide))
  have HNA := Lib.hid hna
  obtain ⟨sg, hsgn⟩ : ∃ sg, decide (x / y < 0) = sg := ⟨_, rfl⟩
  rw [hsgn] at hF ⊢
  have HSG := Lib.hid hsgn
  clear hsgn hsg hb1 hb2 hna hsz
  have p1 := ((((Blk.mk w _ rfl [.bool b1, .slice A1 k1 c1] 38).alloc (.cells #[.bool b2, .slice A2 k2 c2] 38)).alloc (.cells #[.bool false, .slice none 0 0] 38)).alloc (.cells #[.bool false, .slice none 0 0] 38))
  have p2 := (((Blk.mk (w.alloc (.cells #[.bool b1, .slice A1 k1 c1] 38)) (w.heap.size + 1) (by simp) [.bool b2, .slice A2 k2 c2] 38).alloc (.cells #[.bool false, .slice none 0 0] 38)).alloc (.cells #[.bool false, .slice none 0 0] 38))
  have p3 := ((Blk.mk ((w.alloc (.cells #[.bool b1, .slice A1 k1 c1] 38)).alloc (.cells #[.bool b2, .slice A2 k2 c2] 38)) (w.heap.size + 2) (by simp) [.bool false, .slice none 0 0] 38)).alloc (.cells #[.bool false, .slice none 0 0] 38)
  have p4 := (Blk.mk (((w.alloc (.cells #[.bool b1, .slice A1 k1 c1] 38)).alloc (.cells #[.bool b2, .slice A2 k2 c2] 38)).alloc (.cells #[.bool false, .slice none 0 0] 38)) (w.heap.size + 3) (by simp) [.bool false, .slice none 0 0] 38)
  have bel := (box4 (w := w) (x := #[.bool b1, .slice A1 k1 c1]) (y := #[.bool b2, .slice A2 k2 c2]) (z := #[.bool false, .slice none 0 0]) (u := #[.bool false, .slice none 0 0]) (S := 38) (T := 38) (U := 38) (X := 38))
  have hD := Lib.hid (div_any _ _ x.natAbs y.natAbs _ (hv1.below bel (Nat.le_refl _)) (hv2.below bel (Nat.le_refl _)) (by omega) hs1)
  rw [hd] at hD
  go_enter Tryz.func96, Tryz.ntmps96
  go_wp2_with fail
  refine hD.out.mono ?_
  rintro e w2 ⟨q, r, rfl, hq, hr, hb2⟩
  replace p1 := p1.below hb2 p1.lt
  replace p2 := p2.below hb2 p2.lt
  replace p3 := p3.below hb2 p3.lt
  replace p4 := p4.below hb2 p4.lt
  replace bel := bel.trans (hb2.mono bel.size)
  obtain ⟨A3, k3, c3, rfl⟩ := hq.slice
  obtain ⟨A4, k4, c4, rfl⟩ := hr.slice
  have d0 : w2.cell? ⟨w.heap.size, 0, none⟩ = some (.bool b1) := p1.cell 0
  have d2 : w2.cell? ⟨w.heap.size + 1, 0, none⟩ = some (.bool b2) := p2.cell 0
  have l0 := p1.lt
  have l2 := p2.lt
  have l3 := p3.lt
  have l4 := p4.lt
  have P1 := Lib.hid p1
  have P2 := Lib.hid p2
  have P3 := Lib.hid p3
  have P4 := Lib.hid p4
  have BEL := Lib.hid bel
  clear hb2 hD p1 p2 p3 p4 bel
  have ne2 : ¬ w.heap.size + 1 + 1 = w.heap.size := by omega
  have ne3 : ¬ w.heap.size = w.heap.size + 1 + 1 := by omega
  have ne4 : ¬ w.heap.size + 1 + 1 = w.heap.size + 1 := by omega
  have ne5 : ¬ w.heap.size + 1 = w.heap.size + 1 + 1 := by omega
  have ne6 : ¬ w.heap.size + 1 + 1 = w2.heap.size := by omega
  have ne7 : ¬ w2.heap.size = w.heap.size + 1 + 1 := by omega
  have ne8 : ¬ w.heap.size + 1 + 1 = w2.heap.size + 1 := by omega
  have ne9 : ¬ w2.heap.size + 1 = w.heap.size + 1 + 1 := by omega
  have ne10 : ¬ w.heap.size + 1 + 1 + 1 = w.heap.size := by omega
  have ne11 : ¬ w.heap.size = w.heap.size + 1 + 1 + 1 := by omega
  have ne12 : ¬ w.heap.size + 1 + 1 + 1 = w.heap.size + 1 := by omega
  have ne13 : ¬ w.heap.size + 1 = w.heap.size + 1 + 1 + 1 := by omega
  have ne14 : ¬ w.heap.size + 1 + 1 + 1 = w2.heap.size := by omega
  have ne15 : ¬ w2.heap.size = w.heap.size + 1 + 1 + 1 := by omega
  have ne16 : ¬ w.heap.size + 1 + 1 + 1 = w2.heap.size + 1 := by omega
  have ne17 : ¬ w2.heap.size + 1 = w.heap.size + 1 + 1 + 1 := by omega
  have nf1 : ¬ w2.heap.size = w.heap.size + 1 := by omega
  have nf2 : ¬ w.heap.size + 1 = w2.heap.size := by omega
  have q0 := ((BEL.out.alloc BEL.out.size (.cells #[.slice A3 k3 c3] 36)).alloc (by simp; omega) (.cells #[.slice A4 k4 c4] 36))
  have q1 := ((Blk.mk w2 _ rfl [.slice A3 k3 c3] 36).alloc (.cells #[.slice A4 k4 c4] 36))
  have q2 := (Blk.mk (w2.alloc (.cells #[.slice A3 k3 c3] 36)) (w2.heap.size + 1) (by simp) [.slice A4 k4 c4] 36)
  have bq : Below w2.heap.size w2 ((w2.alloc (.cells #[.slice A3 k3 c3] 36)).alloc (.cells #[.slice A4 k4 c4] 36)) := box2
  replace hq := hq.below bq (Nat.le_refl _)
  replace hr := hr.below bq (Nat.le_refl _)
  cases hnb : (b1 == b2) with
  | false =>
    rw [hnb] at hF
    simp only [Bool.not_false] at hF
    go_wp2_with fail
    refine (hB.out _ _ hr).mono ?_
    rintro e w3 ⟨rfl, hb3⟩
    have E0 := Lib.hid (((P1.out.alloc (.cells #[.slice A3 k3 c3] 36)).alloc (.cells #[.slice A4 k4 c4] 36)).below hb3 (by simp; omega))
    have E2 := Lib.hid (((P2.out.alloc (.cells #[.slice A3 k3 c3] 36)).alloc (.cells #[.slice A4 k4 c4] 36)).below hb3 (by simp; omega))
    have E3 := Lib.hid (((P3.out.alloc (.cells #[.slice A3 k3 c3] 36)).alloc (.cells #[.slice A4 k4 c4] 36)).below hb3 (by simp; omega))
    have E4 := Lib.hid (((P4.out.alloc (.cells #[.slice A3 k3 c3] 36)).alloc (.cells #[.slice A4 k4 c4] 36)).below hb3 (by simp; omega))
    have Eu := Lib.hid (q1.below hb3 (by simp; omega))
    have Er := Lib.hid (q2.below hb3 (by simp))
    have BELd := Lib.hid (q0.trans (hb3.mono (by simp; omega)))
    replace hq := hq.below hb3 (Nat.le_refl _)
    replace hr := hr.below hb3 (Nat.le_refl _)
    have z0 : w3.cell? ⟨w.heap.size, 0, none⟩ = some (.bool b1) := E0.out.cell 0
    have z2 : w3.cell? ⟨w.heap.size + 1, 0, none⟩ = some (.bool b2) := E2.out.cell 0
    have z3 : w3.cell? ⟨w2.heap.size, 0, none⟩ = some (.slice A3 k3 c3) := Eu.out.one
    have z4 : w3.cell? ⟨w2.heap.size + 1, 0, none⟩ = some (.slice A4 k4 c4) := Er.out.one
    have tb : decide ((bl 0 : Int) > 0) = false := by decide
    have tb' : decide (0 < (bl 0 : Int)) = false := by decide
    clear hb3 hB q0 q1 q2 bq d0 d2
    have pE0 := Lib.hid E0.out.drew
    have pE2 := Lib.hid E2.out.drew
    have pE3 := Lib.hid E3.out.drew
    have pE4 := Lib.hid E4.out.drew
    have pEq := Lib.hid Eu.out.drew
    have pEr := Lib.hid Er.out.drew
    have bel0 := Lib.hid BELd.out.drew
    have HQ := Lib.hid (hq.below ((Below.refl _ _).drew) (Nat.le_refl _))
    have HR := Lib.hid (hr.below ((Below.refl _ _).drew) (Nat.le_refl _))
    clear hq hr
    go_upto_region 1 with fail
    go_region_held3 (fun w' => w'.cell? ⟨w.heap.size, 0, none⟩ = some (.bool b1) ∧ w'.cell? ⟨w.heap.size + 1, 0, none⟩ = some (.bool b2) ∧ w'.cell? ⟨w2.heap.size, 0, none⟩ = some (.slice A3 k3 c3) ∧ w'.cell? ⟨w2.heap.size + 1, 0, none⟩ = some (.slice A4 k4 c4)) (go_keep)
      (first
        | ((go_at_call 40; refine (hG.out _ _ HR5.out).mono ?_; rintro e w6 ⟨rfl, hb6⟩; have t0 : w6.cell? ⟨w.heap.size, 0, none⟩ = some (.bool b1) := (F0.out.below hb6 F0.out.lt).cell 0; have t1 : w6.cell? ⟨w.heap.size + 1, 0, none⟩ = some (.bool b2) := (F2.out.below hb6 F2.out.lt).cell 0; have t2 : w6.cell? ⟨w2.heap.size, 0, none⟩ = some (.slice A3 k3 c3) := (Fq.out.below hb6 Fq.out.lt).one; have t3 : w6.cell? ⟨w2.heap.size + 1, 0, none⟩ = some (.slice A4 k4 c4) := (Fr.out.below hb6 Fr.out.lt).one; have e3 := Lib.hid (F3.out.below hb6 F3.out.lt); have e4 := Lib.hid (F4.out.below hb6 F4.out.lt); have s0 : w6.cell? ⟨w.heap.size + 2, 0, none⟩ = some (.bool false) := e3.out.cell 0; have s1 : w6.cell? ⟨w.heap.size + 2, 1, none⟩ = some (.slice none 0 0) := e3.out.cell 1; have s2 := e3.out.frozen 0; have s3 := e3.out.frozen 1; have s4 : w6.cell? ⟨w.heap.size + 3, 0, none⟩ = some (.bool false) := e4.out.cell 0; have s5 : w6.cell? ⟨w.heap.size + 3, 1, none⟩ = some (.slice none 0 0) := e4.out.cell 1; have s6 := e4.out.frozen 0; have s7 := e4.out.frozen 1; have HQ6 := Lib.hid (HQ5.out.below hb6 (Nat.le_refl _)); have HR6 := Lib.hid (HR5.out.below hb6 (Nat.le_refl _)); have BEL6 := Lib.hid (BEL5.out.trans (hb6.mono BEL5.out.size)); clear hb6))
        | ((go_at_call 40; refine (hF.out _ _ HQ.out).mono ?_; rintro e w5 ⟨rfl, hb5⟩; have d0 : w5.cell? ⟨w.heap.size, 0, none⟩ = some (.bool b1) := (pE0.out.below hb5 pE0.out.lt).cell 0; have d1 : w5.cell? ⟨w.heap.size + 1, 0, none⟩ = some (.bool b2) := (pE2.out.below hb5 pE2.out.lt).cell 0; have d2 : w5.cell? ⟨w2.heap.size, 0, none⟩ = some (.slice A3 k3 c3) := (pEq.out.below hb5 pEq.out.lt).one; have d3 : w5.cell? ⟨w2.heap.size + 1, 0, none⟩ = some (.slice A4 k4 c4) := (pEr.out.below hb5 pEr.out.lt).one; have F0 := Lib.hid (pE0.out.below hb5 pE0.out.lt); have F2 := Lib.hid (pE2.out.below hb5 pE2.out.lt); have F3 := Lib.hid (pE3.out.below hb5 pE3.out.lt); have F4 := Lib.hid (pE4.out.below hb5 pE4.out.lt); have Fq := Lib.hid (pEq.out.below hb5 pEq.out.lt); have Fr := Lib.hid (pEr.out.below hb5 pEr.out.lt); have BEL5 := Lib.hid (bel0.out.trans (hb5.mono bel0.out.size)); have HQ5 := Lib.hid (HQ.out.below hb5 (Nat.le_refl _)); have HR5 := Lib.hid (HR.out.below hb5 (Nat.le_refl _)); clear hb5)))
    all_goals go_wp2
    all_goals
      refine bodyPost_ret (v := .tuple #[.agg #[.bool sg, .slice A3 k3 c3], .agg #[.bool false, .slice A4 k4 c4], .bool true]) (by simp [results, Tryz.results96, go_sem, s0, s1, s4, s5]) rfl ?_
      have g4 := (e4.out.far (a := ⟨w.heap.size + 2, 0, none⟩) (by simp) (.bool sg)).far (a := ⟨w.heap.size + 2, 1, none⟩) (by simp) (.slice A3 k3 c3)
      refine ⟨_, _, rfl, ⟨?_, HSG.out.symm⟩, ?_, ?_⟩
      · rw [HNA.out]
        exact (((HQ6.out.box e3.out (by simp) 0 (.bool sg)).box (e3.out.set 0 (.bool sg)) (by simp) 1 (.slice A3 k3 c3)).box g4 (by simp) 0 (.bool false)).box (g4.set 0 (.bool false)) (by simp) 1 (.slice A4 k4 c4)
      · exact (((HR6.out.box e3.out (by simp) 0 (.bool sg)).box (e3.out.set 0 (.bool sg)) (by simp) 1 (.slice A3 k3 c3)).box g4 (by simp) 0 (.bool false)).box (g4.set 0 (.bool false)) (by simp) 1 (.slice A4 k4 c4)
      · repeat (first | exact BEL6.out | refine Below.setCell ?_ (by simp <;> omega) _ | refine Below.drew ?_)
  | true =>
    rw [hnb] at hF
    simp only [Bool.not_true] at hF
    have E0 := Lib.hid (((P1.out.alloc (.cells #[.slice A3 k3 c3] 36)).alloc (.cells #[.slice A4 k4 c4] 36)))
    have E2 := Lib.hid (((P2.out.alloc (.cells #[.slice A3 k3 c3] 36)).alloc (.cells #[.slice A4 k4 c4] 36)))
    have E3 := Lib.hid (((P3.out.alloc (.cells #[.slice A3 k3 c3] 36)).alloc (.cells #[.slice A4 k4 c4] 36)))
    have E4 := Lib.hid (((P4.out.alloc (.cells #[.slice A3 k3 c3] 36)).alloc (.cells #[.slice A4 k4 c4] 36)))
    have Eu := Lib.hid q1
    have Er := Lib.hid q2
    have BELd := Lib.hid q0
    clear hB q0 q1 q2 bq
    have pE0 := Lib.hid E0.out.drew
    have pE2 := Lib.hid E2.out.drew
    have pE3 := Lib.hid E3.out.drew
    have pE4 := Lib.hid E4.out.drew
    have pEq := Lib.hid Eu.out.drew
    have pEr := Lib.hid Er.out.drew
    have bel0 := Lib.hid BELd.out.drew
    have HQ := Lib.hid (hq.below ((Below.refl _ _).drew) (Nat.le_refl _))
    have HR := Lib.hid (hr.below ((Below.refl _ _).drew) (Nat.le_refl _))
    clear hq hr
    go_upto_region 1 with fail
    go_region_held3 (fun w' => w'.cell? ⟨w.heap.size, 0, none⟩ = some (.bool b1) ∧ w'.cell? ⟨w.heap.size + 1, 0, none⟩ = some (.bool b2) ∧ w'.cell? ⟨w2.heap.size, 0, none⟩ = some (.slice A3 k3 c3) ∧ w'.cell? ⟨w2.heap.size + 1, 0, none⟩ = some (.slice A4 k4 c4)) (go_keep)
      (first
        | ((go_at_call 40; refine (hG.out _ _ HR5.out).mono ?_; rintro e w6 ⟨rfl, hb6⟩; have t0 : w6.cell? ⟨w.heap.size, 0, none⟩ = some (.bool b1) := (F0.out.below hb6 F0.out.lt).cell 0; have t1 : w6.cell? ⟨w.heap.size + 1, 0, none⟩ = some (.bool b2) := (F2.out.below hb6 F2.out.lt).cell 0; have t2 : w6.cell? ⟨w2.heap.size, 0, none⟩ = some (.slice A3 k3 c3) := (Fq.out.below hb6 Fq.out.lt).one; have t3 : w6.cell? ⟨w2.heap.size + 1, 0, none⟩ = some (.slice A4 k4 c4) := (Fr.out.below hb6 Fr.out.lt).one; have e3 := Lib.hid (F3.out.below hb6 F3.out.lt); have e4 := Lib.hid (F4.out.below hb6 F4.out.lt); have s0 : w6.cell? ⟨w.heap.size + 2, 0, none⟩ = some (.bool false) := e3.out.cell 0; have s1 : w6.cell? ⟨w.heap.size + 2, 1, none⟩ = some (.slice none 0 0) := e3.out.cell 1; have s2 := e3.out.frozen 0; have s3 := e3.out.frozen 1; have s4 : w6.cell? ⟨w.heap.size + 3, 0, none⟩ = some (.bool false) := e4.out.cell 0; have s5 : w6.cell? ⟨w.heap.size + 3, 1, none⟩ = some (.slice none 0 0) := e4.out.cell 1; have s6 := e4.out.frozen 0; have s7 := e4.out.frozen 1; have HQ6 := Lib.hid (HQ5.out.below hb6 (Nat.le_refl _)); have HR6 := Lib.hid (HR5.out.below hb6 (Nat.le_refl _)); have BEL6 := Lib.hid (BEL5.out.trans (hb6.mono BEL5.out.size)); clear hb6))
        | ((go_at_call 40; refine (hF.out _ _ HQ.out).mono ?_; rintro e w5 ⟨rfl, hb5⟩; have d0 : w5.cell? ⟨w.heap.size, 0, none⟩ = some (.bool b1) := (pE0.out.below hb5 pE0.out.lt).cell 0; have d1 : w5.cell? ⟨w.heap.size + 1, 0, none⟩ = some (.bool b2) := (pE2.out.below hb5 pE2.out.lt).cell 0; have d2 : w5.cell? ⟨w2.heap.size, 0, none⟩ = some (.slice A3 k3 c3) := (pEq.out.below hb5 pEq.out.lt).one; have d3 : w5.cell? ⟨w2.heap.size + 1, 0, none⟩ = some (.slice A4 k4 c4) := (pEr.out.below hb5 pEr.out.lt).one; have F0 := Lib.hid (pE0.out.below hb5 pE0.out.lt); have F2 := Lib.hid (pE2.out.below hb5 pE2.out.lt); have F3 := Lib.hid (pE3.out.below hb5 pE3.out.lt); have F4 := Lib.hid (pE4.out.below hb5 pE4.out.lt); have Fq := Lib.hid (pEq.out.below hb5 pEq.out.lt); have Fr := Lib.hid (pEr.out.below hb5 pEr.out.lt); have BEL5 := Lib.hid (bel0.out.trans (hb5.mono bel0.out.size)); have HQ5 := Lib.hid (HQ.out.below hb5 (Nat.le_refl _)); have HR5 := Lib.hid (HR.out.below hb5 (Nat.le_refl _)); clear hb5)))
    all_goals go_wp2
    all_goals
      refine bodyPost_ret (v := .tuple #[.agg #[.bool sg, .slice A3 k3 c3], .agg #[.bool false, .slice A4 k4 c4], .bool true]) (by simp [results, Tryz.results96, go_sem, s0, s1, s4, s5]) rfl ?_
      have g4 := (e4.out.far (a := ⟨w.heap.size + 2, 0, none⟩) (by simp) (.bool sg)).far (a := ⟨w.heap.size + 2, 1, none⟩) (by simp) (.slice A3 k3 c3)
      refine ⟨_, _, rfl, ⟨?_, HSG.out.symm⟩, ?_, ?_⟩
      · rw [HNA.out]
        exact (((HQ6.out.box e3.out (by simp) 0 (.bool sg)).box (e3.out.set 0 (.bool sg)) (by simp) 1 (.slice A3 k3 c3)).box g4 (by simp) 0 (.bool false)).box (g4.set 0 (.bool false)) (by simp) 1 (.slice A4 k4 c4)
      · exact (((HR6.out.box e3.out (by simp) 0 (.bool sg)).box (e3.out.set 0 (.bool sg)) (by simp) 1 (.slice A3 k3 c3)).box g4 (by simp) 0 (.bool false)).box (g4.set 0 (.bool false)) (by simp) 1 (.slice A4 k4 c4)
      · repeat (first | exact BEL6.out | refine Below.setCell ?_ (by simp <;> omega) _ | refine Below.drew ?_)
end Go.Proofs.YtjfkniknmkcdcaaGreatDoor
