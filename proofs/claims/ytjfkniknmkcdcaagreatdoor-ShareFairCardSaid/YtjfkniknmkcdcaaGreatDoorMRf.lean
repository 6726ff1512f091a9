/- The walks of the document's Make, Of, Over (short numbers), and of hand's R. (printed by wip/gen/rf.py) -/
import Derived.Test.YtjfkniknmkcdcaaGreatDoorMRe
namespace Go.Proofs.YtjfkniknmkcdcaaGreatDoor
open Go.RowKit K Nu

set_option maxRecDepth 100000 in
set_option maxHeartbeats 2000000 in
theorem rmake_any (b : Bool) (v1 v2 : Value) (n : Int) (d : Nat) (w : World) (h1 : RN w v1 n.natAbs) (hb : b = decide (n < 0)) (h2 : RN w v2 d) (hn : n.natAbs < 4294967296) (hd : d ≠ 0) (hd1 : d < 4294967296) :
    Calls Tryz.prog 42 #[.agg #[.bool b, v1], .agg #[.bool false, v2]] w fun e w' => ∃ b' vn vd, e = .returned (.agg #[.bool b', vn, vd]) ∧ RQ w' b' vn vd (mkRat n d) ∧ Below w.heap.size w w' := by
  obtain ⟨A1, k1, c1, rfl⟩ := h1.slice
  obtain ⟨A2, k2, c2, rfl⟩ := h2.slice
  have p0_0 := Lib.hid ((((Blk.mk w (w.heap.size) rfl [.bool b, .slice A1 k1 c1] 53).alloc (.cells #[.bool false, .slice A2 k2 c2] 53)).alloc (.cells #[.bool false, .slice none 0 0, .slice none 0 0] 55)))
  have p1_0 := Lib.hid (((Blk.mk (w.alloc (.cells #[.bool b, .slice A1 k1 c1] 53)) (w.heap.size + 1) (by simp) [.bool false, .slice A2 k2 c2] 53).alloc (.cells #[.bool false, .slice none 0 0, .slice none 0 0] 55)))
  have p2_0 := Lib.hid ((Blk.mk ((w.alloc (.cells #[.bool b, .slice A1 k1 c1] 53)).alloc (.cells #[.bool false, .slice A2 k2 c2] 53)) (w.heap.size + 2) (by simp) [.bool false, .slice none 0 0, .slice none 0 0] 55))
  have bel_0 := Lib.hid (show Below w.heap.size w (((w.alloc (.cells #[.bool b, .slice A1 k1 c1] 53)).alloc (.cells #[.bool false, .slice A2 k2 c2] 53)).alloc (.cells #[.bool false, .slice none 0 0, .slice none 0 0] 55)) by (repeat (first | assumption | exact Below.refl _ _ | refine Below.drew ?_ | refine Below.setCell ?_ (by simp <;> omega) _ | refine Below.alloc ?_ (by simp <;> omega) _)))
  have ne2 : ¬ w.heap.size + 1 + 1 = w.heap.size := by omega
  have en2 : ¬ w.heap.size = w.heap.size + 1 + 1 := by omega
  have h1_0 := Lib.hid (h1.below bel_0.out (Nat.le_refl _))
  have h2_0 := Lib.hid (h2.below bel_0.out (Nat.le_refl _))
  have hG := Lib.hid (fun (wd : World) (ha : RN wd (.slice A1 k1 c1) n.natAbs) (hc : RN wd (.slice A2 k2 c2) d) => natGcd_any _ _ n.natAbs d wd ha hc hn hd1)
  have hg0 : Nat.gcd n.natAbs d ≠ 0 := fun h => hd (Nat.eq_zero_of_gcd_eq_zero_right h)
  have hgl : Nat.gcd n.natAbs d ≤ d := Nat.gcd_le_right _ (by omega)
  have HN := Lib.hid (mk_num n d hd)
  have HD := Lib.hid (mk_den n d hd)
  have hgn : (n / (Nat.gcd n.natAbs d : Int)).natAbs = n.natAbs / Nat.gcd n.natAbs d := by
    have hdv : ((Nat.gcd n.natAbs d : Nat) : Int) ∣ n := Int.ofNat_dvd_left.2 (Nat.gcd_dvd_left _ _)
    rw [Int.natAbs_ediv_of_dvd hdv]; rfl
  have hsg : (b && decide (n.natAbs / Nat.gcd n.natAbs d ≠ 0)) = decide (n / (Nat.gcd n.natAbs d : Int) < 0) := by
    have h3 : 0 < (Nat.gcd n.natAbs d : Int) := by omega
    by_cases hneg : n < 0
    · have h4 : n / (Nat.gcd n.natAbs d : Int) < 0 := Int.ediv_neg_of_neg_of_pos hneg h3
      have h5 : n.natAbs / Nat.gcd n.natAbs d ≠ 0 := by rw [← hgn]; omega
      rw [hb]; simp [hneg, h4, h5]
    · have h4 : ¬ n / (Nat.gcd n.natAbs d : Int) < 0 := by have := Int.ediv_nonneg (show 0 ≤ n by omega) (Int.le_of_lt h3); omega
      rw [hb]; simp [hneg, h4]
  have hle1 : n.natAbs / Nat.gcd n.natAbs d ≤ n.natAbs := Nat.div_le_self _ _
  generalize Nat.gcd n.natAbs d = g at *
  have hD1 := Lib.hid (fun (wd : World) v (ha : RN wd (.slice A1 k1 c1) n.natAbs) (hc : RN wd v g) => natDiv_any _ v n.natAbs g wd ha hc hn hg0 (by omega))
  have hD2 := Lib.hid (fun (wd : World) v (ha : RN wd (.slice A2 k2 c2) d) (hc : RN wd v g) => natDiv_any _ v d g wd ha hc hd1 hg0 (by omega))
  have hI := fun (wd : World) v (ha : RN wd v (n.natAbs / g)) => i_any b v _ wd ha (by omega)
  obtain ⟨sg, hs⟩ : ∃ sg, (b && decide (n.natAbs / g ≠ 0)) = sg := ⟨_, rfl⟩
  rw [hs] at hI
  rw [hs] at hsg
  replace hI := Lib.hid hI
  have HH := Lib.hid (And.intro hsg hgn)
  clear hb hg0 hgl hs hsg hgn hle1
  go_enter Tryz.func42, Tryz.ntmps42
  go_wp2_with fail
  refine (hG.out _ h1_0.out h2_0.out).mono ?_
  rintro e w_1 ⟨r, rfl, hr, hb_1⟩
  obtain ⟨A3, k3, c3, rfl⟩ := hr.slice
  have p0_1 := Lib.hid (p0_0.out.below hb_1 p0_0.out.lt)
  have p1_1 := Lib.hid (p1_0.out.below hb_1 p1_0.out.lt)
  have p2_1 := Lib.hid (p2_0.out.below hb_1 p2_0.out.lt)
  have h1_1 := Lib.hid (h1_0.out.below hb_1 (Nat.le_refl _))
  have h2_1 := Lib.hid (h2_0.out.below hb_1 (Nat.le_refl _))
  have hr_1 := Lib.hid hr
  have bel_1 := Lib.hid (bel_0.out.trans (hb_1.mono bel_0.out.size))
  have o0_0 : w_1.cell? ⟨w.heap.size, 0, none⟩ = some (.bool b) := p0_1.out.cell 0
  have z0_0 := p0_1.out.frozen 0
  have o0_1 : w_1.cell? ⟨w.heap.size, 1, none⟩ = some (.slice A1 k1 c1) := p0_1.out.cell 1
  have z0_1 := p0_1.out.frozen 1
  clear hb_1 hr
  go_wp2_with fail
  refine (hD1.out _ _ h1_1.out hr_1.out).mono ?_
  rintro e w_2 ⟨q1, r1, rfl, hq1, hx1, hb_2⟩
  clear hx1
  obtain ⟨A4, k4, c4, rfl⟩ := hq1.slice
  have p0_2 := Lib.hid (p0_1.out.below hb_2 p0_1.out.lt)
  have p1_2 := Lib.hid (p1_1.out.below hb_2 p1_1.out.lt)
  have p2_2 := Lib.hid (p2_1.out.below hb_2 p2_1.out.lt)
  have h1_2 := Lib.hid (h1_1.out.below hb_2 (Nat.le_refl _))
  have h2_2 := Lib.hid (h2_1.out.below hb_2 (Nat.le_refl _))
  have hr_2 := Lib.hid (hr_1.out.below hb_2 (Nat.le_refl _))
  have hq1_2 := Lib.hid hq1
  have bel_2 := Lib.hid (bel_1.out.trans (hb_2.mono bel_1.out.size))
  have o1_0 : w_2.cell? ⟨w.heap.size + 1, 0, none⟩ = some (.bool false) := p1_2.out.cell 0
  have z1_0 := p1_2.out.frozen 0
  have o1_1 : w_2.cell? ⟨w.heap.size + 1, 1, none⟩ = some (.slice A2 k2 c2) := p1_2.out.cell 1
  have z1_1 := p1_2.out.frozen 1
  clear hb_2 hq1
  go_wp2_with fail
  refine (hD2.out _ _ h2_2.out hr_2.out).mono ?_
  rintro e w_3 ⟨q2, r2, rfl, hq2, hx2, hb_3⟩
  clear hx2
  obtain ⟨A5, k5, c5, rfl⟩ := hq2.slice
  have p0_3 := Lib.hid (p0_2.out.below hb_3 p0_2.out.lt)
  have p1_3 := Lib.hid (p1_2.out.below hb_3 p1_2.out.lt)
  have p2_3 := Lib.hid (p2_2.out.below hb_3 p2_2.out.lt)
  have h1_3 := Lib.hid (h1_2.out.below hb_3 (Nat.le_refl _))
  have h2_3 := Lib.hid (h2_2.out.below hb_3 (Nat.le_refl _))
  have hr_3 := Lib.hid (hr_2.out.below hb_3 (Nat.le_refl _))
  have hq1_3 := Lib.hid (hq1_2.out.below hb_3 (Nat.le_refl _))
  have hq2_3 := Lib.hid hq2
  have bel_3 := Lib.hid (bel_2.out.trans (hb_3.mono bel_2.out.size))
  have o0_0 : w_3.cell? ⟨w.heap.size, 0, none⟩ = some (.bool b) := p0_3.out.cell 0
  have z0_0 := p0_3.out.frozen 0
  have o0_1 : w_3.cell? ⟨w.heap.size, 1, none⟩ = some (.slice A1 k1 c1) := p0_3.out.cell 1
  have z0_1 := p0_3.out.frozen 1
  have o1_0 : w_3.cell? ⟨w.heap.size + 1, 0, none⟩ = some (.bool false) := p1_3.out.cell 0
  have z1_0 := p1_3.out.frozen 0
  have o1_1 : w_3.cell? ⟨w.heap.size + 1, 1, none⟩ = some (.slice A2 k2 c2) := p1_3.out.cell 1
  have z1_1 := p1_3.out.frozen 1
  clear hb_3 hq2
  go_wp2_with fail
  refine (hI.out _ _ hq1_3.out).mono ?_
  rintro e w_4 ⟨rfl, hb_4⟩
  have p0_4 := Lib.hid (p0_3.out.below hb_4 p0_3.out.lt)
  have p1_4 := Lib.hid (p1_3.out.below hb_4 p1_3.out.lt)
  have p2_4 := Lib.hid (p2_3.out.below hb_4 p2_3.out.lt)
  have h1_4 := Lib.hid (h1_3.out.below hb_4 (Nat.le_refl _))
  have h2_4 := Lib.hid (h2_3.out.below hb_4 (Nat.le_refl _))
  have hr_4 := Lib.hid (hr_3.out.below hb_4 (Nat.le_refl _))
  have hq1_4 := Lib.hid (hq1_3.out.below hb_4 (Nat.le_refl _))
  have hq2_4 := Lib.hid (hq2_3.out.below hb_4 (Nat.le_refl _))
  have bel_4 := Lib.hid (bel_3.out.trans (hb_4.mono bel_3.out.size))
  have o2_0 : w_4.cell? ⟨w.heap.size + 2, 0, none⟩ = some (.bool false) := p2_4.out.cell 0
  have z2_0 := p2_4.out.frozen 0
  have o2_1 : w_4.cell? ⟨w.heap.size + 2, 1, none⟩ = some (.slice none 0 0) := p2_4.out.cell 1
  have z2_1 := p2_4.out.frozen 1
  have o2_2 : w_4.cell? ⟨w.heap.size + 2, 2, none⟩ = some (.slice none 0 0) := p2_4.out.cell 2
  have z2_2 := p2_4.out.frozen 2
  clear hb_4 
  go_wp2_with fail
  refine bodyPost_ret (v := .agg #[.bool sg, .slice A4 k4 c4, .slice A5 k5 c5]) (by simp [results, Tryz.results42, go_sem, o2_0, o2_1, o2_2]) rfl ?_
  refine ⟨_, _, _, rfl, ⟨⟨?_, ?_⟩, ?_⟩, ((bel_4.out.setCell (by simp <;> omega) _).setCell (by simp <;> omega) _).setCell (by simp <;> omega) _⟩
  · rw [HN.out, HH.out.2]; exact hq1_4.out.box3 p2_4.out (by simp) (by simp)
  · rw [HN.out]; exact HH.out.1
  · rw [HD.out]; exact hq2_4.out.box3 p2_4.out (by simp) (by simp)

set_option maxRecDepth 100000 in
set_option maxHeartbeats 2000000 in
theorem rof_any (n : Int) (w : World) (h0 : -4294967296 < n) (h1 : n < 4294967296) :
    Calls Tryz.prog 33 #[.int .i64 n] w fun e w' => ∃ b' vn vd, e = .returned (.agg #[.bool b', vn, vd]) ∧ RQ w' b' vn vd (n : Rat) ∧ Below w.heap.size w w' := by
  have p0_0 := Lib.hid ((Blk.mk w (w.heap.size) rfl [.bool false, .slice none 0 0, .slice none 0 0] 55))
  have bel_0 := Lib.hid (show Below w.heap.size w (w.alloc (.cells #[.bool false, .slice none 0 0, .slice none 0 0] 55)) by (repeat (first | assumption | exact Below.refl _ _ | refine Below.drew ?_ | refine Below.setCell ?_ (by simp <;> omega) _ | refine Below.alloc ?_ (by simp <;> omega) _)))
  have hO := fun wd => intOf_any n wd h0 h1
  obtain ⟨sg, hs⟩ : ∃ sg, decide (n < 0) = sg := ⟨_, rfl⟩
  rw [hs] at hO
  replace hO := Lib.hid hO
  have h1 := Lib.hid (fun wd => natOf_any 1 wd (by decide))
  have HS := Lib.hid hs
  clear hs h0
  go_enter Tryz.func33, Tryz.ntmps33
  go_wp2_with fail
  refine (hO.out _).mono ?_
  rintro e w_1 ⟨v, rfl, hv, hb_1⟩
  obtain ⟨A1, k1, c1, rfl⟩ := hv.slice
  have p0_1 := Lib.hid (p0_0.out.below hb_1 p0_0.out.lt)
  have hv_1 := Lib.hid hv
  have bel_1 := Lib.hid (bel_0.out.trans (hb_1.mono bel_0.out.size))
  clear hb_1 hv
  go_wp2_with fail
  refine (h1.out _).mono ?_
  rintro e w_2 ⟨u, rfl, hu, hb_2⟩
  obtain ⟨A2, k2, c2, rfl⟩ := hu.slice
  have p0_2 := Lib.hid (p0_1.out.below hb_2 p0_1.out.lt)
  have hv_2 := Lib.hid (hv_1.out.below hb_2 (Nat.le_refl _))
  have hu_2 := Lib.hid hu
  have bel_2 := Lib.hid (bel_1.out.trans (hb_2.mono bel_1.out.size))
  have o0_0 : w_2.cell? ⟨w.heap.size, 0, none⟩ = some (.bool false) := p0_2.out.cell 0
  have z0_0 := p0_2.out.frozen 0
  have o0_1 : w_2.cell? ⟨w.heap.size, 1, none⟩ = some (.slice none 0 0) := p0_2.out.cell 1
  have z0_1 := p0_2.out.frozen 1
  have o0_2 : w_2.cell? ⟨w.heap.size, 2, none⟩ = some (.slice none 0 0) := p0_2.out.cell 2
  have z0_2 := p0_2.out.frozen 2
  clear hb_2 hu
  go_wp2_with fail
  refine bodyPost_ret (v := .agg #[.bool sg, .slice A1 k1 c1, .slice A2 k2 c2]) (by simp [results, Tryz.results33, go_sem, o0_0, o0_1, o0_2]) rfl ?_
  exact ⟨_, _, _, rfl, ⟨⟨hv_2.out.box3 p0_2.out (by simp) (by simp), HS.out.symm⟩, hu_2.out.box3 p0_2.out (by simp) (by simp)⟩, ((bel_2.out.setCell (by simp <;> omega) _).setCell (by simp <;> omega) _).setCell (by simp <;> omega) _⟩

set_option maxRecDepth 100000 in
set_option maxHeartbeats 2000000 in
theorem rover_any (n : Int) (d : Nat) (w : World) (h0 : -4294967296 < n) (h1 : n < 4294967296) (hd : d ≠ 0) (hd1 : d < 4294967296) :
    Calls Tryz.prog 67 #[.int .i64 n, .int .i64 (d : Int)] w fun e w' => ∃ b' vn vd, e = .returned (.agg #[.bool b', vn, vd]) ∧ RQ w' b' vn vd (mkRat n d) ∧ Below w.heap.size w w' := by
  have p0_0 := Lib.hid ((Blk.mk w (w.heap.size) rfl [.bool false, .slice none 0 0, .slice none 0 0] 55))
  have bel_0 := Lib.hid (show Below w.heap.size w (w.alloc (.cells #[.bool false, .slice none 0 0, .slice none 0 0] 55)) by (repeat (first | assumption | exact Below.refl _ _ | refine Below.drew ?_ | refine Below.setCell ?_ (by simp <;> omega) _ | refine Below.alloc ?_ (by simp <;> omega) _)))
  have hO := fun wd => intOf_any n wd h0 h1
  have hM := fun (wd : World) v u (ha : RN wd v n.natAbs) (hc : RN wd u d) => rmake_any (decide (n < 0)) v u n d wd ha rfl hc (by omega) hd hd1
  obtain ⟨sg, hs⟩ : ∃ sg, decide (n < 0) = sg := ⟨_, rfl⟩
  rw [hs] at hO hM
  replace hO := Lib.hid hO
  replace hM := Lib.hid hM
  have h1 := fun wd => intOf_any (d : Int) wd (by omega) (by omega)
  rw [show decide ((d : Int) < 0) = false from decide_eq_false (by omega), Int.natAbs_natCast] at h1
  replace h1 := Lib.hid h1
  have HS := Lib.hid hs
  clear hs h0
  go_enter Tryz.func67, Tryz.ntmps67
  go_wp2_with fail
  refine (hO.out _).mono ?_
  rintro e w_1 ⟨v, rfl, hv, hb_1⟩
  obtain ⟨A1, k1, c1, rfl⟩ := hv.slice
  have p0_1 := Lib.hid (p0_0.out.below hb_1 p0_0.out.lt)
  have hv_1 := Lib.hid hv
  have bel_1 := Lib.hid (bel_0.out.trans (hb_1.mono bel_0.out.size))
  clear hb_1 hv
  go_wp2_with fail
  refine (h1.out _).mono ?_
  rintro e w_2 ⟨u, rfl, hu, hb_2⟩
  obtain ⟨A2, k2, c2, rfl⟩ := hu.slice
  have p0_2 := Lib.hid (p0_1.out.below hb_2 p0_1.out.lt)
  have hv_2 := Lib.hid (hv_1.out.below hb_2 (Nat.le_refl _))
  have hu_2 := Lib.hid hu
  have bel_2 := Lib.hid (bel_1.out.trans (hb_2.mono bel_1.out.size))
  clear hb_2 hu
  go_wp2_with fail
  refine (hM.out _ _ _ hv_2.out hu_2.out).mono ?_
  rintro e w_3 ⟨b', vn, vd, rfl, hq, hb_3⟩
  have hq1 := hq.1.1
  have HVS := Lib.hid hq.1.2
  have hq2 := hq.2
  clear hq
  obtain ⟨A3, k3, c3, rfl⟩ := hq1.slice
  obtain ⟨A4, k4, c4, rfl⟩ := hq2.slice
  have p0_3 := Lib.hid (p0_2.out.below hb_3 p0_2.out.lt)
  have hv_3 := Lib.hid (hv_2.out.below hb_3 (Nat.le_refl _))
  have hu_3 := Lib.hid (hu_2.out.below hb_3 (Nat.le_refl _))
  have hq1_3 := Lib.hid hq1
  have hq2_3 := Lib.hid hq2
  have bel_3 := Lib.hid (bel_2.out.trans (hb_3.mono bel_2.out.size))
  have o0_0 : w_3.cell? ⟨w.heap.size, 0, none⟩ = some (.bool false) := p0_3.out.cell 0
  have z0_0 := p0_3.out.frozen 0
  have o0_1 : w_3.cell? ⟨w.heap.size, 1, none⟩ = some (.slice none 0 0) := p0_3.out.cell 1
  have z0_1 := p0_3.out.frozen 1
  have o0_2 : w_3.cell? ⟨w.heap.size, 2, none⟩ = some (.slice none 0 0) := p0_3.out.cell 2
  have z0_2 := p0_3.out.frozen 2
  clear hb_3 hq1 hq2
  go_wp2_with fail
  refine bodyPost_ret (v := .agg #[.bool b', .slice A3 k3 c3, .slice A4 k4 c4]) (by simp [results, Tryz.results67, go_sem, o0_0, o0_1, o0_2]) rfl ?_
  exact ⟨_, _, _, rfl, ⟨⟨hq1_3.out.box3 p0_3.out (by simp) (by simp), HVS.out⟩, hq2_3.out.box3 p0_3.out (by simp) (by simp)⟩, ((bel_3.out.setCell (by simp <;> omega) _).setCell (by simp <;> omega) _).setCell (by simp <;> omega) _⟩

end Go.Proofs.YtjfkniknmkcdcaaGreatDoor
