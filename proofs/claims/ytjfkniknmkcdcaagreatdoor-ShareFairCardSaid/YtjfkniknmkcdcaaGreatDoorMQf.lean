/- The walk of frac: Make of a lower part above 0 that is a word, Over. (printed by wip/gen/qf.py) -/
import Derived.Test.YtjfkniknmkcdcaaGreatDoorMQe
namespace Go.Proofs.YtjfkniknmkcdcaaGreatDoor
open Go.RowKit K Nu

set_option maxRecDepth 100000 in
set_option maxHeartbeats 2000000 in
theorem make_pos (b : Bool) (v1 v2 : Value) (n : Int) (d : Nat) (w : World) (h : IntV w b v1 n) (h2 : NatV w v2 d) (hd : d ≠ 0) (hd1 : d < 18446744073709551616) (hs : bl n.natAbs ≤ 1073741824) :
    Calls Tryz.prog 38 #[.agg #[.bool b, v1], .agg #[.bool false, v2]] w fun e w' => ∃ b' vn vr, e = .returned (.tuple #[.agg #[.bool b', vn, vr], .bool true]) ∧ QV w' b' vn vr (mkRat n d) ∧ Below w.heap.size w w' := by
  obtain ⟨h1, hb⟩ := h
  obtain ⟨A1, k1, c1, rfl⟩ := h1.slice
  obtain ⟨A2, k2, c2, rfl⟩ := h2.slice
  have hbl := bl_small hd1
  have p0_0 := Lib.hid ((((Blk.mk w (w.heap.size) rfl [.bool b, .slice A1 k1 c1] 38).alloc (.cells #[.bool false, .slice A2 k2 c2] 38)).alloc (.cells #[.bool false, .slice none 0 0, .slice none 0 0] 40)))
  have p1_0 := Lib.hid (((Blk.mk (w.alloc (.cells #[.bool b, .slice A1 k1 c1] 38)) (w.heap.size + 1) (by simp) [.bool false, .slice A2 k2 c2] 38).alloc (.cells #[.bool false, .slice none 0 0, .slice none 0 0] 40)))
  have p2_0 := Lib.hid ((Blk.mk ((w.alloc (.cells #[.bool b, .slice A1 k1 c1] 38)).alloc (.cells #[.bool false, .slice A2 k2 c2] 38)) (w.heap.size + 2) (by simp) [.bool false, .slice none 0 0, .slice none 0 0] 40))
  have bel_0 := Lib.hid (show Below w.heap.size w (((w.alloc (.cells #[.bool b, .slice A1 k1 c1] 38)).alloc (.cells #[.bool false, .slice A2 k2 c2] 38)).alloc (.cells #[.bool false, .slice none 0 0, .slice none 0 0] 40)) by (repeat (first | assumption | exact Below.refl _ _ | refine Below.drew ?_ | refine Below.setCell ?_ (by simp <;> omega) _ | refine Below.alloc ?_ (by simp <;> omega) _)))
  have ne2 : ¬ w.heap.size + 1 + 1 = w.heap.size := by omega
  have en2 : ¬ w.heap.size = w.heap.size + 1 + 1 := by omega
  have h1_0 := Lib.hid (h1.below bel_0.out (Nat.le_refl _))
  have h2_0 := Lib.hid (h2.below bel_0.out (Nat.le_refl _))
  have hS := whSign_any false _ (d : Int) _ ⟨h2_0.out, by simp⟩ (by simp; omega)
  have hs1 : (if (d : Int) < 0 then (-1 : Int) else if (d : Int) = 0 then 0 else 1) = 1 := by rw [if_neg (by omega), if_neg (by omega)]
  rw [hs1] at hS
  replace hS := Lib.hid hS
  have hG := Lib.hid (fun (wd : World) (ha : NatV wd (.slice A1 k1 c1) n.natAbs) (hc : NatV wd (.slice A2 k2 c2) d) => gcd_small b false _ _ n.natAbs d wd ha hc hs (by omega) (Or.inr hd1))
  have hg0 : Nat.gcd n.natAbs d ≠ 0 := fun h => hd (Nat.eq_zero_of_gcd_eq_zero_right h)
  have hgn : n.natAbs % Nat.gcd n.natAbs d = 0 := Nat.mod_eq_zero_of_dvd (Nat.gcd_dvd_left _ _)
  have hgl : Nat.gcd n.natAbs d ≤ d := Nat.gcd_le_right _ (by omega)
  have HN := Lib.hid (mk_num n d hd)
  have HD := Lib.hid (mk_den n d hd)
  generalize Nat.gcd n.natAbs d = g at *
  have hB := Lib.hid (fun (wd : World) v (ha : NatV wd (.slice A1 k1 c1) n.natAbs) (hc : NatV wd v g) => by_any b _ v n g wd ⟨ha, hb⟩ hc hg0 hgn hs (by have := bl_mono hgl; omega))
  have hA := Lib.hid (fun (wd : World) (ha : NatV wd (.slice A2 k2 c2) d) => whAbs_any false _ d wd ha)
  have hU := Lib.hid (fun (wd : World) v (ha : NatV wd (.slice A2 k2 c2) d) (hc : NatV wd v g) => under_any _ v d g wd ha hc hg0 (by omega))
  obtain ⟨sg, hsg⟩ : ∃ sg, decide (n / (g : Int) < 0) = sg := ⟨_, rfl⟩
  rw [hsg] at hB
  have hL := Lib.hid (fun (wd : World) v vd (ha : NatV wd v (n / (g : Int)).natAbs) (hc : NatV wd vd (d / g)) => low_any sg v vd _ _ wd ha hc)
  have HH := Lib.hid (And.intro hsg (And.intro hb (And.intro hg0 (And.intro hgn hgl))))
  clear hb hs1 hg0 hgn hgl hsg
  go_enter Tryz.func38, Tryz.ntmps38
  go_wp2_with fail
  refine (hS.out).mono ?_
  rintro e w_1 ⟨rfl, hb_1⟩
  have p0_1 := Lib.hid (p0_0.out.below hb_1 p0_0.out.lt)
  have p1_1 := Lib.hid (p1_0.out.below hb_1 p1_0.out.lt)
  have p2_1 := Lib.hid (p2_0.out.below hb_1 p2_0.out.lt)
  have h1_1 := Lib.hid (h1_0.out.below hb_1 (Nat.le_refl _))
  have h2_1 := Lib.hid (h2_0.out.below hb_1 (Nat.le_refl _))
  have bel_1 := Lib.hid (bel_0.out.trans (hb_1.mono bel_0.out.size))
  have o0_0 : w_1.cell? ⟨w.heap.size, 0, none⟩ = some (.bool b) := p0_1.out.cell 0
  have z0_0 := p0_1.out.frozen 0
  have o0_1 : w_1.cell? ⟨w.heap.size, 1, none⟩ = some (.slice A1 k1 c1) := p0_1.out.cell 1
  have z0_1 := p0_1.out.frozen 1
  have o1_0 : w_1.cell? ⟨w.heap.size + 1, 0, none⟩ = some (.bool false) := p1_1.out.cell 0
  have z1_0 := p1_1.out.frozen 0
  have o1_1 : w_1.cell? ⟨w.heap.size + 1, 1, none⟩ = some (.slice A2 k2 c2) := p1_1.out.cell 1
  have z1_1 := p1_1.out.frozen 1
  clear hb_1 
  go_wp2_with fail
  refine (hG.out _ h1_1.out h2_1.out).mono ?_
  rintro e w_2 ⟨r, rfl, hr, hb_2⟩
  obtain ⟨A3, k3, c3, rfl⟩ := hr.slice
  have p0_2 := Lib.hid (p0_1.out.below hb_2 p0_1.out.lt)
  have p1_2 := Lib.hid (p1_1.out.below hb_2 p1_1.out.lt)
  have p2_2 := Lib.hid (p2_1.out.below hb_2 p2_1.out.lt)
  have h1_2 := Lib.hid (h1_1.out.below hb_2 (Nat.le_refl _))
  have h2_2 := Lib.hid (h2_1.out.below hb_2 (Nat.le_refl _))
  have hr_2 := Lib.hid hr
  have bel_2 := Lib.hid (bel_1.out.trans (hb_2.mono bel_1.out.size))
  clear hb_2 hr
  have hg_3 : Below w_2.heap.size w_2 (w_2.alloc (.cells #[.slice A3 k3 c3] 36)) := by (repeat (first | assumption | exact Below.refl _ _ | refine Below.drew ?_ | refine Below.setCell ?_ (by simp <;> omega) _ | refine Below.alloc ?_ (by simp <;> omega) _))
  have p0_3 := Lib.hid (p0_2.out.below hg_3 p0_2.out.lt)
  have p1_3 := Lib.hid (p1_2.out.below hg_3 p1_2.out.lt)
  have p2_3 := Lib.hid (p2_2.out.below hg_3 p2_2.out.lt)
  have h1_3 := Lib.hid (h1_2.out.below hg_3 (Nat.le_refl _))
  have h2_3 := Lib.hid (h2_2.out.below hg_3 (Nat.le_refl _))
  have hr_3 := Lib.hid (hr_2.out.below hg_3 (Nat.le_refl _))
  have bel_3 := Lib.hid (bel_2.out.trans (hg_3.mono bel_2.out.size))
  have o0_0 : (w_2.alloc (.cells #[.slice A3 k3 c3] 36)).cell? ⟨w.heap.size, 0, none⟩ = some (.bool b) := p0_3.out.cell 0
  have z0_0 := p0_3.out.frozen 0
  have o0_1 : (w_2.alloc (.cells #[.slice A3 k3 c3] 36)).cell? ⟨w.heap.size, 1, none⟩ = some (.slice A1 k1 c1) := p0_3.out.cell 1
  have z0_1 := p0_3.out.frozen 1
  have o1_0 : (w_2.alloc (.cells #[.slice A3 k3 c3] 36)).cell? ⟨w.heap.size + 1, 0, none⟩ = some (.bool false) := p1_3.out.cell 0
  have z1_0 := p1_3.out.frozen 0
  have o1_1 : (w_2.alloc (.cells #[.slice A3 k3 c3] 36)).cell? ⟨w.heap.size + 1, 1, none⟩ = some (.slice A2 k2 c2) := p1_3.out.cell 1
  have z1_1 := p1_3.out.frozen 1
  clear hg_3
  have P0_0 := Lib.hid (show Blk (w_2.alloc (.cells #[.slice A3 k3 c3] 36)).drew (w.heap.size) [.bool b, .slice A1 k1 c1] 38 from p0_3.out.drew)
  have P1_0 := Lib.hid (show Blk (w_2.alloc (.cells #[.slice A3 k3 c3] 36)).drew (w.heap.size + 1) [.bool false, .slice A2 k2 c2] 38 from p1_3.out.drew)
  have P2_0 := Lib.hid (show Blk (w_2.alloc (.cells #[.slice A3 k3 c3] 36)).drew (w.heap.size + 2) [.bool false, .slice none 0 0, .slice none 0 0] 40 from p2_3.out.drew)
  have P3_0 := Lib.hid (show Blk (w_2.alloc (.cells #[.slice A3 k3 c3] 36)).drew w_2.heap.size [.slice A3 k3 c3] 36 from (Blk.new w_2 _ _).drew)
  have Hh1_0 := Lib.hid (h1_3.out.below ((Below.refl _ _).drew) (Nat.le_refl _))
  have Hh2_0 := Lib.hid (h2_3.out.below ((Below.refl _ _).drew) (Nat.le_refl _))
  have Hhr_0 := Lib.hid (hr_3.out.below ((Below.refl _ _).drew) (Nat.le_refl _))
  have BEL_0 := Lib.hid (bel_3.out.drew)
  have lw : w.heap.size + 2 < w_2.heap.size := p2_2.out.lt
  have nx0 : ¬ w_2.heap.size = w.heap.size := by omega
  have xn0 : ¬ w.heap.size = w_2.heap.size := by omega
  have nx1 : ¬ w_2.heap.size = w.heap.size + 1 := by omega
  have xn1 : ¬ w.heap.size + 1 = w_2.heap.size := by omega
  have nx2 : ¬ w_2.heap.size = w.heap.size + 1 + 1 := by omega
  have xn2 : ¬ w.heap.size + 1 + 1 = w_2.heap.size := by omega
  go_upto_region 7 with fail
  go_region_held3 (fun w' => w'.cell? ⟨w.heap.size, 0, none⟩ = some (.bool b) ∧ w'.cell? ⟨w.heap.size, 1, none⟩ = some (.slice A1 k1 c1) ∧ w'.cell? ⟨w.heap.size + 1, 0, none⟩ = some (.bool false) ∧ w'.cell? ⟨w.heap.size + 1, 1, none⟩ = some (.slice A2 k2 c2) ∧ w'.cell? ⟨w_2.heap.size, 0, none⟩ = some (.slice A3 k3 c3)) (go_keep)
    (first
      | ((go_at_call 57; refine (hL.out _ _ _ hv1_3.out hu_3.out).mono ?_; rintro e w_14 ⟨vr, rfl, hn, hq, hb_4⟩; obtain ⟨A6, k6, c6, rfl⟩ := hq.slice; have c0_0_4 : w_14.cell? ⟨w.heap.size, 0, none⟩ = some (.bool b) := (P0_3.out.below hb_4 P0_3.out.lt).cell 0; have c0_1_4 : w_14.cell? ⟨w.heap.size, 1, none⟩ = some (.slice A1 k1 c1) := (P0_3.out.below hb_4 P0_3.out.lt).cell 1; have c1_0_4 : w_14.cell? ⟨w.heap.size + 1, 0, none⟩ = some (.bool false) := (P1_3.out.below hb_4 P1_3.out.lt).cell 0; have c1_1_4 : w_14.cell? ⟨w.heap.size + 1, 1, none⟩ = some (.slice A2 k2 c2) := (P1_3.out.below hb_4 P1_3.out.lt).cell 1; have c3_0_4 : w_14.cell? ⟨w_2.heap.size, 0, none⟩ = some (.slice A3 k3 c3) := (P3_3.out.below hb_4 P3_3.out.lt).cell 0; have P0_4 := Lib.hid (P0_3.out.below hb_4 P0_3.out.lt); have P1_4 := Lib.hid (P1_3.out.below hb_4 P1_3.out.lt); have P2_4 := Lib.hid (P2_3.out.below hb_4 P2_3.out.lt); have P3_4 := Lib.hid (P3_3.out.below hb_4 P3_3.out.lt); have Hh1_4 := Lib.hid (Hh1_3.out.below hb_4 (Nat.le_refl _)); have Hh2_4 := Lib.hid (Hh2_3.out.below hb_4 (Nat.le_refl _)); have Hhr_4 := Lib.hid (Hhr_3.out.below hb_4 (Nat.le_refl _)); have hv1_4 := Lib.hid (hv1_3.out.below hb_4 (Nat.le_refl _)); have hu_4 := Lib.hid (hu_3.out.below hb_4 (Nat.le_refl _)); have hn_4 := Lib.hid hn; have hq_4 := Lib.hid hq; have BEL_4 := Lib.hid (BEL_3.out.trans (hb_4.mono BEL_3.out.size)); have o2_0 : w_14.cell? ⟨w.heap.size + 2, 0, none⟩ = some (.bool false) := P2_4.out.cell 0; have z2_0 := P2_4.out.frozen 0; have o2_1 : w_14.cell? ⟨w.heap.size + 2, 1, none⟩ = some (.slice none 0 0) := P2_4.out.cell 1; have z2_1 := P2_4.out.frozen 1; have o2_2 : w_14.cell? ⟨w.heap.size + 2, 2, none⟩ = some (.slice none 0 0) := P2_4.out.cell 2; have z2_2 := P2_4.out.frozen 2; clear hb_4 hn hq))
      | ((go_at_call 55; refine (hU.out _ _ Hh2_2.out Hhr_2.out).mono ?_; rintro e w_13 ⟨u, rfl, hu, hb_3⟩; obtain ⟨A5, k5, c5, rfl⟩ := hu.slice; have c0_0_3 : w_13.cell? ⟨w.heap.size, 0, none⟩ = some (.bool b) := (P0_2.out.below hb_3 P0_2.out.lt).cell 0; have c0_1_3 : w_13.cell? ⟨w.heap.size, 1, none⟩ = some (.slice A1 k1 c1) := (P0_2.out.below hb_3 P0_2.out.lt).cell 1; have c1_0_3 : w_13.cell? ⟨w.heap.size + 1, 0, none⟩ = some (.bool false) := (P1_2.out.below hb_3 P1_2.out.lt).cell 0; have c1_1_3 : w_13.cell? ⟨w.heap.size + 1, 1, none⟩ = some (.slice A2 k2 c2) := (P1_2.out.below hb_3 P1_2.out.lt).cell 1; have c3_0_3 : w_13.cell? ⟨w_2.heap.size, 0, none⟩ = some (.slice A3 k3 c3) := (P3_2.out.below hb_3 P3_2.out.lt).cell 0; have P0_3 := Lib.hid (P0_2.out.below hb_3 P0_2.out.lt); have P1_3 := Lib.hid (P1_2.out.below hb_3 P1_2.out.lt); have P2_3 := Lib.hid (P2_2.out.below hb_3 P2_2.out.lt); have P3_3 := Lib.hid (P3_2.out.below hb_3 P3_2.out.lt); have Hh1_3 := Lib.hid (Hh1_2.out.below hb_3 (Nat.le_refl _)); have Hh2_3 := Lib.hid (Hh2_2.out.below hb_3 (Nat.le_refl _)); have Hhr_3 := Lib.hid (Hhr_2.out.below hb_3 (Nat.le_refl _)); have hv1_3 := Lib.hid (hv1_2.out.below hb_3 (Nat.le_refl _)); have hu_3 := Lib.hid hu; have BEL_3 := Lib.hid (BEL_2.out.trans (hb_3.mono BEL_2.out.size)); clear hb_3 hu))
      | ((go_at_call 78; refine (hA.out _ Hh2_1.out).mono ?_; rintro e w_12 ⟨rfl, hb_2⟩; have c0_0_2 : w_12.cell? ⟨w.heap.size, 0, none⟩ = some (.bool b) := (P0_1.out.below hb_2 P0_1.out.lt).cell 0; have c0_1_2 : w_12.cell? ⟨w.heap.size, 1, none⟩ = some (.slice A1 k1 c1) := (P0_1.out.below hb_2 P0_1.out.lt).cell 1; have c1_0_2 : w_12.cell? ⟨w.heap.size + 1, 0, none⟩ = some (.bool false) := (P1_1.out.below hb_2 P1_1.out.lt).cell 0; have c1_1_2 : w_12.cell? ⟨w.heap.size + 1, 1, none⟩ = some (.slice A2 k2 c2) := (P1_1.out.below hb_2 P1_1.out.lt).cell 1; have c3_0_2 : w_12.cell? ⟨w_2.heap.size, 0, none⟩ = some (.slice A3 k3 c3) := (P3_1.out.below hb_2 P3_1.out.lt).cell 0; have P0_2 := Lib.hid (P0_1.out.below hb_2 P0_1.out.lt); have P1_2 := Lib.hid (P1_1.out.below hb_2 P1_1.out.lt); have P2_2 := Lib.hid (P2_1.out.below hb_2 P2_1.out.lt); have P3_2 := Lib.hid (P3_1.out.below hb_2 P3_1.out.lt); have Hh1_2 := Lib.hid (Hh1_1.out.below hb_2 (Nat.le_refl _)); have Hh2_2 := Lib.hid (Hh2_1.out.below hb_2 (Nat.le_refl _)); have Hhr_2 := Lib.hid (Hhr_1.out.below hb_2 (Nat.le_refl _)); have hv1_2 := Lib.hid (hv1_1.out.below hb_2 (Nat.le_refl _)); have BEL_2 := Lib.hid (BEL_1.out.trans (hb_2.mono BEL_1.out.size)); clear hb_2 ))
      | ((go_at_call 58; refine (hB.out _ _ Hh1_0.out Hhr_0.out).mono ?_; rintro e w_11 ⟨v, rfl, hv, hb_1⟩; have hv1 := hv.1; have HVS := Lib.hid hv.2; clear hv; obtain ⟨A4, k4, c4, rfl⟩ := hv1.slice; have c0_0_1 : w_11.cell? ⟨w.heap.size, 0, none⟩ = some (.bool b) := (P0_0.out.below hb_1 P0_0.out.lt).cell 0; have c0_1_1 : w_11.cell? ⟨w.heap.size, 1, none⟩ = some (.slice A1 k1 c1) := (P0_0.out.below hb_1 P0_0.out.lt).cell 1; have c1_0_1 : w_11.cell? ⟨w.heap.size + 1, 0, none⟩ = some (.bool false) := (P1_0.out.below hb_1 P1_0.out.lt).cell 0; have c1_1_1 : w_11.cell? ⟨w.heap.size + 1, 1, none⟩ = some (.slice A2 k2 c2) := (P1_0.out.below hb_1 P1_0.out.lt).cell 1; have c3_0_1 : w_11.cell? ⟨w_2.heap.size, 0, none⟩ = some (.slice A3 k3 c3) := (P3_0.out.below hb_1 P3_0.out.lt).cell 0; have P0_1 := Lib.hid (P0_0.out.below hb_1 P0_0.out.lt); have P1_1 := Lib.hid (P1_0.out.below hb_1 P1_0.out.lt); have P2_1 := Lib.hid (P2_0.out.below hb_1 P2_0.out.lt); have P3_1 := Lib.hid (P3_0.out.below hb_1 P3_0.out.lt); have Hh1_1 := Lib.hid (Hh1_0.out.below hb_1 (Nat.le_refl _)); have Hh2_1 := Lib.hid (Hh2_0.out.below hb_1 (Nat.le_refl _)); have Hhr_1 := Lib.hid (Hhr_0.out.below hb_1 (Nat.le_refl _)); have hv1_1 := Lib.hid hv1; have BEL_1 := Lib.hid (BEL_0.out.trans (hb_1.mono BEL_0.out.size)); clear hb_1 hv1))
      | ((fail)))
  all_goals go_wp2
  all_goals
    refine bodyPost_ret (v := .tuple #[.agg #[.bool sg, .slice A4 k4 c4, .slice A6 k6 c6], .bool true]) (by simp [results, Tryz.results38, go_sem, o2_0, o2_1, o2_2]) rfl ?_
    refine ⟨_, _, _, rfl, ⟨⟨?_, ?_⟩, ?_⟩, ((BEL_4.out.setCell (by simp <;> omega) _).setCell (by simp <;> omega) _).setCell (by simp <;> omega) _⟩
    · rw [HN.out]; exact hn_4.out.box3 P2_4.out (by simp) (by simp)
    · rw [HN.out]; exact HH.out.1.symm
    · rw [HD.out]; exact hq_4.out.box3 P2_4.out (by simp) (by simp)

set_option maxRecDepth 100000 in
set_option maxHeartbeats 2000000 in
theorem over_pos (n : Int) (d : Nat) (w : World) (h0 : -9223372036854775808 ≤ n) (h1 : n ≤ 9223372036854775807) (hd : d ≠ 0) (hd1 : d ≤ 9223372036854775807) :
    Calls Tryz.prog 100 #[.int .i64 n, .int .i64 d] w fun e w' => ∃ b' vn vr, e = .returned (.tuple #[.agg #[.bool b', vn, vr], .bool true]) ∧ QV w' b' vn vr (mkRat n d) ∧ Below w.heap.size w w' := by
  have p0_0 := Lib.hid ((Blk.mk w (w.heap.size) rfl [.bool false, .slice none 0 0, .slice none 0 0] 40))
  have bel_0 := Lib.hid (show Below w.heap.size w (w.alloc (.cells #[.bool false, .slice none 0 0, .slice none 0 0] 40)) by (repeat (first | assumption | exact Below.refl _ _ | refine Below.drew ?_ | refine Below.setCell ?_ (by simp <;> omega) _ | refine Below.alloc ?_ (by simp <;> omega) _)))
  have hO1 := fun wd => whOf_any n wd h0 h1
  have hO2 := fun wd => whOf_any (d : Int) wd (by omega) (by omega)
  have hsd : decide ((d : Int) < 0) = false := decide_eq_false (by omega)
  rw [hsd] at hO2
  simp only [Int.natAbs_natCast] at hO2
  have hM := fun (wd : World) v u (ha : NatV wd v n.natAbs) (hc : NatV wd u d) => make_pos (decide (n < 0)) v u n d wd ⟨ha, rfl⟩ hc hd (by omega) (by have := bl_small (n := n.natAbs) (by omega); omega)
  obtain ⟨sg, hsg⟩ : ∃ sg, decide (n < 0) = sg := ⟨_, rfl⟩
  rw [hsg] at hO1 hM
  replace hO1 := Lib.hid hO1
  replace hO2 := Lib.hid hO2
  replace hM := Lib.hid hM
  clear hsg hsd
  go_enter Tryz.func100, Tryz.ntmps100
  go_wp2_with fail
  refine (hO1.out _).mono ?_
  rintro e w_1 ⟨v, rfl, hv, hb_1⟩
  obtain ⟨A1, k1, c1, rfl⟩ := hv.slice
  have p0_1 := Lib.hid (p0_0.out.below hb_1 p0_0.out.lt)
  have hv_1 := Lib.hid hv
  have bel_1 := Lib.hid (bel_0.out.trans (hb_1.mono bel_0.out.size))
  clear hb_1 hv
  go_wp2_with fail
  refine (hO2.out _).mono ?_
  rintro e w_2 ⟨u, rfl, hu, hb_2⟩
  obtain ⟨A2, k2, c2, rfl⟩ := hu.slice
  have p0_2 := Lib.hid (p0_1.out.below hb_2 p0_1.out.lt)
  have hv_2 := Lib.hid (hv_1.out.below hb_2 (Nat.le_refl _))
  have hu_2 := Lib.hid hu
  have bel_2 := Lib.hid (bel_1.out.trans (hb_2.mono bel_1.out.size))
  clear hb_2 hu
  go_wp2_with fail
  refine (hM.out _ _ _ hv_2.out hu_2.out).mono ?_
  rintro e w_3 ⟨b', vn, vr, rfl, hq, hb_3⟩
  have hq1 := hq.1.1
  have HVS := Lib.hid hq.1.2
  have hq2 := hq.2
  clear hq
  obtain ⟨A3, k3, c3, rfl⟩ := hq1.slice
  obtain ⟨A4, k4, c4, rfl⟩ := hq2.slice
  have p0_3 := Lib.hid (p0_2.out.below hb_3 p0_2.out.lt)
  have hv_3 := Lib.hid (hv_2.out.below hb_3 (Nat.le_refl _))
  have hu_3 := Lib.hid (hu_2.out.below hb_3 (Nat.le_refl _))
  have hq1_3 := Lib.hid hq1
  have hq2_3 := Lib.hid hq2
  have bel_3 := Lib.hid (bel_2.out.trans (hb_3.mono bel_2.out.size))
  have o0_0 : w_3.cell? ⟨w.heap.size, 0, none⟩ = some (.bool false) := p0_3.out.cell 0
  have z0_0 := p0_3.out.frozen 0
  have o0_1 : w_3.cell? ⟨w.heap.size, 1, none⟩ = some (.slice none 0 0) := p0_3.out.cell 1
  have z0_1 := p0_3.out.frozen 1
  have o0_2 : w_3.cell? ⟨w.heap.size, 2, none⟩ = some (.slice none 0 0) := p0_3.out.cell 2
  have z0_2 := p0_3.out.frozen 2
  clear hb_3 hq1 hq2
  go_wp2_with fail
  refine bodyPost_ret (v := .tuple #[.agg #[.bool b', .slice A3 k3 c3, .slice A4 k4 c4], .bool true]) (by simp [results, Tryz.results100, go_sem, o0_0, o0_1, o0_2]) rfl ?_
  exact ⟨_, _, _, rfl, ⟨⟨hq1_3.out.box3 p0_3.out (by simp) (by simp), HVS.out⟩, hq2_3.out.box3 p0_3.out (by simp) (by simp)⟩, ((bel_3.out.setCell (by simp <;> omega) _).setCell (by simp <;> omega) _).setCell (by simp <;> omega) _⟩

end Go.Proofs.YtjfkniknmkcdcaaGreatDoor
