/- The walks of hand's Nat, Int, In. (printed by wip/gen/ha.py) -/
import Derived.Test.YtjfkniknmkcdcaaGreatDoorMQf
import Derived.Test.YtjfkniknmkcdcaaGreatDoorMRf
import Derived.Test.YtjfkniknmkcdcaaGreatDoorMRd
import Derived.Test.YtjfkniknmkcdcaaGreatDoorMPk
namespace Go.Proofs.YtjfkniknmkcdcaaGreatDoor
open Go.RowKit K Nu

theorem BytesV.below {B : Nat} {w w' : World} {v : Value} {n : Nat} (h : BytesV w v n) (hb : Below B w w') (hB : w.heap.size ≤ B) : BytesV w' v n := by
  obtain ⟨l, h1, h2, h3⟩ := h
  exact ⟨l, h1, h2, h3.below hb hB⟩

set_option maxRecDepth 100000 in
set_option maxHeartbeats 20000000 in
theorem handNat_any (v : Value) (n : Nat) (w : World) (h : RN w v n) (hn : n < 4294967296) :
    Calls Tryz.prog 41 #[v] w fun e w' => ∃ r, e = .returned (.agg #[r]) ∧ NatV w' r n ∧ Below w.heap.size w w' := by
  have p0_0 := Lib.hid ((Blk.mk w (w.heap.size) rfl [.slice none 0 0] 36))
  have bel_0 := Lib.hid (show Below w.heap.size w (w.alloc (.cells #[.slice none 0 0] 36)) by (repeat (first | assumption | exact Below.refl _ _ | refine Below.drew ?_ | refine Below.setCell ?_ (by simp <;> omega) _ | refine Below.alloc ?_ (by simp <;> omega) _)))
  have h_0 := Lib.hid (h.below bel_0.out (Nat.le_refl _))
  have hB := Lib.hid (fun (wd : World) (ha : RN wd v n) => natBytes_any v n wd ha hn)
  have hF := Lib.hid (fun (wd : World) u (ha : BytesV wd u n) => fromBytes_any u n wd ha)
  go_enter Tryz.func41, Tryz.ntmps41
  go_wp2_with fail
  refine (hB.out _ h_0.out).mono ?_
  rintro e w_1 ⟨r, rfl, hr, hb_1⟩
  have p0_1 := Lib.hid (p0_0.out.below hb_1 p0_0.out.lt)
  have h_1 := Lib.hid (h_0.out.below hb_1 (Nat.le_refl _))
  have hr_1 := Lib.hid hr
  have bel_1 := Lib.hid (bel_0.out.trans (hb_1.mono bel_0.out.size))
  clear hb_1 hr
  go_wp2_with fail
  refine (hF.out _ _ hr_1.out).mono ?_
  rintro e w_2 ⟨r2, rfl, hr2, hb_2⟩
  obtain ⟨A2, k2, c2, rfl⟩ := hr2.slice
  have p0_2 := Lib.hid (p0_1.out.below hb_2 p0_1.out.lt)
  have h_2 := Lib.hid (h_1.out.below hb_2 (Nat.le_refl _))
  have hr_2 := Lib.hid (hr_1.out.below hb_2 (Nat.le_refl _))
  have hr2_2 := Lib.hid hr2
  have bel_2 := Lib.hid (bel_1.out.trans (hb_2.mono bel_1.out.size))
  have o0_0 : w_2.cell? ⟨w.heap.size, 0, none⟩ = some (.slice none 0 0) := p0_2.out.cell 0
  have z0_0 := p0_2.out.frozen 0
  clear hb_2 hr2
  go_wp2_with fail
  refine bodyPost_ret (v := .agg #[.slice A2 k2 c2]) (by simp [results, Tryz.results41, go_sem, o0_0]) rfl ?_
  exact ⟨_, rfl, hr2_2.out.box p0_2.out (by simp) _ _, bel_2.out.setCell (by simp <;> omega) _⟩

set_option maxRecDepth 100000 in
set_option maxHeartbeats 20000000 in
theorem handInt_any (b : Bool) (v : Value) (z : Int) (w : World) (h1 : RN w v z.natAbs) (hb : b = decide (z < 0)) (hz : z.natAbs < 4294967296) :
    Calls Tryz.prog 39 #[.agg #[.bool b, v]] w fun e w' => ∃ r, e = .returned (.agg #[.bool b, r]) ∧ NatV w' r z.natAbs ∧ Below w.heap.size w w' := by
  obtain ⟨A1, k1, c1, rfl⟩ := h1.slice
  have p0_0 := Lib.hid (((Blk.mk w (w.heap.size) rfl [.bool b, .slice A1 k1 c1] 53).alloc (.cells #[.bool false, .slice none 0 0] 38)).drew)
  have p1_0 := Lib.hid ((Blk.mk (w.alloc (.cells #[.bool b, .slice A1 k1 c1] 53)) (w.heap.size + 1) (by simp) [.bool false, .slice none 0 0] 38).drew)
  have bel_0 := Lib.hid (show Below w.heap.size w ((w.alloc (.cells #[.bool b, .slice A1 k1 c1] 53)).alloc (.cells #[.bool false, .slice none 0 0] 38)).drew by (repeat (first | assumption | exact Below.refl _ _ | refine Below.drew ?_ | refine Below.setCell ?_ (by simp <;> omega) _ | refine Below.alloc ?_ (by simp <;> omega) _)))
  have h1_0 := Lib.hid (h1.below bel_0.out (Nat.le_refl _))
  have hN := Lib.hid (fun (wd : World) (ha : RN wd (.slice A1 k1 c1) z.natAbs) => handNat_any _ _ wd ha hz)
  have hF := fun (wd : World) u (ha : NatV wd u z.natAbs) => from_any b u z.natAbs wd ha (by have := bl_small (n := z.natAbs) (by omega); omega)
  have hbb : (b && decide (z.natAbs ≠ 0)) = b := by
    rw [hb]; by_cases hneg : z < 0
    · simp [hneg]; omega
    · simp [hneg]
  rw [hbb] at hF
  replace hF := Lib.hid hF
  clear hbb hb
  go_enter Tryz.func39, Tryz.ntmps39
  go_upto_region 1 with fail
  go_region_held3 (fun w' => w'.cell? ⟨w.heap.size, 0, none⟩ = some (.bool b) ∧ w'.cell? ⟨w.heap.size, 1, none⟩ = some (.slice A1 k1 c1)) (go_keep)
    (first
      | ((go_at_call 40; refine (hF.out _ _ hv_1.out).mono ?_; rintro e w_2 ⟨rfl, hb_2⟩; have c0_0_2 : w_2.cell? ⟨w.heap.size, 0, none⟩ = some (.bool b) := (p0_1.out.below hb_2 p0_1.out.lt).cell 0; have c0_1_2 : w_2.cell? ⟨w.heap.size, 1, none⟩ = some (.slice A1 k1 c1) := (p0_1.out.below hb_2 p0_1.out.lt).cell 1; have p0_2 := Lib.hid (p0_1.out.below hb_2 p0_1.out.lt); have p1_2 := Lib.hid (p1_1.out.below hb_2 p1_1.out.lt); have h1_2 := Lib.hid (h1_1.out.below hb_2 (Nat.le_refl _)); have hv_2 := Lib.hid (hv_1.out.below hb_2 (Nat.le_refl _)); have bel_2 := Lib.hid (bel_1.out.trans (hb_2.mono bel_1.out.size)); have o1_0 : w_2.cell? ⟨w.heap.size + 1, 0, none⟩ = some (.bool false) := p1_2.out.cell 0; have z1_0 := p1_2.out.frozen 0; have o1_1 : w_2.cell? ⟨w.heap.size + 1, 1, none⟩ = some (.slice none 0 0) := p1_2.out.cell 1; have z1_1 := p1_2.out.frozen 1; clear hb_2 ))
      | ((go_at_call 41; refine (hN.out _ h1_0.out).mono ?_; rintro e w_1 ⟨v, rfl, hv, hb_1⟩; obtain ⟨A2, k2, c2, rfl⟩ := hv.slice; have c0_0_1 : w_1.cell? ⟨w.heap.size, 0, none⟩ = some (.bool b) := (p0_0.out.below hb_1 p0_0.out.lt).cell 0; have c0_1_1 : w_1.cell? ⟨w.heap.size, 1, none⟩ = some (.slice A1 k1 c1) := (p0_0.out.below hb_1 p0_0.out.lt).cell 1; have p0_1 := Lib.hid (p0_0.out.below hb_1 p0_0.out.lt); have p1_1 := Lib.hid (p1_0.out.below hb_1 p1_0.out.lt); have h1_1 := Lib.hid (h1_0.out.below hb_1 (Nat.le_refl _)); have hv_1 := Lib.hid hv; have bel_1 := Lib.hid (bel_0.out.trans (hb_1.mono bel_0.out.size)); clear hb_1 hv))
      | ((fail)))
  all_goals go_wp2
  all_goals
    refine bodyPost_ret (v := .agg #[.bool b, .slice A2 k2 c2]) (by simp [results, Tryz.results39, go_sem, o1_0, o1_1]) rfl ?_
    exact ⟨_, rfl, hv_2.out.box2 p1_2.out (by simp) (by simp), (bel_2.out.setCell (by simp <;> omega) _).setCell (by simp <;> omega) _⟩

set_option maxRecDepth 100000 in
set_option maxHeartbeats 20000000 in
theorem in_any (b : Bool) (v1 v2 : Value) (q : Rat) (w : World) (h : RQ w b v1 v2 q) (sq : Short q) :
    Calls Tryz.prog 18 #[.agg #[.bool b, v1, v2]] w fun e w' => ∃ b' vn vr, e = .returned (.agg #[.bool b', vn, vr]) ∧ QV w' b' vn vr q ∧ Below w.heap.size w w' := by
  obtain ⟨⟨h1, hb⟩, h2⟩ := h
  obtain ⟨sq1, sq2, sq3⟩ := sq
  have hqd := q.den_nz
  obtain ⟨A1, k1, c1, rfl⟩ := h1.slice
  obtain ⟨A2, k2, c2, rfl⟩ := h2.slice
  have p0_0 := Lib.hid (((Blk.mk w (w.heap.size) rfl [.bool b, .slice A1 k1 c1, .slice A2 k2 c2] 55).alloc (.cells #[.bool false, .slice none 0 0, .slice none 0 0] 40)))
  have p1_0 := Lib.hid ((Blk.mk (w.alloc (.cells #[.bool b, .slice A1 k1 c1, .slice A2 k2 c2] 55)) (w.heap.size + 1) (by simp) [.bool false, .slice none 0 0, .slice none 0 0] 40))
  have bel_0 := Lib.hid (show Below w.heap.size w ((w.alloc (.cells #[.bool b, .slice A1 k1 c1, .slice A2 k2 c2] 55)).alloc (.cells #[.bool false, .slice none 0 0, .slice none 0 0] 40)) by (repeat (first | assumption | exact Below.refl _ _ | refine Below.drew ?_ | refine Below.setCell ?_ (by simp <;> omega) _ | refine Below.alloc ?_ (by simp <;> omega) _)))
  have h1_0 := Lib.hid (h1.below bel_0.out (Nat.le_refl _))
  have h2_0 := Lib.hid (h2.below bel_0.out (Nat.le_refl _))
  have kW : ((w.alloc (.cells #[.bool b, .slice A1 k1 c1, .slice A2 k2 c2] 55)).alloc (.cells #[.bool false, .slice none 0 0, .slice none 0 0] 40)).heap.size = w.heap.size + 1 + 1 := by simp
  have sk00 : (((w.alloc (.cells #[.bool b, .slice A1 k1 c1, .slice A2 k2 c2] 55)).alloc (.cells #[.bool false, .slice none 0 0, .slice none 0 0] 40)).alloc (.cells #[.bool false, .slice none 0 0, .slice none 0 0] 40)).drew.cell? ⟨w.heap.size, 0, none⟩ = some (.bool b) := ((p0_0.out.alloc _).drew).cell 0
  have sk01 : (((w.alloc (.cells #[.bool b, .slice A1 k1 c1, .slice A2 k2 c2] 55)).alloc (.cells #[.bool false, .slice none 0 0, .slice none 0 0] 40)).alloc (.cells #[.bool false, .slice none 0 0, .slice none 0 0] 40)).drew.cell? ⟨w.heap.size, 1, none⟩ = some (.slice A1 k1 c1) := ((p0_0.out.alloc _).drew).cell 1
  have sk02 : (((w.alloc (.cells #[.bool b, .slice A1 k1 c1, .slice A2 k2 c2] 55)).alloc (.cells #[.bool false, .slice none 0 0, .slice none 0 0] 40)).alloc (.cells #[.bool false, .slice none 0 0, .slice none 0 0] 40)).drew.cell? ⟨w.heap.size, 2, none⟩ = some (.slice A2 k2 c2) := ((p0_0.out.alloc _).drew).cell 2
  have nz : ¬ w.heap.size + 1 + 1 = w.heap.size := by omega
  have zn : ¬ w.heap.size = w.heap.size + 1 + 1 := by omega
  have nz1 : ¬ w.heap.size + 1 + 1 = w.heap.size + 1 := by omega
  have zn1 : ¬ w.heap.size + 1 = w.heap.size + 1 + 1 := by omega
  have hI := Lib.hid (fun (wd : World) (ha : RN wd (.slice A1 k1 c1) q.num.natAbs) => handInt_any b _ q.num wd ha hb (by omega))
  have hN := Lib.hid (fun (wd : World) (ha : RN wd (.slice A2 k2 c2) q.den) => handNat_any _ q.den wd ha (by omega))
  have hF := Lib.hid (fun (wd : World) u (ha : NatV wd u q.den) => from_false u q.den wd ha (by have := bl_small (n := q.den) (by omega); omega))
  have hM := fun (wd : World) u v (ha : NatV wd u q.num.natAbs) (hc : NatV wd v q.den) => make_pos b u v q.num q.den wd ⟨ha, hb⟩ hc hqd (by omega) (by have := bl_small (n := q.num.natAbs) (by omega); omega)
  rw [Rat.mkRat_self] at hM
  replace hM := Lib.hid hM
  have HB := Lib.hid hb
  clear hb sq1 sq2 sq3 hqd
  go_enter Tryz.func18, Tryz.ntmps18
  go_upto_region 2 with fail
  go_cut [3] (fun a wc => ∃ (p : Nat) (b' : Bool) (A5 : Option Addr) (k5 c5 : Nat) (A6 : Option Addr) (k6 c6 : Nat), a = .pointer (some ⟨p, 0, none⟩) ∧ w.heap.size + 1 < p ∧ Blk wc p [.bool b', .slice A5 k5 c5, .slice A6 k6 c6] 40 ∧ NatV wc (.slice A5 k5 c5) q.num.natAbs ∧ Hid (b' = decide (q.num < 0)) ∧ NatV wc (.slice A6 k6 c6) (dn q.den) ∧ Blk wc (w.heap.size + 1) [.bool false, .slice none 0 0, .slice none 0 0] 40 ∧ Below w.heap.size w wc)
  case first =>
    go_region_held3 (fun w' => w'.cell? ⟨w.heap.size, 0, none⟩ = some (.bool b) ∧ w'.cell? ⟨w.heap.size, 1, none⟩ = some (.slice A1 k1 c1) ∧ w'.cell? ⟨w.heap.size, 2, none⟩ = some (.slice A2 k2 c2)) (go_keep)
      (first
        | ((go_at_call 38; refine (hM.out _ _ _ ?hs1 ?hs2).mono ?_; (case hs1 => exact hv3_3.out.below (by ((repeat (first | with_reducible exact Below.refl _ _ | with_reducible refine Below.drew ?_ | with_reducible refine Below.alloc' ?_ _)); done)) (Nat.le_refl _)); (case hs2 => exact hv4_3.out.below (by ((repeat (first | with_reducible exact Below.refl _ _ | with_reducible refine Below.drew ?_ | with_reducible refine Below.alloc' ?_ _)); done)) (Nat.le_refl _)); rintro e w_4 ⟨b', v5, v6, rfl, hv, hb_4⟩; have hx_4 : Below w_3.heap.size w_3 w_4 := bel_step hb_4 (by ((repeat (first | with_reducible exact Below.refl _ _ | with_reducible refine Below.drew ?_ | with_reducible refine Below.alloc' ?_ _)); done)); have hv5 := hv.1.1; have HVS := Lib.hid hv.1.2; have hv6 := hv.2; clear hv; obtain ⟨A5, k5, c5, rfl⟩ := hv5.slice; obtain ⟨A6, k6, c6, rfl⟩ := hv6.slice; have c0_0_4 : w_4.cell? ⟨w.heap.size, 0, none⟩ = some (.bool b) := (p0_3.out.below hx_4 p0_3.out.lt).cell 0; have c0_1_4 : w_4.cell? ⟨w.heap.size, 1, none⟩ = some (.slice A1 k1 c1) := (p0_3.out.below hx_4 p0_3.out.lt).cell 1; have c0_2_4 : w_4.cell? ⟨w.heap.size, 2, none⟩ = some (.slice A2 k2 c2) := (p0_3.out.below hx_4 p0_3.out.lt).cell 2; have p0_4 := Lib.hid (p0_3.out.below hx_4 p0_3.out.lt); have p1_4 := Lib.hid (p1_3.out.below hx_4 p1_3.out.lt); have h1_4 := Lib.hid (h1_3.out.below hx_4 (Nat.le_refl _)); have h2_4 := Lib.hid (h2_3.out.below hx_4 (Nat.le_refl _)); have hv3_4 := Lib.hid (hv3_3.out.below hx_4 (Nat.le_refl _)); have hv4_4 := Lib.hid (hv4_3.out.below hx_4 (Nat.le_refl _)); have bel_4 := Lib.hid (bel_3.out.trans (hx_4.mono bel_3.out.size)); have lw_4 : w.heap.size + 1 < w_4.heap.size := p1_4.out.lt; have nq4_0 : ¬ w_4.heap.size = w.heap.size := ne_hi 0 lw_4 (by decide); have qn4_0 : ¬ w.heap.size = w_4.heap.size := ne_lo 0 lw_4 (by decide); have nq4_1 : ¬ w_4.heap.size = w.heap.size + 1 := ne_hi 1 lw_4 (by decide); have qn4_1 : ¬ w.heap.size + 1 = w_4.heap.size := ne_lo 1 lw_4 (by decide); (first | (have u_4 := u_3.below hx_4 u_3.lt) | (have u_4 := new_n hb_4) | skip); (first | (have ua0 := u_4.c0; have ua1 := u_4.c1; have ua2 := u_4.c2; have uf0 := u_4.frozen 0; have uf1 := u_4.frozen 1; have uf2 := u_4.frozen 2; have ul := u_4.lt) | skip); clear hb_4))
        | ((go_at_call 40; refine (hF.out _ _ ?hs1).mono ?_; (case hs1 => exact hv4_2.out.below (by ((repeat (first | with_reducible exact Below.refl _ _ | with_reducible refine Below.drew ?_ | with_reducible refine Below.alloc' ?_ _)); done)) (Nat.le_refl _)); rintro e w_3 ⟨rfl, hb_3⟩; have hx_3 : Below w_2.heap.size w_2 w_3 := bel_step hb_3 (by ((repeat (first | with_reducible exact Below.refl _ _ | with_reducible refine Below.drew ?_ | with_reducible refine Below.alloc' ?_ _)); done)); have c0_0_3 : w_3.cell? ⟨w.heap.size, 0, none⟩ = some (.bool b) := (p0_2.out.below hx_3 p0_2.out.lt).cell 0; have c0_1_3 : w_3.cell? ⟨w.heap.size, 1, none⟩ = some (.slice A1 k1 c1) := (p0_2.out.below hx_3 p0_2.out.lt).cell 1; have c0_2_3 : w_3.cell? ⟨w.heap.size, 2, none⟩ = some (.slice A2 k2 c2) := (p0_2.out.below hx_3 p0_2.out.lt).cell 2; have p0_3 := Lib.hid (p0_2.out.below hx_3 p0_2.out.lt); have p1_3 := Lib.hid (p1_2.out.below hx_3 p1_2.out.lt); have h1_3 := Lib.hid (h1_2.out.below hx_3 (Nat.le_refl _)); have h2_3 := Lib.hid (h2_2.out.below hx_3 (Nat.le_refl _)); have hv3_3 := Lib.hid (hv3_2.out.below hx_3 (Nat.le_refl _)); have hv4_3 := Lib.hid (hv4_2.out.below hx_3 (Nat.le_refl _)); have bel_3 := Lib.hid (bel_2.out.trans (hx_3.mono bel_2.out.size)); have lw_3 : w.heap.size + 1 < w_3.heap.size := p1_3.out.lt; have nq3_0 : ¬ w_3.heap.size = w.heap.size := ne_hi 0 lw_3 (by decide); have qn3_0 : ¬ w.heap.size = w_3.heap.size := ne_lo 0 lw_3 (by decide); have nq3_1 : ¬ w_3.heap.size = w.heap.size + 1 := ne_hi 1 lw_3 (by decide); have qn3_1 : ¬ w.heap.size + 1 = w_3.heap.size := ne_lo 1 lw_3 (by decide); (first | (have u_3 := u_2.below hx_3 u_2.lt) | (have u_3 := new_n hb_3) | skip); clear hb_3))
        | ((go_at_call 41; refine (hN.out _ ?hs1).mono ?_; (case hs1 => exact h2_1.out.below (by ((repeat (first | with_reducible exact Below.refl _ _ | with_reducible refine Below.drew ?_ | with_reducible refine Below.alloc' ?_ _)); done)) (Nat.le_refl _)); rintro e w_2 ⟨v4, rfl, hv4, hb_2⟩; have hx_2 : Below w_1.heap.size w_1 w_2 := bel_step hb_2 (by ((repeat (first | with_reducible exact Below.refl _ _ | with_reducible refine Below.drew ?_ | with_reducible refine Below.alloc' ?_ _)); done)); obtain ⟨A4, k4, c4, rfl⟩ := hv4.slice; have c0_0_2 : w_2.cell? ⟨w.heap.size, 0, none⟩ = some (.bool b) := (p0_1.out.below hx_2 p0_1.out.lt).cell 0; have c0_1_2 : w_2.cell? ⟨w.heap.size, 1, none⟩ = some (.slice A1 k1 c1) := (p0_1.out.below hx_2 p0_1.out.lt).cell 1; have c0_2_2 : w_2.cell? ⟨w.heap.size, 2, none⟩ = some (.slice A2 k2 c2) := (p0_1.out.below hx_2 p0_1.out.lt).cell 2; have p0_2 := Lib.hid (p0_1.out.below hx_2 p0_1.out.lt); have p1_2 := Lib.hid (p1_1.out.below hx_2 p1_1.out.lt); have h1_2 := Lib.hid (h1_1.out.below hx_2 (Nat.le_refl _)); have h2_2 := Lib.hid (h2_1.out.below hx_2 (Nat.le_refl _)); have hv3_2 := Lib.hid (hv3_1.out.below hx_2 (Nat.le_refl _)); have hv4_2 := Lib.hid hv4; have bel_2 := Lib.hid (bel_1.out.trans (hx_2.mono bel_1.out.size)); have lw_2 : w.heap.size + 1 < w_2.heap.size := p1_2.out.lt; have nq2_0 : ¬ w_2.heap.size = w.heap.size := ne_hi 0 lw_2 (by decide); have qn2_0 : ¬ w.heap.size = w_2.heap.size := ne_lo 0 lw_2 (by decide); have nq2_1 : ¬ w_2.heap.size = w.heap.size + 1 := ne_hi 1 lw_2 (by decide); have qn2_1 : ¬ w.heap.size + 1 = w_2.heap.size := ne_lo 1 lw_2 (by decide); (first | (have u_2 := u_1.below hx_2 u_1.lt) | (have u_2 := new_n hb_2) | skip); clear hb_2 hv4))
        | ((go_at_call 39; refine (hI.out _ ?hs1).mono ?_; (case hs1 => exact h1_0.out.below (by ((repeat (first | with_reducible exact Below.refl _ _ | with_reducible refine Below.drew ?_ | with_reducible refine Below.alloc' ?_ _)); done)) (Nat.le_refl _)); rintro e w_1 ⟨v3, rfl, hv3, hb_1⟩; have hx_1 : Below ((w.alloc (.cells #[.bool b, .slice A1 k1 c1, .slice A2 k2 c2] 55)).alloc (.cells #[.bool false, .slice none 0 0, .slice none 0 0] 40)).heap.size ((w.alloc (.cells #[.bool b, .slice A1 k1 c1, .slice A2 k2 c2] 55)).alloc (.cells #[.bool false, .slice none 0 0, .slice none 0 0] 40)) w_1 := bel_step hb_1 (by ((repeat (first | with_reducible exact Below.refl _ _ | with_reducible refine Below.drew ?_ | with_reducible refine Below.alloc' ?_ _)); done)); obtain ⟨A3, k3, c3, rfl⟩ := hv3.slice; have c0_0_1 : w_1.cell? ⟨w.heap.size, 0, none⟩ = some (.bool b) := (p0_0.out.below hx_1 p0_0.out.lt).cell 0; have c0_1_1 : w_1.cell? ⟨w.heap.size, 1, none⟩ = some (.slice A1 k1 c1) := (p0_0.out.below hx_1 p0_0.out.lt).cell 1; have c0_2_1 : w_1.cell? ⟨w.heap.size, 2, none⟩ = some (.slice A2 k2 c2) := (p0_0.out.below hx_1 p0_0.out.lt).cell 2; have p0_1 := Lib.hid (p0_0.out.below hx_1 p0_0.out.lt); have p1_1 := Lib.hid (p1_0.out.below hx_1 p1_0.out.lt); have h1_1 := Lib.hid (h1_0.out.below hx_1 (Nat.le_refl _)); have h2_1 := Lib.hid (h2_0.out.below hx_1 (Nat.le_refl _)); have hv3_1 := Lib.hid hv3; have bel_1 := Lib.hid (bel_0.out.trans (hx_1.mono bel_0.out.size)); have lw_1 : w.heap.size + 1 < w_1.heap.size := p1_1.out.lt; have nq1_0 : ¬ w_1.heap.size = w.heap.size := ne_hi 0 lw_1 (by decide); have qn1_0 : ¬ w.heap.size = w_1.heap.size := ne_lo 0 lw_1 (by decide); have nq1_1 : ¬ w_1.heap.size = w.heap.size + 1 := ne_hi 1 lw_1 (by decide); have qn1_1 : ¬ w.heap.size + 1 = w_1.heap.size := ne_lo 1 lw_1 (by decide); (first | (have u_1 := new_d kW hb_1) | skip); clear hb_1 hv3))
        | ((fail)))
    all_goals (go_wp2_with fail; go_meet)
    all_goals
      clear nq1_0 qn1_0 nq1_1 qn1_1 nq2_0 qn2_0 nq2_1 qn2_1 nq3_0 qn3_0 nq3_1 qn3_1 nq4_0 qn4_0 nq4_1 qn4_1 nz zn kW nz1 zn1 c0_0_1 c0_1_1 c0_2_1 c0_0_2 c0_1_2 c0_2_2 c0_0_3 c0_1_3 c0_2_3 c0_0_4 c0_1_4 c0_2_4 sk00 sk01 sk02
      have P1 := p1_4.out
      have BL := bel_4.out
      refine ⟨_, b', A5, k5, c5, A6, k6, c6, rfl, ?_, ?_, ?_, HVS, ?_, ?_, ?_⟩
      · omega
      · ((repeat (first | with_reducible assumption | with_reducible exact Blk.mk _ _ (by (simp; done)) _ _ | with_reducible exact Blk.new _ _ _ | with_reducible refine Blk.set3 (a := .bool false) (b := .slice none 0 0) (c := .slice none 0 0) ?_ | with_reducible refine Blk.far3 ?_ (by omega) | with_reducible refine Blk.alloc ?_ _ | with_reducible refine Blk.drew ?_)); done)
      · ((repeat (first | with_reducible assumption | with_reducible refine NatV.box3 (a := .bool false) (b := .slice none 0 0) (c := .slice none 0 0) (T := 40) ?_ (by ((repeat (first | with_reducible assumption | with_reducible exact Blk.mk _ _ (by (simp; done)) _ _ | with_reducible exact Blk.new _ _ _ | with_reducible refine Blk.set3 (a := .bool false) (b := .slice none 0 0) (c := .slice none 0 0) ?_ | with_reducible refine Blk.far3 ?_ (by omega) | with_reducible refine Blk.alloc ?_ _ | with_reducible refine Blk.drew ?_)); done)) (by simp) (by simp) | with_reducible refine NatV.alloc ?_ _)); done)
      · ((repeat (first | with_reducible assumption | with_reducible refine NatV.box3 (a := .bool false) (b := .slice none 0 0) (c := .slice none 0 0) (T := 40) ?_ (by ((repeat (first | with_reducible assumption | with_reducible exact Blk.mk _ _ (by (simp; done)) _ _ | with_reducible exact Blk.new _ _ _ | with_reducible refine Blk.set3 (a := .bool false) (b := .slice none 0 0) (c := .slice none 0 0) ?_ | with_reducible refine Blk.far3 ?_ (by omega) | with_reducible refine Blk.alloc ?_ _ | with_reducible refine Blk.drew ?_)); done)) (by simp) (by simp) | with_reducible refine NatV.alloc ?_ _)); done)
      · ((repeat (first | with_reducible assumption | with_reducible exact Blk.mk _ _ (by (simp; done)) _ _ | with_reducible exact Blk.new _ _ _ | with_reducible refine Blk.set3 (a := .bool false) (b := .slice none 0 0) (c := .slice none 0 0) ?_ | with_reducible refine Blk.far3 ?_ (by omega) | with_reducible refine Blk.alloc ?_ _ | with_reducible refine Blk.drew ?_)); done)
      · ((repeat (first | with_reducible assumption | with_reducible refine Below.set3 ?_ (by omega) | with_reducible refine Below.alloc' ?_ _)); done)
  case rest =>
    obtain ⟨p, b', A5, k5, c5, A6, k6, c6, rfl, hp, P, hv5, HS, hv6, R, bel⟩ := hcut
    have x0 := P.c0
    have x1 := P.c1
    have x2 := P.c2
    have y0 := R.c0
    have y1 := R.c1
    have y2 := R.c2
    have z0 := R.frozen 0
    have z1 := R.frozen 1
    have z2 := R.frozen 2
    have np : ¬ p = w.heap.size + 1 := by omega
    have pn : ¬ w.heap.size + 1 = p := by omega
    have HH := Lib.hid (And.intro hv5 (And.intro hv6 (And.intro R bel)))
    clear P hv5 hv6 R bel
    go_wp2_with fail
    refine bodyPost_ret (v := .agg #[.bool b', .slice A5 k5 c5, .slice A6 k6 c6]) (by simp [results, Tryz.results18, go_sem, y0, y1, y2]) rfl ?_
    exact ⟨_, _, _, rfl, ⟨⟨HH.out.1.box3 HH.out.2.2.1 (by simp) (by simp), HS.out⟩, HH.out.2.1.box3 HH.out.2.2.1 (by simp) (by simp)⟩, Below.set3 HH.out.2.2.2 (by omega)⟩

end Go.Proofs.YtjfkniknmkcdcaaGreatDoor
