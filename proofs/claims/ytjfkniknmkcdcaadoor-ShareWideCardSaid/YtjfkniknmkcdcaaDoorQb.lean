/- The walk of frac: quick, short. -/
import Derived.Test.YtjfkniknmkcdcaaDoorQa
namespace Go.Proofs.YtjfkniknmkcdcaaDoor
open Go.RowKit K Nu

theorem mk_num (n : Int) (d : Nat) (hd : d ≠ 0) : (mkRat n d).num = n / (Nat.gcd n.natAbs d : Int) := by
  rw [Rat.num_mkRat, if_neg hd, Nat.gcd_comm]
theorem mk_den (n : Int) (d : Nat) (hd : d ≠ 0) : (mkRat n d).den = d / Nat.gcd n.natAbs d := by
  rw [Rat.den_mkRat, if_neg hd, Nat.gcd_comm]

set_option maxRecDepth 100000 in
set_option maxHeartbeats 2000000 in
theorem quick_any (n : Int) (d : Nat) (w : World) (h0 : n.natAbs < 9223372036854775808) (hd : d ≠ 0) (hd1 : d < 9223372036854775808) :
    Calls Tryd.prog 28 #[.int .i64 n, .int .i64 d] w fun e w' => ∃ b vn vr, e = .returned (.agg #[.bool b, vn, vr]) ∧ QV w' b vn vr (mkRat n d) ∧ Below w.heap.size w w' := by
  have hneg : IntKind.i64.wrap (-n) = -n := by rw [IntKind.wrap_i64]; omega
  have hmax : max n (-n) = (n.natAbs : Int) := by omega
  go_enter Tryd.func28, Tryd.ntmps28
  go_wp2_with fail
  go_loopw [5, 6] (fun av bv wr => ∃ x y : Nat, av = .int .i64 x ∧ bv = .int .i64 y ∧ x < 9223372036854775808 ∧ y < 9223372036854775808 ∧ Hid (Nat.gcd x y = Nat.gcd n.natAbs d) ∧ ∃ k, wr = (w.alloc (.cells #[.bool false, .slice none 0 0, .slice none 0 0] 43)).drewN k) (fun _ bv _ => (intOf bv).toNat)
  case atStart => exact ⟨n.natAbs, d, rfl, rfl, h0, hd1, Lib.hid rfl, 0, rfl⟩
  case round =>
    obtain ⟨x, y, rfl, rfl, hx, hy, hg, kk, rfl⟩ := hrel
    clear hneg hmax
    by_cases hy0 : y = 0
    · subst hy0
      have hxg : x = Nat.gcd n.natAbs d := by rw [← hg.out, Nat.gcd_zero_right]
      have hg0 : Nat.gcd n.natAbs d ≠ 0 := fun h => hd (Nat.eq_zero_of_gcd_eq_zero_right h)
      have hgn : Nat.gcd n.natAbs d ∣ n.natAbs := Nat.gcd_dvd_left _ _
      have hgd : Nat.gcd n.natAbs d ∣ d := Nat.gcd_dvd_right _ _
      clear hg
      subst hxg
      have HN := Lib.hid (mk_num n d hd)
      have HD := Lib.hid (mk_den n d hd)
      generalize Nat.gcd n.natAbs d = g at *
      have hgi : (g : Int) ∣ n := Int.natAbs_dvd_natAbs.1 (by simpa using hgn)
      have q1 : n.tdiv (g : Int) = n / (g : Int) := Int.tdiv_eq_ediv_of_dvd hgi
      have hq2 : (n / (g : Int)).natAbs ≤ n.natAbs := by
        obtain ⟨k, hk⟩ := hgi
        rw [hk, Int.mul_ediv_cancel_left k (by omega), Int.natAbs_mul]
        exact Nat.le_mul_of_pos_left _ (by omega)
      have q3 : (d : Int).tdiv (g : Int) = ((d / g : Nat) : Int) := by rw [Int.tdiv_eq_ediv_of_nonneg (by omega)]; rfl
      have hq4 : d / g ≤ d := Nat.div_le_self _ _
      generalize n / (g : Int) = Q at *
      generalize d / g = D at *
      have hw1 : IntKind.i64.wrap (Q) = Q := by rw [IntKind.wrap_i64]; omega
      have hw2 : IntKind.i64.wrap (D : Int) = (D : Int) := by rw [IntKind.wrap_i64]; omega
      have hw3 : IntKind.u64.wrap (D : Int) = (D : Int) := by rw [wrap64u]; omega
      have hgz : (g : Int) ≠ 0 := by omega
      have hgz2 : ¬ g = 0 := by omega
      have hgz3 : ((g : Int) = 0) = False := by simp; omega
      have hgz4 : (g = 0) = False := by simp; omega
      have hgz5 : ((g : Int) == 0) = false := beq_eq_false_iff_ne.2 hgz
      have hO := Lib.hid (fun wd => whOf_any (Q) wd (by omega) (by omega))
      have hU := Lib.hid (fun wd => of_any D wd (by omega))
      have hL := Lib.hid (fun (wd : World) v vd (ha : NatV wd v (Q).natAbs) (hc : NatV wd vd D) => low_any (decide (Q < 0)) v vd _ _ wd ha hc)
      have p0_0 := Lib.hid (show Blk (((w.alloc (.cells #[.bool false, .slice none 0 0, .slice none 0 0] 43)).drewN kk).drew) w.heap.size [.bool false, .slice none 0 0, .slice none 0 0] 43 from ((Blk.mk w _ rfl _ _).drewN kk).drew)
      have bel_0 := Lib.hid (show Below w.heap.size w (((w.alloc (.cells #[.bool false, .slice none 0 0, .slice none 0 0] 43)).drewN kk).drew) from (bdn (by (repeat (first | assumption | exact Below.refl _ _ | refine Below.drew ?_ | refine Below.setCell ?_ (by simp <;> omega) _ | refine Below.alloc ?_ (by simp <;> omega) _))) kk).drew)
      have HH := Lib.hid (And.intro h0 (And.intro hd (And.intro hd1 (And.intro hg0 (And.intro hq2 hq4)))))
      clear h0 hd hd1 hg0 hq2 hq4 hgn hgd hgi
      go_upto_region 4 with fail
      go_region_held3 (fun _ => True) (go_keep)
        (first
          | ((go_at_call 34; refine (hL.out _ _ _ hv_2.out hr_2.out).mono ?_; rintro e w_3 ⟨vr, rfl, hn, hq, hb_3⟩; obtain ⟨A3, k3, c3, rfl⟩ := hq.slice; have p0_3 := Lib.hid (p0_2.out.below hb_3 p0_2.out.lt); have hv_3 := Lib.hid (hv_2.out.below hb_3 (Nat.le_refl _)); have hr_3 := Lib.hid (hr_2.out.below hb_3 (Nat.le_refl _)); have hn_3 := Lib.hid hn; have hq_3 := Lib.hid hq; have bel_3 := Lib.hid (bel_2.out.trans (hb_3.mono bel_2.out.size)); have o0_0 : w_3.cell? ⟨w.heap.size, 0, none⟩ = some (.bool false) := p0_3.out.cell 0; have z0_0 := p0_3.out.frozen 0; have o0_1 : w_3.cell? ⟨w.heap.size, 1, none⟩ = some (.slice none 0 0) := p0_3.out.cell 1; have z0_1 := p0_3.out.frozen 1; have o0_2 : w_3.cell? ⟨w.heap.size, 2, none⟩ = some (.slice none 0 0) := p0_3.out.cell 2; have z0_2 := p0_3.out.frozen 2; clear hb_3 hn hq))
          | ((go_at_call 58; refine (hU.out _).mono ?_; rintro e w_2 ⟨r, rfl, hr, hb_2⟩; obtain ⟨A2, k2, c2, rfl⟩ := hr.slice; have p0_2 := Lib.hid (p0_1.out.below hb_2 p0_1.out.lt); have hv_2 := Lib.hid (hv_1.out.below hb_2 (Nat.le_refl _)); have hr_2 := Lib.hid hr; have bel_2 := Lib.hid (bel_1.out.trans (hb_2.mono bel_1.out.size)); clear hb_2 hr))
          | ((go_at_call 42; refine (hO.out _).mono ?_; rintro e w_1 ⟨v, rfl, hv, hb_1⟩; obtain ⟨A1, k1, c1, rfl⟩ := hv.slice; have p0_1 := Lib.hid (p0_0.out.below hb_1 p0_0.out.lt); have hv_1 := Lib.hid hv; have bel_1 := Lib.hid (bel_0.out.trans (hb_1.mono bel_0.out.size)); clear hb_1 hv))
          | ((fail)))
      all_goals go_wp2
      all_goals
        refine bodyPost_ret (v := .agg #[.bool (decide (Q < 0)), .slice A1 k1 c1, .slice A3 k3 c3]) (by simp [results, Tryd.results28, go_sem, o0_0, o0_1, o0_2]) rfl ?_
        refine ⟨_, _, _, rfl, ⟨⟨?_, by rw [HN.out]⟩, ?_⟩, ((bel_3.out.setCell (by simp <;> omega) _).setCell (by simp <;> omega) _).setCell (by simp <;> omega) _⟩
        · rw [HN.out]; exact hn_3.out.box3 p0_3.out (by simp) (by simp)
        · rw [HD.out]; exact hq_3.out.box3 p0_3.out (by simp) (by simp)
    · have t0 : ((y : Int) == 0) = false := by simpa using hy0
      have t1 : (y : Int) ≠ 0 := by omega
      have hlt := Lib.hid (Nat.mod_lt x (show y > 0 by omega))
      have hmm : (x : Int).tmod (y : Int) = ((x % y : Nat) : Int) := by rw [Int.tmod_eq_emod_of_nonneg (by omega)]; rfl
      have hw : IntKind.i64.wrap ((x % y : Nat) : Int) = ((x % y : Nat) : Int) := by
        have := hlt.out
        rw [IntKind.wrap_i64]; omega
      have H0 := Lib.hid hy0
      clear hy0
      go_wp2_with fail
      go_region
      all_goals go_wp2
      all_goals
        refine ⟨⟨y, x % y, rfl, rfl, hy, by have := hlt.out; omega, Lib.hid ?_, kk + 1, rfl⟩, ?_⟩
        · rw [← hg.out, Nat.gcd_comm y (x % y), ← Nat.gcd_rec, Nat.gcd_comm]
        · have := hlt.out
          simp only [intOf]
          omega
set_option maxRecDepth 100000 in
set_option maxHeartbeats 2000000 in
theorem short_small (b : Bool) (vn vr : Value) (z : Int) (d : Nat) (w : World) (h : IntV w b vn z) (h2 : NatV w vr (dn d)) (hz0 : -2147483648 < z) (hz1 : z < 2147483648) (hd0 : d ≠ 0) (hd1 : d < 2147483648) :
    Calls Tryd.prog 27 #[.agg #[.bool b, vn, vr]] w fun e w' => e = .returned (.tuple #[.int .i64 z, .int .i64 d, .bool true]) ∧ Below w.heap.size w w' := by
  obtain ⟨h1, hb⟩ := h
  obtain ⟨A1, k1, c1, rfl⟩ := h1.slice
  obtain ⟨A2, k2, c2, rfl⟩ := h2.slice
  have p0_0 := Lib.hid ((Blk.mk w (w.heap.size) rfl [.bool b, .slice A1 k1 c1, .slice A2 k2 c2] 43))
  have bel_0 := Lib.hid (show Below w.heap.size w (w.alloc (.cells #[.bool b, .slice A1 k1 c1, .slice A2 k2 c2] 43)) by (repeat (first | assumption | exact Below.refl _ _ | refine Below.drew ?_ | refine Below.setCell ?_ (by simp <;> omega) _ | refine Below.alloc ?_ (by simp <;> omega) _)))
  have h1_0 := Lib.hid (h1.below bel_0.out (Nat.le_refl _))
  have h2_0 := Lib.hid (h2.below bel_0.out (Nat.le_refl _))
  have hN := whSmall_any b _ z _ ⟨h1_0.out, hb⟩
  have hi2 : isI64 z = true := decide_eq_true (by omega)
  have hi1 : i64Of z = z := if_pos hi2
  rw [hi1, hi2] at hN
  replace hN := Lib.hid hN
  have hR := Lib.hid (fun (wd : World) (ha : NatV wd (.slice A2 k2 c2) (dn d)) => small_any _ _ wd ha)
  have hdl : dn d < 2147483648 := by unfold dn; split <;> omega
  have hs1 : smallW (dn d) = (dn d : Int) := if_pos (by omega)
  have hs2 : decide (dn d < 18446744073709551616) = true := decide_eq_true (by omega)
  rw [hs1, hs2] at hR
  have hmx : max (dn d : Int) 1 = (d : Int) := by unfold dn; split <;> omega
  have t1 : decide (-2147483648 < z) = true := decide_eq_true hz0
  have t2 : decide (z < 2147483648) = true := decide_eq_true hz1
  have t3 : decide ((dn d : Int) < 2147483648) = true := decide_eq_true (by omega)
  have hw1 : IntKind.i64.wrap (d : Int) = d := by rw [IntKind.wrap_i64]; omega
  obtain ⟨u, hu⟩ : ∃ u, dn d = u := ⟨_, rfl⟩
  rw [hu] at hR hmx t3 h2_0
  have HH := Lib.hid (And.intro hb (And.intro hi1 (And.intro hi2 (And.intro hs1 (And.intro hs2 hu)))))
  clear hb hi1 hi2 hs1 hs2 hu
  go_enter Tryd.func27, Tryd.ntmps27
  go_wp2_with fail
  refine (hN.out).mono ?_
  rintro e w_1 ⟨rfl, hb_1⟩
  have p0_1 := Lib.hid (p0_0.out.below hb_1 p0_0.out.lt)
  have h1_1 := Lib.hid (h1_0.out.below hb_1 (Nat.le_refl _))
  have h2_1 := Lib.hid (h2_0.out.below hb_1 (Nat.le_refl _))
  have bel_1 := Lib.hid (bel_0.out.trans (hb_1.mono bel_0.out.size))
  have o0_0 : w_1.cell? ⟨w.heap.size, 0, none⟩ = some (.bool b) := p0_1.out.cell 0
  have z0_0 := p0_1.out.frozen 0
  have o0_1 : w_1.cell? ⟨w.heap.size, 1, none⟩ = some (.slice A1 k1 c1) := p0_1.out.cell 1
  have z0_1 := p0_1.out.frozen 1
  have o0_2 : w_1.cell? ⟨w.heap.size, 2, none⟩ = some (.slice A2 k2 c2) := p0_1.out.cell 2
  have z0_2 := p0_1.out.frozen 2
  clear hb_1 
  go_wp2_with fail
  refine (hR.out _ h2_1.out).mono ?_
  rintro e w_2 ⟨rfl, hb_2⟩
  have p0_2 := Lib.hid (p0_1.out.below hb_2 p0_1.out.lt)
  have h1_2 := Lib.hid (h1_1.out.below hb_2 (Nat.le_refl _))
  have h2_2 := Lib.hid (h2_1.out.below hb_2 (Nat.le_refl _))
  have bel_2 := Lib.hid (bel_1.out.trans (hb_2.mono bel_1.out.size))
  clear hb_2 
  go_wp2_with fail
  refine bodyPost_ret (v := .tuple #[.int .i64 z, .int .i64 d, .bool true]) (by simp [results, Tryd.results27, go_sem]) rfl ?_
  exact ⟨rfl, bel_2.out⟩
end Go.Proofs.YtjfkniknmkcdcaaDoor
