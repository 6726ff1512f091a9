/- Texts of this claim, joined: We, Wf. -/
import Derived.Test.YtjfkniknmkcdcaaGreatDoorMWd
namespace Go.Proofs.YtjfkniknmkcdcaaGreatDoor
open Go.RowKit K Nu

theorem words_any (a b : Nat) (w : World) (ha : a < 18446744073709551616) (hb : b < 18446744073709551616) :
    Calls Tryz.prog 94 #[.int .u64 a, .int .u64 b] w fun e w' => e = .returned (.int .u64 (Nat.gcd a b)) ∧ ∃ k, w' = w.drewN k := by
  go_enter Tryz.func94, Tryz.ntmps94
  go_wp2
  go_loopw [0, 1] (fun av bv wr => ∃ x y : Nat, av = .int .u64 x ∧ bv = .int .u64 y ∧ x < 18446744073709551616 ∧ y < 18446744073709551616 ∧ Hid (Nat.gcd x y = Nat.gcd a b) ∧ ∃ k, wr = w.drewN k) (fun _ bv _ => (intOf bv).toNat)
  case atStart => exact ⟨a, b, rfl, rfl, ha, hb, Lib.hid rfl, 0, rfl⟩
  case round =>
    obtain ⟨x, y, rfl, rfl, hx, hy, hg, kk, rfl⟩ := hrel
    by_cases h0 : y = 0
    · subst h0
      go_wp2
      go_ret
      have hg' := hg.out
      rw [Nat.gcd_zero_right] at hg'
      subst hg'
      exact ⟨rfl, kk, rfl⟩
    · have t0 : ((y : Int) == 0) = false := by simp; omega
      have t1 : (y : Int) ≠ 0 := by omega
      have hlt := Lib.hid (Nat.mod_lt x (show y > 0 by omega))
      have H0 := Lib.hid h0
      clear h0
      go_wp2_with fail
      go_region
      all_goals go_wp2
      all_goals
        refine ⟨⟨y, x % y, rfl, rfl, hy, by have := hlt.out; omega, Lib.hid ?_, kk + 1, rfl⟩, ?_⟩
        · rw [← hg.out, Nat.gcd_comm y (x % y), ← Nat.gcd_rec, Nat.gcd_comm]
        · have := hlt.out
          simp only [intOf]
          omega
end Go.Proofs.YtjfkniknmkcdcaaGreatDoor

namespace Go.Proofs.YtjfkniknmkcdcaaGreatDoor
open Go.RowKit K Nu


set_option maxRecDepth 100000 in
set_option maxHeartbeats 2000000 in
theorem gcd_small (b1 b2 : Bool) (v1 v2 : Value) (x y : Nat) (w : World) (h1 : NatV w v1 x) (h2 : NatV w v2 y) (hs1 : bl x ≤ 1073741824) (hs2 : bl y ≤ 1073741824) (hm : x < 18446744073709551616 ∨ y < 18446744073709551616) :
    Calls Tryz.prog 53 #[.agg #[.bool b1, v1], .agg #[.bool b2, v2]] w fun e w' => ∃ r, e = .returned (.agg #[r]) ∧ NatV w' r (Nat.gcd x y) ∧ Below w.heap.size w w' := by
  obtain ⟨A1, k1, c1, rfl⟩ := h1.slice
  obtain ⟨A2, k2, c2, rfl⟩ := h2.slice
  go_enter Tryz.func53, Tryz.ntmps53
  go_upto_region 2 with fail
  go_cut [5, 6] (fun a b wc => ∃ p q : Nat, a = .pointer (some ⟨p, 0, none⟩) ∧ b = .pointer (some ⟨q, 0, none⟩) ∧ p ≠ q ∧ w.heap.size + 2 < p ∧ w.heap.size + 2 < q ∧ Blk wc p [.slice A1 k1 c1] 36 ∧ Blk wc q [.slice A2 k2 c2] 36 ∧ Blk wc (w.heap.size + 2) [.slice none 0 0] 36 ∧ Below w.heap.size w wc)
  case first =>
    go_region
    all_goals (go_wp2_with fail; go_meet)
    all_goals exact ⟨_, _, rfl, rfl, by omega, by omega, by omega, by (repeat (first | exact Blk.mk _ _ (by simp) _ _ | refine Blk.drew ?_ | refine Blk.alloc ?_ _)), by (repeat (first | exact Blk.mk _ _ (by simp) _ _ | refine Blk.drew ?_ | refine Blk.alloc ?_ _)), by (repeat (first | exact Blk.mk _ _ (by simp) _ _ | refine Blk.drew ?_ | refine Blk.alloc ?_ _)), by (repeat (first | assumption | exact Below.refl _ _ | refine Below.drew ?_ | refine Below.setCell ?_ (by simp <;> omega) _ | refine Below.alloc ?_ (by simp <;> omega) _))⟩
  case rest =>
    obtain ⟨p, q, rfl, rfl, hpq, hp, hq, P, Q, R, bel⟩ := hcut
    have h1' := h1.below bel (Nat.le_refl _)
    have h2' := h2.below bel (Nat.le_refl _)
    have p0 := P.one
    have q0 := Q.one
    have hC := Lib.hid (cmp_any _ _ x y _ h1' h2')
    have HP := Lib.hid P
    have HQ := Lib.hid Q
    have HR := Lib.hid R
    have HB := Lib.hid bel
    clear P Q R bel
    go_wp2_with fail
    refine hC.out.mono ?_
    rintro e w1 ⟨rfl, hb1⟩
    have P1 := HP.out.below hb1 HP.out.lt
    have Q1 := HQ.out.below hb1 HQ.out.lt
    have R1 := HR.out.below hb1 HR.out.lt
    have B1 := HB.out.trans (hb1.mono HB.out.size)
    have N1 := h1'.below hb1 (Nat.le_refl _)
    have N2 := h2'.below hb1 (Nat.le_refl _)
    clear hb1 HP HQ HR HB h1' h2' hC p0 q0
    by_cases hlt : x < y
    · have t0 : decide (cmpN x y < 0) = true := decide_eq_true (cmpN_lt.2 hlt)
      have p0 := P1.one
      have q0 := Q1.one
      have p1 := P1.frozen 0
      have q1 := Q1.frozen 0
      have P1' := (P1.set 0 (.slice A2 k2 c2)).far (a := ⟨q, 0, none⟩) (by simpa using hpq) (.slice A1 k1 c1)
      have Q1' := (Q1.far (a := ⟨p, 0, none⟩) (by simpa using Ne.symm hpq) (.slice A2 k2 c2)).set 0 (.slice A1 k1 c1)
      have R1' := (R1.far (a := ⟨p, 0, none⟩) (by simp <;> omega) (.slice A2 k2 c2)).far (a := ⟨q, 0, none⟩) (by simp <;> omega) (.slice A1 k1 c1)
      have B1' := (B1.setCell (p := ⟨p, 0, none⟩) (by simp <;> omega) (.slice A2 k2 c2)).setCell (p := ⟨q, 0, none⟩) (by simp <;> omega) (.slice A1 k1 c1)
      have Qm := Q1.far (a := ⟨p, 0, none⟩) (by simpa using Ne.symm hpq) (.slice A2 k2 c2)
      have N1' := (N1.box P1 (by simp) 0 (.slice A2 k2 c2)).box Qm (by simp) 0 (.slice A1 k1 c1)
      have N2' := (N2.box P1 (by simp) 0 (.slice A2 k2 c2)).box Qm (by simp) 0 (.slice A1 k1 c1)
      have hpq' : ¬ p = q := hpq
      have hqp' : ¬ q = p := fun h => hpq h.symm
      have W := Lib.hid (And.intro P1' (And.intro Q1' (And.intro R1' (And.intro B1' (And.intro N1' N2')))))
      clear P1 Q1 R1 B1 N1 N2 P1' Q1' R1' B1' Qm N1' N2'
      go_wp2_with fail
      go_loopw [] (fun wr => wr = (w1.setCell ⟨p, 0, none⟩ (.slice A2 k2 c2)).setCell ⟨q, 0, none⟩ (.slice A1 k1 c1)) (fun _ => 0)
      case atStart => rfl
      case round =>
        rw [← hrel] at W
        obtain ⟨PB, QB, RB, BB, NS, NB⟩ := W.out
        clear W hrel p0 q0 p1 q1 t0
        have hY : x < 18446744073709551616 := by omega
        have q0 := QB.one
        have hS := small_any _ x _ NS
        have hsw : smallW x = (x : Int) := if_pos hY
        rw [hsw, decide_eq_true hY] at hS
        have HS := Lib.hid hS
        have HP := Lib.hid PB
        have HQ := Lib.hid QB
        have HR := Lib.hid RB
        clear PB QB RB hS hsw
        go_wp2_with fail
        refine HS.out.mono ?_
        rintro e w2 ⟨rfl, hb2⟩
        have P2 := HP.out.below hb2 HP.out.lt
        have Q2 := HQ.out.below hb2 HQ.out.lt
        have R2 := HR.out.below hb2 HR.out.lt
        have B2 := BB.trans (hb2.mono BB.size)
        have NB2 := NB.below hb2 (Nat.le_refl _)
        have NS2 := NS.below hb2 (Nat.le_refl _)
        have p0 := P2.one
        have q0' := Q2.one
        have r0 := R2.one
        have r1 := R2.frozen 0
        have HP2 := Lib.hid P2
        have HQ2 := Lib.hid Q2
        have HR2 := Lib.hid R2
        clear hb2 HP HQ HR BB NB NS q0 HS P2 Q2 R2
        by_cases h0 : x = 0
        · have t1 : ((x : Int) == 0) = true := by simp [h0]
          have HB2 := Lib.hid B2
          have HH0 := Lib.hid h0
          clear h0 B2
          go_wp2_with fail
          refine bodyPost_ret (v := .agg #[.slice A2 k2 c2]) (by simp [results, Tryz.results53, go_sem, r0]) rfl ?_
          refine ⟨_, rfl, ?_, HB2.out.setCell (by simp <;> omega) _⟩
          have hg : Nat.gcd x y = y := by rw [Nat.gcd_comm x y, HH0.out, Nat.gcd_zero_right]
          rw [hg]
          exact NB2.box HR2.out (by simp) 0 (.slice A2 k2 c2)
        · have t1 : ((x : Int) == 0) = false := by simpa using h0
          have hD := Lib.hid (div_any _ _ y x _ NB2 NS2 h0 (by omega))
          have hml := Lib.hid (Nat.mod_lt y (show x > 0 by omega))
          clear h0
          go_wp2_with fail
          refine hD.out.mono ?_
          rintro e w3 ⟨qv, rv, rfl, hqv, hrv, hb3⟩
          obtain ⟨A5, k5, c5, rfl⟩ := hqv.slice
          obtain ⟨A6, k6, c6, rfl⟩ := hrv.slice
          have R3 := Lib.hid (HR2.out.below hb3 HR2.out.lt)
          have B3 := Lib.hid (B2.trans (hb3.mono B2.size))
          have l3 := R3.out.lt
          have bq : Below w3.heap.size w3 ((w3.alloc (.cells #[.slice A5 k5 c5] 36)).alloc (.cells #[.slice A6 k6 c6] 36)) := box2
          have hT := small_any _ (y % x) _ (hrv.below bq (Nat.le_refl _))
          have hsw : smallW (y % x) = ((y % x : Nat) : Int) := if_pos (Nat.lt_trans hml.out hY)
          rw [hsw, decide_eq_true (Nat.lt_trans hml.out hY)] at hT
          have HT := Lib.hid hT
          clear hb3 HP2 HQ2 HR2 B2 NB2 NS2 hT hsw p0 q0' r0 r1 hD
          go_wp2_with fail
          refine HT.out.mono ?_
          rintro e w4 ⟨rfl, hb4⟩
          have R4 := Lib.hid (((R3.out.alloc (.cells #[.slice A5 k5 c5] 36)).alloc (.cells #[.slice A6 k6 c6] 36)).below hb4 (by simp <;> omega))
          have B4 := Lib.hid ((B3.out.trans (bq.mono B3.out.size)).trans (hb4.mono (by simp <;> omega)))
          have HW := Lib.hid (words_any x (y % x) w4 hY (Nat.lt_trans hml.out hY))
          have l4 := R4.out.lt
          clear hb4 R3 B3 bq HT hrv hqv
          obtain ⟨Z, hZ⟩ : ∃ Z, y % x = Z := ⟨_, rfl⟩
          have HZ := Lib.hid hZ
          rw [hZ] at HW hml ⊢
          clear hZ
          go_wp2_with fail
          refine HW.out.mono ?_
          rintro e w5 ⟨rfl, kk, rfl⟩
          have hgl : Nat.gcd x Z < 18446744073709551616 := Nat.lt_of_le_of_lt (Nat.gcd_le_left _ (by have := hml.out; omega)) hY
          have HO := Lib.hid (of_any (Nat.gcd x Z) (w4.drewN kk) hgl)
          have hgg := Lib.hid (show Nat.gcd x y = Nat.gcd x Z by rw [Nat.gcd_comm x y, ← HZ.out, Nat.gcd_comm x (y % x), ← Nat.gcd_rec, Nat.gcd_comm])
          generalize Nat.gcd x Z = G at *
          clear HW HZ hgl
          go_wp2_with fail
          refine HO.out.mono ?_
          rintro e w6 ⟨gr, rfl, hgr, hb6⟩
          obtain ⟨A7, k7, c7, rfl⟩ := hgr.slice
          have R6 := (R4.out.drewN kk).below hb6 (R4.out.drewN kk).lt
          have B6 := Lib.hid ((bdn B4.out kk).trans (hb6.mono (bdn B4.out kk).size))
          have r0 := R6.one
          have r1 := R6.frozen 0
          clear hb6 R4 B4 HO
          go_wp2_with fail
          refine bodyPost_ret (v := .agg #[.slice A7 k7 c7]) (by simp [results, Tryz.results53, go_sem, r0]) rfl ?_
          refine ⟨_, rfl, ?_, B6.out.setCell (by simp <;> omega) _⟩
          rw [hgg.out]
          exact hgr.box R6 (by simp) 0 (.slice A7 k7 c7)
    · have t0 : decide (cmpN x y < 0) = false := decide_eq_false (fun h => hlt (cmpN_lt.1 h))
      go_wp2_with fail
      go_loopw [] (fun wr => wr = w1) (fun _ => 0)
      case atStart => rfl
      case round =>
        subst hrel
        clear t0
        have PB := P1
        have QB := Q1
        have RB := R1
        have BB := B1
        have NB := N1
        have NS := N2
        clear P1 Q1 R1 B1 N1 N2
        have hY : y < 18446744073709551616 := by omega
        have q0 := QB.one
        have hS := small_any _ y _ NS
        have hsw : smallW y = (y : Int) := if_pos hY
        rw [hsw, decide_eq_true hY] at hS
        have HS := Lib.hid hS
        have HP := Lib.hid PB
        have HQ := Lib.hid QB
        have HR := Lib.hid RB
        clear PB QB RB hS hsw
        go_wp2_with fail
        refine HS.out.mono ?_
        rintro e w2 ⟨rfl, hb2⟩
        have P2 := HP.out.below hb2 HP.out.lt
        have Q2 := HQ.out.below hb2 HQ.out.lt
        have R2 := HR.out.below hb2 HR.out.lt
        have B2 := BB.trans (hb2.mono BB.size)
        have NB2 := NB.below hb2 (Nat.le_refl _)
        have NS2 := NS.below hb2 (Nat.le_refl _)
        have p0 := P2.one
        have q0' := Q2.one
        have r0 := R2.one
        have r1 := R2.frozen 0
        have HP2 := Lib.hid P2
        have HQ2 := Lib.hid Q2
        have HR2 := Lib.hid R2
        clear hb2 HP HQ HR BB NB NS q0 HS P2 Q2 R2
        by_cases h0 : y = 0
        · have t1 : ((y : Int) == 0) = true := by simp [h0]
          have HB2 := Lib.hid B2
          have HH0 := Lib.hid h0
          clear h0 B2
          go_wp2_with fail
          refine bodyPost_ret (v := .agg #[.slice A1 k1 c1]) (by simp [results, Tryz.results53, go_sem, r0]) rfl ?_
          refine ⟨_, rfl, ?_, HB2.out.setCell (by simp <;> omega) _⟩
          have hg : Nat.gcd x y = x := by rw [show Nat.gcd x y = Nat.gcd x y from rfl, HH0.out, Nat.gcd_zero_right]
          rw [hg]
          exact NB2.box HR2.out (by simp) 0 (.slice A1 k1 c1)
        · have t1 : ((y : Int) == 0) = false := by simpa using h0
          have hD := Lib.hid (div_any _ _ x y _ NB2 NS2 h0 (by omega))
          have hml := Lib.hid (Nat.mod_lt x (show y > 0 by omega))
          clear h0
          go_wp2_with fail
          refine hD.out.mono ?_
          rintro e w3 ⟨qv, rv, rfl, hqv, hrv, hb3⟩
          obtain ⟨A5, k5, c5, rfl⟩ := hqv.slice
          obtain ⟨A6, k6, c6, rfl⟩ := hrv.slice
          have R3 := Lib.hid (HR2.out.below hb3 HR2.out.lt)
          have B3 := Lib.hid (B2.trans (hb3.mono B2.size))
          have l3 := R3.out.lt
          have bq : Below w3.heap.size w3 ((w3.alloc (.cells #[.slice A5 k5 c5] 36)).alloc (.cells #[.slice A6 k6 c6] 36)) := box2
          have hT := small_any _ (x % y) _ (hrv.below bq (Nat.le_refl _))
          have hsw : smallW (x % y) = ((x % y : Nat) : Int) := if_pos (Nat.lt_trans hml.out hY)
          rw [hsw, decide_eq_true (Nat.lt_trans hml.out hY)] at hT
          have HT := Lib.hid hT
          clear hb3 HP2 HQ2 HR2 B2 NB2 NS2 hT hsw p0 q0' r0 r1 hD
          go_wp2_with fail
          refine HT.out.mono ?_
          rintro e w4 ⟨rfl, hb4⟩
          have R4 := Lib.hid (((R3.out.alloc (.cells #[.slice A5 k5 c5] 36)).alloc (.cells #[.slice A6 k6 c6] 36)).below hb4 (by simp <;> omega))
          have B4 := Lib.hid ((B3.out.trans (bq.mono B3.out.size)).trans (hb4.mono (by simp <;> omega)))
          have HW := Lib.hid (words_any y (x % y) w4 hY (Nat.lt_trans hml.out hY))
          have l4 := R4.out.lt
          clear hb4 R3 B3 bq HT hrv hqv
          obtain ⟨Z, hZ⟩ : ∃ Z, x % y = Z := ⟨_, rfl⟩
          have HZ := Lib.hid hZ
          rw [hZ] at HW hml ⊢
          clear hZ
          go_wp2_with fail
          refine HW.out.mono ?_
          rintro e w5 ⟨rfl, kk, rfl⟩
          have hgl : Nat.gcd y Z < 18446744073709551616 := Nat.lt_of_le_of_lt (Nat.gcd_le_left _ (by have := hml.out; omega)) hY
          have HO := Lib.hid (of_any (Nat.gcd y Z) (w4.drewN kk) hgl)
          have hgg := Lib.hid (show Nat.gcd x y = Nat.gcd y Z by rw [show Nat.gcd x y = Nat.gcd x y from rfl, ← HZ.out, Nat.gcd_comm y (x % y), ← Nat.gcd_rec, Nat.gcd_comm])
          generalize Nat.gcd y Z = G at *
          clear HW HZ hgl
          go_wp2_with fail
          refine HO.out.mono ?_
          rintro e w6 ⟨gr, rfl, hgr, hb6⟩
          obtain ⟨A7, k7, c7, rfl⟩ := hgr.slice
          have R6 := (R4.out.drewN kk).below hb6 (R4.out.drewN kk).lt
          have B6 := Lib.hid ((bdn B4.out kk).trans (hb6.mono (bdn B4.out kk).size))
          have r0 := R6.one
          have r1 := R6.frozen 0
          clear hb6 R4 B4 HO
          go_wp2_with fail
          refine bodyPost_ret (v := .agg #[.slice A7 k7 c7]) (by simp [results, Tryz.results53, go_sem, r0]) rfl ?_
          refine ⟨_, rfl, ?_, B6.out.setCell (by simp <;> omega) _⟩
          rw [hgg.out]
          exact hgr.box R6 (by simp) 0 (.slice A7 k7 c7)
end Go.Proofs.YtjfkniknmkcdcaaGreatDoor
