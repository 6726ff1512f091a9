/- The walks of frac's Same$1, Same (printed by wip/gen/sg.py) -/
import Derived.Test.YtjfkniknmkcdcaaDoorQg
import Derived.Test.YtjfkniknmkcdcaaDoorHb
namespace Go.Proofs.YtjfkniknmkcdcaaDoor
open Go.RowKit K Nu


set_option maxRecDepth 100000 in
set_option maxHeartbeats 8000000 in
theorem same1_any (b1 b2 : Bool) (v1 v2 v3 v4 : Value) (p q : Rat) (w : World) (hp : QV w b1 v1 v2 p) (hq : QV w b2 v3 v4 q) (sp : Short p) (sq : Short q) :
    Calls Tryd.prog 40 #[.agg #[.bool b1, v1, v2], .agg #[.bool b2, v3, v4]] w fun e w' => e = .returned (.bool (decide (p = q))) ∧ Below w.heap.size w w' := by
  obtain ⟨⟨h1, hb1⟩, h2⟩ := hp
  obtain ⟨⟨h3, hb2⟩, h4⟩ := hq
  obtain ⟨A1, k1, c1, rfl⟩ := h1.slice
  obtain ⟨A2, k2, c2, rfl⟩ := h2.slice
  obtain ⟨A3, k3, c3, rfl⟩ := h3.slice
  obtain ⟨A4, k4, c4, rfl⟩ := h4.slice
  have p0_0 := Lib.hid (((Blk.mk w (w.heap.size) rfl [.bool b1, .slice A1 k1 c1, .slice A2 k2 c2] 43).alloc (.cells #[.bool b2, .slice A3 k3 c3, .slice A4 k4 c4] 43)))
  have p1_0 := Lib.hid ((Blk.mk (w.alloc (.cells #[.bool b1, .slice A1 k1 c1, .slice A2 k2 c2] 43)) (w.heap.size + 1) (by simp) [.bool b2, .slice A3 k3 c3, .slice A4 k4 c4] 43))
  have bel_0 := Lib.hid (show Below w.heap.size w ((w.alloc (.cells #[.bool b1, .slice A1 k1 c1, .slice A2 k2 c2] 43)).alloc (.cells #[.bool b2, .slice A3 k3 c3, .slice A4 k4 c4] 43)) by (repeat (first | assumption | exact Below.refl _ _ | refine Below.drew ?_ | refine Below.setCell ?_ (by simp <;> omega) _ | refine Below.alloc ?_ (by simp <;> omega) _)))
  have h1_0 := Lib.hid (h1.below bel_0.out (Nat.le_refl _))
  have h2_0 := Lib.hid (h2.below bel_0.out (Nat.le_refl _))
  have h3_0 := Lib.hid (h3.below bel_0.out (Nat.le_refl _))
  have h4_0 := Lib.hid (h4.below bel_0.out (Nat.le_refl _))
  have hC := fun (wd : World) (ha : NatV wd (.slice A1 k1 c1) p.num.natAbs) (hb : NatV wd (.slice A2 k2 c2) (dn p.den)) (hc : NatV wd (.slice A3 k3 c3) q.num.natAbs) (hd : NatV wd (.slice A4 k4 c4) (dn q.den)) => frCmp_small b1 b2 _ _ _ _ p q wd ⟨⟨ha, hb1⟩, hb⟩ ⟨⟨hc, hb2⟩, hd⟩ sp sq
  have t1 := cmpQ_eq (p := p) (q := q)
  generalize cmpQ p q = z at *
  replace hC := Lib.hid hC
  clear hb1 hb2 sp sq
  go_enter Tryd.func40, Tryd.ntmps40
  go_wp2_with fail
  refine (hC.out _ h1_0.out h2_0.out h3_0.out h4_0.out).mono ?_
  rintro e w_1 ⟨rfl, hb_1⟩
  have p0_1 := Lib.hid (p0_0.out.below hb_1 p0_0.out.lt)
  have p1_1 := Lib.hid (p1_0.out.below hb_1 p1_0.out.lt)
  have h1_1 := Lib.hid (h1_0.out.below hb_1 (Nat.le_refl _))
  have h2_1 := Lib.hid (h2_0.out.below hb_1 (Nat.le_refl _))
  have h3_1 := Lib.hid (h3_0.out.below hb_1 (Nat.le_refl _))
  have h4_1 := Lib.hid (h4_0.out.below hb_1 (Nat.le_refl _))
  have bel_1 := Lib.hid (bel_0.out.trans (hb_1.mono bel_0.out.size))
  clear hb_1 
  go_wp2_with fail
  go_ret
  exact ⟨rfl, bel_1.out⟩
set_option maxRecDepth 100000 in
set_option maxHeartbeats 8000000 in
theorem eqFunc_any (v1 v2 : Value) (ps qs : List Rat) (w : World) (h1 : Row3 QV w v1 ps) (h2 : Row3 QV w v2 qs) (sp : ∀ p, p ∈ ps → Short p) (sq : ∀ q, q ∈ qs → Short q) (hlen : ps.length = qs.length) :
    Calls Tryd.prog 39 #[v1, v2, .func (.func 40) #[] #[]] w fun e w' => e = .returned (.bool (decide (ps = qs))) ∧ Below w.heap.size w w' := by
  obtain ⟨B1, c1, rfl, hlc1, hcm1, hat1⟩ := h1.at
  obtain ⟨B2, c2, rfl, hlc2, hcm2, hat2⟩ := h2.at
  obtain ⟨L, hL⟩ : ∃ L, ps.length = L := ⟨_, rfl⟩
  have hL2 : qs.length = L := by rw [← hlen, hL]
  rw [hL] at hlc1 hat1 ⊢
  rw [hL2] at hlc2 hat2 ⊢
  unfold maxLen at hcm1 hcm2
  have HL := Lib.hid (And.intro hL hL2)
  clear hL hL2 hlen h1 h2
  obtain ⟨r, hr⟩ : ∃ r, decide (ps = qs) = r := ⟨_, rfl⟩
  rw [hr]
  have HR := Lib.hid hr
  clear hr
  go_enter Tryd.func39, Tryd.ntmps39
  go_wp2
  go_loopw [17] (fun i wr => ∃ k : Nat, k ≤ L ∧ i = .int .i64 k ∧ Hid (∀ t, t < k → ps.getD t 0 = qs.getD t 0) ∧ Hid (Below w.heap.size w wr)) (fun i _ => L - (intOf i).toNat)
  case atStart => exact ⟨0, by omega, rfl, Lib.hid (by simp), Lib.hid (Below.refl _ _)⟩
  case round =>
    obtain ⟨k, hk, rfl, heq, hbel⟩ := hrel
    by_cases hlt : k < L
    · obtain ⟨g1, o1, x1, u1, u2, rfl, hg1, y0, y1, y2, hQ1⟩ := hat1 k hlt
      obtain ⟨g2, o2, x2, u3, u4, rfl, hg2, y3, y4, y5, hQ2⟩ := hat2 k hlt
      replace y0 := (hbel.out.cell (p := ⟨g1, o1 + k * 3, none⟩) hg1).trans y0
      replace y1 := (hbel.out.cell (p := ⟨g1, o1 + k * 3 + 1, none⟩) hg1).trans y1
      replace y2 := (hbel.out.cell (p := ⟨g1, o1 + k * 3 + 2, none⟩) hg1).trans y2
      replace y3 := (hbel.out.cell (p := ⟨g2, o2 + k * 3, none⟩) hg2).trans y3
      replace y4 := (hbel.out.cell (p := ⟨g2, o2 + k * 3 + 1, none⟩) hg2).trans y4
      replace y5 := (hbel.out.cell (p := ⟨g2, o2 + k * 3 + 2, none⟩) hg2).trans y5
      replace hQ1 := hQ1.below hbel.out (Nat.le_refl _)
      replace hQ2 := hQ2.below hbel.out (Nat.le_refl _)
      obtain ⟨A1, k1, cc1, A2, k2, cc2, rfl, rfl⟩ := hQ1.slices
      obtain ⟨A3, k3, cc3, A4, k4, cc4, rfl, rfl⟩ := hQ2.slices
      have hg1' : g1 < wr.heap.size := Nat.lt_of_lt_of_le hg1 hbel.out.size
      have hg2' : g2 < wr.heap.size := Nat.lt_of_lt_of_le hg2 hbel.out.size
      have zz3 : ∀ o, (wr.alloc o).cell? ⟨g2, o2 + k * 3, none⟩ = some (.bool x2) := fun o => by rw [World.cell?_alloc_lt wr (a := ⟨g2, o2 + k * 3, none⟩) _ hg2']; exact y3
      have zz4 : ∀ o, (wr.alloc o).cell? ⟨g2, o2 + k * 3 + 1, none⟩ = some (.slice A3 k3 cc3) := fun o => by rw [World.cell?_alloc_lt wr (a := ⟨g2, o2 + k * 3 + 1, none⟩) _ hg2']; exact y4
      have zz5 : ∀ o, (wr.alloc o).cell? ⟨g2, o2 + k * 3 + 2, none⟩ = some (.slice A4 k4 cc4) := fun o => by rw [World.cell?_alloc_lt wr (a := ⟨g2, o2 + k * 3 + 2, none⟩) _ hg2']; exact y5
      have hS := same1_any x1 x2 _ _ _ _ (ps.getD k 0) (qs.getD k 0) _ ((hQ1.alloc (.cells #[.bool x1, .slice A1 k1 cc1, .slice A2 k2 cc2] 43)).alloc (.cells #[.bool x2, .slice A3 k3 cc3, .slice A4 k4 cc4] 43)) ((hQ2.alloc (.cells #[.bool x1, .slice A1 k1 cc1, .slice A2 k2 cc2] 43)).alloc (.cells #[.bool x2, .slice A3 k3 cc3, .slice A4 k4 cc4] 43)) (sp _ (getD_mem' (by rw [HL.out.1]; exact hlt))) (sq _ (getD_mem' (by rw [HL.out.2]; exact hlt)))
      obtain ⟨d, hd⟩ : ∃ d, decide (ps.getD k 0 = qs.getD k 0) = d := ⟨_, rfl⟩
      rw [hd] at hS
      have HS := Lib.hid hS
      have HD := Lib.hid hd
      clear hS hd hQ1 hQ2
      go_wp2_with fail
      refine HS.out.mono ?_
      rintro e w1 ⟨rfl, hb1⟩
      have hbel1 := Lib.hid (((hbel.out.alloc hbel.out.size (.cells #[.bool x1, .slice A1 k1 cc1, .slice A2 k2 cc2] 43)).alloc (Nat.le_trans hbel.out.size (by simp)) (.cells #[.bool x2, .slice A3 k3 cc3, .slice A4 k4 cc4] 43)).trans (hb1.mono (Nat.le_trans hbel.out.size (by simp; omega))))
      clear hb1 HS
      cases d
      · have HZ := Lib.hid (show r = false by
          rw [← HR.out]; refine decide_eq_false (fun h9 => of_decide_eq_false HD.out (by rw [h9])))
        go_wp2_with fail
        go_ret
        rw [HZ.out]
        exact ⟨rfl, hbel1.out⟩
      · go_wp2_with fail
        go_roundw
        case rel =>
          refine ⟨k + 1, by omega, by go_num, Lib.hid (fun t ht => ?_), hbel1⟩
          by_cases e : t = k
          · subst e; exact of_decide_eq_true HD.out
          · exact heq.out t (by omega)
        case measure => simp [intOf]; omega
    · obtain rfl : k = L := by omega
      have HZ := Lib.hid (show r = true by
        rw [← HR.out]; refine decide_eq_true (List.ext_getElem (by rw [HL.out.1, HL.out.2]) fun i h3 h4 => ?_)
        have := heq.out i (by rw [HL.out.1] at h3; exact h3)
        rw [List.getD_eq_getElem?_getD, List.getD_eq_getElem?_getD, List.getElem?_eq_getElem h3, List.getElem?_eq_getElem h4] at this
        simpa using this)
      go_wp2
      go_ret
      rw [HZ.out]
      exact ⟨rfl, hbel.out⟩
theorem frSame_any (v1 v2 : Value) (ps qs : List Rat) (w : World) (h1 : Row3 QV w v1 ps) (h2 : Row3 QV w v2 qs) (sp : ∀ p, p ∈ ps → Short p) (sq : ∀ q, q ∈ qs → Short q) (hlen : ps.length = qs.length) :
    Calls Tryd.prog 15 #[v1, v2] w fun e w' => e = .returned (.bool (decide (ps = qs))) ∧ Below w.heap.size w w' := by
  have hE := Lib.hid (eqFunc_any v1 v2 ps qs w h1 h2 sp sq hlen)
  clear h1 h2
  go_enter Tryd.func15, Tryd.ntmps15
  go_wp2_with fail
  refine hE.out.mono ?_
  rintro e w1 ⟨rfl, hb⟩
  go_wp2_with fail
  go_ret
  exact ⟨rfl, hb⟩

end Go.Proofs.YtjfkniknmkcdcaaDoor
