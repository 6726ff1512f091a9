/- The walk of the document's Mixed. (printed by wip/gen/se.py) -/
import Derived.Test.YtjfkniknmkcdcaaDoorSd
namespace Go.Proofs.YtjfkniknmkcdcaaDoor
open Go.RowKit K Nu

/-- a row of two, by the bits of a number -/
def mixS (xs bs : List Rat) (s : Nat) : List Rat := (List.range xs.length).map fun i => if s.testBit i then xs.getD i 0 else bs.getD i 0

set_option maxRecDepth 100000 in
set_option maxHeartbeats 8000000 in
theorem rmixed_any (v1 v2 : Value) (xs bs : List Rat) (s : Nat) (w : World) (h1 : Row3 RQ w v1 xs) (h2 : Row3 RQ w v2 bs) (hb : bs.length = xs.length) (hl : xs.length ≤ 30) (hs : s < 4611686018427387904) :
    Calls Tryd.prog 12 #[v1, v2, .int .i64 (s : Int)] w fun e w' => ∃ r, e = .returned r ∧ Row3 RQ w' r (mixS xs bs s) ∧ Below w.heap.size w w' := by
  obtain ⟨B1, cc1, rfl, hlc1, hcm1, hat1⟩ := h1.at
  obtain ⟨B2, cc2, rfl, hlc2, hcm2, hat2⟩ := h2.at
  obtain ⟨n, hL⟩ : ∃ n, xs.length = n := ⟨_, rfl⟩
  obtain ⟨qs, hqs⟩ : ∃ qs, mixS xs bs s = qs := ⟨_, rfl⟩
  have hql : qs.length = n := by rw [← hqs]; simp [mixS, hL]
  have hqd : ∀ k, k < n → qs.getD k 0 = if s.testBit k then xs.getD k 0 else bs.getD k 0 := fun k hk => by
    have e3 : (mixS xs bs s)[k]? = some (if s.testBit k then xs.getD k 0 else bs.getD k 0) := by
      unfold mixS; rw [List.getElem?_map, List.getElem?_range (by rw [hL]; exact hk)]; rfl
    rw [← hqs, List.getD_eq_getElem?_getD, e3]; rfl
  rw [hqs]
  rw [hL] at hb hl hlc1 hat1 ⊢
  rw [hb] at hlc2 hat2 ⊢
  unfold maxLen at hcm1 hcm2
  have HL := Lib.hid hql
  have HQD := Lib.hid hqd
  clear hL hqs hql hqd hb h1 h2
  obtain ⟨i0, hi, hz0, hz1, hz2⟩ := info_parts Tryd.infoRQ
  go_enter Tryd.func12, Tryd.ntmps12
  go_wp2
  go_loopw [7, 8] (fun o i wr => ∃ (k : Nat) (ts : List T3), k ≤ n ∧ i = .int .i64 k ∧ Hid (ts.length = k) ∧ wr.ownsRow w.heap.size 58 3 o k (flat ts) ∧ NoInt wr o ∧ Hid (∀ (i : Nat) (t : T3) (q : Rat), ts[i]? = some t → qs[i]? = some q → RQ wr t.1 t.2.1 t.2.2 q) ∧ Below w.heap.size w wr) (fun _ i _ => n - (intOf i).toNat)
  case atStart => exact ⟨0, [], by omega, rfl, Lib.hid rfl, World.ownsRow_nil _ _ _ _, NoInt.nil _, Lib.hid (by simp), Below.refl _ _⟩
  case round =>
    obtain ⟨k, ts, hk, rfl, hts, hown, hno, hq, hbel⟩ := hrel
    by_cases hlt : k < n
    · have hqk := HQD.out k hlt
      have hbit := bit_at (s := s) (k := k) (by omega)
      have hk30 : k < 30 := by omega
      by_cases hb : s.testBit k = true
      · rw [if_pos hb] at hbit hqk
        clear hb
        obtain ⟨g, off, b', u1, u2, ee, hg, y0, y1, y2, hQ⟩ := hat1 k hlt
        subst ee
        replace y0 := (hbel.cell (p := ⟨g, off + k * 3, none⟩) hg).trans y0
        replace y1 := (hbel.cell (p := ⟨g, off + k * 3 + 1, none⟩) hg).trans y1
        replace y2 := (hbel.cell (p := ⟨g, off + k * 3 + 2, none⟩) hg).trans y2
        obtain ⟨A1, k1, c1, A2, k2, c2, rfl, rfl⟩ := hQ.slices
        have hv := hQ.below hbel (Nat.le_refl _)
        rw [← hqk] at hv
        have hb1 := Below.refl wr.heap.size wr
        have hbel1 := hbel
        have hown1 := hown
        have hno1 := hno
        clear hQ hqk hat1 hat2
        go_wp2_with ((at_builtin; refine wpList_append_noint rfl _ _ 24 rfl w.heap.size 58 i0 (.agg #[.bool false, .slice none 0 0, .slice none 0 0]) 3 56 Tryd.underlying24 hi hz0 hz1 hz2 rfl (by decide) _ _ _ rfl (hown1.alloc _) (noint_alloc hown1 hno1 _) z3_no ⟨wr.heap.size, 0, none⟩ 1 1 [.bool b', .slice A1 k1 c1, .slice A2 k2 c2] rfl rfl ?c1 ?c2 ?c3 (by decide) ?c4 ?c5 ?c6 ?_))
        case c1 => intro t u hu; rcases t with _ | _ | _ | t <;> simp at hu <;> subst hu <;> simp [Addr.add]
        case c2 => intro u hu; simp at hu; rcases hu with rfl | rfl | rfl <;> rfl
        case c3 => intro u hu; simp at hu; rcases hu with rfl | rfl | rfl <;> simp
        case c4 => unfold maxLen; omega
        case c5 => omega
        case c6 => simp; have := hb1.size; have := hbel.size; omega
        intro v' w2 hown' hgrow hno'
        have hbel2 : Below w.heap.size w w2 := (hbel1.alloc hbel1.size _).grown hgrow (by simp; have := hbel1.size; omega) (fun q hq => by have := (hown1.lt q hq).1; omega)
        have hq2 : ∀ (i : Nat) (t : T3) (q : Rat), (ts ++ [(b', .slice A1 k1 c1, .slice A2 k2 c2)])[i]? = some t → qs[i]? = some q → RQ w2 t.1 t.2.1 t.2.2 q :=
          facts_snoc (fun i t q ht hqi => (((hq.out i t q ht hqi).below hb1 (Nat.le_refl _)).alloc _).grown (hown1.alloc _) (noint_alloc hown1 hno1 _) hgrow) (fun q hqq => by
            rw [hts.out, List.getElem?_eq_getElem (by rw [HL.out]; exact hlt)] at hqq
            simp only [Option.some.injEq] at hqq
            rw [List.getD_eq_getElem?_getD, List.getElem?_eq_getElem (by rw [HL.out]; exact hlt), Option.getD_some, hqq] at hv
            exact (hv.alloc _).grown (hown1.alloc _) (noint_alloc hown1 hno1 _) hgrow)
        have hown2 : w2.ownsRow w.heap.size 58 3 v' (k + 1) (flat (ts ++ [(b', .slice A1 k1 c1, .slice A2 k2 c2)])) := by rw [flat_append]; exact hown'
        have HQ2 := Lib.hid hq2
        clear hq2 hown' hgrow hown1 hno1 hv hb1 hbel1 hbel hown hno hq
        go_wp2
        go_roundw
        case rel => exact ⟨k + 1, _, by omega, by go_num, Lib.hid (by simp [hts.out]), hown2, hno', HQ2, hbel2⟩
        case measure => simp [intOf]; omega
      · rw [if_neg hb] at hbit hqk
        clear hb
        obtain ⟨g, off, b', u1, u2, ee, hg, y0, y1, y2, hQ⟩ := hat2 k hlt
        subst ee
        replace y0 := (hbel.cell (p := ⟨g, off + k * 3, none⟩) hg).trans y0
        replace y1 := (hbel.cell (p := ⟨g, off + k * 3 + 1, none⟩) hg).trans y1
        replace y2 := (hbel.cell (p := ⟨g, off + k * 3 + 2, none⟩) hg).trans y2
        obtain ⟨A1, k1, c1, A2, k2, c2, rfl, rfl⟩ := hQ.slices
        have hv := hQ.below hbel (Nat.le_refl _)
        rw [← hqk] at hv
        have hb1 := Below.refl wr.heap.size wr
        have hbel1 := hbel
        have hown1 := hown
        have hno1 := hno
        clear hQ hqk hat1 hat2
        go_wp2_with ((at_builtin; refine wpList_append_noint rfl _ _ 24 rfl w.heap.size 58 i0 (.agg #[.bool false, .slice none 0 0, .slice none 0 0]) 3 56 Tryd.underlying24 hi hz0 hz1 hz2 rfl (by decide) _ _ _ rfl (hown1.alloc _) (noint_alloc hown1 hno1 _) z3_no ⟨wr.heap.size, 0, none⟩ 1 1 [.bool b', .slice A1 k1 c1, .slice A2 k2 c2] rfl rfl ?c1 ?c2 ?c3 (by decide) ?c4 ?c5 ?c6 ?_))
        case c1 => intro t u hu; rcases t with _ | _ | _ | t <;> simp at hu <;> subst hu <;> simp [Addr.add]
        case c2 => intro u hu; simp at hu; rcases hu with rfl | rfl | rfl <;> rfl
        case c3 => intro u hu; simp at hu; rcases hu with rfl | rfl | rfl <;> simp
        case c4 => unfold maxLen; omega
        case c5 => omega
        case c6 => simp; have := hb1.size; have := hbel.size; omega
        intro v' w2 hown' hgrow hno'
        have hbel2 : Below w.heap.size w w2 := (hbel1.alloc hbel1.size _).grown hgrow (by simp; have := hbel1.size; omega) (fun q hq => by have := (hown1.lt q hq).1; omega)
        have hq2 : ∀ (i : Nat) (t : T3) (q : Rat), (ts ++ [(b', .slice A1 k1 c1, .slice A2 k2 c2)])[i]? = some t → qs[i]? = some q → RQ w2 t.1 t.2.1 t.2.2 q :=
          facts_snoc (fun i t q ht hqi => (((hq.out i t q ht hqi).below hb1 (Nat.le_refl _)).alloc _).grown (hown1.alloc _) (noint_alloc hown1 hno1 _) hgrow) (fun q hqq => by
            rw [hts.out, List.getElem?_eq_getElem (by rw [HL.out]; exact hlt)] at hqq
            simp only [Option.some.injEq] at hqq
            rw [List.getD_eq_getElem?_getD, List.getElem?_eq_getElem (by rw [HL.out]; exact hlt), Option.getD_some, hqq] at hv
            exact (hv.alloc _).grown (hown1.alloc _) (noint_alloc hown1 hno1 _) hgrow)
        have hown2 : w2.ownsRow w.heap.size 58 3 v' (k + 1) (flat (ts ++ [(b', .slice A1 k1 c1, .slice A2 k2 c2)])) := by rw [flat_append]; exact hown'
        have HQ2 := Lib.hid hq2
        clear hq2 hown' hgrow hown1 hno1 hv hb1 hbel1 hbel hown hno hq
        go_wp2
        go_roundw
        case rel => exact ⟨k + 1, _, by omega, by go_num, Lib.hid (by simp [hts.out]), hown2, hno', HQ2, hbel2⟩
        case measure => simp [intOf]; omega
    · obtain rfl : k = n := by omega
      go_wp2
      go_ret
      exact ⟨_, rfl, own_row3 hown (by rw [HL.out]) (by rw [hts.out, HL.out]) hq.out, hbel⟩

end Go.Proofs.YtjfkniknmkcdcaaDoor
