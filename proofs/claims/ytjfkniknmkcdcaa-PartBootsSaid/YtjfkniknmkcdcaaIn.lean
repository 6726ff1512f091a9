/- The walk of SameInts. -/
import Derived.Test.YtjfkniknmkcdcaaProg
import Derived.Test.YtjfkniknmkcdcaaKit
import Derived.Test.YtjfkniknmkcdcaaPk
namespace Go.Proofs.Ytjfkniknmkcdcaa
open Go.RowKit K

theorem eq_of_getD {l1 l2 : List Int} (h : l1.length = l2.length) (h2 : ∀ t, t < l1.length → l1.getD t 0 = l2.getD t 0) : l1 = l2 := by
  apply List.ext_getElem h
  intro i h3 h4
  have := h2 i h3
  rw [List.getD_eq_getElem?_getD, List.getD_eq_getElem?_getD, List.getElem?_eq_getElem h3, List.getElem?_eq_getElem h4] at this
  simpa using this

set_option maxHeartbeats 400000 in
theorem sameInts_any (v1 v2 : Value) (l1 l2 : List Int) (w : World) (h1 : IsInts .i64 w v1 l1) (h2 : IsInts .i64 w v2 l2) :
    Calls Try.prog 12 #[v1, v2] w fun e w' => e = .returned (.bool (decide (l1 = l2))) ∧ Below w.heap.size w w' := by
  obtain ⟨A1, c1, rfl, hc1, hm1, hr1⟩ := h1
  obtain ⟨A2, c2, rfl, hc2, hm2, hr2⟩ := h2
  unfold maxLen at hm1 hm2
  by_cases hl : l1.length = l2.length
  · have HL := Lib.hid hl
    rw [← hl] at hc2 hm2 hr2 ⊢
    clear hl
    go_enter Try.func12, Try.ntmps12
    go_wp2
    go_loopw [5] (fun i wr => ∃ j : Nat, j ≤ l1.length ∧ i = .int .i64 j ∧ Hid (∀ t, t < j → l1.getD t 0 = l2.getD t 0) ∧ Below w.heap.size w wr) (fun i _ => l1.length - (intOf i).toNat)
    case atStart => exact ⟨0, by omega, rfl, Lib.hid (by simp), Below.refl _ _⟩
    case round =>
      obtain ⟨j, hj, rfl, heq, hbel⟩ := hrel
      by_cases hlt : j < l1.length
      · obtain ⟨b1, o1, e1, hb1, hcell1⟩ := hr1 (by omega)
        obtain ⟨b2, o2, e2, hb2, hcell2⟩ := hr2 (by omega)
        subst e1; subst e2
        have x1 : wr.cell? ⟨b1, o1 + j, none⟩ = some (.int .i64 (l1.getD j 0)) := (hbel.cell (p := ⟨b1, o1 + j, none⟩) hb1).trans (hcell1 j hlt)
        have x2 : wr.cell? ⟨b2, o2 + j, none⟩ = some (.int .i64 (l2.getD j 0)) := (hbel.cell (p := ⟨b2, o2 + j, none⟩) hb2).trans (hcell2 j hlt)
        clear hcell1 hcell2 hr1 hr2
        obtain ⟨y1, hy1⟩ : ∃ y, l1.getD j 0 = y := ⟨_, rfl⟩
        obtain ⟨y2, hy2⟩ : ∃ y, l2.getD j 0 = y := ⟨_, rfl⟩
        rw [hy1] at x1
        rw [hy2] at x2
        have HY1 := Lib.hid hy1
        have HY2 := Lib.hid hy2
        clear hy1 hy2
        by_cases hx : y1 = y2
        · subst hx
          go_wp2
          go_quiet (fail)
          go_wp2
          go_roundw
          case rel =>
            refine ⟨j + 1, by omega, by go_num, fun t ht => ?_, bdn hbel _⟩
            by_cases e : t = j
            · subst e; exact HY1.out.trans HY2.out.symm
            · exact heq.out t (by omega)
          case measure => simp [intOf]; omega
        · have hx1 : (y1 != y2) = true := by simpa using hx
          have hx2 : (y1 == y2) = false := by simpa using hx
          have hd : decide (l1 = l2) = false := by
            simp only [decide_eq_false_iff_not]
            intro h
            subst h
            exact hx (HY1.out.symm.trans HY2.out)
          have HD := Lib.hid hd
          clear hd hx
          go_wp2
          go_quiet (fail)
          go_wp2
          go_ret
          rw [HD.out]
          exact ⟨rfl, bdn hbel _⟩
      · have hjl : j = l1.length := by omega
        have hd : decide (l1 = l2) = true := by
          simp only [decide_eq_true_eq]
          exact eq_of_getD HL.out fun t ht => heq.out t (by omega)
        have HD := Lib.hid hd
        clear hd hjl
        go_wp2
        go_ret
        rw [HD.out]
        exact ⟨rfl, hbel⟩
  · have hl2 : ((l1.length : Int) != (l2.length : Int)) = true := by simp; omega
    have hd : decide (l1 = l2) = false := by simp; intro h; exact hl (by rw [h])
    have HD := Lib.hid hd
    clear hd hl
    go_enter Try.func12, Try.ntmps12
    go_wp2
    go_ret
    rw [HD.out]
    exact ⟨rfl, Below.refl _ _⟩
end Go.Proofs.Ytjfkniknmkcdcaa
