/- The walks of the document's I, IntOf, Make, Of, Over (short numbers). (printed by wip/gen/re.py) -/
import Derived.Test.YtjfkniknmkcdcaaGreatDoorMRb
import Derived.Test.YtjfkniknmkcdcaaGreatDoorMQb
namespace Go.Proofs.YtjfkniknmkcdcaaGreatDoor
open Go.RowKit K Nu

/-- the document's fraction -/
def RQ (w : World) (b : Bool) (v d : Value) (q : Rat) : Prop := (RN w v q.num.natAbs ∧ b = decide (q.num < 0)) ∧ RN w d q.den
theorem RN.box3 {w : World} {v : Value} {n g : Nat} {a b c a' b' c' : Value} {T : TypeId} (h : RN w v n) (hg : Blk w g [a, b, c] T) (hno : ∀ x, x ∈ [a, b, c] → ∀ q, x ≠ .int .u32 q) (hno' : ∀ x, x ∈ [a', b', c'] → ∀ q, x ≠ .int .u32 q) :
    RN (((w.setCell ⟨g, 0, none⟩ a').setCell ⟨g, 1, none⟩ b').setCell ⟨g, 2, none⟩ c') v n :=
  ((h.box hg hno 0 a').box (hg.set 0 a') (by simp at hno hno' ⊢; grind) 1 b').box ((hg.set 0 a').set 1 b') (by simp at hno hno' ⊢; grind) 2 c'
theorem RN.box2 {w : World} {v : Value} {n g : Nat} {a b a' b' : Value} {T : TypeId} (h : RN w v n) (hg : Blk w g [a, b] T) (hno : ∀ x, x ∈ [a, b] → ∀ q, x ≠ .int .u32 q) (hno' : ∀ x, x ∈ [a', b'] → ∀ q, x ≠ .int .u32 q) :
    RN ((w.setCell ⟨g, 0, none⟩ a').setCell ⟨g, 1, none⟩ b') v n :=
  (h.box hg hno 0 a').box (hg.set 0 a') (by simp at hno hno' ⊢; grind) 1 b'


set_option maxRecDepth 100000 in
set_option maxHeartbeats 2000000 in
theorem i_any (b : Bool) (v : Value) (n : Nat) (w : World) (h : RN w v n) (hn : n < 4294967296) :
    Calls Tryz.prog 46 #[.bool b, v] w fun e w' => e = .returned (.agg #[.bool (b && decide (n ≠ 0)), v]) ∧ Below w.heap.size w w' := by
  rcases h.cases hn with ⟨rfl, A, c, rfl⟩ | ⟨hn0, b2, o2, c2, rfl, hc2, hb2, x2⟩
  · cases b
    · go_enter Tryz.func46, Tryz.ntmps46
      go_wp2_with fail
      refine bodyPost_ret (v := .agg #[.bool false, .slice A 0 c]) (by simp [results, Tryz.results46, go_sem]) rfl ?_
      exact ⟨rfl, by (repeat (first | assumption | exact Below.refl _ _ | refine Below.drew ?_ | refine Below.setCell ?_ (by simp <;> omega) _ | refine Below.alloc ?_ (by simp <;> omega) _))⟩
    · go_enter Tryz.func46, Tryz.ntmps46
      go_wp2_with fail
      refine bodyPost_ret (v := .agg #[.bool false, .slice A 0 c]) (by simp [results, Tryz.results46, go_sem]) rfl ?_
      exact ⟨rfl, by (repeat (first | assumption | exact Below.refl _ _ | refine Below.drew ?_ | refine Below.setCell ?_ (by simp <;> omega) _ | refine Below.alloc ?_ (by simp <;> omega) _))⟩
  · have e : (b && decide (n ≠ 0)) = b := by simp [hn0]
    rw [e]
    clear e x2
    cases b
    · go_enter Tryz.func46, Tryz.ntmps46
      go_wp2_with fail
      refine bodyPost_ret (v := .agg #[.bool false, .slice (some ⟨b2, o2, none⟩) 1 c2]) (by simp [results, Tryz.results46, go_sem]) rfl ?_
      exact ⟨rfl, by (repeat (first | assumption | exact Below.refl _ _ | refine Below.drew ?_ | refine Below.setCell ?_ (by simp <;> omega) _ | refine Below.alloc ?_ (by simp <;> omega) _))⟩
    · go_enter Tryz.func46, Tryz.ntmps46
      go_wp2_with fail
      refine bodyPost_ret (v := .agg #[.bool true, .slice (some ⟨b2, o2, none⟩) 1 c2]) (by simp [results, Tryz.results46, go_sem]) rfl ?_
      exact ⟨rfl, by (repeat (first | assumption | exact Below.refl _ _ | refine Below.drew ?_ | refine Below.setCell ?_ (by simp <;> omega) _ | refine Below.alloc ?_ (by simp <;> omega) _))⟩

set_option maxRecDepth 100000 in
set_option maxHeartbeats 2000000 in
theorem intOf_any (n : Int) (w : World) (h0 : -4294967296 < n) (h1 : n < 4294967296) :
    Calls Tryz.prog 71 #[.int .i64 n] w fun e w' => ∃ v, e = .returned (.agg #[.bool (decide (n < 0)), v]) ∧ RN w' v n.natAbs ∧ Below w.heap.size w w' := by
  have p0_0 := Lib.hid ((Blk.mk w (w.heap.size) rfl [.bool false, .slice none 0 0] 53))
  have bel_0 := Lib.hid (show Below w.heap.size w (w.alloc (.cells #[.bool false, .slice none 0 0] 53)) by (repeat (first | assumption | exact Below.refl _ _ | refine Below.drew ?_ | refine Below.setCell ?_ (by simp <;> omega) _ | refine Below.alloc ?_ (by simp <;> omega) _)))
  by_cases hs : n < 0
  · have HS := Lib.hid (show (decide (n < 0)) = (true && decide (n.natAbs ≠ 0)) by simp [hs]; omega)
    have hO := fun wd => natOf_any n.natAbs wd (by omega)
    have hI := fun (wd : World) v (ha : RN wd v n.natAbs) => i_any true v n.natAbs wd ha (by omega)
    obtain ⟨N, hN⟩ : ∃ N : Int, ((n.natAbs : Nat) : Int) = N := ⟨_, rfl⟩
    rw [hN] at hO
    have hw1 : IntKind.u64.wrap n = 18446744073709551616 - N := by rw [wrap64u]; omega
    have hw2 : IntKind.u64.wrap (-(18446744073709551616 - N)) = N := by rw [wrap64u]; omega
    replace hO := Lib.hid hO
    replace hI := Lib.hid hI
    have HN := Lib.hid hN
    clear hN
    go_enter Tryz.func71, Tryz.ntmps71
    go_wp2_with fail
    refine (hO.out _).mono ?_
    rintro e w_1 ⟨v, rfl, hv, hb_1⟩
    obtain ⟨A1, k1, c1, rfl⟩ := hv.slice
    have p0_1 := Lib.hid (p0_0.out.below hb_1 p0_0.out.lt)
    have hv_1 := Lib.hid hv
    have bel_1 := Lib.hid (bel_0.out.trans (hb_1.mono bel_0.out.size))
    clear hb_1 hv
    go_wp2_with fail
    refine (hI.out _ _ hv_1.out).mono ?_
    rintro e w_2 ⟨rfl, hb_2⟩
    have p0_2 := Lib.hid (p0_1.out.below hb_2 p0_1.out.lt)
    have hv_2 := Lib.hid (hv_1.out.below hb_2 (Nat.le_refl _))
    have bel_2 := Lib.hid (bel_1.out.trans (hb_2.mono bel_1.out.size))
    have o0_0 : w_2.cell? ⟨w.heap.size, 0, none⟩ = some (.bool false) := p0_2.out.cell 0
    have z0_0 := p0_2.out.frozen 0
    have o0_1 : w_2.cell? ⟨w.heap.size, 1, none⟩ = some (.slice none 0 0) := p0_2.out.cell 1
    have z0_1 := p0_2.out.frozen 1
    clear hb_2 
    go_wp2_with fail
    refine bodyPost_ret (v := .agg #[.bool (true && decide (n.natAbs ≠ 0)), .slice A1 k1 c1]) (by simp [results, Tryz.results71, go_sem, o0_0, o0_1]) rfl ?_
    exact ⟨_, by rw [HS.out], hv_2.out.box2 p0_2.out (by simp) (by simp), (bel_2.out.setCell (by simp <;> omega) _).setCell (by simp <;> omega) _⟩
  · have HS := Lib.hid (show (decide (n < 0)) = (false && decide (n.natAbs ≠ 0)) by simp [hs])
    have hO := fun wd => natOf_any n.natAbs wd (by omega)
    have hI := fun (wd : World) v (ha : RN wd v n.natAbs) => i_any false v n.natAbs wd ha (by omega)
    obtain ⟨N, hN⟩ : ∃ N : Int, ((n.natAbs : Nat) : Int) = N := ⟨_, rfl⟩
    rw [hN] at hO
    have hw1 : IntKind.u64.wrap n = N := by rw [wrap64u]; omega
    replace hO := Lib.hid hO
    replace hI := Lib.hid hI
    have HN := Lib.hid hN
    clear hN
    go_enter Tryz.func71, Tryz.ntmps71
    go_wp2_with fail
    refine (hO.out _).mono ?_
    rintro e w_1 ⟨v, rfl, hv, hb_1⟩
    obtain ⟨A1, k1, c1, rfl⟩ := hv.slice
    have p0_1 := Lib.hid (p0_0.out.below hb_1 p0_0.out.lt)
    have hv_1 := Lib.hid hv
    have bel_1 := Lib.hid (bel_0.out.trans (hb_1.mono bel_0.out.size))
    clear hb_1 hv
    go_wp2_with fail
    refine (hI.out _ _ hv_1.out).mono ?_
    rintro e w_2 ⟨rfl, hb_2⟩
    have p0_2 := Lib.hid (p0_1.out.below hb_2 p0_1.out.lt)
    have hv_2 := Lib.hid (hv_1.out.below hb_2 (Nat.le_refl _))
    have bel_2 := Lib.hid (bel_1.out.trans (hb_2.mono bel_1.out.size))
    have o0_0 : w_2.cell? ⟨w.heap.size, 0, none⟩ = some (.bool false) := p0_2.out.cell 0
    have z0_0 := p0_2.out.frozen 0
    have o0_1 : w_2.cell? ⟨w.heap.size, 1, none⟩ = some (.slice none 0 0) := p0_2.out.cell 1
    have z0_1 := p0_2.out.frozen 1
    clear hb_2 
    go_wp2_with fail
    refine bodyPost_ret (v := .agg #[.bool (false && decide (n.natAbs ≠ 0)), .slice A1 k1 c1]) (by simp [results, Tryz.results71, go_sem, o0_0, o0_1]) rfl ?_
    exact ⟨_, by rw [HS.out], hv_2.out.box2 p0_2.out (by simp) (by simp), (bel_2.out.setCell (by simp <;> omega) _).setCell (by simp <;> omega) _⟩

end Go.Proofs.YtjfkniknmkcdcaaGreatDoor
