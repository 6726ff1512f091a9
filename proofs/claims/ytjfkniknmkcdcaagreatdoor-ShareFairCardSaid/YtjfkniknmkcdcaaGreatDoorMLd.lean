/- The end of a law's row over the table of factorials: the table's cells out of the row's condition; a slice of ints that was handed in. -/
import Derived.Test.YtjfkniknmkcdcaaGreatDoorRows
import Derived.Test.YtjfkniknmkcdcaaGreatDoorMSc
import Derived.Test.YtjfkniknmkcdcaaGreatDoorMRow
import Derived.Test.YtjfkniknmkcdcaaGreatDoorMHc
import Derived.LaidMore
import Derived.Lay
import Derived.SevenTiedAt
import Derived.Stop.Joined
import Derived.ChangeSlices
namespace Go.Proofs.YtjfkniknmkcdcaaGreatDoor.Ld
open Go Go.ChangeShapes Go.WideShapes Go.ChangeAt Go.RowKit

abbrev laid : List (String × DataW Unit) := [("abaculus/share.factorials", Rows.laid_abaculus_share_factorials)]
theorem own : ownKnob Tryz.prog.godebug = none := by kernel_rfl
theorem laidOut : laidOutB Tryz.prog = true := by kernel_rfl
theorem fc_lits : ((List.range 11).map fun i => (DataW.lit (.int .i64 (fc i : Int)) : DataW Unit)) = [.lit (.int .i64 1), .lit (.int .i64 1), .lit (.int .i64 2), .lit (.int .i64 6), .lit (.int .i64 24), .lit (.int .i64 120), .lit (.int .i64 720), .lit (.int .i64 5040), .lit (.int .i64 40320), .lit (.int .i64 362880), .lit (.int .i64 3628800)] := by rfl
theorem fac {W : World} (h : laidMetH Tryz.prog laid W) : Fac W := by
  rw [MakeChecks.laidMetH_plain _ _ _ (by kernel_rfl)] at h
  obtain ⟨ps, ⟨g, t, cs, fuel, p, q, hg, ht, hv, hd, _, _⟩, _, _⟩ := h
  obtain rfl := Option.some.inj ((show Tryz.prog.globalNamed "abaculus/share.factorials" = some 0 by kernel_rfl).symm.trans hg)
  obtain rfl := Option.some.inj ((show (Tryz.prog.globals[0]?).map (·.type) = some 140 by kernel_rfl).symm.trans ht)
  obtain ⟨xs, m, _, ex, _, hl, hel⟩ := DataW.trod_array Tryz.underlying140 hd
  have c5 : Tryz.prog.cellsOf 2 = 1 := by kernel_rfl
  have hcells : ∀ r, r < 11 → W.cell? ⟨0, r, none⟩ = some (.int .i64 (fc r : Int)) := by
    intro r hr
    have hE := hel r hr
    rw [c5, Nat.mul_one, List.getElem?_eq_getElem (by omega)] at hE
    obtain ⟨z, e1, e2, _⟩ := DataW.trod_int Tryz.underlying2 hE
    have e3 : (xs.map (·.1)) = (List.range 11).map fun i => (DataW.lit (.int .i64 (fc i : Int)) : DataW Unit) := by rw [fc_lits]; exact (DataW.agg.inj (Prod.mk.inj ex).1).symm
    have e4 : (xs.map (·.1))[r]? = ((List.range 11).map fun i => (DataW.lit (.int .i64 (fc i : Int)) : DataW Unit))[r]? := by rw [e3]
    rw [List.getElem?_map, List.getElem?_map, List.getElem?_eq_getElem (by omega : r < xs.length), List.getElem?_range hr, e2] at e4
    have hz : z = fc r := by
      simp only [Option.map_some, Option.some.injEq, DataW.lit.injEq, Lit.int.injEq, true_and] at e4
      exact e4
    rw [World.var?_cell hg hv r, ← hz]
    have : cs.toList[r]? = some (.int .i64 z) := by
      have h0 : ((cs.toList.drop r).take 1)[0]? = some (.int .i64 z) := by rw [e1]; rfl
      simpa using h0
    simpa using this
  exact ⟨World.block_lt_of_cell? W _ (hcells 0 (by decide)), hcells⟩
set_option maxRecDepth 100000 in
/-- a slice of ints that was handed in -/
theorem ints {H : Type} {enc : TypeId × Value → H} {W : World} {base : Nat} {r : Reach} {b0 : Nat} {sp : Nat → Bool} {held : Bool} {v : Value} {d : DataW H} {p : List MemPlace} (hv : Value.okWide Tryz.prog W r b0 22 v)
    (h : DataW.Trod enc Tryz.prog W base sp held 22 v d p) : ∃ l, K.IsInts .i64 W v l ∧ ∀ x, x ∈ l → I64 x := by
  obtain ⟨A, n, c, rfl⟩ := okWide_slice Tryz.underlying22 hv
  obtain ⟨fuel, hf⟩ := h
  rcases open_ints Tryz.underlying22 Tryz.underlying3 (by kernel_rfl) hf with ⟨hcs, -⟩ | ⟨a, len, cap, zs, hcs, -, hlc, hcm, hz, -, hcell, hwf⟩
  · simp only [Value.cells, List.cons.injEq, Value.slice.injEq, and_true] at hcs
    obtain ⟨rfl, rfl, rfl⟩ := hcs
    exact ⟨[], K.IsInts.nil _ _, fun x hx => by simp at hx⟩
  · simp only [Value.cells, List.cons.injEq, Value.slice.injEq, and_true] at hcs
    obtain ⟨rfl, rfl, rfl⟩ := hcs
    have hlen : n ≤ zs.length := by rw [hz]; split <;> omega
    refine ⟨zs.take n, ⟨some a, c, ?_, ?_, ?_, fun hne => ?_⟩, fun x hx => ?_⟩
    · rw [List.length_take, Nat.min_eq_left hlen]
    · rw [List.length_take, Nat.min_eq_left hlen]; exact hlc
    · rw [List.length_take, Nat.min_eq_left hlen]; omega
    · have hn0 : 0 < n := by rw [List.length_take, Nat.min_eq_left hlen] at hne; omega
      have h0 := hcell 0 (by omega)
      obtain ⟨b, off, spot⟩ := a
      have hspot : spot = none := by simpa [Addr.add] using World.cell?_spot h0
      subst hspot
      refine ⟨b, off, rfl, by simpa [Addr.add] using World.block_lt_of_cell? W _ h0, fun i hi => ?_⟩
      rw [List.length_take, Nat.min_eq_left hlen] at hi
      have h1 := hcell i (by omega)
      have e : (zs.take n).getD i 0 = zs.getD i 0 := by rw [List.getD_eq_getElem?_getD, List.getD_eq_getElem?_getD, List.getElem?_take_of_lt hi]
      rw [e, ← h1]
      by_cases h2 : i = 0
      · subst h2; simp [Addr.add]
      · simp [Addr.add, h2]
    · have := hwf x (List.mem_of_mem_take hx)
      simp [Lit.wf] at this
      have e : IntKind.i64.min = -9223372036854775808 := by decide
      rw [e] at this
      unfold I64
      omega
end Go.Proofs.YtjfkniknmkcdcaaGreatDoor.Ld
