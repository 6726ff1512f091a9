/- The walk of share's Mixed; the document's Mixed. -/
import Derived.Test.YtjfkniknmkcdcaaDoorSa
namespace Go.Proofs.YtjfkniknmkcdcaaDoor
open Go.RowKit K Nu

/-- a row of two -/
def mixR (xs bs : List Rat) (hs : List Bool) : List Rat := (List.range bs.length).map fun i => if hs.getD i false then xs.getD i 0 else bs.getD i 0
/-- a slice of bools -/
def IsBools (w : World) (v : Value) (l : List Bool) : Prop :=
  ∃ (A : Option Addr) (c : Nat), v = .slice A l.length c ∧ l.length ≤ c ∧ (l.length ≠ 0 → ∃ b off, A = some ⟨b, off, none⟩ ∧ b < w.heap.size ∧ ∀ i, i < l.length → w.cell? ⟨b, off + i, none⟩ = some (.bool (l.getD i false)))
theorem IsBools.below {B : Nat} {w w' : World} {v : Value} {l : List Bool} (h : IsBools w v l) (hb : Below B w w') (hB : w.heap.size ≤ B) : IsBools w' v l := by
  obtain ⟨A, c, e, h1, h2⟩ := h
  refine ⟨A, c, e, h1, fun hne => ?_⟩
  obtain ⟨b, off, rfl, hlt, hc⟩ := h2 hne
  exact ⟨b, off, rfl, by have := hb.size; omega, fun i hi => (hb.cell (p := ⟨b, off + i, none⟩) (by show b < B; omega)).trans (hc i hi)⟩

set_option maxRecDepth 100000 in
set_option maxHeartbeats 4000000 in
theorem shMixed_bad (A1 A2 A3 : Option Addr) (n1 n2 n3 c1 c2 c3 : Nat) (w : World) (h : n1 < 1 ∨ 20 < n1 ∨ n2 ≠ n1 ∨ n3 ≠ n1) :
    Calls Tryd.prog 8 #[.slice A1 n1 c1, .slice A2 n2 c2, .slice A3 n3 c3] w fun e w' => e = .returned (.tuple #[.slice none 0 0, .int .i64 5]) ∧ w = w' := by
  by_cases h1 : n1 < 1
  · have h2 : n1 = 0 := by omega
    subst h2
    clear h
    go_enter Tryd.func8, Tryd.ntmps8
    go_wp2
    go_ret2
    exact ⟨rfl, rfl⟩
  · by_cases h2 : 20 < n1
    · clear h
      go_enter Tryd.func8, Tryd.ntmps8
      go_wp2
      go_ret2
      exact ⟨rfl, rfl⟩
    · by_cases h3 : n2 = n1
      · have h4 : n3 ≠ n1 := by omega
        subst h3
        have t1 : ((n3 : Int) != (n2 : Int)) = true := bne_iff_ne.2 (by omega)
        clear h h4
        go_enter Tryd.func8, Tryd.ntmps8
        go_wp2
        go_ret2
        exact ⟨rfl, rfl⟩
      · have t1 : ((n2 : Int) != (n1 : Int)) = true := bne_iff_ne.2 (by omega)
        clear h h3
        go_enter Tryd.func8, Tryd.ntmps8
        go_wp2
        go_ret2
        exact ⟨rfl, rfl⟩

/-- a store of three cells into a row that is owned -/
theorem own_store3 {w : World} {base : Nat} {e : TypeId} {v : Value} {n : Nat} {ts : List T3} (h : w.ownsRow base e 3 v n (flat ts)) (hn : NoInt w v) {i : Nat} (hi : i < ts.length) {g : Nat} (hg : v.ownBlock = some g) (b : Bool) (u1 u2 : Value) (hu1 : ∀ k q, u1 ≠ .int k q) (hu2 : ∀ k q, u2 ≠ .int k q) :
    (((w.setCell ⟨g, i * 3, none⟩ (.bool b)).setCell ⟨g, i * 3 + 1, none⟩ u1).setCell ⟨g, i * 3 + 2, none⟩ u2).ownsRow base e 3 v n (flat (ts.set i (b, u1, u2))) ∧
    NoInt (((w.setCell ⟨g, i * 3, none⟩ (.bool b)).setCell ⟨g, i * 3 + 1, none⟩ u1).setCell ⟨g, i * 3 + 2, none⟩ u2) v ∧
    w.grownBy (((w.setCell ⟨g, i * 3, none⟩ (.bool b)).setCell ⟨g, i * 3 + 1, none⟩ u1).setCell ⟨g, i * 3 + 2, none⟩ u2) v.ownBlock := by
  rcases h.2 with ⟨rfl, -⟩ | ⟨g', cap, cur, rfl, hb, hgg, hc, hm, hs, ht⟩
  · simp [Value.ownBlock] at hg
  · simp only [Value.ownBlock, Option.some.injEq] at hg
    subst hg
    have hlt : g' < w.heap.size := lt_of_block hgg
    have hset : ∀ (w : World) (cur : Array Value) (j : Nat) (u : Value), w.heap[g']? = some (.cells cur e (0, 0)) → (w.setCell ⟨g', j, none⟩ u).heap[g']? = some (.cells (cur.setIfInBounds j u) e (0, 0)) := by
      intro w cur j u hw
      have hl : g' < w.heap.size := lt_of_block hw
      have hv : w.heap[g'] = .cells cur e (0, 0) := by simpa [Array.getElem?_eq_getElem hl] using hw
      show (w.heap.modify g' _)[g']? = _
      rw [Array.getElem?_eq_getElem (by simpa using hl), Array.getElem_modify_self, hv]
      simp
    have h3 := hset _ _ (i * 3 + 2) u2 (hset _ _ (i * 3 + 1) u1 (hset w cur (i * 3) (.bool b) hgg))
    have hfl := flat_set ts i b u1 u2 hi
    have hlen : (flat ts).length = n * 3 := h.1
    have hlen2 : (flat (ts.set i (b, u1, u2))).length = n * 3 := by rw [flat_length, List.length_set, ← flat_length, hlen]
    refine ⟨⟨hlen2, .inr ⟨g', cap, _, rfl, hb, h3, hc, hm, by simpa using hs, ?_⟩⟩, ?_, ?_⟩
    · rw [← hfl, ← ht]
      simp only [Array.toList_setIfInBounds, List.take_set]
    · intro g hg cur' e' f hc' x hx
      simp only [Value.ownBlock, Option.some.injEq] at hg
      subst hg
      rw [h3] at hc'
      injection hc' with hc'
      injection hc' with h5 h6 h7
      subst h5
      simp only [Array.toList_setIfInBounds] at hx
      rcases List.mem_or_eq_of_mem_set hx with hx | rfl
      · rcases List.mem_or_eq_of_mem_set hx with hx | rfl
        · rcases List.mem_or_eq_of_mem_set hx with hx | rfl
          · exact hn g' rfl cur e (0, 0) hgg x hx
          · intro k q; simp
        · exact hu1
      · exact hu2
    · refine ⟨rfl, rfl, rfl, by simp [World.setCell], fun k hk hne => ?_⟩
      have hkg : g' ≠ k := fun e => hne (by rw [← e]; rfl)
      rw [Below.heap_setCell _ _ _ _ (by exact fun e => hkg e.symm), Below.heap_setCell _ _ _ _ (by exact fun e => hkg e.symm), Below.heap_setCell _ _ _ _ (by exact fun e => hkg e.symm)]

theorem own_cell3 {w : World} {base g n cap : Nat} {e : TypeId} {ts : List T3} (h : w.ownsRow base e 3 (.slice (some ⟨g, 0, none⟩) n cap) n (flat ts)) {i : Nat} (hi : i < ts.length) :
    ∃ b u v, ts[i]? = some (b, u, v) ∧ w.cell? ⟨g, i * 3, none⟩ = some (.bool b) ∧ w.cell? ⟨g, i * 3 + 1, none⟩ = some u ∧ w.cell? ⟨g, i * 3 + 2, none⟩ = some v ∧ ∀ j, w.frozen? ⟨g, j, none⟩ = false := by
  have ht : ts[i]? = some (ts[i]'hi) := List.getElem?_eq_getElem _
  obtain ⟨g1, g2, g3⟩ := flat_get ts i _ ht
  have hadd : ∀ j, (⟨g, 0, none⟩ : Addr).add j = ⟨g, j, none⟩ := fun j => by unfold Addr.add; split <;> simp_all
  have hc := h.cells (g := g) rfl
  refine ⟨_, _, _, ht, by rw [← hadd]; exact hc _ _ g1, by rw [← hadd]; exact hc _ _ g2, by rw [← hadd]; exact hc _ _ g3, fun j => ?_⟩
  rcases h.2 with ⟨h0, -⟩ | ⟨g', cap', cur, h0, -, hgg, -⟩
  · cases h0
  · injection h0 with h0
    injection h0 with h0
    injection h0 with h0
    subst h0
    simp [World.frozen?, hgg]
theorem ite_step {i k : Nat} {P : Prop} [Decidable P] {a b : Rat} (h : ¬ i = k) : (if i < k + 1 ∧ P then a else b) = (if i < k ∧ P then a else b) := by
  by_cases h7 : i < k
  · simp [h7, show i < k + 1 by omega]
  · simp [h7, show ¬ i < k + 1 by omega]
theorem own_slice {w : World} {base n : Nat} {e : TypeId} {v : Value} {xs : List Value} (h : w.ownsRow base e 3 v n xs) (hn : n ≠ 0) : ∃ g cap, v = .slice (some ⟨g, 0, none⟩) n cap ∧ base ≤ g ∧ n ≤ cap ∧ cap ≤ maxLen := by
  rcases h.2 with ⟨-, h0⟩ | ⟨g, cap, cur, rfl, hb, -, hc, hm, -⟩
  · exact absurd h0 hn
  · exact ⟨g, cap, rfl, hb, hc, hm⟩

set_option maxRecDepth 100000 in
set_option maxHeartbeats 4000000 in
theorem shMixed_any (v1 v2 v3 : Value) (xs bs : List Rat) (hs : List Bool) (w : World) (h1 : Row3 QV w v1 xs) (h2 : Row3 QV w v2 bs) (h3 : IsBools w v3 hs) (hx : 1 ≤ xs.length) (hx2 : xs.length ≤ 20) (hb : bs.length = xs.length) (hh : hs.length = xs.length) :
    Calls Tryd.prog 8 #[v1, v2, v3] w fun e w' => ∃ r, e = .returned (.tuple #[r, .int .i64 0]) ∧ Row3 QV w' r (mixR xs bs hs) ∧ Below w.heap.size w w' := by
  have hC := Lib.hid (fun (wd : World) (hq : Row3 QV wd v2 bs) => copy_any v2 bs wd hq (by omega) (by omega))
  have h2' := Lib.hid h2
  obtain ⟨A1, c1, e1, hlc1, hcm1, hat1⟩ := h1.at
  obtain ⟨A2, c2, e2, hlc2, hcm2, hat2⟩ := h2.at
  obtain ⟨A3, c3, e3, hlc3, hat3⟩ := h3
  subst e1 e2 e3
  obtain ⟨L, hL⟩ : ∃ L, xs.length = L := ⟨_, rfl⟩
  rw [hL] at hx hx2 hb hh hlc1 hat1
  rw [hb] at hlc2 hC h2'
  rw [hh] at hlc3 hat3
  rw [hL, hb, hh]
  unfold maxLen at hcm1 hcm2
  have HL := Lib.hid (And.intro hL (And.intro hb hh))
  have t1 : decide ((L : Int) < 1) = false := decide_eq_false (by omega)
  clear hL hb hh hat2 h1 h2
  go_enter Tryd.func8, Tryd.ntmps8
  go_wp2_with fail
  refine (hC.out _ h2'.out).mono ?_
  rintro e w1 ⟨r, ts, rfl, hown, hno, hts, hq, hb1⟩
  obtain ⟨g, cap, rfl, hgb, hgc, hgm⟩ := own_slice hown (by omega)
  have hHQ := Lib.hid hq
  have hTS := Lib.hid hts
  clear hq hts hC h2'
  go_wp2_with fail
  go_loopw [37] (fun i wr => ∃ (k : Nat) (ts : List T3), k ≤ L ∧ i = .int .i64 k ∧ Hid (ts.length = L) ∧ wr.ownsRow w.heap.size 43 3 (.slice (some ⟨g, 0, none⟩) L cap) L (flat ts) ∧ NoInt wr (.slice (some ⟨g, 0, none⟩) L cap) ∧
    Hid (∀ (i : Nat) (t : T3), ts[i]? = some t → QV wr t.1 t.2.1 t.2.2 (if i < k ∧ hs.getD i false = true then xs.getD i 0 else bs.getD i 0)) ∧ Below w.heap.size w wr) (fun i _ => L - (intOf i).toNat)
  case atStart =>
    refine ⟨0, ts, by omega, rfl, hTS, hown, hno, Lib.hid (fun i t ht => ?_), hb1⟩
    have hi : i < L := by have := (List.getElem?_eq_some_iff.1 ht).1; rw [hTS.out] at this; exact this
    rw [if_neg (by omega)]
    exact hHQ.out i t _ ht (by rw [List.getD_eq_getElem?_getD, List.getElem?_eq_getElem (by rw [HL.out.2.1]; exact hi)]; rfl)
  case round =>
    clear hown hno hb1 hHQ hTS ts
    obtain ⟨k, ts, hk, rfl, hts, hown, hno, hq, hbel⟩ := hrel
    by_cases hlt : k < L
    · obtain ⟨b3, o3, rfl, hb3, hc3⟩ := hat3 (by omega)
      obtain ⟨b1, o1, x1, u1, u2, rfl, hg1, y0, y1, y2, hQ1⟩ := hat1 k hlt
      have z0 := (hbel.cell (p := ⟨b3, o3 + k, none⟩) hb3).trans (hc3 k hlt)
      clear hc3 hat3 hat1
      obtain ⟨d, hd⟩ : ∃ d, hs.getD k false = d := ⟨_, rfl⟩
      rw [hd] at z0
      cases d
      · have hq2 := Lib.hid (show ∀ (i : Nat) (t : T3), ts[i]? = some t → QV wr t.1 t.2.1 t.2.2 (if i < k + 1 ∧ hs.getD i false = true then xs.getD i 0 else bs.getD i 0) from fun i t ht => by
          have := hq.out i t ht
          by_cases e : i = k
          · subst e
            rw [if_neg (by rw [hd]; simp)] at this ⊢
            exact this
          · rw [ite_step e]; exact this)
        clear hd y0 y1 y2 hQ1 hq
        go_wp2
        go_roundw
        case rel => exact ⟨k + 1, ts, by omega, by go_num, hts, hown, hno, hq2, hbel⟩
        case measure => simp [intOf]; omega
      · have hQ2 := hQ1.below hbel (Nat.le_refl _)
        obtain ⟨A5, k5, c5, A6, k6, c6, rfl, rfl⟩ := hQ2.slices
        obtain ⟨b', u', v', ht', x0, x3, x4, hfz⟩ := own_cell3 hown (i := k) (by rw [hts.out]; exact hlt)
        obtain ⟨ho2, hn2, hg2⟩ := own_store3 hown hno (i := k) (by rw [hts.out]; exact hlt) (g := g) rfl x1 (.slice A5 k5 c5) (.slice A6 k6 c6) (by simp) (by simp)
        have f0 := hfz (k * 3)
        have f1 := hfz (k * 3 + 1)
        have f2 := hfz (k * 3 + 2)
        have hq2 := Lib.hid (show ∀ (i : Nat) (t : T3), (ts.set k (x1, .slice A5 k5 c5, .slice A6 k6 c6))[i]? = some t → QV _ t.1 t.2.1 t.2.2 (if i < k + 1 ∧ hs.getD i false = true then xs.getD i 0 else bs.getD i 0) from fun i t ht => by
          by_cases e : i = k
          · subst e
            rw [List.getElem?_set_self (by rw [hts.out]; exact hlt)] at ht
            simp only [Option.some.injEq] at ht
            subst ht
            rw [if_pos ⟨by omega, hd⟩]
            exact hQ2.grown hown hno hg2
          · rw [List.getElem?_set_ne (by omega)] at ht
            have := (hq.out i t ht).grown hown hno hg2
            rw [ite_step e]; exact this)
        have HO := Lib.hid (And.intro ho2 hn2)
        have y0' := (hbel.cell (p := ⟨b1, o1 + k * 3, none⟩) hg1).trans y0
        have y1' := (hbel.cell (p := ⟨b1, o1 + k * 3 + 1, none⟩) hg1).trans y1
        have y2' := (hbel.cell (p := ⟨b1, o1 + k * 3 + 2, none⟩) hg1).trans y2
        have hbel2 := Lib.hid (((hbel.setCell (p := ⟨g, k * 3, none⟩) hgb (.bool x1)).setCell (p := ⟨g, k * 3 + 1, none⟩) hgb (.slice A5 k5 c5)).setCell (p := ⟨g, k * 3 + 2, none⟩) hgb (.slice A6 k6 c6))
        clear hd y0 y1 y2 hQ1 hQ2 hq ho2 hn2 hg2 hfz ht' hbel
        go_wp2
        go_roundw
        case rel => exact ⟨k + 1, _, by omega, by go_num, Lib.hid (by rw [List.length_set]; exact hts.out), HO.out.1, HO.out.2, hq2, hbel2.out⟩
        case measure => simp [intOf]; omega
    · obtain rfl : k = L := by omega
      go_wp2
      go_ret2
      have hml : (mixR xs bs hs).length = k := by simp [mixR, HL.out.2.1]
      refine ⟨_, rfl, own_row3 hown hml.symm (by rw [hts.out, hml]) (fun i t q ht hqi => ?_), hbel⟩
      have hi : i < k := by have := (List.getElem?_eq_some_iff.1 ht).1; rw [hts.out] at this; exact this
      have h8 := hq.out i t ht
      have h9 : q = if i < k ∧ hs.getD i false = true then xs.getD i 0 else bs.getD i 0 := by
        have e3 : (mixR xs bs hs)[i]? = some (if hs.getD i false then xs.getD i 0 else bs.getD i 0) := by
          unfold mixR; rw [List.getElem?_map, List.getElem?_range (by rw [HL.out.2.1]; exact hi)]; rfl
        rw [e3] at hqi
        injection hqi with hqi
        rw [← hqi]
        simp only [hi, true_and]
      rw [h9]; exact h8
end Go.Proofs.YtjfkniknmkcdcaaDoor
