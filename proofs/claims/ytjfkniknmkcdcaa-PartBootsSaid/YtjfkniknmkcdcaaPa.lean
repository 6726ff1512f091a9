/- The walks of package part: Rest, slices.Sort, Boot, known. -/
import Derived.Test.YtjfkniknmkcdcaaProg
import Derived.Test.YtjfkniknmkcdcaaDm
import Derived.Test.YtjfkniknmkcdcaaKit
import Derived.Test.YtjfkniknmkcdcaaDw
import Derived.Test.YtjfkniknmkcdcaaIn
import Derived.Test.YtjfkniknmkcdcaaSs
import Derived.Shelf.SortG.Plain
import Derived.Ground.SlgnProg
import Derived.Sort.OwnSortedInts
namespace Go.Proofs.Ytjfkniknmkcdcaa
open Go.RowKit K

/-- which rows a list has -/
def marks (n : Nat) (l : List Int) : List Bool := (List.range n).map fun r : Nat => decide ((r : Int) ∈ l)
def vb (l : List Bool) : List Value := l.map Value.bool
theorem vb_get (l : List Bool) (i : Nat) : (vb l)[i]? = (l[i]?).map Value.bool := by simp [vb]
theorem vb_set (l : List Bool) (i : Nat) (b : Bool) : (vb l).set i (.bool b) = vb (l.set i b) := by simp [vb]
theorem marks_get (n : Nat) (l : List Int) (i : Nat) (h : i < n) : (marks n l)[i]? = some (decide ((i : Int) ∈ l)) := by simp [marks, h]
theorem marks_nil (n : Nat) : marks n [] = List.replicate n false := by
  simp [marks, List.map_const']
theorem marks_snoc (n : Nat) (l : List Int) (x : Int) (h0 : 0 ≤ x) : (marks n l).set x.toNat true = marks n (l ++ [x]) := by
  apply List.ext_getElem?
  intro i
  rw [List.getElem?_set]
  by_cases h : x.toNat = i
  · subst h
    have e : ((x.toNat : Nat) : Int) = x := by omega
    by_cases hn : x.toNat < n
    · simp [marks, hn, e]
    · simp [marks, hn]
  · have : ¬ (i : Int) = x := by omega
    by_cases hn : i < n
    · simp [marks, h, this, hn]
    · simp [marks, h, hn]
theorem marks_out (n : Nat) (l : List Int) (x : Int) (h : x < 0 ∨ (n : Int) ≤ x) : marks n (l ++ [x]) = marks n l := by
  unfold marks
  apply List.map_congr_left
  intro r hr
  have := List.mem_range.1 hr
  have : ¬ (r : Int) = x := by omega
  simp [this]
/-- the rows of 0 to n - 1 that a list does not have -/
def rest (n : Nat) (l : List Int) : List Int := ((List.range n).filter fun r : Nat => !decide ((r : Int) ∈ l)).map fun r : Nat => (r : Int)
def restTo (j : Nat) (l : List Int) : List Int := rest j l
theorem rest_succ (j : Nat) (l : List Int) : rest (j + 1) l = rest j l ++ (if (j : Int) ∈ l then [] else [(j : Int)]) := by
  unfold rest
  rw [List.range_succ, List.filter_append, List.map_append]
  congr 1
  by_cases h : (j : Int) ∈ l <;> simp [h]
theorem rest_le (j : Nat) (l : List Int) : (rest j l).length ≤ j := by
  unfold rest
  rw [List.length_map]
  exact Nat.le_trans (List.length_filter_le _ _) (by simp)
theorem take_snocI (l : List Int) (j : Nat) (h : j < l.length) : l.take (j + 1) = l.take j ++ [l.getD j 0] := by
  rw [List.take_succ_eq_append_getElem h]
  simp [h]

theorem Try.info4 : (Try.prog.info? 4).map (fun i => (i.zero, i.size, i.bytes)) = some (some (.bool false), 1, 1) := by kernel_rfl

set_option maxHeartbeats 800000 in
theorem rest_any (n : Nat) (v : Value) (l : List Int) (w : World) (hn : n ≤ 300) (hv : IsInts .i64 w v l) :
    Calls Try.prog 13 #[.int .i64 n, v] w fun e w' => ∃ r, e = .returned r ∧ IsInts .i64 w' r (rest n l) ∧ NewV w.heap.size r ∧ Below w.heap.size w w' := by
  obtain ⟨A, c, rfl, hc, hm, hr⟩ := hv
  have hmk := mk_run (P := Try.prog) Try.underlying59 Try.info4 rfl .i64 .i64 n (by unfold maxLen; omega) (by omega) (l := vb (marks n [])) (by rw [marks_nil]; simp [vb])
  unfold maxLen at hm
  have h1 : ¬ (n : Int) < 0 := by omega
  have h2 : ¬ (n : Int) > 300 := by omega
  have h3 : decide ((n : Int) < 0) = false := by simp
  have h4 : decide ((300 : Int) < n) = false := by simp; omega
  have h5 : decide (300 < n) = false := by simp; omega
  obtain ⟨i0, hi, hz0, hz1, hz2⟩ := info_parts Try.info3
  go_enter Try.func13, Try.ntmps13
  go_wp2
  go_loopw [20] (fun i wr => ∃ j : Nat, j ≤ l.length ∧ i = .int .i64 j ∧ Blk wr w.heap.size (vb (marks n (l.take j))) 4 ∧ Below w.heap.size w wr) (fun i _ => l.length - (intOf i).toNat)
  case atStart => exact ⟨0, by omega, rfl, Blk.new _ _ _, (Below.refl _ _).alloc (Nat.le_refl _) _⟩
  case round =>
    obtain ⟨j, hj, rfl, hB, hbel⟩ := hrel
    by_cases hlt : j < l.length
    · obtain ⟨b, o, e1, hb, hcell⟩ := hr (by omega)
      subst e1
      have x1 : wr.cell? ⟨b, o + j, none⟩ = some (.int .i64 (l.getD j 0)) := (hbel.cell (p := ⟨b, o + j, none⟩) hb).trans (hcell j hlt)
      have HT := Lib.hid (take_snocI l j hlt)
      clear hcell hr
      generalize l.getD j 0 = x at *
      by_cases h0 : 0 ≤ x
      · by_cases hxn : x < n
        · obtain ⟨y, rfl⟩ := Int.eq_ofNat_of_zero_le h0
          have hyn : y < n := by omega
          have x2 : wr.cell? ⟨w.heap.size, y, none⟩ = some (.bool (decide ((y : Int) ∈ l.take j))) := by rw [hB.cell, vb_get, marks_get _ _ _ hyn]; rfl
          have x3 := hB.frozen y
          go_wp2
          go_roundw
          case rel =>
            refine ⟨j + 1, by omega, by go_num, ?_, hbel.setCell (Nat.le_refl _) _⟩
            have h := hB.set y (.bool true)
            rw [vb_set, show y = ((y : Int)).toNat from rfl, marks_snoc _ _ _ h0, ← HT.out] at h
            exact h
          case measure => simp [intOf]; omega
        · have h6 : decide (x < (n : Int)) = false := by simpa using hxn
          have h7 : decide (0 ≤ x) = true := by simpa using h0
          go_wp2
          go_roundw
          case rel =>
            refine ⟨j + 1, by omega, by go_num, ?_, hbel⟩
            rw [HT.out, marks_out _ _ _ (by omega)]; exact hB
          case measure => simp [intOf]; omega
      · have h7 : decide (0 ≤ x) = false := by simpa using h0
        go_wp2
        go_roundw
        case rel =>
          refine ⟨j + 1, by omega, by go_num, ?_, hbel⟩
          rw [HT.out, marks_out _ _ _ (by omega)]; exact hB
        case measure => simp [intOf]; omega
    · have hjl : j = l.length := by omega
      have hB2 : Blk wr w.heap.size (vb (marks n l)) 4 := by rw [hjl, List.take_length] at hB; exact hB
      have HJ := Lib.hid hjl
      clear hjl hB
      have hsz := hB2.lt
      obtain ⟨wo, rfl⟩ : ∃ wo : World, wo = wr := ⟨_, rfl⟩
      go_wp2
      go_loopw [37, 8] (fun i v wr => ∃ j2 : Nat, j2 ≤ n ∧ i = .int .i64 j2 ∧ wr.ownsRow (w.heap.size + 1) 3 1 v (rest j2 l).length (vs .i64 (rest j2 l)) ∧ Blk wr w.heap.size (vb (marks n l)) 4 ∧ Below w.heap.size w wr) (fun i _ _ => n - (intOf i).toNat)
      case atStart => exact ⟨0, by omega, rfl, World.ownsRow_nil _ _ _ _, hB2, hbel⟩
      case round =>
        obtain ⟨j2, hj2, rfl, hown, hB, hb2⟩ := hrel
        by_cases hlt2 : j2 < n
        · have x2 : wr.cell? ⟨w.heap.size, j2, none⟩ = some (.bool (decide ((j2 : Int) ∈ l))) := by rw [hB.cell, vb_get, marks_get _ _ _ hlt2]; rfl
          have HT := Lib.hid (rest_succ j2 l)
          have hle := rest_le j2 l
          by_cases hin : (j2 : Int) ∈ l
          · have e : decide ((j2 : Int) ∈ l) = true := by simpa using hin
            rw [e] at x2
            have HI := Lib.hid hin
            clear e hin
            go_wp2
            go_roundw
            case rel =>
              refine ⟨j2 + 1, by omega, by go_num, ?_, hB, hb2⟩
              rw [HT.out, if_pos HI.out, List.append_nil]; exact hown
            case measure => simp [intOf]; omega
          · have e : decide ((j2 : Int) ∈ l) = false := by simpa using hin
            rw [e] at x2
            have HI := Lib.hid hin
            clear e hin
            have hsz2 := hB.lt
            go_wp2_with ((at_builtin; refine wpList_append_own _ rfl _ _ 27 rfl (w.heap.size + 1) 3 i0 (.int .i64 0) 1 8 Try.underlying27 hi hz0 hz1 hz2 rfl (by decide) _ _ _ rfl (hown.alloc _) ⟨wr.heap.size, 0, none⟩ 1 1 [.int .i64 (j2 : Int)] rfl rfl ?c1 ?c2 ?c3 ?c4 ?c5 ?_))
            case c1 => intro t u hu; rcases t with _ | t <;> simp at hu; subst hu; simp [Addr.add]
            case c2 => intro u hu; simp at hu; subst hu; rfl
            case c3 => unfold maxLen; omega
            case c4 => omega
            case c5 => simp; omega
            intro v' w1 hown' hgrow _
            have hb3 : Below w.heap.size w w1 := (hb2.alloc (by omega) _).grown hgrow (by simp; omega) (fun q hq => by have := (hown.lt q hq).1; omega)
            have hB3 : Blk w1 w.heap.size (vb (marks n l)) 4 := by
              refine (hgrow.block _ (by simp; omega) (fun e => ?_)).trans (hB.alloc _)
              have := (hown.lt _ e.symm).1; omega
            have hown3 : w1.ownsRow (w.heap.size + 1) 3 1 v' (rest (j2 + 1) l).length (vs .i64 (rest (j2 + 1) l)) := by
              rw [HT.out, if_neg HI.out, vs, List.map_append]
              simpa [vs] using hown'
            clear hown' hgrow
            go_wp2
            go_roundw
            case rel => exact ⟨j2 + 1, by omega, by go_num, hown3, hB3, hb3⟩
            case measure => simp [intOf]; omega
        · have hjn : j2 = n := by omega
          subst hjn
          go_wp2
          go_ret
          exact ⟨_, rfl, own_ints hown rfl, (own_new hown).mono (by omega), hb2⟩

section
open Go.Shelf Go.Sort

def srt (l : List Int) : List Int := l.mergeSort fun x y => decide (x ≤ y)
theorem srt_length (l : List Int) : (srt l).length = l.length := by simp [srt]

theorem sort_any (b c : Nat) (l : List Int) (w : World) (e : TypeId) (hl : l.length ≤ 1000000) (hb : Blk w b (vs .i64 l) e) :
    Calls Try.prog 25 #[.slice (some ⟨b, 0, none⟩) l.length c] w fun e' w' => e' = .returned (.tuple #[]) ∧ Blk w' b (vs .i64 (srt l)) e ∧ Fr (· = b) w w' := by
  have hH : Holds (Value.int .i64) w b 0 l.toArray := by
    intro j hj
    have hj' : j < l.length := by simpa using hj
    rw [Nat.zero_add]
    refine ⟨?_, hb.frozen j⟩
    rw [hb.at j hj']
    simp [hj']
  refine (AnyG.slices_Sort_int Try.sortL b 0 c l w hH hb.lt (by omega)).mono ?_
  rintro e' w' ⟨rfl, n, os, rfl⟩
  have hg := grownBy_sortedI (w := w) (g := b) (n := n) (os := os) (srt l).toArray
  refine ⟨rfl, ?_, ⟨hg.os, hg.tape, hg.output, hg.size, fun k hk hs => hg.block k hk (fun e => hs (by simpa using e))⟩⟩
  have h1 := heap_sortedI (w := w) (g := b) (n := n) (os := os) (srt l).toArray hb
  have h2 : putCells (Value.int .i64) 0 (srt l).toArray (vs .i64 l).toArray = (vs .i64 (srt l)).toArray := by
    have h3 := take_putCellsI (vs .i64 l).toArray (srt l) (by simp [vs, srt_length])
    have h4 : (putCells (Value.int .i64) 0 (srt l).toArray (vs .i64 l).toArray).toList.length = (srt l).length := by
      simp [putCells, vs, srt_length]
    rw [List.take_of_length_le (by rw [h4]; exact Nat.le_refl _)] at h3
    apply Array.toList_inj.1
    rw [h3]; simp [vs]
  rw [h2] at h1
  exact h1
end

theorem boot_any (g : Nat) (n : Nat) (s : Int) (w : World) (hn : 1 ≤ n) (hn2 : n ≤ 300) (hb : Blk w g [.int .u64 s] 55) :
    Calls Try.prog 10 #[.int .i64 n, .pointer (some ⟨g, 0, none⟩)] w fun e w' => ∃ r,
      e = .returned (.tuple #[.slice (some ⟨w.heap.size, 0, none⟩) n n, r]) ∧ Blk w' w.heap.size (vs .i64 (srt (Dm.dl n n s))) 3 ∧ IsInts .i64 w' r (rest n (srt (Dm.dl n n s))) ∧ NewV w.heap.size r ∧
        Blk w' g [.int .u64 (Dm.ds n n s)] 55 ∧ Fr (· = g) w w' := by
  have h1 : ¬ (n : Int) < 1 := by omega
  have h2 : ¬ (n : Int) > 300 := by omega
  have h3 : decide (n < 1) = false := by simp; omega
  have h4 : decide (300 < n) = false := by simp; omega
  have HG := Lib.hid hb
  have HN := Lib.hid (show w.heap.size ≠ g from fun e => by have := hb.lt; omega)
  clear hb
  go_enter Try.func10, Try.ntmps10
  go_wp2_with fail
  refine (draw_any g n s n _ (by omega) (by omega) hn (by omega) HG.out).mono ?_
  rintro e w1 ⟨rfl, hB1, hg1, hF1⟩
  have hS := sort_any w.heap.size n (Dm.dl n n s) w1 3 (by rw [Dm.dl_length]; omega) hB1
  rw [Dm.dl_length] at hS
  have HS := Lib.hid hS
  clear hS
  go_wp2_with fail
  refine HS.out.mono ?_
  rintro e w2 ⟨rfl, hB2, hF2⟩
  have HL := Lib.hid (show n = (srt (Dm.dl n n s)).length by rw [srt_length, Dm.dl_length])
  go_wp2_with fail
  refine (rest_any n _ _ _ hn2 (hB2.ints HL.out (by unfold maxLen; omega))).mono ?_
  rintro e w3 ⟨r, rfl, hr, hnew, hbel⟩
  go_wp2_with fail
  go_ret2
  have hF3 : Fr (· = g) w w3 := by
    refine Fr.step (B := w2.heap.size) ⟨hF2.os.trans hF1.os, hF2.tape.trans hF1.tape, hF2.output.trans hF1.output, Nat.le_trans hF1.size hF2.size, fun k hk hs => ?_⟩ hbel (Nat.le_trans hF1.size hF2.size)
    exact (hF2.block k (Nat.lt_of_lt_of_le hk hF1.size) (by omega)).trans (hF1.block k hk hs)
  exact ⟨r, rfl, hB2.below hbel hB2.lt, hr, hnew.mono (Nat.le_trans hF1.size hF2.size), ((hg1.fr hF2 (fun e => HN.out e.symm)).below hbel (Nat.lt_of_lt_of_le hg1.lt hF2.size)), hF3⟩
end Go.Proofs.Ytjfkniknmkcdcaa
