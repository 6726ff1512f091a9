/- The walks of Halves of two rows, of the law PartKnown. (printed by wip/gen/pd.py) -/
import Derived.Test.YtjfkniknmkcdcaaPc
import Derived.Test.YtjfkniknmkcdcaaRk
namespace Go.Proofs.Ytjfkniknmkcdcaa
open Go.RowKit K

section
open Go.Shelf Go.Sort
theorem sort_nil (b c : Nat) (L : List Value) (w : World) (e : TypeId) (hb : Blk w b L e) :
    Calls Try.prog 25 #[.slice (some ⟨b, 0, none⟩) 0 c] w fun e' w' => e' = .returned (.tuple #[]) ∧ Blk w' b L e ∧ Fr (· = b) w w' := by
  have hH : Holds (Value.int .i64) w b 0 (#[] : Array Int) := by
    intro j hj
    simp at hj
  refine (AnyG.slices_Sort_int Try.sortL b 0 c [] w hH hb.lt (by simp)).mono ?_
  rintro e' w' ⟨rfl, n, os, rfl⟩
  have hg := grownBy_sortedI (w := w) (g := b) (n := n) (os := os) (srt []).toArray
  refine ⟨rfl, ?_, ⟨hg.os, hg.tape, hg.output, hg.size, fun k hk hs => hg.block k hk (fun e => hs (by simpa using e))⟩⟩
  have h1 := heap_sortedI (w := w) (g := b) (n := n) (os := os) (srt []).toArray hb
  have h2 : putCells (Value.int .i64) 0 (srt []).toArray L.toArray = L.toArray := by
    apply Array.toList_inj.1
    simp only [putCells, srt]
    apply List.ext_getElem?
    intro i
    simp
  rw [h2] at h1
  exact h1
end
theorem clone_nil (b c : Nat) (w : World) :
    Calls Try.prog 29 #[.slice (some ⟨b, 0, none⟩) 0 c] w fun e w' => ∃ r, e = .returned r ∧ IsInts .i64 w' r [] ∧ Below w.heap.size w w' := by
  obtain ⟨i1, hi1, hy0, hy1, hy2⟩ := info_parts Try.info3
  have hcmp : ∀ wd : World, (binOp BinOp.eql 27 (.slice (some ⟨b, 0, none⟩) 0 c) (.slice none 0 0)).run Try.prog wd = .ok (.bool false) wd := by intro wd; kernel_rfl
  go_enter Try.func29, Try.ntmps29
  go_wp2_with ((at_builtin; refine wpList_append_ints rfl _ _ 27 rfl w.heap.size 3 i1 (.int .i64 0) 8 Try.underlying27 hi1 hy0 hy1 hy2 rfl _ 0 [] rfl (own_fresh w w.heap.size 3 (Nat.le_refl _) rfl) _ [] rfl ⟨_, _, rfl, Nat.zero_le _, Nat.zero_le _, fun h => absurd rfl h⟩ 0 rfl (by decide) (by decide) (by simp) ?_))
  intro Ao co w3 hown hgrow
  have hbel : Below w.heap.size w w3 := K.Below.grown ((Below.refl _ _).alloc (Nat.le_refl _) _) hgrow (fun q hq => by simp [Value.ownBlock] at hq; omega) (by simp)
  have hI := Lib.hid (own_ints hown rfl)
  clear hown hgrow
  go_wp2_with fail
  go_ret
  exact ⟨_, rfl, hI.out, hbel⟩
theorem ord2 (s : Int) : srt (ordr 2 s).1 = [0, 1] := by
  have hr := Dm.bv_range (n := ((0 : Nat) : Int) + 1 + 1) s (by omega)
  have e : (ordr 2 s).1 = swp [0, 1] 1 (Dm.bv (((0 : Nat) : Int) + 1 + 1) s).toNat := rfl
  rw [e]
  generalize Dm.bv (((0 : Nat) : Int) + 1 + 1) s = x at *
  obtain rfl | rfl : x = 0 ∨ x = 1 := by omega
  · rw [show swp [0, 1] 1 (Int.toNat 0) = [1, 0] from rfl]; simp [srt, List.mergeSort]
  · rw [show swp [0, 1] 1 (Int.toNat 1) = [0, 1] from rfl]; simp [srt, List.mergeSort]

set_option maxHeartbeats 2000000 in
theorem halves22_any (g : Nat) (s : Int) (w : World) (hb : Blk w g [.int .u64 s] 55) :
    Calls Try.prog 15 #[.int .i64 2, .int .i64 2, .pointer (some ⟨g, 0, none⟩)] w fun e w' => ∃ p q, e = .returned (.tuple #[p, q, .int .i64 0]) ∧ IsInts .i64 w' p [] ∧ IsInts .i64 w' q [0, 1] ∧ Fr (· = g) w w' := by
  have hO := Lib.hid (order_any g 2 s w (by decide) (by decide) hb)
  have hg := hb.lt
  clear hb
  go_enter Try.func15, Try.ntmps15
  go_wp2_with fail
  refine hO.out.mono ?_
  rintro e w1 ⟨rfl, hB, hl, -, hF⟩
  have HS := Lib.hid (ord2 s)
  generalize (ordr 2 s).1 = L at *
  have HB := Lib.hid hB
  have HL := Lib.hid hl
  have HF := Lib.hid hF
  clear hB hl hF hO
  go_wp2
  go_quiet (fail)
  have HB1 := Lib.hid (HB.out.drewN nq)
  have hS := sort_any w.heap.size 2 L (w1.drewN nq) 3 (by rw [HL.out]; decide) HB1.out
  rw [HL.out, HS.out] at hS
  replace hS := Lib.hid hS
  go_wp2_with fail
  refine hS.out.mono ?_
  rintro e w2 ⟨rfl, hB2, hF2⟩
  have HB2 := Lib.hid hB2
  have HF2 := Lib.hid (show Fr (fun k => k = g ∨ w.heap.size ≤ k) w w2 from ((HF.out.drewN nq).mono (fun k _ h => Or.inl h)).trans (hF2.mono (fun k _ h => Or.inr (by omega))))
  clear hB2 hF2 hS
  go_wp2_with fail
  refine (sort_nil w.heap.size 0 _ w2 3 HB2.out).mono ?_
  rintro e w3 ⟨rfl, hB3, hF3⟩
  have HB3 := Lib.hid hB3
  have HF3 := Lib.hid (HF2.out.trans (hF3.mono (fun k _ h => Or.inr (by omega))))
  clear hB3 hF3
  go_wp2_with fail
  refine (clone_nil w.heap.size 0 w3).mono ?_
  rintro e w4 ⟨r, rfl, hr, hb4⟩
  have hr' := hr
  obtain ⟨Ar, cr, rfl, -, -, -⟩ := hr
  have HR := Lib.hid hr'
  have HB4 := Lib.hid (HB3.out.below hb4 HB3.out.lt)
  have HF4 := Lib.hid (HF3.out.trans (Fr.of_below hb4 (Nat.le_refl _)))
  clear hr' hb4
  go_wp2_with fail
  refine bodyPost_ret (v := .tuple #[.slice Ar 0 cr, .slice (some ⟨w.heap.size, 0, none⟩) 2 2, .int .i64 0]) (by simp [results, Try.results15, go_sem]) rfl ?_
  exact ⟨_, _, rfl, HR.out, HB4.out.ints rfl (by decide), HF4.out.mono (fun k hk h => by omega)⟩

set_option maxRecDepth 100000 in
set_option maxHeartbeats 8000000 in
theorem partKnown_walk (w : World) : Calls Try.prog 5 #[] w fun e w' => e = .returned (.bool true) ∧ Below w.heap.size w w' := by
  go_enter Try.func5, Try.ntmps5
  go_wp2_with fail
  refine (new_any 1 _).mono ?_
  rintro e w1 ⟨rfl, rfl⟩
  have G := Lib.hid (Blk.new w [.int .u64 1] 55)
  have B := Lib.hid ((Below.refl w.heap.size w).alloc (Nat.le_refl _) (.cells #[.int .u64 1] 55))
  go_wp2_with fail
  refine (known_any _).mono ?_
  rintro e w2 ⟨rfl, hb⟩
  have G_1 := Lib.hid (G.out.below hb G.out.lt)
  have B_1 := Lib.hid (B.out.trans (hb.mono B.out.size))
  clear hb G B
  go_wp2_with fail
  refine (state_any _ 1 _ G_1.out.one).mono ?_
  rintro e w9 ⟨rfl, rfl⟩
  go_wp2_with fail
  refine (halves_bad 3 4 _ _ (Or.inl ⟨rfl, rfl⟩)).mono ?_
  rintro e w9 ⟨rfl, rfl⟩
  go_wp2_with fail
  refine (folds_bad 1 _ _ (Or.inl rfl)).mono ?_
  rintro e w9 ⟨rfl, rfl⟩
  go_wp2_with fail
  refine (folds_bad 4 _ _ (Or.inr rfl)).mono ?_
  rintro e w9 ⟨rfl, rfl⟩
  go_wp2_with fail
  have hb : Below (w2).heap.size (w2) (w2.alloc (.cells #[.int .i64 0, .int .i64 12] 3)) := by (repeat (first | assumption | exact Below.refl _ _ | refine Below.drew ?_ | refine Below.setCell ?_ (by simp <;> omega) _ | refine Below.alloc ?_ (by simp <;> omega) _))
  have G_2 := Lib.hid (G_1.out.below hb G_1.out.lt)
  have B_2 := Lib.hid (B_1.out.trans (hb.mono B_1.out.size))
  clear hb G_1 B_1
  have his : IsInts .i64 (w2.alloc (.cells #[.int .i64 0, .int .i64 12] 3)) (.slice (some ⟨w2.heap.size, 0, none⟩) 2 2) [0, 12] := (Blk.new w2 (vs .i64 [0, 12]) 3).ints rfl (by decide)
  refine (even_bad _ _ [0, 12] _ his (Or.inr ⟨rfl, rfl⟩)).mono ?_
  rintro e w4 ⟨rfl, hb⟩
  clear his
  have G_3 := Lib.hid (G_2.out.below hb G_2.out.lt)
  have B_3 := Lib.hid (B_2.out.trans (hb.mono B_2.out.size))
  clear hb G_2 B_2
  go_wp2_with fail
  have hb : Below (w4).heap.size (w4) (w4.alloc (.cells #[.int .i64 0] 3)) := by (repeat (first | assumption | exact Below.refl _ _ | refine Below.drew ?_ | refine Below.setCell ?_ (by simp <;> omega) _ | refine Below.alloc ?_ (by simp <;> omega) _))
  have G_4 := Lib.hid (G_3.out.below hb G_3.out.lt)
  have B_4 := Lib.hid (B_3.out.trans (hb.mono B_3.out.size))
  clear hb G_3 B_3
  have his : IsInts .i64 (w4.alloc (.cells #[.int .i64 0] 3)) (.slice (some ⟨w4.heap.size, 0, none⟩) 1 1) [0] := (Blk.new w4 (vs .i64 [0]) 3).ints rfl (by decide)
  refine (even_bad _ _ [0] _ his (Or.inl rfl)).mono ?_
  rintro e w5 ⟨rfl, hb⟩
  clear his
  have G_5 := Lib.hid (G_4.out.below hb G_4.out.lt)
  have B_5 := Lib.hid (B_4.out.trans (hb.mono B_4.out.size))
  clear hb G_4 B_4
  go_wp2_with fail
  refine (boot_zero _ _).mono ?_
  rintro e w9 ⟨rfl, rfl⟩
  go_wp2_with fail
  refine (halves_bad 301 0 _ _ (Or.inr ⟨rfl, rfl⟩)).mono ?_
  rintro e w9 ⟨rfl, rfl⟩
  go_wp2_with fail
  refine (state_any _ 1 _ G_5.out.one).mono ?_
  rintro e w9 ⟨rfl, rfl⟩
  go_wp2_with fail
  have hgl := G_5.out.lt
  refine (halves22_any _ 1 _ G_5.out).mono ?_
  rintro e w6 ⟨p, q, rfl, hp, hq, hF⟩
  obtain ⟨Ap, cp, rfl, -, -, -⟩ := hp
  have B6 := Lib.hid (B_5.out.trans (hF.below (fun k hk e => by omega) B_5.out.size))
  have HQ := Lib.hid hq
  clear hq hF
  go_wp2_with fail
  have hI := Lib.hid ((Blk.new w6 (vs .i64 [0, 1]) 3).ints (n := 2) rfl (by decide))
  refine (sameInts_any _ _ [0, 1] [0, 1] _ (HQ.out.below ((Below.refl _ _).alloc (Nat.le_refl _) _) (Nat.le_refl _)) hI.out).mono ?_
  rintro e w7 ⟨rfl, hb7⟩
  have hdt : decide (([0, 1] : List Int) = [0, 1]) = true := by decide
  rw [hdt]
  have B7 := Lib.hid ((B6.out.alloc B6.out.size (.cells #[.int .i64 0, .int .i64 1] 3)).trans (hb7.mono (by have := B6.out.size; simp; omega)))
  clear hb7 hdt hI
  go_wp2_with fail
  refine (rest_big _).mono ?_
  rintro e w8 ⟨rfl, rfl⟩
  go_wp2_with fail
  go_ret
  exact ⟨rfl, B7.out⟩

end Go.Proofs.Ytjfkniknmkcdcaa
