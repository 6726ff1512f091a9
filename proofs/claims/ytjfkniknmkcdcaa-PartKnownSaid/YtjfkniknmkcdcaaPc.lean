/- The walks of dice's Order, of slices' ContainsFunc with Even's test, of Clone of nothing; of Halves, Folds, Even, Boot, Rest where they refuse; of Halves of two rows. -/
import Derived.Test.YtjfkniknmkcdcaaPb
import Derived.Deep.RegionHeld3
import Derived.Deep.Cut
namespace Go.Proofs.Ytjfkniknmkcdcaa
open Go.RowKit K

theorem take_snocI' (l : List Int) (j : Nat) (h : j < l.length) : l.take (j + 1) = l.take j ++ [l.getD j 0] := by
  rw [List.take_succ_eq_append_getElem h]
  simp [h]
def swp (l : List Int) (i k : Nat) : List Int := (l.set i (l.getD k 0)).set k (l.getD i 0)
theorem swp_len (l : List Int) (i k : Nat) : (swp l i k).length = l.length := by simp [swp]
noncomputable def shf : Nat → List Int → Int → List Int × Int
  | 0, l, s => (l, s)
  | i + 1, l, s => shf i (swp l (i + 1) (Dm.bv ((i : Int) + 1 + 1) s).toNat) (Dm.bs ((i : Int) + 1 + 1) s)
/-- the order of n rows, and the dice behind it -/
noncomputable def ordr (n : Nat) (s : Int) : List Int × Int := shf (n - 1) ((List.range n).map Int.ofNat) s

set_option maxRecDepth 100000 in
set_option maxHeartbeats 4000000 in
theorem order_any (g : Nat) (n : Nat) (s : Int) (w : World) (hn : 1 ≤ n) (hn2 : n ≤ 65536) (hb : Blk w g [.int .u64 s] 55) :
    Calls Try.prog 28 #[.pointer (some ⟨g, 0, none⟩), .int .i64 n] w fun e w' => e = .returned (.slice (some ⟨w.heap.size, 0, none⟩) n n) ∧ Blk w' w.heap.size (vs .i64 (ordr n s).1) 3 ∧ (ordr n s).1.length = n ∧ Blk w' g [.int .u64 (ordr n s).2] 55 ∧ Fr (· = g) w w' := by
  have hmk := mk_run (P := Try.prog) Try.underlying27 Try.info3 rfl .i64 .i64 n (by unfold maxLen; omega) (by omega) (vs_replicate (k := .i64) (n := n) (x := 0))
  have HB := Lib.hid hb
  have h1 : ¬ (n : Int) < 1 := by omega
  have h2 : ¬ (n : Int) > 65536 := by omega
  have h3 : decide ((n : Int) < 1) = false := by simp; omega
  have h4 : decide ((65536 : Int) < n) = false := by simp; omega
  obtain ⟨R, hR⟩ : ∃ R, ordr n s = R := ⟨_, rfl⟩
  rw [hR]
  have HR := Lib.hid hR
  have hwn : IntKind.i64.wrap ((n : Int) - 1) = ((n - 1 : Nat) : Int) := by rw [IntKind.wrap_i64]; omega
  have hgl := hb.lt
  clear hb hR
  go_enter Try.func28, Try.ntmps28
  go_wp2_with fail
  go_loopw [19] (fun i wr => ∃ j : Nat, j ≤ n ∧ i = .int .i64 j ∧ Hid (Blk wr w.heap.size (vs .i64 ((List.range j).map Int.ofNat ++ List.replicate (n - j) 0)) 3) ∧ Hid (Blk wr g [.int .u64 s] 55) ∧ Hid (Fr (· = g) w wr)) (fun i _ => n - (intOf i).toNat)
  case atStart => exact ⟨0, by omega, rfl, Lib.hid (Blk.new _ _ _), Lib.hid (HB.out.alloc _), Lib.hid ((Fr.refl _ _).alloc _)⟩
  case round =>
    obtain ⟨j, hj, rfl, hB, hg, hF⟩ := hrel
    by_cases hlt : j < n
    · have hlen : ((List.range j).map Int.ofNat ++ List.replicate (n - j) 0).length = n := by simp; omega
      have xc := hB.out.at j (by rw [hlen]; exact hlt)
      have xf := hB.out.frozen j
      have HS := Lib.hid (show ((List.range j).map Int.ofNat ++ List.replicate (n - j) 0).set j (j : Int) = (List.range (j + 1)).map Int.ofNat ++ List.replicate (n - (j + 1)) 0 by
        rw [List.set_append_right _ _ (by simp), List.length_map, List.length_range, Nat.sub_self, List.range_succ, List.map_append, List.append_assoc]
        congr 1
        rw [show n - j = (n - (j + 1)) + 1 by omega, List.replicate_succ]
        rfl)
      have hne : w.heap.size ≠ g := by omega
      clear hlen
      go_wp2_with fail
      go_roundw
      case rel =>
        refine ⟨j + 1, by omega, by go_num, Lib.hid ?_, Lib.hid (hg.out.far (a := ⟨w.heap.size, j, none⟩) (fun e => hne e.symm) _), Lib.hid (hF.out.set (.inr (Nat.le_refl _)) _)⟩
        have h := hB.out.set j (.int .i64 (j : Int))
        rw [vs_set, HS.out] at h
        exact h
      case measure => simp [intOf]; omega
    · obtain rfl : j = n := by omega
      have hB0 := Lib.hid (show Blk wr w.heap.size (vs .i64 ((List.range j).map Int.ofNat)) 3 by have := hB.out; rw [Nat.sub_self, List.replicate_zero, List.append_nil] at this; exact this)
      clear hB hlt hj
      go_wp2_with fail
      go_loopw [7] (fun i wr => ∃ (q : Nat) (l : List Int) (s' : Int), q + 1 ≤ j ∧ i = .int .i64 q ∧ Hid (l.length = j) ∧ Hid (Blk wr w.heap.size (vs .i64 l) 3) ∧ Hid (Blk wr g [.int .u64 s'] 55) ∧ Hid (shf q l s' = R) ∧ Hid (Fr (· = g) w wr)) (fun i _ => (intOf i).toNat)
      case atStart => exact ⟨j - 1, _, s, by omega, rfl, Lib.hid (by simp), hB0, hg, Lib.hid HR.out, hF⟩
      case round =>
        clear hB0 hg hF
        obtain ⟨q, l, s', hq, rfl, hl, hB, hg, hs, hF⟩ := hrel
        rcases q with _ | q
        · have hs2 := hs.out
          rw [shf] at hs2
          have HS := Lib.hid hs2
          clear hs2
          go_wp2_with fail
          go_ret
          refine ⟨rfl, ?_, ?_, ?_, hF.out⟩
          · rw [← HS.out]; exact hB.out
          · rw [← HS.out]; exact hl.out
          · rw [← HS.out]; exact hg.out
        · have hs2 := hs.out
          rw [shf] at hs2
          have hbr := Dm.bv_range (n := (q : Int) + 1 + 1) s' (by omega)
          have hbe := below_any g ((q : Int) + 1 + 1) s' wr (by omega) (by omega) hg.out
          obtain ⟨k, hk⟩ : ∃ k : Nat, Dm.bv ((q : Int) + 1 + 1) s' = k := ⟨(Dm.bv ((q : Int) + 1 + 1) s').toNat, by omega⟩
          rw [hk] at hs2 hbr hbe
          rw [Int.toNat_natCast] at hs2
          have hbs := Lib.hid hbe
          have HS := Lib.hid hs2
          have hwq : IntKind.i64.wrap (((q + 1 : Nat) : Int) + 1) = (q : Int) + 1 + 1 := by rw [IntKind.wrap_i64]; omega
          have hwd : IntKind.i64.wrap (((q + 1 : Nat) : Int) - 1) = (q : Int) := by rw [IntKind.wrap_i64]; omega
          have hne : w.heap.size ≠ g := by omega
          have hB1 := hB.out.far (a := ⟨g, 0, none⟩) hne (.int .u64 (Dm.bs ((q : Int) + 1 + 1) s'))
          have hq3 : (q : Int) + 1 < (j : Int) := by omega
          have hq4 : (0 : Int) ≤ (q : Int) + 1 := by omega
          have hq5 : ((q : Int) + 1).toNat = q + 1 := by omega
          have hk3 : (k : Int) < (j : Int) := by omega
          have x1 := hB1.at (q + 1) (by rw [hl.out]; omega)
          have x2 := hB1.at k (by rw [hl.out]; omega)
          have f1 := hB1.frozen (q + 1)
          have f2 := hB1.frozen k
          obtain ⟨a, ha⟩ : ∃ a, l.getD (q + 1) 0 = a := ⟨_, rfl⟩
          obtain ⟨c, hc⟩ : ∃ c, l.getD k 0 = c := ⟨_, rfl⟩
          rw [ha] at x1
          rw [hc] at x2
          have HSW := Lib.hid (show swp l (q + 1) k = (l.set (q + 1) c).set k a by rw [swp, ha, hc])
          have HB1 := Lib.hid hB1
          have HG1 := Lib.hid ((hg.out.set 0 (.int .u64 (Dm.bs ((q : Int) + 1 + 1) s'))))
          have HF1 := Lib.hid (hF.out.set (.inl (rfl : (⟨g, 0, none⟩ : Addr).block = g)) (.int .u64 (Dm.bs ((q : Int) + 1 + 1) s')))
          have HAC := Lib.hid (show q + 1 = k → a = c from fun e => by rw [← ha, ← hc, e])
          clear ha hc hs2 hbe hk hB1 hs hbr
          go_wp2_with fail
          refine hbs.out.mono ?_
          rintro e w4 ⟨rfl, rfl⟩
          generalize wr.setCell ⟨g, 0, none⟩ (.int .u64 (Dm.bs ((q : Int) + 1 + 1) s')) = w5 at *
          go_upto_region 13 with fail
          rw [show Op.load 3 (Operand.tmp 43) = id (Op.load 3 (Operand.tmp 43)) from rfl, show Op.load 3 (Operand.tmp 47) = id (Op.load 3 (Operand.tmp 47)) from rfl]
          by_cases hqk : q + 1 = k
          · subst hqk
            go_region_held3 (fun _ => True) (go_keep) (fail)
            all_goals go_wp2_with fail
            all_goals
              go_roundw
              case rel =>
                obtain rfl : a = c := HAC.out rfl
                refine ⟨q, swp l (q + 1) (q + 1), _, by omega, rfl, Lib.hid (by rw [swp_len]; exact hl.out), Lib.hid ?_, Lib.hid ((HG1.out.drew.far (a := ⟨w.heap.size, q + 1, none⟩) (fun e => hne e.symm) _).far (a := ⟨w.heap.size, q + 1, none⟩) (fun e => hne e.symm) _), HS, Lib.hid ((HF1.out.drew.set (p := ⟨w.heap.size, q + 1, none⟩) (.inr (Nat.le_refl _)) _).set (p := ⟨w.heap.size, q + 1, none⟩) (.inr (Nat.le_refl _)) _)⟩
                rw [HSW.out, ← vs_set, ← vs_set]
                exact (HB1.out.drew.set (q + 1) _).set (q + 1) _
              case measure => simp [intOf]
          · have nk1 : ¬ k = q + 1 := by omega
            go_region_held3 (fun _ => True) (go_keep) (fail)
            all_goals go_wp2_with fail
            all_goals
              go_roundw
              case rel =>
                refine ⟨q, swp l (q + 1) k, _, by omega, rfl, Lib.hid (by rw [swp_len]; exact hl.out), Lib.hid ?_, Lib.hid ((HG1.out.drew.far (a := ⟨w.heap.size, q + 1, none⟩) (fun e => hne e.symm) _).far (a := ⟨w.heap.size, k, none⟩) (fun e => hne e.symm) _), HS, Lib.hid ((HF1.out.drew.set (p := ⟨w.heap.size, q + 1, none⟩) (.inr (Nat.le_refl _)) _).set (p := ⟨w.heap.size, k, none⟩) (.inr (Nat.le_refl _)) _)⟩
                rw [HSW.out, ← vs_set, ← vs_set]
                exact (HB1.out.drew.set (q + 1) _).set k _
              case measure => simp [intOf]

/-- what Even refuses -/
def bad (x : Int) : Bool := decide (x < 0) || decide (12 ≤ x)
theorem even1_any (x : Int) (w : World) : Calls Try.prog 32 #[.int .i64 x] w fun e w' => e = .returned (.bool (bad x)) ∧ w = w' := by
  by_cases h : x < 0
  · have t1 : decide (x < 0) = true := decide_eq_true h
    rw [show bad x = true by simp [bad, h]]
    go_enter Try.func32, Try.ntmps32
    go_wp2
    go_ret
    exact ⟨rfl, rfl⟩
  · have t1 : decide (x < 0) = false := decide_eq_false h
    rw [show bad x = decide (12 ≤ x) by simp [bad, h]]
    go_enter Try.func32, Try.ntmps32
    go_wp2
    go_ret
    exact ⟨rfl, rfl⟩
set_option maxHeartbeats 1000000 in
theorem index_any (v : Value) (l : List Int) (w : World) (h : IsInts .i64 w v l) :
    Calls Try.prog 42 #[v, .func (.func 32) #[] #[]] w fun e w' => ∃ r : Int, e = .returned (.int .i64 r) ∧ decide (0 ≤ r) = l.any bad ∧ w = w' := by
  obtain ⟨A, c, rfl, hc, hm, hr⟩ := h
  have HR := Lib.hid hr
  unfold maxLen at hm
  clear hr
  go_enter Try.func42, Try.ntmps42
  go_wp2_with fail
  go_loopw [8] (fun i wr => ∃ j : Nat, j ≤ l.length ∧ i = .int .i64 j ∧ Hid ((l.take j).any bad = false) ∧ wr = w) (fun i _ => l.length - (intOf i).toNat)
  case atStart => exact ⟨0, by omega, rfl, Lib.hid (by simp), rfl⟩
  case round =>
    obtain ⟨j, hj, rfl, hno, rfl⟩ := hrel
    by_cases hlt : j < l.length
    · obtain ⟨b, o, rfl, hb, hcell⟩ := HR.out (by omega)
      have x0 := hcell j hlt
      have HT := Lib.hid (take_snocI' l j hlt)
      have HM := Lib.hid (getD_mem l j hlt)
      obtain ⟨x, hx⟩ : ∃ x, l.getD j 0 = x := ⟨_, rfl⟩
      rw [hx] at x0
      have HX := Lib.hid hx
      have hE := even1_any x wr
      by_cases hbx : bad x = true
      · rw [hbx] at hE
        have HE := Lib.hid hE
        have HB := Lib.hid hbx
        clear hcell hx hE hbx
        go_wp2_with fail
        refine HE.out.mono ?_
        rintro e w4 ⟨rfl, rfl⟩
        go_wp2_with fail
        go_ret
        refine ⟨_, rfl, ?_, rfl⟩
        rw [decide_eq_true (by omega)]
        exact (List.any_eq_true.2 ⟨x, by rw [← HX.out]; exact HM.out, HB.out⟩).symm
      · have hb0 : bad x = false := by simpa using hbx
        rw [hb0] at hE
        have HE := Lib.hid hE
        have HB := Lib.hid hb0
        clear hcell hx hE hbx hb0
        go_wp2_with fail
        refine HE.out.mono ?_
        rintro e w4 ⟨rfl, rfl⟩
        go_wp2_with fail
        go_roundw
        case rel => exact ⟨j + 1, by omega, by go_num, Lib.hid (by rw [HT.out, List.any_append, hno.out, HX.out]; simp [HB.out]), trivial⟩
        case measure => simp [intOf]; omega
    · obtain rfl : j = l.length := by omega
      have HN := Lib.hid (show l.any bad = false by have := hno.out; rw [List.take_of_length_le (Nat.le_refl _)] at this; exact this)
      go_wp2_with fail
      go_ret
      exact ⟨_, rfl, by rw [HN.out]; rfl, rfl⟩
theorem contains_any (v : Value) (l : List Int) (w : World) (h : IsInts .i64 w v l) :
    Calls Try.prog 31 #[v, .func (.func 32) #[] #[]] w fun e w' => e = .returned (.bool (l.any bad)) ∧ w = w' := by
  have hI := Lib.hid (index_any v l w h)
  clear h
  go_enter Try.func31, Try.ntmps31
  go_wp2_with fail
  refine hI.out.mono ?_
  rintro e w1 ⟨r, rfl, hr, rfl⟩
  have HR := Lib.hid hr
  clear hr
  go_wp2_with fail
  go_ret
  exact ⟨by rw [← HR.out]; rfl, rfl⟩
theorem halves_bad (n t : Int) (p : Value) (w : World) (h : (n = 3 ∧ t = 4) ∨ (n = 301 ∧ t = 0)) :
    Calls Try.prog 15 #[.int .i64 n, .int .i64 t, p] w fun e w' => e = .returned (.tuple #[.slice none 0 0, .slice none 0 0, .int .i64 1]) ∧ w = w' := by
  rcases h with ⟨rfl, rfl⟩ | ⟨rfl, rfl⟩
  · go_enter Try.func15, Try.ntmps15
    go_wp2_with fail
    refine bodyPost_ret (v := .tuple #[.slice none 0 0, .slice none 0 0, .int .i64 1]) (by simp [results, Try.results15, go_sem]) rfl ?_
    exact ⟨rfl, rfl⟩
  · go_enter Try.func15, Try.ntmps15
    go_wp2_with fail
    refine bodyPost_ret (v := .tuple #[.slice none 0 0, .slice none 0 0, .int .i64 1]) (by simp [results, Try.results15, go_sem]) rfl ?_
    exact ⟨rfl, rfl⟩
theorem folds_bad (k : Int) (p : Value) (w : World) (h : k = 1 ∨ k = 4) :
    Calls Try.prog 16 #[.int .i64 3, .int .i64 k, p] w fun e w' => e = .returned (.tuple #[.slice none 0 0, .int .i64 1]) ∧ w = w' := by
  rcases h with rfl | rfl
  · go_enter Try.func16, Try.ntmps16
    go_wp2_with fail
    go_ret2
    exact ⟨rfl, rfl⟩
  · go_enter Try.func16, Try.ntmps16
    go_wp2_with fail
    go_ret2
    exact ⟨rfl, rfl⟩
theorem even_bad (v p : Value) (l : List Int) (w : World) (h : IsInts .i64 w v l) (hl : l.length = 1 ∨ (l.length = 2 ∧ l.any bad = true)) :
    Calls Try.prog 17 #[v, .int .i64 2, p] w fun e w' => e = .returned (.tuple #[.slice none 0 0, .int .i64 1]) ∧ Below w.heap.size w w' := by
  have hC := Lib.hid (fun (wd : World) (hb : Below w.heap.size w wd) => contains_any v l wd (h.below hb (Nat.le_refl _)))
  obtain ⟨A, c, rfl, -, -, -⟩ := h
  rcases hl with hl | ⟨hl, ha⟩
  · rw [hl] at hC ⊢
    clear hl
    go_enter Try.func17, Try.ntmps17
    go_wp2_with fail
    go_ret2
    exact ⟨rfl, by (repeat (first | assumption | exact Below.refl _ _ | refine Below.drew ?_ | refine Below.setCell ?_ (by simp <;> omega) _ | refine Below.alloc ?_ (by simp <;> omega) _))⟩
  · rw [hl, ha] at hC
    rw [hl]
    have b1 := Blk.new w [.slice A 2 c] 27
    have x0 := b1.one
    clear hl ha b1
    go_enter Try.func17, Try.ntmps17
    go_wp2_with fail
    refine (hC.out _ (by (repeat (first | assumption | exact Below.refl _ _ | refine Below.drew ?_ | refine Below.setCell ?_ (by simp <;> omega) _ | refine Below.alloc ?_ (by simp <;> omega) _)))).mono ?_
    rintro e w1 ⟨rfl, rfl⟩
    go_wp2_with fail
    go_ret2
    exact ⟨rfl, by (repeat (first | assumption | exact Below.refl _ _ | refine Below.drew ?_ | refine Below.setCell ?_ (by simp <;> omega) _ | refine Below.alloc ?_ (by simp <;> omega) _))⟩
theorem boot_zero (p : Value) (w : World) :
    Calls Try.prog 10 #[.int .i64 0, p] w fun e w' => e = .returned (.tuple #[.slice none 0 0, .slice none 0 0]) ∧ w = w' := by
  go_enter Try.func10, Try.ntmps10
  go_wp2_with fail
  go_ret2
  exact ⟨rfl, rfl⟩
theorem rest_big (w : World) :
    Calls Try.prog 13 #[.int .i64 301, .slice none 0 0] w fun e w' => e = .returned (.slice none 0 0) ∧ w = w' := by
  go_enter Try.func13, Try.ntmps13
  go_wp2_with fail
  go_ret
  exact ⟨rfl, rfl⟩
end Go.Proofs.Ytjfkniknmkcdcaa
