/- PartBoots: what is drawn with is as many as rows, rising; what is left out is just what it has not. -/
import Derived.Test.YtjfkniknmkcdcaaPa
namespace Go.Proofs.Ytjfkniknmkcdcaa
open Go.RowKit K

theorem known_any (w : World) : Calls Try.prog 8 #[] w fun e w' => e = .returned (.bool true) ∧ Below w.heap.size w w' := by
  go_enter Try.func8, Try.ntmps8
  go_wp2_with fail
  refine (rest_any 4 _ [2, 0, 2] _ (by omega) ((Blk.new w (vs .i64 [2, 0, 2]) 3).ints rfl (by decide))).mono ?_
  rintro e w1 ⟨r, rfl, hr, _, hbel⟩
  have he : rest 4 [2, 0, 2] = [1, 3] := by decide
  rw [he] at hr
  obtain ⟨A, c, rfl, hc, hm, hrr⟩ := hr
  obtain ⟨b, o, rfl, hb, hcell⟩ := hrr (by decide)
  have x0 : w1.cell? ⟨b, o, none⟩ = some (.int .i64 1) := hcell 0 (by decide)
  have x1 : w1.cell? ⟨b, o + 1, none⟩ = some (.int .i64 3) := hcell 1 (by decide)
  clear hcell hrr he
  go_wp2
  go_ret
  exact ⟨rfl, ((Below.refl _ _).alloc (Nat.le_refl _) _).trans (hbel.mono (by simp))⟩

/-- how often a list has each of 0 to n - 1 -/
def cnt (n : Nat) (l : List Int) : List Int := (List.range n).map fun r : Nat => ((l.count (r : Int) : Nat) : Int)
theorem cnt_get (n : Nat) (l : List Int) (i : Nat) (h : i < n) : (cnt n l)[i]? = some ((l.count (i : Int) : Nat) : Int) := by simp [cnt, h]
theorem cnt_getD (n : Nat) (l : List Int) (i : Nat) (h : i < n) : (cnt n l).getD i 0 = ((l.count (i : Int) : Nat) : Int) := by simp [cnt, h]
theorem cnt_length (n : Nat) (l : List Int) : (cnt n l).length = n := by simp [cnt]
theorem cnt_nil (n : Nat) : cnt n [] = List.replicate n 0 := by simp [cnt, List.map_const']
/-- how much more often one list has them than another one -/
def dif (n : Nat) (l m : List Int) : List Int := (List.range n).map fun r : Nat => ((l.count (r : Int) : Nat) : Int) - ((m.count (r : Int) : Nat) : Int)
theorem dif_getD (n : Nat) (l m : List Int) (i : Nat) (h : i < n) : (dif n l m).getD i 0 = ((l.count (i : Int) : Nat) : Int) - ((m.count (i : Int) : Nat) : Int) := by simp [dif, h]
theorem dif_length (n : Nat) (l m : List Int) : (dif n l m).length = n := by simp [dif]
theorem dif_start (n : Nat) : List.replicate n 0 = dif n [] [] := by simp [dif, List.map_const']
theorem dif_add (n : Nat) (l m : List Int) (x : Nat) : (dif n l m).set x ((dif n l m).getD x 0 + 1) = dif n (l ++ [(x : Int)]) m := by
  apply List.ext_getElem?
  intro i
  rw [List.getElem?_set]
  by_cases h : x = i
  · subst h
    by_cases hn : x < n
    · simp [dif, hn]; omega
    · simp [dif, hn]
  · by_cases hn : i < n
    · have : ¬ (x : Int) = i := by omega
      simp [dif, h, hn, List.count_append, List.count_cons, this]
    · simp [dif, h, hn]
theorem dif_sub (n : Nat) (l m : List Int) (x : Nat) : (dif n l m).set x ((dif n l m).getD x 0 - 1) = dif n l (m ++ [(x : Int)]) := by
  apply List.ext_getElem?
  intro i
  rw [List.getElem?_set]
  by_cases h : x = i
  · subst h
    by_cases hn : x < n
    · simp [dif, hn]; omega
    · simp [dif, hn]
  · by_cases hn : i < n
    · have : ¬ (x : Int) = i := by omega
      simp [dif, h, hn, List.count_append, List.count_cons, this]
    · simp [dif, h, hn]
theorem dif_bound (n : Nat) (l m : List Int) (i : Nat) (h : i < n) : -(m.length : Int) ≤ (dif n l m).getD i 0 ∧ (dif n l m).getD i 0 ≤ l.length := by
  rw [dif_getD _ _ _ _ h]
  have := List.count_le_length (a := (i : Int)) (l := l)
  have := List.count_le_length (a := (i : Int)) (l := m)
  omega
theorem dif_perm (n : Nat) (l m : List Int) (h : l.Perm m) (i : Nat) (hi : i < n) : (dif n l m).getD i 0 = 0 := by
  rw [dif_getD _ _ _ _ hi, h.count_eq]; omega
theorem srt_perm (l : List Int) : (srt l).Perm l := List.mergeSort_perm _ _
theorem srt_rises (l : List Int) (i : Nat) (h : i + 1 < l.length) : (srt l).getD i 0 ≤ (srt l).getD (i + 1) 0 := by
  have hp : (srt l).Pairwise fun x y => decide (x ≤ y) = true := List.pairwise_mergeSort (by intro a b c; simp; omega) (by intro a b; simp; omega) l
  have hlen := srt_length l
  rw [List.pairwise_iff_getElem] at hp
  have h1 := hp i (i + 1) (by omega) (by omega) (by omega)
  simp only [decide_eq_true_eq] at h1
  rw [List.getD_eq_getElem?_getD, List.getD_eq_getElem?_getD, List.getElem?_eq_getElem (by omega), List.getElem?_eq_getElem (by omega)]
  exact h1
theorem pow63 : 2 ^ 63 - 1 = 9223372036854775807 := by decide

set_option maxHeartbeats 1000000 in
theorem partBoots_walk (s n : Int) (w : World) :
    Calls Try.prog 3 #[.int .u64 s, .int .i64 n] w fun e w' => e = .returned (.bool true) ∧ Below w.heap.size w w' := by
  have hm0 : 0 ≤ n % 100 := Int.emod_nonneg _ (by decide)
  have hm1 : n % 100 < 100 := Int.emod_lt_of_pos _ (by decide)
  go_enter Try.func3, Try.ntmps3
  go_wp2_with fail
  refine (new_any s _).mono ?_
  rintro e w1 ⟨rfl, rfl⟩
  go_wp2_with fail
  refine (new_any s _).mono ?_
  rintro e w1 ⟨rfl, rfl⟩
  go_wp2_with fail
  have hg1 : Blk ((w.alloc (.cells #[.int .u64 s] 55)).alloc (.cells #[.int .u64 s] 55)) w.heap.size [.int .u64 s] 55 := (Blk.new w [.int .u64 s] _).alloc _
  have hg2 : Blk ((w.alloc (.cells #[.int .u64 s] 55)).alloc (.cells #[.int .u64 s] 55)) (w.heap.size + 1) [.int .u64 s] 55 := by
    have h := Blk.new (w.alloc (.cells #[.int .u64 s] 55)) [.int .u64 s] 55
    rw [show (w.alloc (.cells #[.int .u64 s] 55)).heap.size = w.heap.size + 1 by simp] at h
    exact h
  have hbel : Below w.heap.size w ((w.alloc (.cells #[.int .u64 s] 55)).alloc (.cells #[.int .u64 s] 55)) := ((Below.refl _ _).alloc (Nat.le_refl _) _).alloc (by simp) _
  refine (known_any _).mono ?_
  rintro e w1 ⟨rfl, hk⟩
  have hg1 := hg1.below hk hg1.lt
  have hg2 := hg2.below hk hg2.lt
  have hbel := hbel.trans (hk.mono (by simp; omega))
  clear hk
  go_wp2_with fail
  refine (pick_any n 100 _ (by decide) (by decide)).mono ?_
  rintro e w2 ⟨rfl, rfl⟩
  obtain ⟨m, hm⟩ : ∃ m : Nat, 1 + n % 100 = (m : Int) := ⟨(1 + n % 100).toNat, by omega⟩
  have hmlo : 1 ≤ m := by omega
  have hmhi : m ≤ 100 := by omega
  go_wp2_with fail
  have HD := Lib.hid hg1
  have HE := Lib.hid hg2
  refine (boot_any w.heap.size m s _ hmlo (by omega) hg1).mono ?_
  clear hg1 hg2 hm hm0 hm1
  rintro e w2 ⟨r, rfl, hA, hr, hnew, hg1, hF⟩
  have hg2 := HE.out.fr hF (by omega)
  have hbel2 : Below w.heap.size w w2 := hbel.trans (hF.below (fun k hk e => by omega) hbel.size)
  have hne : w.heap.size + 1 < w1.heap.size := HE.out.lt
  have hsz2 := hF.size
  obtain ⟨A0, hA0⟩ : ∃ A0, A0 = w1.heap.size := ⟨_, rfl⟩
  rw [← hA0] at hA
  rw [← hA0]
  have HA0 := Lib.hid hA0
  have hA0lo : w.heap.size + 1 < A0 := by rw [HA0.out]; exact hne
  clear hA0 hbel hF HD HE
  go_wp2_with fail
  have HG1 := Lib.hid hg1
  have HG2 := Lib.hid hg2
  have HAA := Lib.hid hA
  refine (draw_any (w.heap.size + 1) m s m _ (by omega) (by omega) hmlo (by omega) hg2).mono ?_
  clear hg1 hg2 hA
  rintro e w3 ⟨rfl, hL, hg2, hF⟩
  have hg1 := HG1.out.fr hF (by omega)
  have hA := HAA.out.fr hF (by omega)
  have hr := hr.fr hF (fun A n c e => by have := hnew A n c e; omega)
  have hbel3 : Below w.heap.size w w3 := hbel2.trans (hF.below (fun k hk e => by omega) (by omega))
  obtain ⟨L0, hL0⟩ : ∃ L0, L0 = w2.heap.size := ⟨_, rfl⟩
  rw [← hL0] at hL
  rw [← hL0]
  have HL0 := Lib.hid hL0
  have hsz3 := hF.size
  clear hL0 hF hbel2 HG1 HG2 HAA
  have hmk := mk_run (P := Try.prog) Try.underlying27 Try.info3 rfl .i64 .i64 m (by unfold maxLen; omega) (by omega) (l := vs .i64 (dif m [] [])) (by rw [← dif_start]; exact vs_replicate)
  go_wp2_with fail
  go_loopw [11] (fun i wr => ∃ j : Nat, j ≤ m ∧ i = .int .i64 j ∧ Blk wr w3.heap.size (vs .i64 (dif m ((Dm.dl m m s).take j) [])) 3 ∧ Below w3.heap.size w3 wr) (fun i _ => m - (intOf i).toNat)
  case atStart => exact ⟨0, by omega, rfl, Blk.new _ _ _, (Below.refl _ _).alloc (Nat.le_refl _) _⟩
  case round =>
    obtain ⟨j, hj, rfl, hC, hb⟩ := hrel
    have HLn := Lib.hid (Dm.dl_length m m s)
    by_cases hlt : j < m
    · have x1 := (hL.below hb hL.lt).at j (by rw [HLn.out]; exact hlt)
      obtain ⟨x, hx, hxr⟩ : ∃ x : Nat, (Dm.dl m m s).getD j 0 = (x : Int) ∧ x < m := by
        have := Dm.dl_range (n := m) (by omega) m s ((Dm.dl m m s).getD j 0) (getD_mem _ _ (by rw [HLn.out]; exact hlt))
        exact ⟨((Dm.dl m m s).getD j 0).toNat, by omega, by omega⟩
      rw [hx] at x1
      have HT := Lib.hid (take_snocI (Dm.dl m m s) j (by rw [HLn.out]; exact hlt))
      have x2 := hC.at x (by rw [dif_length]; exact hxr)
      have x3 := hC.frozen x
      obtain ⟨bl, bh⟩ := dif_bound m ((Dm.dl m m s).take j) [] x hxr
      have bt : ((Dm.dl m m s).take j).length ≤ j := List.length_take_le _ _
      have HS := Lib.hid (dif_add m ((Dm.dl m m s).take j) [] x)
      have HX := Lib.hid hx
      clear hx
      obtain ⟨y, hy⟩ : ∃ y, (dif m ((Dm.dl m m s).take j) []).getD x 0 = y := ⟨_, rfl⟩
      rw [hy] at x2 bl bh
      have HY := Lib.hid hy
      simp only [List.length_nil] at bl
      clear hy
      go_wp2
      go_roundw
      case rel =>
        refine ⟨j + 1, by omega, by go_num, ?_, hb.setCell (Nat.le_refl _) _⟩
        have h := hC.set x (.int .i64 (y + 1))
        have hs1 := HS.out
        rw [HY.out] at hs1
        rw [vs_set, hs1, ← HX.out, ← HT.out] at h
        exact h
      case measure => simp [intOf]; omega
    · have hjm : j = m := by omega
      have hC2 : Blk wr w3.heap.size (vs .i64 (dif m (Dm.dl m m s) [])) 3 := by
        rw [List.take_of_length_le (by rw [HLn.out]; omega)] at hC; exact hC
      have hC3 := hC2.lt
      clear hjm hC
      obtain ⟨wo, rfl⟩ : ∃ wo : World, wo = wr := ⟨_, rfl⟩
      go_wp2
      go_loopw [12] (fun i wr => ∃ j : Nat, j ≤ m ∧ i = .int .i64 j ∧ Blk wr w3.heap.size (vs .i64 (dif m (Dm.dl m m s) ((srt (Dm.dl m m s)).take j))) 3 ∧ Below w3.heap.size w3 wr) (fun i _ => m - (intOf i).toNat)
      case atStart => exact ⟨0, by omega, rfl, hC2, hb⟩
      case round =>
        clear hC2
        obtain ⟨j, hj, rfl, hC, hb⟩ := hrel
        have HAn := Lib.hid (show (srt (Dm.dl m m s)).length = m by rw [srt_length, Dm.dl_length])
        by_cases hlt : j < m
        · have x1 := (hA.below hb hA.lt).at j (by rw [HAn.out]; exact hlt)
          have hrange := Dm.dl_range (n := m) (by omega) m s
          obtain ⟨x, hx, hxr⟩ : ∃ x : Nat, (srt (Dm.dl m m s)).getD j 0 = (x : Int) ∧ x < m := by
            have := hrange ((srt (Dm.dl m m s)).getD j 0) ((srt_perm _).mem_iff.1 (getD_mem _ _ (by rw [HAn.out]; exact hlt)))
            exact ⟨((srt (Dm.dl m m s)).getD j 0).toNat, by omega, by omega⟩
          rw [hx] at x1
          have HT := Lib.hid (take_snocI (srt (Dm.dl m m s)) j (by rw [HAn.out]; exact hlt))
          have x2 := hC.at x (by rw [dif_length]; exact hxr)
          have x3 := hC.frozen x
          obtain ⟨bl, bh⟩ := dif_bound m (Dm.dl m m s) ((srt (Dm.dl m m s)).take j) x hxr
          have bt : ((srt (Dm.dl m m s)).take j).length ≤ j := List.length_take_le _ _
          have HS := Lib.hid (dif_sub m (Dm.dl m m s) ((srt (Dm.dl m m s)).take j) x)
          have HX := Lib.hid hx
          obtain ⟨y, hy⟩ : ∃ y, (dif m (Dm.dl m m s) ((srt (Dm.dl m m s)).take j)).getD x 0 = y := ⟨_, rfl⟩
          rw [hy] at x2 bl bh
          have HY := Lib.hid hy
          rw [HLn.out] at bh
          have hprev : j = 0 ∨ ∃ q : Nat, j = q + 1 ∧ ∃ z : Nat, (srt (Dm.dl m m s)).getD q 0 = (z : Int) ∧ z ≤ x := by
            rcases j with _ | q
            · exact .inl rfl
            · refine .inr ⟨q, rfl, ?_⟩
              have h1 := srt_rises (Dm.dl m m s) q (by rw [HLn.out]; exact hlt)
              have h2 := hrange ((srt (Dm.dl m m s)).getD q 0) ((srt_perm _).mem_iff.1 (getD_mem _ _ (by rw [HAn.out]; omega)))
              exact ⟨((srt (Dm.dl m m s)).getD q 0).toNat, by omega, by omega⟩
          have hfin : ∀ v, v = y - 1 → Blk (wr.setCell ⟨w3.heap.size, x, none⟩ (.int .i64 v)) w3.heap.size (vs .i64 (dif m (Dm.dl m m s) ((srt (Dm.dl m m s)).take (j + 1)))) 3 := by
            rintro v rfl
            have h := hC.set x (.int .i64 (y - 1))
            have hs1 := HS.out
            rw [HY.out] at hs1
            rw [vs_set, hs1, ← HX.out, ← HT.out] at h
            exact h
          have HF := Lib.hid hfin
          clear hy hx hrange hfin
          rcases hprev with rfl | ⟨q, rfl, z, hz, hzx⟩
          · have d1 : decide (m ≤ x) = false := by simp; omega
            have d2 : decide ((x : Int) < 0) = false := by simp
            have d8 : decide ((m : Int) ≤ (x : Int)) = false := by simp; omega
            go_wp2
            go_quiet (fail)
            go_wp2
            go_roundw
            case rel => exact ⟨0 + 1, by omega, by go_num, HF.out _ rfl, (bdn hb _).setCell (Nat.le_refl _) _⟩
            case measure => simp [intOf]; omega
          · have x4 := (hA.below hb hA.lt).at q (by rw [HAn.out]; omega)
            rw [hz] at x4
            clear hz
            have d1 : decide (m ≤ x) = false := by simp; omega
            have d2 : decide ((x : Int) < 0) = false := by simp
            have d3 : decide (0 < q + 1) = true := by simp
            have d4 : decide (x < z) = false := by simp; omega
            have d5 : IntKind.i64.wrap ((q : Int) + 1 - 1) = q := by rw [IntKind.wrap_i64]; omega
            have d6 : ((q : Int) + 1 - 1).toNat = q := by omega
            have d7 : (0 : Int) ≤ (q : Int) + 1 - 1 := by omega
            have d8 : decide ((m : Int) ≤ (x : Int)) = false := by simp; omega
            have d9 : decide ((0 : Int) < (q : Int) + 1) = true := by simp
            have d10 : decide ((x : Int) < (z : Int)) = false := by simp; omega
            go_wp2
            go_quiet (fail)
            go_wp2
            go_roundw
            case rel => exact ⟨q + 1 + 1, by omega, by go_num, HF.out _ rfl, (bdn hb _).setCell (Nat.le_refl _) _⟩
            case measure => simp [intOf]; omega
        · have hjm : j = m := by omega
          have hC2 : Blk wr w3.heap.size (vs .i64 (dif m (Dm.dl m m s) (srt (Dm.dl m m s)))) 3 := by
            rw [List.take_of_length_le (by rw [HAn.out]; omega)] at hC; exact hC
          have hC3 := hC2.lt
          clear hjm hC
          obtain ⟨wo, rfl⟩ : ∃ wo : World, wo = wr := ⟨_, rfl⟩
          go_wp2
          go_loopw [13] (fun i wr => ∃ j : Nat, j ≤ m ∧ i = .int .i64 j ∧ Blk wr w3.heap.size (vs .i64 (dif m (Dm.dl m m s) (srt (Dm.dl m m s)))) 3 ∧ Below w3.heap.size w3 wr) (fun i _ => m - (intOf i).toNat)
          case atStart => exact ⟨0, by omega, rfl, hC2, hb⟩
          case round =>
            clear hC2
            obtain ⟨j, hj, rfl, hC, hb⟩ := hrel
            by_cases hlt : j < m
            · have x1 := hC.at j (by rw [dif_length]; exact hlt)
              rw [dif_perm m _ _ (srt_perm _).symm j hlt] at x1
              go_wp2
              go_roundw
              case rel => exact ⟨j + 1, by omega, by go_num, hC, hb⟩
              case measure => simp [intOf]; omega
            · have hA' := hA.below hb hA.lt
              have hr' := hr.below hb (Nat.le_refl _)
              have hg1' := hg1.below hb hg1.lt
              have hg2' := hg2.below hb hg2.lt
              have hbw : Below w.heap.size w wr := hbel3.trans (hb.mono (by omega))
              have HG1 := Lib.hid hg1'
              have HG2 := Lib.hid hg2'
              have HR := Lib.hid hr'
              clear hA hr hg1 hg2 hbel3 hC hb hL HL0 hg1' hg2' hr'
              go_wp2_with fail
              refine (rest_any m _ (srt (Dm.dl m m s)) _ (by omega) (hA'.ints HAn.out.symm (by unfold maxLen; omega))).mono ?_
              rintro e w4 ⟨r4, rfl, hr4, hn4, hb4⟩
              go_wp2_with fail
              refine (sameInts_any _ _ _ _ _ (HR.out.below hb4 (Nat.le_refl _)) hr4).mono ?_
              rintro e w5 ⟨rfl, hb5⟩
              have h1 := (HG1.out.below hb4 HG1.out.lt).below hb5 (by have := hb4.size; have := HG1.out.lt; omega)
              have h2 := (HG2.out.below hb4 HG2.out.lt).below hb5 (by have := hb4.size; have := HG2.out.lt; omega)
              have hdt : decide (rest m (srt (Dm.dl m m s)) = rest m (srt (Dm.dl m m s))) = true := by simp
              go_wp2_with fail
              refine (state_any _ _ _ h1.one).mono ?_
              rintro e w6 ⟨rfl, rfl⟩
              go_wp2_with fail
              refine (state_any _ _ _ h2.one).mono ?_
              rintro e w6 ⟨rfl, rfl⟩
              go_wp2_with fail
              go_ret
              exact ⟨by simp, (hbw.trans (hb4.mono (by have := hb4.size; have := hbw.size; omega))).trans (hb5.mono (by have := hb4.size; have := hbw.size; omega))⟩
end Go.Proofs.Ytjfkniknmkcdcaa