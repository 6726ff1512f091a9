/- The walk of the law ShareWide. (printed by wip/gen/wd.py) -/
import Derived.Test.YtjfkniknmkcdcaaDoorWp
import Derived.Test.YtjfkniknmkcdcaaDoorSg
import Derived.Test.YtjfkniknmkcdcaaDoorKn
namespace Go.Proofs.YtjfkniknmkcdcaaDoor
open Go.RowKit K Nu

theorem frSame_same (v1 v2 : Value) (ps : List Rat) (w : World) (h1 : Row3 QV w v1 ps) (h2 : Row3 QV w v2 ps) (sp : ∀ p, p ∈ ps → Short p) :
    Calls Tryd.prog 15 #[v1, v2] w fun e w' => e = .returned (.bool true) ∧ Below w.heap.size w w' := by
  have := frSame_any v1 v2 ps ps w h1 h2 sp sp rfl
  rw [decide_eq_true rfl] at this
  exact this

set_option maxRecDepth 100000 in
set_option maxHeartbeats 20000000 in
theorem shareWide_walk (v1 : Value) (l : List Int) (n : Int) (w : World) (h1 : IsInts .i64 w v1 l) (hl : ∀ x, x ∈ l → I64 x) (hF : Fac w) :
    Calls Tryd.prog 4 #[v1, .int .i64 n] w fun e w' => e = .returned (.bool true) ∧ Below w.heap.size w w' := by
  obtain ⟨m, hm⟩ : ∃ m : Nat, n % 11 + 1 = m := ⟨(n % 11 + 1).toNat, by omega⟩
  have hm1 : 1 ≤ m := by omega
  have hm11 : m ≤ 11 := by omega
  have hP1 := Lib.hid (fun wd => pick_any n 11 wd (by decide) (by decide))
  have hw0 : IntKind.i64.wrap (n % 11 + 1) = m := by rw [IntKind.wrap_i64]; omega
  obtain ⟨S, hS⟩ : ∃ S : Nat, 2 ^ m = S := ⟨_, rfl⟩
  have hS1 : S ≤ 2048 := by rw [← hS]; exact Nat.le_trans (Nat.pow_le_pow_right (by decide) hm11) (by decide)
  have hSz : (2 : Int) ^ m = (S : Int) := by rw [← hS, Int.natCast_pow]; rfl
  have hwS : IntKind.i64.wrap (S : Int) = S := by rw [IntKind.wrap_i64]; omega
  have hmk := mk3_at (P := Tryd.prog) Tryd.underlying28 Tryd.infoQ .i64 .i64 S (by omega)
  obtain ⟨ws, hws⟩ : ∃ ws, rowQ l m = ws := ⟨_, rfl⟩
  have hwl : ws.length = m := by rw [← hws]; exact rowQ_len2
  have hshort : ∀ q, q ∈ ws → Short q := by rw [← hws]; exact fun q hq => (rowQ_twelve q hq).short
  have htw : ∀ q, q ∈ ws → Twelve q := by rw [← hws]; exact rowQ_twelve
  have hR1 := fun (wd : World) => row_any v1 l m wd
  rw [hws] at hR1
  have hR := Lib.hid (hR1 w h1 hl (by omega))
  have HF := Lib.hid hF
  have HW := Lib.hid (And.intro hwl (And.intro hshort (And.intro htw hS)))
  clear hm h1 hl hF hR1 hws hwl hshort htw hS
  go_enter Tryd.func4, Tryd.ntmps4
  go_wp2_with fail
  refine (hP1.out _).mono ?_
  rintro e w1 ⟨rfl, rfl⟩
  go_wp2_with fail
  refine hR.out.mono ?_
  rintro e w1 ⟨r1, rfl, hr1, hb1⟩
  have hI := Lib.hid (inRow_any r1 ws w1 hr1 HW.out.2.1 (by rw [HW.out.1]; omega))
  clear hr1 hR
  go_wp2_with fail
  refine hI.out.mono ?_
  rintro e w2 ⟨r2, rfl, hr2, hb2⟩
  have B2 := Lib.hid (hb1.trans (hb2.mono hb1.size))
  obtain ⟨Bw, cw, rfl, hlcw, hcmw, hatw⟩ := hr2.at
  have R2 := Lib.hid hr2
  rw [HW.out.1] at hlcw hatw ⊢
  rw [HW.out.1] at R2
  clear hI hb1 hb2 hr2
  have hmm : min m 64 = m := by omega
  have hwm : IntKind.u64.wrap (m : Int) = m := by rw [wrap64u]; omega
  go_wp2_with fail
  go_loopw [7] (fun i wr => ∃ (s : Nat) (ts : List T3), s ≤ S ∧ i = .int .i64 s ∧ Hid (ts.length = S) ∧ Hid (Blk wr w2.heap.size (flat ts) 43) ∧ Hid (∀ (d : Nat) (t : T3), ts[d]? = some t → QV wr t.1 t.2.1 t.2.2 (if d < s then subs ws d m else 0)) ∧ Hid (Below w2.heap.size w2 wr)) (fun i _ => S - (intOf i).toNat)
  case atStart =>
    refine ⟨0, List.replicate S z3, by omega, rfl, Lib.hid (by simp), Lib.hid (Blk.new _ _ _), Lib.hid (fun c t ht => ?_), Lib.hid ((Below.refl _ _).alloc (Nat.le_refl _) _)⟩
    rw [List.getElem?_replicate] at ht
    split at ht
    · injection ht with ht; subst ht; exact QV.zero _
    · cases ht
  case round =>
    obtain ⟨s, ts, hs, rfl, hts, P, hq, hbel⟩ := hrel
    by_cases hlt : s < S
    · go_wp2_with fail
      go_loopw [8] (fun i wx => ∃ (k : Nat) (ts : List T3), k ≤ m ∧ i = .int .i64 k ∧ Hid (ts.length = S) ∧ Hid (Blk wx w2.heap.size (flat ts) 43) ∧ Hid (∀ (d : Nat) (t : T3), ts[d]? = some t → QV wx t.1 t.2.1 t.2.2 (if d < s then subs ws d m else if d = s then subs ws s k else 0)) ∧ Hid (Below w2.heap.size w2 wx)) (fun i _ => m - (intOf i).toNat)
      case atStart => exact ⟨0, ts, by omega, rfl, hts, P, Lib.hid (fun d t ht => by
        have := hq.out d t ht
        show QV _ _ _ _ (if d < s then subs ws d m else if d = s then subs ws s 0 else 0)
        by_cases h7 : d < s
        · rw [if_pos h7] at this ⊢; exact this
        · rw [if_neg h7] at this ⊢
          by_cases h8 : d = s
          · rw [if_pos h8]; exact this
          · rw [if_neg h8]; exact this), hbel⟩
      case round =>
        clear hq P hts ts hbel
        obtain ⟨k, ts, hk, rfl, hts, P, hq, hbel⟩ := hrel
        by_cases hkm : k < m
        · have hbit := bit_at (s := s) (k := k) (by omega)
          have hk11 : k < 11 := by omega
          have hmk64 : min k 64 = k := by omega
          have hwk : IntKind.u64.wrap (k : Int) = k := by rw [wrap64u]; omega
          by_cases hb : s.testBit k = true
          · rw [if_pos hb] at hbit
            obtain ⟨bw, ow, x3, v7, v8, rfl, hbw, y0, y1, y2, hQ2⟩ := hatw k hkm
            have htc : ts[s]? = some (ts[s]'(by rw [hts.out]; exact hlt)) := List.getElem?_eq_getElem _
            have hQ1 := hq.out s _ htc
            rw [if_neg (Nat.lt_irrefl _), if_pos rfl] at hQ1
            obtain ⟨g1, g2, g3⟩ := flat_get ts s _ htc
            generalize ts[s]'(by rw [hts.out]; exact hlt) = t1 at *
            obtain ⟨x1, vv1, vv2⟩ := t1
            have kk0 := (P.out.cell (s * 3)).trans g1
            have kk1 := (P.out.cell (s * 3 + 1)).trans g2
            have kk2 := (P.out.cell (s * 3 + 2)).trans g3
            simp only at kk0 kk1 kk2 hQ1 g1 g2 g3
            replace hQ2 := hQ2.below hbel.out (Nat.le_refl _)
            obtain ⟨A1, k1, c1, A2, k2, c2, rfl, rfl⟩ := hQ1.slices
            obtain ⟨A5, k5, c5, A6, k6, c6, rfl, rfl⟩ := hQ2.slices
            have q0_0 := (hbel.out.cell (p := ⟨bw, ow + k * 3, none⟩) hbw).trans y0
            have q0_1 := (hbel.out.cell (p := ⟨bw, ow + k * 3 + 1, none⟩) hbw).trans y1
            have q0_2 := (hbel.out.cell (p := ⟨bw, ow + k * 3 + 2, none⟩) hbw).trans y2
            have lg_0 : w2.heap.size < wr.heap.size := P.out.lt
            have lbw_0 : bw < wr.heap.size := Nat.lt_of_lt_of_le hbw hbel.out.size
            have d1 : Short (subs ws s k) := by
              obtain ⟨z, hz, h1, h2⟩ := subs_lat HW.out.2.2.1 s k (by rw [HW.out.1]; omega)
              rw [hz]; exact lat_short (by decide) (by decide) (by omega) (by omega)
            have d2 := HW.out.2.1 _ (getD_mem' (l := ws) (i := k) (by rw [HW.out.1]; exact hkm))
            have hA := Lib.hid (fun (wd : World) (hb : Below wr.heap.size wr wd) => frAdd_small x1 x3 _ _ _ _ _ _ wd (hQ1.below hb (Nat.le_refl _)) (hQ2.below hb (Nat.le_refl _)) d1 d2)
            have nb1 : ¬ w2.heap.size = bw := by omega
            have nb2 : ¬ bw = w2.heap.size := by omega
            have hk3 : (k : Int) < (m : Int) := by omega
            have hs3 : (s : Int) < (S : Int) := by omega
            have HSB := Lib.hid (show subs ws s (k + 1) = subs ws s k + ws.getD k 0 by simp only [subs]; rw [if_pos hb])
            clear hb y0 y1 y2 hQ1 hQ2 htc d1 d2 hatw hbw
            go_upto_region 12 with fail
            rw [show Op.load 43 (Operand.tmp 43) = id (Op.load 43 (Operand.tmp 43)) from rfl]
            go_region_held3 (fun w' => w'.cell? ⟨bw, ow + k * 3, none⟩ = some (Value.bool x3) ∧ w'.cell? ⟨bw, ow + k * 3 + 1, none⟩ = some (Value.slice A5 k5 c5) ∧ w'.cell? ⟨bw, ow + k * 3 + 2, none⟩ = some (Value.slice A6 k6 c6)) (go_keep)
            (first
              | ((go_at_call 13; refine (hA.out _ ((Below.refl _ _).drew)).mono ?_; rintro e w_1 ⟨b7, v9, v10, rfl, hq7, hb_1⟩; have hB_1 := Lib.hid ((Below.refl wr.heap.size wr).drew.trans hb_1); have q1_0 : w_1.cell? ⟨bw, ow + k * 3, none⟩ = some (Value.bool x3) := (hb_1.cell (p := ⟨bw, ow + k * 3, none⟩) lbw_0).trans q0_0; have q1_1 : w_1.cell? ⟨bw, ow + k * 3 + 1, none⟩ = some (Value.slice A5 k5 c5) := (hb_1.cell (p := ⟨bw, ow + k * 3 + 1, none⟩) lbw_0).trans q0_1; have q1_2 : w_1.cell? ⟨bw, ow + k * 3 + 2, none⟩ = some (Value.slice A6 k6 c6) := (hb_1.cell (p := ⟨bw, ow + k * 3 + 2, none⟩) lbw_0).trans q0_2; have P3 := Lib.hid (P.out.below hB_1.out lg_0); have cz0 := (P3.out.cell (s * 3)).trans g1; have cz1 := (P3.out.cell (s * 3 + 1)).trans g2; have cz2 := (P3.out.cell (s * 3 + 2)).trans g3; obtain ⟨E1, e1, f1, E2, e2, f2, rfl, rfl⟩ := hq7.slices; have HQ7 := Lib.hid hq7; clear hq7; have fz0 := P3.out.frozen (s * 3); have fz1 := P3.out.frozen (s * 3 + 1); have fz2 := P3.out.frozen (s * 3 + 2)))
              | ((fail)))
            all_goals go_wp2_with fail
            all_goals
              go_roundw
              case rel =>
                have hno : ∀ x, x ∈ flat ts → ∀ k q, x ≠ .int k q := noints_flat hq.out
                refine ⟨k + 1, ts.set s (b7, .slice E1 e1 f1, .slice E2 e2 f2), by omega, by go_num, Lib.hid (by rw [List.length_set]; exact hts.out), Lib.hid ?_, Lib.hid ?_, Lib.hid ?_⟩
                · rw [← flat_set ts s _ _ _ (by rw [hts.out]; exact hlt)]
                  exact ((P3.out.set (s * 3) (.bool b7)).set (s * 3 + 1) (.slice E1 e1 f1)).set (s * 3 + 2) (.slice E2 e2 f2)
                · intro d t ht
                  by_cases e : d = s
                  · subst e
                    rw [List.getElem?_set_self (by rw [hts.out]; exact hlt)] at ht
                    simp only [Option.some.injEq] at ht
                    subst ht
                    rw [if_neg (Nat.lt_irrefl _), if_pos rfl, HSB.out]
                    exact HQ7.out.set3flat P3.out hno (by simp) (by simp)
                  · rw [List.getElem?_set_ne (by omega)] at ht
                    have := (hq.out d t ht).below hB_1.out (Nat.le_refl _)
                    rw [if_neg e] at this ⊢
                    exact this.set3flat P3.out hno (by simp) (by simp)
                · exact ((((hbel.out.trans (hB_1.out.mono hbel.out.size))).setCell (p := ⟨w2.heap.size, s * 3, none⟩) (Nat.le_refl _) _).setCell (p := ⟨w2.heap.size, s * 3 + 1, none⟩) (Nat.le_refl _) _).setCell (p := ⟨w2.heap.size, s * 3 + 2, none⟩) (Nat.le_refl _) _
              case measure => simp [intOf]; omega
          · rw [if_neg hb] at hbit
            have hq2 := Lib.hid (show ∀ (d : Nat) (t : T3), ts[d]? = some t → QV wr t.1 t.2.1 t.2.2 (if d < s then subs ws d m else if d = s then subs ws s (k + 1) else 0) from fun d t ht => by
              have := hq.out d t ht
              rw [show subs ws s (k + 1) = subs ws s k by simp only [subs]; rw [if_neg hb]]
              exact this)
            clear hb hq
            go_wp2_with fail
            go_roundw
            case rel => exact ⟨k + 1, ts, by omega, by go_num, hts, P, hq2, hbel⟩
            case measure => simp [intOf]; omega
        · obtain rfl : k = m := by omega
          go_wp2_with fail
          go_roundw
          case rel => exact ⟨s + 1, ts, by omega, by go_num, hts, P, Lib.hid (fun d t ht => by
            have := hq.out d t ht
            by_cases h7 : d < s
            · rw [if_pos h7] at this; rw [if_pos (by omega)]; exact this
            · rw [if_neg h7] at this
              by_cases h8 : d = s
              · rw [if_pos h8] at this; subst h8; rw [if_pos (by omega)]; exact this
              · rw [if_neg h8] at this; rw [if_neg (by omega)]; exact this), hbel⟩
          case measure => simp [intOf]; omega
    · obtain rfl : s = S := by omega
      have hSz2 : 2 ^ m = s := HW.out.2.2.2
      have hV : Row3 QV wr (.slice (some ⟨w2.heap.size, 0, none⟩) s s) ((List.range s).map fun d => subs ws d m) := P.out.row3 (by simp) (by rw [hts.out]; simp) (by unfold maxLen; omega) (fun i t q ht hqi => by
        have hi : i < s := by have := (List.getElem?_eq_some_iff.1 ht).1; rw [hts.out] at this; exact this
        have h8 := hq.out i t ht
        rw [if_pos hi] at h8
        rw [List.getElem?_map, List.getElem?_range hi] at hqi
        injection hqi with hqi
        rw [← hqi]; exact h8)
      have hSums : IsSums ((List.range s).map fun d => subs ws d m) ws m := ⟨HW.out.1, by rw [hSz2]; simp, fun d hd => by
        rw [hSz2] at hd
        rw [List.getD_eq_getElem?_getD, List.getElem?_map, List.getElem?_range hd]; rfl⟩
      have B3 := Lib.hid (B2.out.trans (hbel.out.mono B2.out.size))
      have R3 := Lib.hid (R2.out.below (fun _ _ _ _ h => h.below hbel.out (Nat.le_refl _)) hbel.out (Nat.le_refl _))
      by_cases h10 : m ≤ 10
      · have hc : cols ((List.range s).map fun d => subs ws d m).length = m := by rw [List.length_map, List.length_range, ← hSz2]; exact cols_pow hm1 h10
        have hS := Lib.hid (shares_ok _ _ m wr hV hc (by omega) (HF.out.below B3.out (Nat.le_refl _)) (sums_fit hSums h10 HW.out.2.2.1))
        rw [sums_shs hSums h10] at hS
        have tB : ((10 : Int) < (m : Int)) = False := by simp; omega
        clear hV hSums hc hq P hts hbel R2 B2 hatw hmk
        go_wp2_with fail
        refine hS.out.mono ?_
        rintro e w3 ⟨r3, rfl, hr3, hb3⟩
        have B4 := Lib.hid (B3.out.trans (hb3.mono B3.out.size))
        have R4 := Lib.hid (R3.out.below (fun _ _ _ _ h => h.below hb3 (Nat.le_refl _)) hb3 (Nat.le_refl _))
        have A4 := Lib.hid hr3
        have hK := Lib.hid (known_any w3 (HF.out.below B4.out (Nat.le_refl _)))
        clear hr3 hb3 hS R3 B3
        go_wp2_with fail
        refine hK.out.mono ?_
        rintro e w4 ⟨rfl, hb4⟩
        have hE := Lib.hid (frSame_same _ _ ws w4 (A4.out.below (fun _ _ _ _ h => h.below hb4 (Nat.le_refl _)) hb4 (Nat.le_refl _)) (R4.out.below (fun _ _ _ _ h => h.below hb4 (Nat.le_refl _)) hb4 (Nat.le_refl _)) HW.out.2.1)
        have B5 := Lib.hid (B4.out.trans (hb4.mono B4.out.size))
        clear hb4 hK R4 A4 B4
        go_wp2_with fail
        refine hE.out.mono ?_
        rintro e w5 ⟨rfl, hb5⟩
        go_wp2_with fail
        go_ret
        exact ⟨rfl, B5.out.trans (hb5.mono B5.out.size)⟩
      · obtain rfl : m = 11 := by omega
        obtain rfl : s = 2048 := hSz2.symm
        have hK := Lib.hid (known_any wr (HF.out.below B3.out (Nat.le_refl _)))
        clear hV hSums hq P hts hbel R2 B2 hatw hmk R3
        go_wp2_with fail
        refine (shares_bad _ 2048 _ wr (by rfl)).mono ?_
        rintro e w3 ⟨rfl, rfl⟩
        go_wp2_with fail
        refine hK.out.mono ?_
        rintro e w4 ⟨rfl, hb4⟩
        go_wp2_with fail
        go_ret
        exact ⟨rfl, B3.out.trans (hb4.mono B3.out.size)⟩

end Go.Proofs.YtjfkniknmkcdcaaDoor
