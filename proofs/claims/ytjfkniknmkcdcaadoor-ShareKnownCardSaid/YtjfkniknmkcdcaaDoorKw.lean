/- The walk of the law ShareKnown. (printed by wip/gen/kw.py) -/
import Derived.Test.YtjfkniknmkcdcaaDoorSf
namespace Go.Proofs.YtjfkniknmkcdcaaDoor
open Go.RowKit K Nu

theorem K.Row3.get {Q : World → Bool → Value → Value → Rat → Prop} {w : World} {g o n c : Nat} {qs : List Rat} (h : Row3 Q w (.slice (some ⟨g, o, none⟩) n c) qs) {i : Nat} (hi : i < qs.length) :
    ∃ b u v, w.cell? ⟨g, o + i * 3, none⟩ = some (.bool b) ∧ w.cell? ⟨g, o + i * 3 + 1, none⟩ = some u ∧ w.cell? ⟨g, o + i * 3 + 2, none⟩ = some v ∧ Q w b u v (qs.getD i 0) := by
  obtain ⟨A, c', e, -, -, hat⟩ := h.at
  injection e with e1 e2 e3
  subst e1
  obtain ⟨b, off, bb, u, v, e, -, h0, h1, h2, hQ⟩ := hat i hi
  injection e with e
  injection e with e1 e2
  subst e1 e2
  exact ⟨bb, u, v, h0, h1, h2, hQ⟩
theorem K.Row3.shape {Q : World → Bool → Value → Value → Rat → Prop} {w : World} {x : Value} {qs : List Rat} (h : Row3 Q w x qs) (hne : 0 < qs.length) : ∃ g o c, x = .slice (some ⟨g, o, none⟩) qs.length c := by
  obtain ⟨A, c, rfl, -, -, hat⟩ := h.at
  obtain ⟨b, off, _, _, _, rfl, -⟩ := hat 0 hne
  exact ⟨b, off, c, rfl⟩
theorem isN (n : Nat) (b : Bool) (v1 v2 : Value) (q : Rat) (w : World) (h : QV w b v1 v2 q) (hq : q = mkRat n 1) (hs : shortB (mkRat n 1) = true) (hn : n < 2147483648) :
    Calls Tryd.prog 19 #[.agg #[.bool b, v1, v2], .int .i64 (n : Int), .int .i64 1] w fun e w' => e = .returned (.bool true) ∧ Below w.heap.size w w' := by
  have := is_any b v1 v2 q n 1 w h (by rw [hq]; exact shortB_iff hs) (shortB_iff hs) (by omega) (by omega) (by decide) (by decide)
  rw [decide_eq_true hq] at this
  exact this
theorem two_of_bits {t : Nat} (h : t < 4) (hb : ∀ i, t.testBit i = (decide (i < 2) && [false, true].getD i false)) : t = 2 := by
  have h0 := hb 0
  have h1 := hb 1
  have : t = 0 ∨ t = 1 ∨ t = 2 ∨ t = 3 := by omega
  rcases this with rfl | rfl | rfl | rfl
  · exact absurd h1 (by decide)
  · exact absurd h0 (by decide)
  · rfl
  · exact absurd h0 (by decide)

set_option maxRecDepth 100000 in
set_option maxHeartbeats 20000000 in
theorem shareKnown_walk (w : World) (hF : Fac w) :
    Calls Tryd.prog 5 #[] w fun e w' => e = .returned (.bool true) ∧ Below w.heap.size w w' := by
  have h1 := Lib.hid (fun wd => ofQ 1 wd (by decide) (by decide) (q := 1) rfl)
  have h2 := Lib.hid (fun wd => ofQ 2 wd (by decide) (by decide) (q := 2) rfl)
  have h3 := Lib.hid (fun wd => ofQ 3 wd (by decide) (by decide) (q := 3) rfl)
  have h5 := Lib.hid (fun wd => ofQ 5 wd (by decide) (by decide) (q := 5) rfl)
  have h6 := Lib.hid (fun wd => ofQ 6 wd (by decide) (by decide) (q := 6) rfl)
  have h7 := Lib.hid (fun wd => ofQ 7 wd (by decide) (by decide) (q := 7) rfl)
  have h8 := Lib.hid (fun wd => ofQ 8 wd (by decide) (by decide) (q := 8) rfl)
  have h9 := Lib.hid (fun wd => ofQ 9 wd (by decide) (by decide) (q := 9) rfl)
  have vshort : ∀ q : Rat, q ∈ ([1, 3, 2, 9] : List Rat) → Short q := by
    intro q hq
    simp only [List.mem_cons, List.not_mem_nil, or_false] at hq
    rcases hq with rfl | rfl | rfl | rfl <;> exact shortB_iff (by decide)
  go_enter Tryd.func5, Tryd.ntmps5
  go_wp2_with fail
  have B := Lib.hid (Below.refl w.heap.size w)
  have F := Lib.hid hF
  clear hF
  refine (h1.out _).mono ?_
  rintro e w1 ⟨b1, A1, k1, c1, rfl, q, hb⟩
  have B_1 := Lib.hid (B.out.trans (hb.mono B.out.size))
  have F_1 := Lib.hid (F.out.below hb (Nat.le_refl _))
  clear hb B F
  have Q1 := Lib.hid q
  clear q
  go_wp2_with fail
  refine (h3.out _).mono ?_
  rintro e w2 ⟨b2, A2, k2, c2, rfl, q, hb⟩
  have B_2 := Lib.hid (B_1.out.trans (hb.mono B_1.out.size))
  have F_2 := Lib.hid (F_1.out.below hb (Nat.le_refl _))
  have Q1_2 := Lib.hid (Q1.out.below hb (Nat.le_refl _))
  clear hb B_1 F_1 Q1
  have Q2 := Lib.hid q
  clear q
  go_wp2_with fail
  refine (h2.out _).mono ?_
  rintro e w3 ⟨b3, A3, k3, c3, rfl, q, hb⟩
  have B_3 := Lib.hid (B_2.out.trans (hb.mono B_2.out.size))
  have F_3 := Lib.hid (F_2.out.below hb (Nat.le_refl _))
  have Q1_3 := Lib.hid (Q1_2.out.below hb (Nat.le_refl _))
  have Q2_3 := Lib.hid (Q2.out.below hb (Nat.le_refl _))
  clear hb B_2 F_2 Q1_2 Q2
  have Q3 := Lib.hid q
  clear q
  go_wp2_with fail
  refine (h9.out _).mono ?_
  rintro e w4 ⟨b4, A4, k4, c4, rfl, q, hb⟩
  have B_4 := Lib.hid (B_3.out.trans (hb.mono B_3.out.size))
  have F_4 := Lib.hid (F_3.out.below hb (Nat.le_refl _))
  have Q1_4 := Lib.hid (Q1_3.out.below hb (Nat.le_refl _))
  have Q2_4 := Lib.hid (Q2_3.out.below hb (Nat.le_refl _))
  have Q3_4 := Lib.hid (Q3.out.below hb (Nat.le_refl _))
  clear hb B_3 F_3 Q1_3 Q2_3 Q3
  have Q4 := Lib.hid q
  clear q
  go_wp2_with fail
  have hb : Below (w4).heap.size (w4) (w4.alloc (.cells (flat [(b1, .slice A1 k1 c1, .slice none 0 0), (b2, .slice A2 k2 c2, .slice none 0 0), (b3, .slice A3 k3 c3, .slice none 0 0), (b4, .slice A4 k4 c4, .slice none 0 0)]).toArray 43)) := by (repeat (first | assumption | exact Below.refl _ _ | refine Below.drew ?_ | refine Below.setCell ?_ (by simp <;> omega) _ | refine Below.alloc ?_ (by simp <;> omega) _))
  have B_5 := Lib.hid (B_4.out.trans (hb.mono B_4.out.size))
  have F_5 := Lib.hid (F_4.out.below hb (Nat.le_refl _))
  have Q1_5 := Lib.hid (Q1_4.out.below hb (Nat.le_refl _))
  have Q2_5 := Lib.hid (Q2_4.out.below hb (Nat.le_refl _))
  have Q3_5 := Lib.hid (Q3_4.out.below hb (Nat.le_refl _))
  have Q4_5 := Lib.hid (Q4.out.below hb (Nat.le_refl _))
  clear hb B_4 F_4 Q1_4 Q2_4 Q3_4 Q4
  have R : Row3 QV (w4.alloc (.cells (flat [(b1, .slice A1 k1 c1, .slice none 0 0), (b2, .slice A2 k2 c2, .slice none 0 0), (b3, .slice A3 k3 c3, .slice none 0 0), (b4, .slice A4 k4 c4, .slice none 0 0)]).toArray 43)) (.slice (some ⟨w4.heap.size, 0, none⟩) 4 4) [1, 3, 2, 9] := (Blk.new w4 (flat [(b1, .slice A1 k1 c1, .slice none 0 0), (b2, .slice A2 k2 c2, .slice none 0 0), (b3, .slice A3 k3 c3, .slice none 0 0), (b4, .slice A4 k4 c4, .slice none 0 0)]) 43).row3 rfl rfl (by decide) (fun i t q ht hq => by
    rcases i with _ | _ | _ | _ | i
    · simp at ht hq; subst ht hq; exact Q1_5.out
    · simp at ht hq; subst ht hq; exact Q2_5.out
    · simp at ht hq; subst ht hq; exact Q3_5.out
    · simp at ht hq; subst ht hq; exact Q4_5.out
    · simp at ht)
  have V := Lib.hid R
  clear R
  clear Q1_5
  clear Q2_5
  clear Q3_5
  clear Q4_5
  have hb : Below ((w4.alloc (.cells (flat [(b1, .slice A1 k1 c1, .slice none 0 0), (b2, .slice A2 k2 c2, .slice none 0 0), (b3, .slice A3 k3 c3, .slice none 0 0), (b4, .slice A4 k4 c4, .slice none 0 0)]).toArray 43))).heap.size ((w4.alloc (.cells (flat [(b1, .slice A1 k1 c1, .slice none 0 0), (b2, .slice A2 k2 c2, .slice none 0 0), (b3, .slice A3 k3 c3, .slice none 0 0), (b4, .slice A4 k4 c4, .slice none 0 0)]).toArray 43))) ((w4.alloc (.cells (flat [(b1, .slice A1 k1 c1, .slice none 0 0), (b2, .slice A2 k2 c2, .slice none 0 0), (b3, .slice A3 k3 c3, .slice none 0 0), (b4, .slice A4 k4 c4, .slice none 0 0)]).toArray 43)).alloc (.cells #[.bool false, .bool true] 4)) := by (repeat (first | assumption | exact Below.refl _ _ | refine Below.drew ?_ | refine Below.setCell ?_ (by simp <;> omega) _ | refine Below.alloc ?_ (by simp <;> omega) _))
  have B_6 := Lib.hid (B_5.out.trans (hb.mono B_5.out.size))
  have F_6 := Lib.hid (F_5.out.below hb (Nat.le_refl _))
  have V_6 := Lib.hid (V.out.below (fun _ _ _ _ h => h.below hb (Nat.le_refl _)) hb (Nat.le_refl _))
  clear hb B_5 F_5 V
  have hbs : IsBools ((w4.alloc (.cells (flat [(b1, .slice A1 k1 c1, .slice none 0 0), (b2, .slice A2 k2 c2, .slice none 0 0), (b3, .slice A3 k3 c3, .slice none 0 0), (b4, .slice A4 k4 c4, .slice none 0 0)]).toArray 43)).alloc (.cells #[.bool false, .bool true] 4)) (.slice (some ⟨w4.heap.size + 1, 0, none⟩) 2 2) [false, true] := ⟨_, _, rfl, Nat.le_refl _, fun _ => ⟨_, 0, rfl, by simp, fun i hi => by
    rw [Nat.zero_add, (Blk.mk (w4.alloc (.cells (flat [(b1, .slice A1 k1 c1, .slice none 0 0), (b2, .slice A2 k2 c2, .slice none 0 0), (b3, .slice A3 k3 c3, .slice none 0 0), (b4, .slice A4 k4 c4, .slice none 0 0)]).toArray 43)) (w4.heap.size + 1) (by simp) [.bool false, .bool true] 4).cell]
    rcases i with _ | _ | i <;> first | rfl | (exfalso; have h7 : i + 1 + 1 < 2 := hi; omega)⟩⟩
  have H := Lib.hid hbs
  clear hbs
  refine (worth_any _ _ [1, 3, 2, 9] [false, true] 2 _ V_6.out H.out rfl (by decide) rfl).mono ?_
  rintro e w5 ⟨b5, v5, v6, t, rfl, ht, htb, q5, hb⟩
  obtain rfl := two_of_bits ht htb
  obtain ⟨A5, k5, c5, A6, k6, c6, rfl, rfl⟩ := q5.slices
  have q5 : QV w5 b5 (.slice A5 k5 c5) (.slice A6 k6 c6) 2 := q5
  clear ht htb
  have B_7 := Lib.hid (B_6.out.trans (hb.mono B_6.out.size))
  have F_7 := Lib.hid (F_6.out.below hb (Nat.le_refl _))
  have V_7 := Lib.hid (V_6.out.below (fun _ _ _ _ h => h.below hb (Nat.le_refl _)) hb (Nat.le_refl _))
  have H_7 := Lib.hid (H.out.below hb (Nat.le_refl _))
  clear hb B_6 F_6 V_6 H
  clear H_7
  have Q5 := Lib.hid q5
  clear q5
  have hb : Below (w5).heap.size (w5) (w5.alloc (.cells #[.bool b5, .slice A5 k5 c5, .slice A6 k6 c6] 43)) := by (repeat (first | assumption | exact Below.refl _ _ | refine Below.drew ?_ | refine Below.setCell ?_ (by simp <;> omega) _ | refine Below.alloc ?_ (by simp <;> omega) _))
  have B_8 := Lib.hid (B_7.out.trans (hb.mono B_7.out.size))
  have F_8 := Lib.hid (F_7.out.below hb (Nat.le_refl _))
  have V_8 := Lib.hid (V_7.out.below (fun _ _ _ _ h => h.below hb (Nat.le_refl _)) hb (Nat.le_refl _))
  have Q5_8 := Lib.hid (Q5.out.below hb (Nat.le_refl _))
  clear hb B_7 F_7 V_7 Q5
  have X := Lib.hid (Blk.mk w5 w5.heap.size rfl [.bool b5, .slice A5 k5 c5, .slice A6 k6 c6] 43)
  have hb : Below ((w5.alloc (.cells #[.bool b5, .slice A5 k5 c5, .slice A6 k6 c6] 43))).heap.size ((w5.alloc (.cells #[.bool b5, .slice A5 k5 c5, .slice A6 k6 c6] 43))) ((w5.alloc (.cells #[.bool b5, .slice A5 k5 c5, .slice A6 k6 c6] 43)).alloc (.cells #[.int .i64 1, .int .i64 0] 3)) := by (repeat (first | assumption | exact Below.refl _ _ | refine Below.drew ?_ | refine Below.setCell ?_ (by simp <;> omega) _ | refine Below.alloc ?_ (by simp <;> omega) _))
  have B_9 := Lib.hid (B_8.out.trans (hb.mono B_8.out.size))
  have F_9 := Lib.hid (F_8.out.below hb (Nat.le_refl _))
  have V_9 := Lib.hid (V_8.out.below (fun _ _ _ _ h => h.below hb (Nat.le_refl _)) hb (Nat.le_refl _))
  have Q5_9 := Lib.hid (Q5_8.out.below hb (Nat.le_refl _))
  have X_9 := Lib.hid (X.out.below hb X.out.lt)
  clear hb B_8 F_8 V_8 Q5_8 X
  have his : IsInts .i64 ((w5.alloc (.cells #[.bool b5, .slice A5 k5 c5, .slice A6 k6 c6] 43)).alloc (.cells #[.int .i64 1, .int .i64 0] 3)) (.slice (some ⟨w5.heap.size + 1, 0, none⟩) 2 2) (([1, 0] : List Nat).map Int.ofNat) := (Blk.mk (w5.alloc (.cells #[.bool b5, .slice A5 k5 c5, .slice A6 k6 c6] 43)) (w5.heap.size + 1) (by simp) (vs .i64 [1, 0]) 3).ints (n := 2) rfl (by decide)
  have I := Lib.hid his
  clear his
  go_wp2_with fail
  refine (turns_ok _ _ [1, 3, 2, 9] [1, 0] 2 [7, 1] _ V_9.out I.out rfl (by decide) rfl vshort (by decide +kernel)).mono ?_
  rintro e w8 ⟨r, rfl, hr, hb⟩
  obtain ⟨gT, oT, cT, rfl⟩ := hr.shape (by decide)
  have B_10 := Lib.hid (B_9.out.trans (hb.mono B_9.out.size))
  have F_10 := Lib.hid (F_9.out.below hb (Nat.le_refl _))
  have V_10 := Lib.hid (V_9.out.below (fun _ _ _ _ h => h.below hb (Nat.le_refl _)) hb (Nat.le_refl _))
  have Q5_10 := Lib.hid (Q5_9.out.below hb (Nat.le_refl _))
  have X_10 := Lib.hid (X_9.out.below hb X_9.out.lt)
  have I_10 := Lib.hid (I.out.below hb (Nat.le_refl _))
  clear hb B_9 F_9 V_9 Q5_9 X_9 I
  clear I_10
  have T := Lib.hid hr
  clear hr
  have hb : Below (w8).heap.size (w8) (w8.alloc (.cells #[.int .i64 1, .int .i64 1] 3)) := by (repeat (first | assumption | exact Below.refl _ _ | refine Below.drew ?_ | refine Below.setCell ?_ (by simp <;> omega) _ | refine Below.alloc ?_ (by simp <;> omega) _))
  have B_11 := Lib.hid (B_10.out.trans (hb.mono B_10.out.size))
  have F_11 := Lib.hid (F_10.out.below hb (Nat.le_refl _))
  have V_11 := Lib.hid (V_10.out.below (fun _ _ _ _ h => h.below hb (Nat.le_refl _)) hb (Nat.le_refl _))
  have Q5_11 := Lib.hid (Q5_10.out.below hb (Nat.le_refl _))
  have X_11 := Lib.hid (X_10.out.below hb X_10.out.lt)
  have T_11 := Lib.hid (T.out.below (fun _ _ _ _ h => h.below hb (Nat.le_refl _)) hb (Nat.le_refl _))
  clear hb B_10 F_10 V_10 Q5_10 X_10 T
  have his : IsInts .i64 (w8.alloc (.cells #[.int .i64 1, .int .i64 1] 3)) (.slice (some ⟨w8.heap.size, 0, none⟩) 2 2) (([1, 1] : List Nat).map Int.ofNat) := (Blk.mk w8 (w8.heap.size) (by simp) (vs .i64 [1, 1]) 3).ints (n := 2) rfl (by decide)
  have I := Lib.hid his
  clear his
  go_wp2_with fail
  refine (turns_dup _ _ [1, 3, 2, 9] [1, 1] 2 _ V_11.out I.out rfl (by decide) rfl vshort (by decide +kernel)).mono ?_
  rintro e w10 ⟨rfl, hb⟩
  have B_12 := Lib.hid (B_11.out.trans (hb.mono B_11.out.size))
  have F_12 := Lib.hid (F_11.out.below hb (Nat.le_refl _))
  have V_12 := Lib.hid (V_11.out.below (fun _ _ _ _ h => h.below hb (Nat.le_refl _)) hb (Nat.le_refl _))
  have Q5_12 := Lib.hid (Q5_11.out.below hb (Nat.le_refl _))
  have X_12 := Lib.hid (X_11.out.below hb X_11.out.lt)
  have T_12 := Lib.hid (T_11.out.below (fun _ _ _ _ h => h.below hb (Nat.le_refl _)) hb (Nat.le_refl _))
  have I_12 := Lib.hid (I.out.below hb (Nat.le_refl _))
  clear hb B_11 F_11 V_11 Q5_11 X_11 T_11 I
  clear I_12
  go_wp2_with fail
  refine (shares_bad _ 3 4 _ (by rfl)).mono ?_
  rintro e w11 ⟨rfl, rfl⟩
  go_wp2_with fail
  refine (shares_bad _ 0 0 _ (by rfl)).mono ?_
  rintro e w11 ⟨rfl, rfl⟩
  go_wp2_with fail
  refine (worth_bad _ _ 4 0 4 0 _ (Or.inr (by decide))).mono ?_
  rintro e w12 ⟨rfl, hb⟩
  have B_13 := Lib.hid (B_12.out.trans (hb.mono B_12.out.size))
  have F_13 := Lib.hid (F_12.out.below hb (Nat.le_refl _))
  have V_13 := Lib.hid (V_12.out.below (fun _ _ _ _ h => h.below hb (Nat.le_refl _)) hb (Nat.le_refl _))
  have Q5_13 := Lib.hid (Q5_12.out.below hb (Nat.le_refl _))
  have X_13 := Lib.hid (X_12.out.below hb X_12.out.lt)
  have T_13 := Lib.hid (T_12.out.below (fun _ _ _ _ h => h.below hb (Nat.le_refl _)) hb (Nat.le_refl _))
  clear hb B_12 F_12 V_12 Q5_12 X_12 T_12
  have hb : Below (w12).heap.size (w12) (w12.alloc (.cells #[.bool false, .slice none 0 0, .slice none 0 0] 43)) := by (repeat (first | assumption | exact Below.refl _ _ | refine Below.drew ?_ | refine Below.setCell ?_ (by simp <;> omega) _ | refine Below.alloc ?_ (by simp <;> omega) _))
  have B_14 := Lib.hid (B_13.out.trans (hb.mono B_13.out.size))
  have F_14 := Lib.hid (F_13.out.below hb (Nat.le_refl _))
  have V_14 := Lib.hid (V_13.out.below (fun _ _ _ _ h => h.below hb (Nat.le_refl _)) hb (Nat.le_refl _))
  have Q5_14 := Lib.hid (Q5_13.out.below hb (Nat.le_refl _))
  have X_14 := Lib.hid (X_13.out.below hb X_13.out.lt)
  have T_14 := Lib.hid (T_13.out.below (fun _ _ _ _ h => h.below hb (Nat.le_refl _)) hb (Nat.le_refl _))
  clear hb B_13 F_13 V_13 Q5_13 X_13 T_13
  go_wp2_with fail
  refine (h5.out _).mono ?_
  rintro e w14 ⟨b7, A7, k7, c7, rfl, q, hb⟩
  have B_15 := Lib.hid (B_14.out.trans (hb.mono B_14.out.size))
  have F_15 := Lib.hid (F_14.out.below hb (Nat.le_refl _))
  have V_15 := Lib.hid (V_14.out.below (fun _ _ _ _ h => h.below hb (Nat.le_refl _)) hb (Nat.le_refl _))
  have Q5_15 := Lib.hid (Q5_14.out.below hb (Nat.le_refl _))
  have X_15 := Lib.hid (X_14.out.below hb X_14.out.lt)
  have T_15 := Lib.hid (T_14.out.below (fun _ _ _ _ h => h.below hb (Nat.le_refl _)) hb (Nat.le_refl _))
  clear hb B_14 F_14 V_14 Q5_14 X_14 T_14
  have Q7 := Lib.hid q
  clear q
  go_wp2_with fail
  refine (h6.out _).mono ?_
  rintro e w15 ⟨b8, A8, k8, c8, rfl, q, hb⟩
  have B_16 := Lib.hid (B_15.out.trans (hb.mono B_15.out.size))
  have F_16 := Lib.hid (F_15.out.below hb (Nat.le_refl _))
  have V_16 := Lib.hid (V_15.out.below (fun _ _ _ _ h => h.below hb (Nat.le_refl _)) hb (Nat.le_refl _))
  have Q5_16 := Lib.hid (Q5_15.out.below hb (Nat.le_refl _))
  have X_16 := Lib.hid (X_15.out.below hb X_15.out.lt)
  have T_16 := Lib.hid (T_15.out.below (fun _ _ _ _ h => h.below hb (Nat.le_refl _)) hb (Nat.le_refl _))
  have Q7_16 := Lib.hid (Q7.out.below hb (Nat.le_refl _))
  clear hb B_15 F_15 V_15 Q5_15 X_15 T_15 Q7
  have Q8 := Lib.hid q
  clear q
  go_wp2_with fail
  have hb : Below (w15).heap.size (w15) (w15.alloc (.cells (flat [(b7, .slice A7 k7 c7, .slice none 0 0), (b8, .slice A8 k8 c8, .slice none 0 0)]).toArray 43)) := by (repeat (first | assumption | exact Below.refl _ _ | refine Below.drew ?_ | refine Below.setCell ?_ (by simp <;> omega) _ | refine Below.alloc ?_ (by simp <;> omega) _))
  have B_17 := Lib.hid (B_16.out.trans (hb.mono B_16.out.size))
  have F_17 := Lib.hid (F_16.out.below hb (Nat.le_refl _))
  have V_17 := Lib.hid (V_16.out.below (fun _ _ _ _ h => h.below hb (Nat.le_refl _)) hb (Nat.le_refl _))
  have Q5_17 := Lib.hid (Q5_16.out.below hb (Nat.le_refl _))
  have X_17 := Lib.hid (X_16.out.below hb X_16.out.lt)
  have T_17 := Lib.hid (T_16.out.below (fun _ _ _ _ h => h.below hb (Nat.le_refl _)) hb (Nat.le_refl _))
  have Q7_17 := Lib.hid (Q7_16.out.below hb (Nat.le_refl _))
  have Q8_17 := Lib.hid (Q8.out.below hb (Nat.le_refl _))
  clear hb B_16 F_16 V_16 Q5_16 X_16 T_16 Q7_16 Q8
  have R : Row3 QV (w15.alloc (.cells (flat [(b7, .slice A7 k7 c7, .slice none 0 0), (b8, .slice A8 k8 c8, .slice none 0 0)]).toArray 43)) (.slice (some ⟨w15.heap.size, 0, none⟩) 2 2) [5, 6] := (Blk.new w15 (flat [(b7, .slice A7 k7 c7, .slice none 0 0), (b8, .slice A8 k8 c8, .slice none 0 0)]) 43).row3 rfl rfl (by decide) (fun i t q ht hq => by
    rcases i with _ | _ | i
    · simp at ht hq; subst ht hq; exact Q7_17.out
    · simp at ht hq; subst ht hq; exact Q8_17.out
    · simp at ht)
  have Y1 := Lib.hid R
  clear R
  clear Q7_17
  clear Q8_17
  go_wp2_with fail
  refine (h7.out _).mono ?_
  rintro e w17 ⟨b9, A9, k9, c9, rfl, q, hb⟩
  have B_18 := Lib.hid (B_17.out.trans (hb.mono B_17.out.size))
  have F_18 := Lib.hid (F_17.out.below hb (Nat.le_refl _))
  have V_18 := Lib.hid (V_17.out.below (fun _ _ _ _ h => h.below hb (Nat.le_refl _)) hb (Nat.le_refl _))
  have Q5_18 := Lib.hid (Q5_17.out.below hb (Nat.le_refl _))
  have X_18 := Lib.hid (X_17.out.below hb X_17.out.lt)
  have T_18 := Lib.hid (T_17.out.below (fun _ _ _ _ h => h.below hb (Nat.le_refl _)) hb (Nat.le_refl _))
  have Y1_18 := Lib.hid (Y1.out.below (fun _ _ _ _ h => h.below hb (Nat.le_refl _)) hb (Nat.le_refl _))
  clear hb B_17 F_17 V_17 Q5_17 X_17 T_17 Y1
  have Q9 := Lib.hid q
  clear q
  go_wp2_with fail
  refine (h8.out _).mono ?_
  rintro e w18 ⟨b0, A0, k0, c0, rfl, q, hb⟩
  have B_19 := Lib.hid (B_18.out.trans (hb.mono B_18.out.size))
  have F_19 := Lib.hid (F_18.out.below hb (Nat.le_refl _))
  have V_19 := Lib.hid (V_18.out.below (fun _ _ _ _ h => h.below hb (Nat.le_refl _)) hb (Nat.le_refl _))
  have Q5_19 := Lib.hid (Q5_18.out.below hb (Nat.le_refl _))
  have X_19 := Lib.hid (X_18.out.below hb X_18.out.lt)
  have T_19 := Lib.hid (T_18.out.below (fun _ _ _ _ h => h.below hb (Nat.le_refl _)) hb (Nat.le_refl _))
  have Y1_19 := Lib.hid (Y1_18.out.below (fun _ _ _ _ h => h.below hb (Nat.le_refl _)) hb (Nat.le_refl _))
  have Q9_19 := Lib.hid (Q9.out.below hb (Nat.le_refl _))
  clear hb B_18 F_18 V_18 Q5_18 X_18 T_18 Y1_18 Q9
  have Q0 := Lib.hid q
  clear q
  go_wp2_with fail
  have hb : Below (w18).heap.size (w18) (w18.alloc (.cells (flat [(b9, .slice A9 k9 c9, .slice none 0 0), (b0, .slice A0 k0 c0, .slice none 0 0)]).toArray 43)) := by (repeat (first | assumption | exact Below.refl _ _ | refine Below.drew ?_ | refine Below.setCell ?_ (by simp <;> omega) _ | refine Below.alloc ?_ (by simp <;> omega) _))
  have B_20 := Lib.hid (B_19.out.trans (hb.mono B_19.out.size))
  have F_20 := Lib.hid (F_19.out.below hb (Nat.le_refl _))
  have V_20 := Lib.hid (V_19.out.below (fun _ _ _ _ h => h.below hb (Nat.le_refl _)) hb (Nat.le_refl _))
  have Q5_20 := Lib.hid (Q5_19.out.below hb (Nat.le_refl _))
  have X_20 := Lib.hid (X_19.out.below hb X_19.out.lt)
  have T_20 := Lib.hid (T_19.out.below (fun _ _ _ _ h => h.below hb (Nat.le_refl _)) hb (Nat.le_refl _))
  have Y1_20 := Lib.hid (Y1_19.out.below (fun _ _ _ _ h => h.below hb (Nat.le_refl _)) hb (Nat.le_refl _))
  have Q9_20 := Lib.hid (Q9_19.out.below hb (Nat.le_refl _))
  have Q0_20 := Lib.hid (Q0.out.below hb (Nat.le_refl _))
  clear hb B_19 F_19 V_19 Q5_19 X_19 T_19 Y1_19 Q9_19 Q0
  have R : Row3 QV (w18.alloc (.cells (flat [(b9, .slice A9 k9 c9, .slice none 0 0), (b0, .slice A0 k0 c0, .slice none 0 0)]).toArray 43)) (.slice (some ⟨w18.heap.size, 0, none⟩) 2 2) [7, 8] := (Blk.new w18 (flat [(b9, .slice A9 k9 c9, .slice none 0 0), (b0, .slice A0 k0 c0, .slice none 0 0)]) 43).row3 rfl rfl (by decide) (fun i t q ht hq => by
    rcases i with _ | _ | i
    · simp at ht hq; subst ht hq; exact Q9_20.out
    · simp at ht hq; subst ht hq; exact Q0_20.out
    · simp at ht)
  have Y2 := Lib.hid R
  clear R
  clear Q9_20
  clear Q0_20
  have hb : Below ((w18.alloc (.cells (flat [(b9, .slice A9 k9 c9, .slice none 0 0), (b0, .slice A0 k0 c0, .slice none 0 0)]).toArray 43))).heap.size ((w18.alloc (.cells (flat [(b9, .slice A9 k9 c9, .slice none 0 0), (b0, .slice A0 k0 c0, .slice none 0 0)]).toArray 43))) ((w18.alloc (.cells (flat [(b9, .slice A9 k9 c9, .slice none 0 0), (b0, .slice A0 k0 c0, .slice none 0 0)]).toArray 43)).alloc (.cells #[.bool true, .bool false] 4)) := by (repeat (first | assumption | exact Below.refl _ _ | refine Below.drew ?_ | refine Below.setCell ?_ (by simp <;> omega) _ | refine Below.alloc ?_ (by simp <;> omega) _))
  have B_21 := Lib.hid (B_20.out.trans (hb.mono B_20.out.size))
  have F_21 := Lib.hid (F_20.out.below hb (Nat.le_refl _))
  have V_21 := Lib.hid (V_20.out.below (fun _ _ _ _ h => h.below hb (Nat.le_refl _)) hb (Nat.le_refl _))
  have Q5_21 := Lib.hid (Q5_20.out.below hb (Nat.le_refl _))
  have X_21 := Lib.hid (X_20.out.below hb X_20.out.lt)
  have T_21 := Lib.hid (T_20.out.below (fun _ _ _ _ h => h.below hb (Nat.le_refl _)) hb (Nat.le_refl _))
  have Y1_21 := Lib.hid (Y1_20.out.below (fun _ _ _ _ h => h.below hb (Nat.le_refl _)) hb (Nat.le_refl _))
  have Y2_21 := Lib.hid (Y2.out.below (fun _ _ _ _ h => h.below hb (Nat.le_refl _)) hb (Nat.le_refl _))
  clear hb B_20 F_20 V_20 Q5_20 X_20 T_20 Y1_20 Y2
  have hbs : IsBools ((w18.alloc (.cells (flat [(b9, .slice A9 k9 c9, .slice none 0 0), (b0, .slice A0 k0 c0, .slice none 0 0)]).toArray 43)).alloc (.cells #[.bool true, .bool false] 4)) (.slice (some ⟨w18.heap.size + 1, 0, none⟩) 2 2) [true, false] := ⟨_, _, rfl, Nat.le_refl _, fun _ => ⟨_, 0, rfl, by simp, fun i hi => by
    rw [Nat.zero_add, (Blk.mk (w18.alloc (.cells (flat [(b9, .slice A9 k9 c9, .slice none 0 0), (b0, .slice A0 k0 c0, .slice none 0 0)]).toArray 43)) (w18.heap.size + 1) (by simp) [.bool true, .bool false] 4).cell]
    rcases i with _ | _ | i <;> first | rfl | (exfalso; have h7 : i + 1 + 1 < 2 := hi; omega)⟩⟩
  have H := Lib.hid hbs
  clear hbs
  go_wp2_with fail
  refine (shMixed_any _ _ _ [5, 6] [7, 8] [true, false] _ Y1_21.out Y2_21.out H.out (by decide) (by decide) rfl rfl).mono ?_
  rintro e w21 ⟨r, rfl, hr, hb⟩
  rw [show mixR [5, 6] [7, 8] [true, false] = [5, 8] by decide +kernel] at hr
  obtain ⟨gM, oM, cM, rfl⟩ := hr.shape (by decide)
  have B_22 := Lib.hid (B_21.out.trans (hb.mono B_21.out.size))
  have F_22 := Lib.hid (F_21.out.below hb (Nat.le_refl _))
  have V_22 := Lib.hid (V_21.out.below (fun _ _ _ _ h => h.below hb (Nat.le_refl _)) hb (Nat.le_refl _))
  have Q5_22 := Lib.hid (Q5_21.out.below hb (Nat.le_refl _))
  have X_22 := Lib.hid (X_21.out.below hb X_21.out.lt)
  have T_22 := Lib.hid (T_21.out.below (fun _ _ _ _ h => h.below hb (Nat.le_refl _)) hb (Nat.le_refl _))
  have Y1_22 := Lib.hid (Y1_21.out.below (fun _ _ _ _ h => h.below hb (Nat.le_refl _)) hb (Nat.le_refl _))
  have Y2_22 := Lib.hid (Y2_21.out.below (fun _ _ _ _ h => h.below hb (Nat.le_refl _)) hb (Nat.le_refl _))
  have H_22 := Lib.hid (H.out.below hb (Nat.le_refl _))
  clear hb B_21 F_21 V_21 Q5_21 X_21 T_21 Y1_21 Y2_21 H
  clear Y1_22
  clear Y2_22
  clear H_22
  have M := Lib.hid hr
  clear hr
  go_wp2_with fail
  refine (shMixed_bad none none none 0 0 0 0 0 0 _ (Or.inl (by decide))).mono ?_
  rintro e w22 ⟨rfl, rfl⟩
  go_wp2_with fail
  refine (known_any _ F_22.out).mono ?_
  rintro e w23 ⟨rfl, hb⟩
  have B_23 := Lib.hid (B_22.out.trans (hb.mono B_22.out.size))
  have F_23 := Lib.hid (F_22.out.below hb (Nat.le_refl _))
  have V_23 := Lib.hid (V_22.out.below (fun _ _ _ _ h => h.below hb (Nat.le_refl _)) hb (Nat.le_refl _))
  have Q5_23 := Lib.hid (Q5_22.out.below hb (Nat.le_refl _))
  have X_23 := Lib.hid (X_22.out.below hb X_22.out.lt)
  have T_23 := Lib.hid (T_22.out.below (fun _ _ _ _ h => h.below hb (Nat.le_refl _)) hb (Nat.le_refl _))
  have M_23 := Lib.hid (M.out.below (fun _ _ _ _ h => h.below hb (Nat.le_refl _)) hb (Nat.le_refl _))
  clear hb B_22 F_22 V_22 Q5_22 X_22 T_22 M
  have xa := X_23.out.c0
  have xb := X_23.out.c1
  have xc := X_23.out.c2
  go_wp2_with fail
  refine (isN 2 _ _ _ _ _ Q5_23.out (by decide +kernel) (by decide +kernel) (by decide)).mono ?_
  rintro e w24 ⟨rfl, hb⟩
  clear xa xb xc
  have B_24 := Lib.hid (B_23.out.trans (hb.mono B_23.out.size))
  have F_24 := Lib.hid (F_23.out.below hb (Nat.le_refl _))
  have V_24 := Lib.hid (V_23.out.below (fun _ _ _ _ h => h.below hb (Nat.le_refl _)) hb (Nat.le_refl _))
  have Q5_24 := Lib.hid (Q5_23.out.below hb (Nat.le_refl _))
  have X_24 := Lib.hid (X_23.out.below hb X_23.out.lt)
  have T_24 := Lib.hid (T_23.out.below (fun _ _ _ _ h => h.below hb (Nat.le_refl _)) hb (Nat.le_refl _))
  have M_24 := Lib.hid (M_23.out.below (fun _ _ _ _ h => h.below hb (Nat.le_refl _)) hb (Nat.le_refl _))
  clear hb B_23 F_23 V_23 Q5_23 X_23 T_23 M_23
  clear X_24
  clear Q5_24
  obtain ⟨xx, xu, xv, xa, xb, xc, hq⟩ := T_24.out.get (i := 0) (by decide)
  simp only [Nat.zero_mul, Nat.add_zero] at xa xb xc
  have HQ := Lib.hid hq
  clear hq
  go_wp2_with fail
  refine (isN 7 _ _ _ _ _ HQ.out (by decide +kernel) (by decide +kernel) (by decide)).mono ?_
  rintro e w25 ⟨rfl, hb⟩
  clear xa xb xc HQ
  have B_25 := Lib.hid (B_24.out.trans (hb.mono B_24.out.size))
  have F_25 := Lib.hid (F_24.out.below hb (Nat.le_refl _))
  have V_25 := Lib.hid (V_24.out.below (fun _ _ _ _ h => h.below hb (Nat.le_refl _)) hb (Nat.le_refl _))
  have T_25 := Lib.hid (T_24.out.below (fun _ _ _ _ h => h.below hb (Nat.le_refl _)) hb (Nat.le_refl _))
  have M_25 := Lib.hid (M_24.out.below (fun _ _ _ _ h => h.below hb (Nat.le_refl _)) hb (Nat.le_refl _))
  clear hb B_24 F_24 V_24 T_24 M_24
  obtain ⟨xx, xu, xv, xa, xb, xc, hq⟩ := T_25.out.get (i := 1) (by decide)
  simp only [Nat.one_mul] at xa xb xc
  have HQ := Lib.hid hq
  clear hq
  go_wp2_with fail
  refine (isN 1 _ _ _ _ _ HQ.out (by decide +kernel) (by decide +kernel) (by decide)).mono ?_
  rintro e w26 ⟨rfl, hb⟩
  clear xa xb xc HQ
  have B_26 := Lib.hid (B_25.out.trans (hb.mono B_25.out.size))
  have F_26 := Lib.hid (F_25.out.below hb (Nat.le_refl _))
  have V_26 := Lib.hid (V_25.out.below (fun _ _ _ _ h => h.below hb (Nat.le_refl _)) hb (Nat.le_refl _))
  have T_26 := Lib.hid (T_25.out.below (fun _ _ _ _ h => h.below hb (Nat.le_refl _)) hb (Nat.le_refl _))
  have M_26 := Lib.hid (M_25.out.below (fun _ _ _ _ h => h.below hb (Nat.le_refl _)) hb (Nat.le_refl _))
  clear hb B_25 F_25 V_25 T_25 M_25
  obtain ⟨xx, xu, xv, xa, xb, xc, hq⟩ := M_26.out.get (i := 0) (by decide)
  simp only [Nat.zero_mul, Nat.add_zero] at xa xb xc
  have HQ := Lib.hid hq
  clear hq
  go_wp2_with fail
  refine (isN 5 _ _ _ _ _ HQ.out (by decide +kernel) (by decide +kernel) (by decide)).mono ?_
  rintro e w27 ⟨rfl, hb⟩
  clear xa xb xc HQ
  have B_27 := Lib.hid (B_26.out.trans (hb.mono B_26.out.size))
  have F_27 := Lib.hid (F_26.out.below hb (Nat.le_refl _))
  have V_27 := Lib.hid (V_26.out.below (fun _ _ _ _ h => h.below hb (Nat.le_refl _)) hb (Nat.le_refl _))
  have T_27 := Lib.hid (T_26.out.below (fun _ _ _ _ h => h.below hb (Nat.le_refl _)) hb (Nat.le_refl _))
  have M_27 := Lib.hid (M_26.out.below (fun _ _ _ _ h => h.below hb (Nat.le_refl _)) hb (Nat.le_refl _))
  clear hb B_26 F_26 V_26 T_26 M_26
  obtain ⟨xx, xu, xv, xa, xb, xc, hq⟩ := M_27.out.get (i := 1) (by decide)
  simp only [Nat.one_mul] at xa xb xc
  have HQ := Lib.hid hq
  clear hq
  go_wp2_with fail
  refine (isN 8 _ _ _ _ _ HQ.out (by decide +kernel) (by decide +kernel) (by decide)).mono ?_
  rintro e w28 ⟨rfl, hb⟩
  clear xa xb xc HQ
  have B_28 := Lib.hid (B_27.out.trans (hb.mono B_27.out.size))
  have F_28 := Lib.hid (F_27.out.below hb (Nat.le_refl _))
  have V_28 := Lib.hid (V_27.out.below (fun _ _ _ _ h => h.below hb (Nat.le_refl _)) hb (Nat.le_refl _))
  have T_28 := Lib.hid (T_27.out.below (fun _ _ _ _ h => h.below hb (Nat.le_refl _)) hb (Nat.le_refl _))
  have M_28 := Lib.hid (M_27.out.below (fun _ _ _ _ h => h.below hb (Nat.le_refl _)) hb (Nat.le_refl _))
  clear hb B_27 F_27 V_27 T_27 M_27
  go_wp2_with fail
  go_ret
  exact ⟨rfl, B_28.out⟩

end Go.Proofs.YtjfkniknmkcdcaaDoor
