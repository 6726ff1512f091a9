/- The walks of share's Shares, of the law's known. (printed by wip/gen/kn.py) -/
import Derived.Test.YtjfkniknmkcdcaaGreatDoorMSd
import Derived.Test.YtjfkniknmkcdcaaGreatDoorMHe
namespace Go.Proofs.YtjfkniknmkcdcaaGreatDoor
open Go.RowKit K Nu


set_option maxRecDepth 100000 in
set_option maxHeartbeats 8000000 in
theorem shares_ok (x : Value) (v : List Rat) (n : Nat) (w : World) (h : Row3 QV w x v) (hc : cols v.length = n) (hn : n ≠ 0) (hF : Fac w) (fit : Fit v n) :
    Calls Tryz.prog 7 #[x] w fun e w' => ∃ r, e = .returned (.tuple #[r, .int .i64 0]) ∧ Row3 QV w' r (shs v n) ∧ Below w.heap.size w w' := by
  have h2 := cols_le v.length
  rw [hc] at h2
  have hl := h2.2 hn
  obtain ⟨A, c, rfl, -, -, -⟩ := h.at
  have hC := columns_any A v.length c w
  rw [hc] at hC
  have hS := Lib.hid (shares_any A c n v w (by rw [← hl]; exact h) hl (by omega) h2.1 hF fit)
  rw [hl] at hC ⊢
  have HC := Lib.hid hC
  have t1 : ((n : Int) == 0) = false := beq_eq_false_iff_ne.2 (by omega)
  clear h2 hC hl h hF fit hc
  go_enter Tryz.func7, Tryz.ntmps7
  go_wp2_with fail
  refine HC.out.mono ?_
  rintro e w1 ⟨rfl, rfl⟩
  go_wp2_with fail
  refine hS.out.mono ?_
  rintro e w1 ⟨r, rfl, hr, hb⟩
  obtain ⟨A2, c2, rfl, -, -, -⟩ := hr.at
  go_wp2_with fail
  go_ret2
  exact ⟨_, rfl, hr, hb⟩
theorem shares_bad (A : Option Addr) (L c : Nat) (w : World) (hc : cols L = 0) :
    Calls Tryz.prog 7 #[.slice A L c] w fun e w' => e = .returned (.tuple #[.slice none 0 0, .int .i64 5]) ∧ w = w' := by
  have hC := columns_any A L c w
  rw [hc] at hC
  have HC := Lib.hid hC
  clear hC hc
  go_enter Tryz.func7, Tryz.ntmps7
  go_wp2_with fail
  refine HC.out.mono ?_
  rintro e w1 ⟨rfl, rfl⟩
  go_wp2_with fail
  go_ret2
  exact ⟨rfl, rfl⟩

/-- Short, as a test -/
def shortB (q : Rat) : Bool := decide (-2147483648 < q.num) && decide (q.num < 2147483648) && decide (q.den < 2147483648)
theorem shortB_iff {q : Rat} (h : shortB q = true) : Short q := by
  simp only [shortB, Bool.and_eq_true, decide_eq_true_eq] at h
  exact ⟨h.1.1, h.1.2, h.2⟩
def fitB (v : List Rat) (n : Nat) : Bool :=
  v.all shortB && ((List.range (2 ^ n)).all fun s => (List.range n).all fun c => s.testBit c || (shortB (v.getD (s ||| 2 ^ c) 0 - v.getD s 0) && shortB (wt n (ones s) * (v.getD (s ||| 2 ^ c) 0 - v.getD s 0)))) && ((List.range (2 ^ n + 1)).all fun s => (List.range n).all fun c => shortB (acc v n c s))
theorem fitB_fit {v : List Rat} {n : Nat} (h : fitB v n = true) : Fit v n := by
  simp only [fitB, Bool.and_eq_true, List.all_eq_true, List.mem_range, Bool.or_eq_true] at h
  obtain ⟨⟨h1, h2⟩, h3⟩ := h
  refine ⟨fun x hx => shortB_iff (h1 x hx), fun s c hs hc hb => ?_, fun s c hs hc => shortB_iff (h3 s (by omega) c hc)⟩
  rcases h2 s hs c hc with h4 | h4
  · rw [hb] at h4; cases h4
  · exact ⟨shortB_iff h4.1, shortB_iff h4.2⟩
theorem known_fit : Fit [0, 1, 1, 4] 2 := fitB_fit (by decide +kernel)
theorem known_shs : shs [0, 1, 1, 4] 2 = [2, 2] := by decide +kernel

theorem ofQ (n : Int) (w : World) (h0 : -9223372036854775808 ≤ n) (h1 : n ≤ 9223372036854775807) {q : Rat} (hq : ((n : Int) : Rat) = q) :
    Calls Tryz.prog 28 #[.int .i64 n] w fun e w' => ∃ b A k c, e = .returned (.agg #[.bool b, .slice A k c, .slice none 0 0]) ∧ QV w' b (.slice A k c) (.slice none 0 0) q ∧ Below w.heap.size w w' :=
  (frOf_any n w h0 h1).mono fun _ _ ⟨vn, he, hv, hb⟩ => by
    obtain ⟨A, k, c, rfl⟩ := hv.slice
    subst hq
    exact ⟨_, A, k, c, he, ⟨⟨by rw [Rat.num_intCast]; exact hv, by rw [Rat.num_intCast]⟩, by rw [Rat.den_intCast]; exact NatV.nil _⟩, hb⟩
theorem is2 (b : Bool) (v1 v2 : Value) (w : World) (h : QV w b v1 v2 2) :
    Calls Tryz.prog 29 #[.agg #[.bool b, v1, v2], .int .i64 2, .int .i64 1] w fun e w' => e = .returned (.bool true) ∧ Below w.heap.size w w' := by
  have := is_any b v1 v2 2 2 1 w h (shortB_iff (by decide)) (shortB_iff (by decide)) (by decide) (by decide) (by decide) (by decide)
  rw [show decide ((2 : Rat) = mkRat 2 1) = true by decide +kernel] at this
  exact this

set_option maxRecDepth 100000 in
set_option maxHeartbeats 8000000 in
theorem known_any (w : World) (hF : Fac w) :
    Calls Tryz.prog 11 #[] w fun e w' => e = .returned (.bool true) ∧ Below w.heap.size w w' := by
  have h0 := Lib.hid (fun wd => ofQ 0 wd (by decide) (by decide) (q := 0) rfl)
  have h1 := Lib.hid (fun wd => ofQ 1 wd (by decide) (by decide) (q := 1) rfl)
  have h4 := Lib.hid (fun wd => ofQ 4 wd (by decide) (by decide) (q := 4) rfl)
  have HF := Lib.hid hF
  clear hF
  go_enter Tryz.func11, Tryz.ntmps11
  go_wp2_with fail
  refine (h0.out _).mono ?_
  rintro e w1 ⟨b1, A1, k1, c1, rfl, q1, hb1⟩
  have Q1 := Lib.hid q1
  have B1 := Lib.hid hb1
  clear q1 hb1
  go_wp2_with fail
  refine (h1.out _).mono ?_
  rintro e w2 ⟨b2, A2, k2, c2, rfl, q2, hb2⟩
  have Q2 := Lib.hid q2
  have B2 := Lib.hid (B1.out.trans (hb2.mono B1.out.size))
  have Q1_2 := Lib.hid (Q1.out.below hb2 (Nat.le_refl _))
  clear q2 hb2
  go_wp2_with fail
  refine (h1.out _).mono ?_
  rintro e w3 ⟨b3, A3, k3, c3, rfl, q3, hb3⟩
  have Q3 := Lib.hid q3
  have B3 := Lib.hid (B2.out.trans (hb3.mono B2.out.size))
  have Q1_3 := Lib.hid (Q1_2.out.below hb3 (Nat.le_refl _))
  have Q2_3 := Lib.hid (Q2.out.below hb3 (Nat.le_refl _))
  clear q3 hb3
  go_wp2_with fail
  refine (h4.out _).mono ?_
  rintro e w4 ⟨b4, A4, k4, c4, rfl, q4, hb4⟩
  have Q4 := Lib.hid q4
  have B4 := Lib.hid (B3.out.trans (hb4.mono B3.out.size))
  have Q1_4 := Lib.hid (Q1_3.out.below hb4 (Nat.le_refl _))
  have Q2_4 := Lib.hid (Q2_3.out.below hb4 (Nat.le_refl _))
  have Q3_4 := Lib.hid (Q3.out.below hb4 (Nat.le_refl _))
  clear q4 hb4
  go_wp2_with fail
  have P := Blk.new w4 (flat [(b1, .slice A1 k1 c1, .slice none 0 0), (b2, .slice A2 k2 c2, .slice none 0 0), (b3, .slice A3 k3 c3, .slice none 0 0), (b4, .slice A4 k4 c4, .slice none 0 0)]) 40
  have R : Row3 QV (w4.alloc (.cells (flat [(b1, .slice A1 k1 c1, .slice none 0 0), (b2, .slice A2 k2 c2, .slice none 0 0), (b3, .slice A3 k3 c3, .slice none 0 0), (b4, .slice A4 k4 c4, .slice none 0 0)]).toArray 40)) (.slice (some ⟨w4.heap.size, 0, none⟩) 4 4) [0, 1, 1, 4] := P.row3 rfl rfl (by decide) (fun i t q ht hq => by
    rcases i with _ | _ | _ | _ | i
    · simp at ht hq; subst ht hq; exact Q1_4.out.alloc _
    · simp at ht hq; subst ht hq; exact Q2_4.out.alloc _
    · simp at ht hq; subst ht hq; exact Q3_4.out.alloc _
    · simp at ht hq; subst ht hq; exact Q4.out.alloc _
    · simp at ht)
  have BA := Lib.hid (B4.out.alloc B4.out.size (.cells (flat [(b1, .slice A1 k1 c1, .slice none 0 0), (b2, .slice A2 k2 c2, .slice none 0 0), (b3, .slice A3 k3 c3, .slice none 0 0), (b4, .slice A4 k4 c4, .slice none 0 0)]).toArray 40))
  have hS := shares_ok _ _ 2 _ R rfl (by decide) (HF.out.below BA.out (Nat.le_refl _)) known_fit
  rw [known_shs] at hS
  clear P R
  refine hS.mono ?_
  rintro e w5 ⟨r, rfl, hr, hb5⟩
  obtain ⟨A5, c5, rfl, hc5, -, hat⟩ := hr.at
  have B5 := Lib.hid (BA.out.trans (hb5.mono BA.out.size))
  obtain ⟨g, off, x1, u1, u2, rfl, hg, y0, y1, y2, hQ1⟩ := hat 0 (by decide)
  obtain ⟨g', off', x2, u3, u4, ev, -, y3, y4, y5, hQ2⟩ := hat 1 (by decide)
  injection ev with ev
  injection ev with ev1 ev2
  subst ev1 ev2
  simp only [Nat.zero_mul, Nat.one_mul, Nat.add_zero] at y0 y1 y2 y3 y4 y5
  have hI1 := Lib.hid (is2 _ _ _ _ hQ1)
  have hI2 := Lib.hid (fun (wd : World) (hb : Below w5.heap.size w5 wd) => is2 _ _ _ wd (hQ2.below hb (Nat.le_refl _)))
  clear hS hr hb5 hat hQ1 hQ2
  go_wp2_with fail
  refine hI1.out.mono ?_
  rintro e w6 ⟨rfl, hb6⟩
  have z3 := (hb6.cell (p := ⟨g, off + 3, none⟩) hg).trans y3
  have z4 := (hb6.cell (p := ⟨g, off + 3 + 1, none⟩) hg).trans y4
  have z5 := (hb6.cell (p := ⟨g, off + 3 + 2, none⟩) hg).trans y5
  go_wp2_with fail
  refine (hI2.out _ hb6).mono ?_
  rintro e w7 ⟨rfl, hb7⟩
  go_wp2_with fail
  go_ret
  have B6 := B5.out.trans (hb6.mono B5.out.size)
  exact ⟨rfl, B6.trans (hb7.mono B6.size)⟩

end Go.Proofs.YtjfkniknmkcdcaaGreatDoor
