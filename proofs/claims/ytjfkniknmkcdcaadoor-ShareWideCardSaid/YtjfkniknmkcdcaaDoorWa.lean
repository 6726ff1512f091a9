/- The walks of whole: From, Of, Small, Sign, Abs, Neg. -/
import Derived.Test.YtjfkniknmkcdcaaDoorNj
import Derived.Deep.RegionHeld3
namespace Go.Proofs.YtjfkniknmkcdcaaDoor
open Go.RowKit K Nu

/-- a whole number: its sign and its size -/
def IntV (w : World) (b : Bool) (v : Value) (z : Int) : Prop := NatV w v z.natAbs ∧ b = decide (z < 0)
theorem IntV.below {B : Nat} {w w' : World} {b : Bool} {v : Value} {z : Int} (h : IntV w b v z) (hb : Below B w w') (hB : w.heap.size ≤ B) : IntV w' b v z := ⟨h.1.below hb hB, h.2⟩
def mkz (neg : Bool) (n : Nat) : Int := if neg then -(n : Int) else n
theorem mkz_abs (neg : Bool) (n : Nat) : (mkz neg n).natAbs = n := by cases neg <;> simp [mkz]
theorem mkz_neg (neg : Bool) (n : Nat) : decide (mkz neg n < 0) = (neg && decide (n ≠ 0)) := by
  cases neg
  · simp [mkz]
  · by_cases h : n = 0
    · subst h; rfl
    · simp only [mkz, if_true, Bool.true_and]
      rw [decide_eq_true (by omega), decide_eq_true h]
theorem mkz_of {z : Int} : mkz (decide (z < 0)) z.natAbs = z := by
  unfold mkz
  by_cases h : z < 0
  · rw [if_pos (by simpa using h)]; omega
  · rw [if_neg (by simpa using h)]; omega

set_option maxRecDepth 100000 in
set_option maxHeartbeats 1000000 in
theorem from_any (neg : Bool) (v : Value) (n : Nat) (w : World) (h : NatV w v n) (hsz : bl n ≤ 4611686018427387904) :
    Calls Tryd.prog 49 #[.bool neg, .agg #[v]] w fun e w' => e = .returned (.agg #[.bool (neg && decide (n ≠ 0)), v]) ∧ Below w.heap.size w w' := by
  obtain ⟨A, k, c, rfl⟩ := h.slice
  have hgt : decide (0 < bl n) = !decide (n = 0) := by
    by_cases h0 : n = 0
    · subst h0; simp [bl_zero]
    · have := bl_pos h0
      rw [decide_eq_true (by omega), decide_eq_false h0]; rfl
  have hB := Lib.hid (fun (wd : World) (hd : NatV wd (.slice A k c) n) => bits_any _ n wd hd hsz)
  go_enter Tryd.func49, Tryd.ntmps49
  cases neg with
  | false =>
    go_wp2_with fail
    go_region
    all_goals go_wp2
    all_goals
      refine bodyPost_ret (v := .agg #[.bool false, .slice A k c]) (by simp [results, Tryd.results49, go_sem]) rfl ?_
      exact ⟨rfl, by repeat (first | exact box2 | refine Below.setCell ?_ (by simp <;> omega) _ | refine Below.drew ?_)⟩
  | true =>
    have q1 := Lib.hid ((Blk.mk w _ rfl [.slice A k c] 39).alloc (.cells #[.bool false, .slice none 0 0] 41)).drew
    have q2 := Lib.hid (Blk.mk (w.alloc (.cells #[.slice A k c] 39)) (w.heap.size + 1) (by simp) [.bool false, .slice none 0 0] 41).drew
    have hbx := Lib.hid (box2 (w := w) (x := #[.slice A k c]) (y := #[.bool false, .slice none 0 0]) (S := 39) (T := 41)).drew
    go_upto_region 1 with fail
    go_region_held3 (fun w' => w'.cell? ⟨w.heap.size, 0, none⟩ = some (.slice A k c)) (go_keep) ((go_at_call 25; refine (hB.out _ ?hs).mono ?_; (case hs => exact h.below (box2.drew) (Nat.le_refl _)); rintro e w2 ⟨rfl, hb2⟩; have c1 := (q1.out.below hb2 q1.out.lt).one; have c2 : w2.cell? ⟨w.heap.size + 1, 0, none⟩ = some (.bool false) := (q2.out.below hb2 q2.out.lt).cell 0; have c3 : w2.cell? ⟨w.heap.size + 1, 1, none⟩ = some (.slice none 0 0) := (q2.out.below hb2 q2.out.lt).cell 1; have f2 := (q2.out.below hb2 q2.out.lt).frozen 0; have f3 := (q2.out.below hb2 q2.out.lt).frozen 1; have hb3 := hbx.out.trans (hb2.mono hbx.out.size); clear hb2))
    all_goals go_wp2
    all_goals
      refine bodyPost_ret (v := .agg #[.bool (decide (n ≠ 0)), .slice A k c]) (by simp [results, Tryd.results49, go_sem, c2, c3]) rfl ?_
      exact ⟨rfl, by repeat (first | exact hb3 | refine Below.setCell ?_ (by simp <;> omega) _ | refine Below.drew ?_)⟩

set_option maxRecDepth 100000 in
set_option maxHeartbeats 1000000 in
theorem whOf_any (n : Int) (w : World) (h0 : -9223372036854775808 ≤ n) (h1 : n ≤ 9223372036854775807) :
    Calls Tryd.prog 42 #[.int .i64 n] w fun e w' => ∃ v, e = .returned (.agg #[.bool (decide (n < 0)), v]) ∧ NatV w' v n.natAbs ∧ Below w.heap.size w w' := by
  have hO := Lib.hid (fun wd => of_any n.natAbs wd (by omega))
  have hbl : bl n.natAbs ≤ 64 := bl_le (Nat.lt_of_lt_of_le (show n.natAbs < 18446744073709551616 by omega) (by decide))
  have hF := Lib.hid (fun neg v (wd : World) (h : NatV wd v n.natAbs) => from_any neg v n.natAbs wd h (by omega))
  have hq := Lib.hid (Blk.mk w _ rfl [.bool false, .slice none 0 0] 41)
  have hb0 : Below w.heap.size w (w.alloc (.cells #[.bool false, .slice none 0 0] 41)) := (Below.refl _ _).alloc (Nat.le_refl _) _
  have HB0 := Lib.hid hb0
  clear hb0
  by_cases hn : n < 0
  · have t1 : decide (n < 0) = true := decide_eq_true hn
    have hw : IntKind.u64.wrap (-(IntKind.u64.wrap n)) = (n.natAbs : Int) := by rw [wrap64u, wrap64u]; omega
    have hne : decide (n.natAbs ≠ 0) = true := decide_eq_true (by omega)
    rw [t1]
    clear hn
    go_enter Tryd.func42, Tryd.ntmps42
    go_wp2_with fail
    refine (hO.out _).mono ?_
    rintro e w1 ⟨r, rfl, hr, hb1⟩
    have q1 := hq.out.below hb1 hq.out.lt
    have b1 := HB0.out.trans (hb1.mono HB0.out.size)
    clear hb1
    go_wp2_with fail
    refine (hF.out _ _ _ hr).mono ?_
    rintro e w2 ⟨rfl, hb2⟩
    rw [hne]
    have q2 := q1.below hb2 q1.lt
    have b2 := b1.trans (hb2.mono b1.size)
    have hr2 := hr.below hb2 (Nat.le_refl _)
    obtain ⟨A, k, c, rfl⟩ := hr.slice
    have c2 : w2.cell? ⟨w.heap.size, 0, none⟩ = some (.bool false) := q2.cell 0
    have c3 : w2.cell? ⟨w.heap.size, 1, none⟩ = some (.slice none 0 0) := q2.cell 1
    have f2 := q2.frozen 0
    have f3 := q2.frozen 1
    clear hb2 b1 q1 hr
    go_wp2
    refine bodyPost_ret (v := .agg #[.bool true, .slice A k c]) (by simp [results, Tryd.results42, go_sem, c2, c3]) rfl ?_
    exact ⟨_, rfl, (hr2.box q2 (by simp) 0 (.bool true)).box (q2.set 0 (.bool true)) (by simp) 1 (.slice A k c), (b2.setCell (Nat.le_refl _) _).setCell (Nat.le_refl _) _⟩
  · have t1 : decide (n < 0) = false := decide_eq_false hn
    obtain ⟨m, rfl⟩ := Int.eq_ofNat_of_zero_le (show 0 ≤ n by omega)
    rw [show ((m : Int)).natAbs = m from rfl] at *
    have hw : IntKind.u64.wrap (m : Int) = m := by rw [wrap64u]; omega
    rw [t1]
    clear hn
    go_enter Tryd.func42, Tryd.ntmps42
    go_wp2_with fail
    refine (hO.out _).mono ?_
    rintro e w1 ⟨r, rfl, hr, hb1⟩
    have q1 := hq.out.below hb1 hq.out.lt
    have b1 := HB0.out.trans (hb1.mono HB0.out.size)
    clear hb1
    go_wp2_with fail
    refine (hF.out _ _ _ hr).mono ?_
    rintro e w2 ⟨rfl, hb2⟩
    have q2 := q1.below hb2 q1.lt
    have b2 := b1.trans (hb2.mono b1.size)
    have hr2 := hr.below hb2 (Nat.le_refl _)
    obtain ⟨A, k, c, rfl⟩ := hr.slice
    have c2 : w2.cell? ⟨w.heap.size, 0, none⟩ = some (.bool false) := q2.cell 0
    have c3 : w2.cell? ⟨w.heap.size, 1, none⟩ = some (.slice none 0 0) := q2.cell 1
    have f2 := q2.frozen 0
    have f3 := q2.frozen 1
    clear hb2 b1 q1 hr
    go_wp2
    refine bodyPost_ret (v := .agg #[.bool false, .slice A k c]) (by simp [results, Tryd.results42, go_sem, c2, c3]) rfl ?_
    exact ⟨_, rfl, (hr2.box q2 (by simp) 0 (.bool false)).box (q2.set 0 (.bool false)) (by simp) 1 (.slice A k c), (b2.setCell (Nat.le_refl _) _).setCell (Nat.le_refl _) _⟩

set_option maxRecDepth 100000 in
set_option maxHeartbeats 1000000 in
theorem whNeg_any (b : Bool) (v : Value) (z : Int) (w : World) (h : IntV w b v z) (hsz : bl z.natAbs ≤ 4611686018427387904) :
    Calls Tryd.prog 77 #[.agg #[.bool b, v]] w fun e w' => e = .returned (.agg #[.bool (decide (-z < 0)), v]) ∧ Below w.heap.size w w' := by
  obtain ⟨hv, hb⟩ := h
  obtain ⟨A, k, c, rfl⟩ := hv.slice
  have q2 := Blk.mk (w.alloc (.cells #[.bool b, .slice A k c] 41)) (w.heap.size + 1) (by simp) [.bool false, .slice none 0 0] 41
  have bel := box2 (w := w) (x := #[.bool b, .slice A k c]) (y := #[.bool false, .slice none 0 0]) (S := 41) (T := 41)
  have hF := Lib.hid (from_any (!b) _ z.natAbs _ (hv.below bel (Nat.le_refl _)) hsz)
  have hres : (!b && decide (z.natAbs ≠ 0)) = decide (-z < 0) := by
    rw [hb]
    by_cases h1 : z < 0
    · rw [decide_eq_true h1, decide_eq_false (show ¬ -z < 0 by omega)]; rfl
    · rw [decide_eq_false h1]
      by_cases h2 : z = 0
      · subst h2; rfl
      · rw [decide_eq_true (show z.natAbs ≠ 0 by omega), decide_eq_true (show -z < 0 by omega)]; rfl
  rw [hres] at hF
  generalize decide (-z < 0) = b' at *
  clear hres hb
  go_enter Tryd.func77, Tryd.ntmps77
  go_wp2_with fail
  refine hF.out.mono ?_
  rintro e w1 ⟨rfl, hb1⟩
  replace q2 := q2.below hb1 q2.lt
  replace bel := bel.trans (hb1.mono bel.size)
  have c2 : w1.cell? ⟨w.heap.size + 1, 0, none⟩ = some (.bool false) := q2.cell 0
  have c3 : w1.cell? ⟨w.heap.size + 1, 1, none⟩ = some (.slice none 0 0) := q2.cell 1
  have f2 := q2.frozen 0
  have f3 := q2.frozen 1
  clear hb1 hF
  go_wp2
  refine bodyPost_ret (v := .agg #[.bool b', .slice A k c]) (by simp [results, Tryd.results77, go_sem, c2, c3]) rfl ?_
  exact ⟨rfl, (bel.setCell (by simp <;> omega) _).setCell (by simp <;> omega) _⟩

set_option maxRecDepth 100000 in
theorem whSign_any (b : Bool) (v : Value) (z : Int) (w : World) (h : IntV w b v z) (hsz : bl z.natAbs ≤ 4611686018427387904) :
    Calls Tryd.prog 76 #[.agg #[.bool b, v]] w fun e w' => e = .returned (.int .i64 (if z < 0 then -1 else if z = 0 then 0 else 1)) ∧ Below w.heap.size w w' := by
  obtain ⟨hv, rfl⟩ := h
  obtain ⟨A, k, c, rfl⟩ := hv.slice
  by_cases h1 : z < 0
  · rw [decide_eq_true h1, if_pos h1]
    go_enter Tryd.func76, Tryd.ntmps76
    go_wp2_with fail
    go_ret
    exact ⟨rfl, (Below.refl _ _).alloc (Nat.le_refl _) _⟩
  · rw [decide_eq_false h1, if_neg h1]
    have bel : Below w.heap.size w (w.alloc (.cells #[.bool false, .slice A k c] 41)) := (Below.refl _ _).alloc (Nat.le_refl _) _
    have hF := Lib.hid (bits_any _ z.natAbs _ (hv.below bel (Nat.le_refl _)) hsz)
    by_cases h2 : z = 0
    · have t1 : (((bl z.natAbs : Nat) : Int) == 0) = true := beq_iff_eq.2 (by rw [h2]; rfl)
      rw [if_pos h2]
      clear h1 h2
      go_enter Tryd.func76, Tryd.ntmps76
      go_wp2_with fail
      refine hF.out.mono ?_
      rintro e w1 ⟨rfl, hb1⟩
      replace bel := bel.trans (hb1.mono bel.size)
      clear hF hb1
      go_wp2_with fail
      go_ret
      exact ⟨rfl, bel⟩
    · have h3 := bl_pos (n := z.natAbs) (by omega)
      have t1 : (((bl z.natAbs : Nat) : Int) == 0) = false := beq_eq_false_iff_ne.2 (by omega)
      rw [if_neg h2]
      clear h1 h2 h3
      go_enter Tryd.func76, Tryd.ntmps76
      go_wp2_with fail
      refine hF.out.mono ?_
      rintro e w1 ⟨rfl, hb1⟩
      replace bel := bel.trans (hb1.mono bel.size)
      clear hF hb1
      go_wp2_with fail
      go_ret
      exact ⟨rfl, bel⟩

set_option maxRecDepth 100000 in
theorem whAbs_any (b : Bool) (v : Value) (n : Nat) (w : World) (h : NatV w v n) :
    Calls Tryd.prog 78 #[.agg #[.bool b, v]] w fun e w' => e = .returned (.agg #[v]) ∧ Below w.heap.size w w' := by
  obtain ⟨A, k, c, rfl⟩ := h.slice
  go_enter Tryd.func78, Tryd.ntmps78
  go_wp2_with fail
  refine bodyPost_ret (v := .agg #[.slice A k c]) (by simp [results, Tryd.results78, go_sem]) rfl ?_
  exact ⟨rfl, by repeat (first | exact box2 | refine Below.setCell ?_ (by simp <;> omega) _)⟩
end Go.Proofs.YtjfkniknmkcdcaaDoor
