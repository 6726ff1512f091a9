/- Texts of this claim, joined: Wa, Wb. -/
import Derived.Test.YtjfkniknmkcdcaaGreatDoorMNj
import Derived.Deep.RegionHeld3
namespace Go.Proofs.YtjfkniknmkcdcaaGreatDoor
open Go.RowKit K Nu

/-- a whole number: its sign and its size -/
def IntV (w : World) (b : Bool) (v : Value) (z : Int) : Prop := NatV w v z.natAbs ∧ b = decide (z < 0)
theorem IntV.below {B : Nat} {w w' : World} {b : Bool} {v : Value} {z : Int} (h : IntV w b v z) (hb : Below B w w') (hB : w.heap.size ≤ B) : IntV w' b v z := ⟨h.1.below hb hB, h.2⟩
def mkz (neg : Bool) (n : Nat) : Int := if neg then -(n : Int) else n
theorem mkz_abs (neg : Bool) (n : Nat) : (mkz neg n).natAbs = n := by cases neg <;> simp [mkz]
theorem mkz_neg (neg : Bool) (n : Nat) : decide (mkz neg n < 0) = (neg && decide (n ≠ 0)) := by
  cases neg
  · simp [mkz]
  · by_cases h : n = 0
    · subst h; rfl
    · simp only [mkz, if_true, Bool.true_and]
      rw [decide_eq_true (by omega), decide_eq_true h]
theorem mkz_of {z : Int} : mkz (decide (z < 0)) z.natAbs = z := by
  unfold mkz
  by_cases h : z < 0
  · rw [if_pos (by simpa using h)]; omega
  · rw [if_neg (by simpa using h)]; omega

set_option maxRecDepth 100000 in
set_option maxHeartbeats 1000000 in
theorem from_any (neg : Bool) (v : Value) (n : Nat) (w : World) (h : NatV w v n) (hsz : bl n ≤ 4611686018427387904) :
    Calls Tryz.prog 40 #[.bool neg, .agg #[v]] w fun e w' => e = .returned (.agg #[.bool (neg && decide (n ≠ 0)), v]) ∧ Below w.heap.size w w' := by
  obtain ⟨A, k, c, rfl⟩ := h.slice
  have hgt : decide (0 < bl n) = !decide (n = 0) := by
    by_cases h0 : n = 0
    · subst h0; simp [bl_zero]
    · have := bl_pos h0
      rw [decide_eq_true (by omega), decide_eq_false h0]; rfl
  have hB := Lib.hid (fun (wd : World) (hd : NatV wd (.slice A k c) n) => bits_any _ n wd hd hsz)
  go_enter Tryz.func40, Tryz.ntmps40
  cases neg with
  | false =>
    go_wp2_with fail
    go_region
    all_goals go_wp2
    all_goals
      refine bodyPost_ret (v := .agg #[.bool false, .slice A k c]) (by simp [results, Tryz.results40, go_sem]) rfl ?_
      exact ⟨rfl, by repeat (first | exact box2 | refine Below.setCell ?_ (by simp <;> omega) _ | refine Below.drew ?_)⟩
  | true =>
    have q1 := Lib.hid ((Blk.mk w _ rfl [.slice A k c] 36).alloc (.cells #[.bool false, .slice none 0 0] 38)).drew
    have q2 := Lib.hid (Blk.mk (w.alloc (.cells #[.slice A k c] 36)) (w.heap.size + 1) (by simp) [.bool false, .slice none 0 0] 38).drew
    have hbx := Lib.hid (box2 (w := w) (x := #[.slice A k c]) (y := #[.bool false, .slice none 0 0]) (S := 36) (T := 38)).drew
    go_upto_region 1 with fail
    go_region_held3 (fun w' => w'.cell? ⟨w.heap.size, 0, none⟩ = some (.slice A k c)) (go_keep) ((go_at_call 48; refine (hB.out _ ?hs).mono ?_; (case hs => exact h.below (box2.drew) (Nat.le_refl _)); rintro e w2 ⟨rfl, hb2⟩; have c1 := (q1.out.below hb2 q1.out.lt).one; have c2 : w2.cell? ⟨w.heap.size + 1, 0, none⟩ = some (.bool false) := (q2.out.below hb2 q2.out.lt).cell 0; have c3 : w2.cell? ⟨w.heap.size + 1, 1, none⟩ = some (.slice none 0 0) := (q2.out.below hb2 q2.out.lt).cell 1; have f2 := (q2.out.below hb2 q2.out.lt).frozen 0; have f3 := (q2.out.below hb2 q2.out.lt).frozen 1; have hb3 := hbx.out.trans (hb2.mono hbx.out.size); clear hb2))
    all_goals go_wp2
    all_goals
      refine bodyPost_ret (v := .agg #[.bool (decide (n ≠ 0)), .slice A k c]) (by simp [results, Tryz.results40, go_sem, c2, c3]) rfl ?_
      exact ⟨rfl, by repeat (first | exact hb3 | refine Below.setCell ?_ (by simp <;> omega) _ | refine Below.drew ?_)⟩

set_option maxRecDepth 100000 in
set_option maxHeartbeats 1000000 in
theorem whOf_any (n : Int) (w : World) (h0 : -9223372036854775808 ≤ n) (h1 : n ≤ 9223372036854775807) :
    Calls Tryz.prog 66 #[.int .i64 n] w fun e w' => ∃ v, e = .returned (.agg #[.bool (decide (n < 0)), v]) ∧ NatV w' v n.natAbs ∧ Below w.heap.size w w' := by
  have hO := Lib.hid (fun wd => of_any n.natAbs wd (by omega))
  have hbl : bl n.natAbs ≤ 64 := bl_le (Nat.lt_of_lt_of_le (show n.natAbs < 18446744073709551616 by omega) (by decide))
  have hF := Lib.hid (fun neg v (wd : World) (h : NatV wd v n.natAbs) => from_any neg v n.natAbs wd h (by omega))
  have hq := Lib.hid (Blk.mk w _ rfl [.bool false, .slice none 0 0] 38)
  have hb0 : Below w.heap.size w (w.alloc (.cells #[.bool false, .slice none 0 0] 38)) := (Below.refl _ _).alloc (Nat.le_refl _) _
  have HB0 := Lib.hid hb0
  clear hb0
  by_cases hn : n < 0
  · have t1 : decide (n < 0) = true := decide_eq_true hn
    have hw : IntKind.u64.wrap (-(IntKind.u64.wrap n)) = (n.natAbs : Int) := by rw [wrap64u, wrap64u]; omega
    have hne : decide (n.natAbs ≠ 0) = true := decide_eq_true (by omega)
    rw [t1]
    clear hn
    go_enter Tryz.func66, Tryz.ntmps66
    go_wp2_with fail
    refine (hO.out _).mono ?_
    rintro e w1 ⟨r, rfl, hr, hb1⟩
    have q1 := hq.out.below hb1 hq.out.lt
    have b1 := HB0.out.trans (hb1.mono HB0.out.size)
    clear hb1
    go_wp2_with fail
    refine (hF.out _ _ _ hr).mono ?_
    rintro e w2 ⟨rfl, hb2⟩
    rw [hne]
    have q2 := q1.below hb2 q1.lt
    have b2 := b1.trans (hb2.mono b1.size)
    have hr2 := hr.below hb2 (Nat.le_refl _)
    obtain ⟨A, k, c, rfl⟩ := hr.slice
    have c2 : w2.cell? ⟨w.heap.size, 0, none⟩ = some (.bool false) := q2.cell 0
    have c3 : w2.cell? ⟨w.heap.size, 1, none⟩ = some (.slice none 0 0) := q2.cell 1
    have f2 := q2.frozen 0
    have f3 := q2.frozen 1
    clear hb2 b1 q1 hr
    go_wp2
    refine bodyPost_ret (v := .agg #[.bool true, .slice A k c]) (by simp [results, Tryz.results66, go_sem, c2, c3]) rfl ?_
    exact ⟨_, rfl, (hr2.box q2 (by simp) 0 (.bool true)).box (q2.set 0 (.bool true)) (by simp) 1 (.slice A k c), (b2.setCell (Nat.le_refl _) _).setCell (Nat.le_refl _) _⟩
  · have t1 : decide (n < 0) = false := decide_eq_false hn
    obtain ⟨m, rfl⟩ := Int.eq_ofNat_of_zero_le (show 0 ≤ n by omega)
    rw [show ((m : Int)).natAbs = m from rfl] at *
    have hw : IntKind.u64.wrap (m : Int) = m := by rw [wrap64u]; omega
    rw [t1]
    clear hn
    go_enter Tryz.func66, Tryz.ntmps66
    go_wp2_with fail
    refine (hO.out _).mono ?_
    rintro e w1 ⟨r, rfl, hr, hb1⟩
    have q1 := hq.out.below hb1 hq.out.lt
    have b1 := HB0.out.trans (hb1.mono HB0.out.size)
    clear hb1
    go_wp2_with fail
    refine (hF.out _ _ _ hr).mono ?_
    rintro e w2 ⟨rfl, hb2⟩
    have q2 := q1.below hb2 q1.lt
    have b2 := b1.trans (hb2.mono b1.size)
    have hr2 := hr.below hb2 (Nat.le_refl _)
    obtain ⟨A, k, c, rfl⟩ := hr.slice
    have c2 : w2.cell? ⟨w.heap.size, 0, none⟩ = some (.bool false) := q2.cell 0
    have c3 : w2.cell? ⟨w.heap.size, 1, none⟩ = some (.slice none 0 0) := q2.cell 1
    have f2 := q2.frozen 0
    have f3 := q2.frozen 1
    clear hb2 b1 q1 hr
    go_wp2
    refine bodyPost_ret (v := .agg #[.bool false, .slice A k c]) (by simp [results, Tryz.results66, go_sem, c2, c3]) rfl ?_
    exact ⟨_, rfl, (hr2.box q2 (by simp) 0 (.bool false)).box (q2.set 0 (.bool false)) (by simp) 1 (.slice A k c), (b2.setCell (Nat.le_refl _) _).setCell (Nat.le_refl _) _⟩

set_option maxRecDepth 100000 in
set_option maxHeartbeats 1000000 in
theorem whNeg_any (b : Bool) (v : Value) (z : Int) (w : World) (h : IntV w b v z) (hsz : bl z.natAbs ≤ 4611686018427387904) :
    Calls Tryz.prog 77 #[.agg #[.bool b, v]] w fun e w' => e = .returned (.agg #[.bool (decide (-z < 0)), v]) ∧ Below w.heap.size w w' := by
  obtain ⟨hv, hb⟩ := h
  obtain ⟨A, k, c, rfl⟩ := hv.slice
  have q2 := Blk.mk (w.alloc (.cells #[.bool b, .slice A k c] 38)) (w.heap.size + 1) (by simp) [.bool false, .slice none 0 0] 38
  have bel := box2 (w := w) (x := #[.bool b, .slice A k c]) (y := #[.bool false, .slice none 0 0]) (S := 38) (T := 38)
  have hF := Lib.hid (from_any (!b) _ z.natAbs _ (hv.below bel (Nat.le_refl _)) hsz)
  have hres : (!b && decide (z.natAbs ≠ 0)) = decide (-z < 0) := by
    rw [hb]
    by_cases h1 : z < 0
    · rw [decide_eq_true h1, decide_eq_false (show ¬ -z < 0 by omega)]; rfl
    · rw [decide_eq_false h1]
      by_cases h2 : z = 0
      · subst h2; rfl
      · rw [decide_eq_true (show z.natAbs ≠ 0 by omega), decide_eq_true (show -z < 0 by omega)]; rfl
  rw [hres] at hF
  generalize decide (-z < 0) = b' at *
  clear hres hb
  go_enter Tryz.func77, Tryz.ntmps77
  go_wp2_with fail
  refine hF.out.mono ?_
  rintro e w1 ⟨rfl, hb1⟩
  replace q2 := q2.below hb1 q2.lt
  replace bel := bel.trans (hb1.mono bel.size)
  have c2 : w1.cell? ⟨w.heap.size + 1, 0, none⟩ = some (.bool false) := q2.cell 0
  have c3 : w1.cell? ⟨w.heap.size + 1, 1, none⟩ = some (.slice none 0 0) := q2.cell 1
  have f2 := q2.frozen 0
  have f3 := q2.frozen 1
  clear hb1 hF
  go_wp2
  refine bodyPost_ret (v := .agg #[.bool b', .slice A k c]) (by simp [results, Tryz.results77, go_sem, c2, c3]) rfl ?_
  exact ⟨rfl, (bel.setCell (by simp <;> omega) _).setCell (by simp <;> omega) _⟩

set_option maxRecDepth 100000 in
theorem whSign_any (b : Bool) (v : Value) (z : Int) (w : World) (h : IntV w b v z) (hsz : bl z.natAbs ≤ 4611686018427387904) :
    Calls Tryz.prog 30 #[.agg #[.bool b, v]] w fun e w' => e = .returned (.int .i64 (if z < 0 then -1 else if z = 0 then 0 else 1)) ∧ Below w.heap.size w w' := by
  obtain ⟨hv, rfl⟩ := h
  obtain ⟨A, k, c, rfl⟩ := hv.slice
  by_cases h1 : z < 0
  · rw [decide_eq_true h1, if_pos h1]
    go_enter Tryz.func30, Tryz.ntmps30
    go_wp2_with fail
    go_ret
    exact ⟨rfl, (Below.refl _ _).alloc (Nat.le_refl _) _⟩
  · rw [decide_eq_false h1, if_neg h1]
    have bel : Below w.heap.size w (w.alloc (.cells #[.bool false, .slice A k c] 38)) := (Below.refl _ _).alloc (Nat.le_refl _) _
    have hF := Lib.hid (bits_any _ z.natAbs _ (hv.below bel (Nat.le_refl _)) hsz)
    by_cases h2 : z = 0
    · have t1 : (((bl z.natAbs : Nat) : Int) == 0) = true := beq_iff_eq.2 (by rw [h2]; rfl)
      rw [if_pos h2]
      clear h1 h2
      go_enter Tryz.func30, Tryz.ntmps30
      go_wp2_with fail
      refine hF.out.mono ?_
      rintro e w1 ⟨rfl, hb1⟩
      replace bel := bel.trans (hb1.mono bel.size)
      clear hF hb1
      go_wp2_with fail
      go_ret
      exact ⟨rfl, bel⟩
    · have h3 := bl_pos (n := z.natAbs) (by omega)
      have t1 : (((bl z.natAbs : Nat) : Int) == 0) = false := beq_eq_false_iff_ne.2 (by omega)
      rw [if_neg h2]
      clear h1 h2 h3
      go_enter Tryz.func30, Tryz.ntmps30
      go_wp2_with fail
      refine hF.out.mono ?_
      rintro e w1 ⟨rfl, hb1⟩
      replace bel := bel.trans (hb1.mono bel.size)
      clear hF hb1
      go_wp2_with fail
      go_ret
      exact ⟨rfl, bel⟩

set_option maxRecDepth 100000 in
theorem whAbs_any (b : Bool) (v : Value) (n : Nat) (w : World) (h : NatV w v n) :
    Calls Tryz.prog 78 #[.agg #[.bool b, v]] w fun e w' => e = .returned (.agg #[v]) ∧ Below w.heap.size w w' := by
  obtain ⟨A, k, c, rfl⟩ := h.slice
  go_enter Tryz.func78, Tryz.ntmps78
  go_wp2_with fail
  refine bodyPost_ret (v := .agg #[.slice A k c]) (by simp [results, Tryz.results78, go_sem]) rfl ?_
  exact ⟨rfl, by repeat (first | exact box2 | refine Below.setCell ?_ (by simp <;> omega) _)⟩
end Go.Proofs.YtjfkniknmkcdcaaGreatDoor

namespace Go.Proofs.YtjfkniknmkcdcaaGreatDoor
open Go.RowKit K Nu

/-- does an int64 have it -/
def isI64 (z : Int) : Bool := decide (-9223372036854775808 ≤ z ∧ z ≤ 9223372036854775807)
def i64Of (z : Int) : Int := if isI64 z then z else 0

set_option maxRecDepth 100000 in
set_option maxHeartbeats 1000000 in
theorem whSmall_any (b : Bool) (v : Value) (z : Int) (w : World) (h : IntV w b v z) :
    Calls Tryz.prog 89 #[.agg #[.bool b, v]] w fun e w' => e = .returned (.tuple #[.int .i64 (i64Of z), .bool (isI64 z)]) ∧ Below w.heap.size w w' := by
  obtain ⟨hv, rfl⟩ := h
  obtain ⟨A, k, c, rfl⟩ := hv.slice
  have bel : ∀ b : Bool, Below w.heap.size w (w.alloc (.cells #[.bool b, .slice A k c] 38)) := fun b => (Below.refl _ _).alloc (Nat.le_refl _) _
  have q1 : ∀ b : Bool, Blk (w.alloc (.cells #[.bool b, .slice A k c] 38)) w.heap.size [.bool b, .slice A k c] 38 := fun b => Blk.mk w _ rfl [.bool b, .slice A k c] _
  have hS := fun b => small_any _ z.natAbs _ (hv.below (bel b) (Nat.le_refl _))
  by_cases hn : z < 0
  · rw [decide_eq_true hn]
    replace bel := bel true
    replace q1 := q1 true
    replace hS := hS true
    by_cases h1 : -9223372036854775808 ≤ z
    · have e1 : isI64 z = true := decide_eq_true (by omega)
      have e2 : i64Of z = z := if_pos e1
      have e3 : smallW z.natAbs = -z := by unfold smallW; rw [if_pos (by omega)]; omega
      have e4 : decide (z.natAbs < 18446744073709551616) = true := decide_eq_true (by omega)
      have e5 : decide (-z ≤ 9223372036854775808) = true := decide_eq_true (by omega)
      have e7 : wrap64 (IntKind.u64.wrap z) = z := by rw [wrap64u]; unfold wrap64; omega
      have n1 : (0 : Int) ≤ -z := by omega
      have n2 : -z ≤ 9223372036854775808 := by omega
      clear h1
      rw [e3, e4] at hS
      rw [e1, e2]
      have HS := Lib.hid hS
      clear hS e1 e2 e3 e4 hn
      go_enter Tryz.func89, Tryz.ntmps89
      go_wp2_with fail
      refine HS.out.mono ?_
      rintro e w1 ⟨rfl, hb1⟩
      replace q1 := q1.below hb1 q1.lt
      replace bel := bel.trans (hb1.mono bel.size)
      have c1 : w1.cell? ⟨w.heap.size, 0, none⟩ = some (.bool true) := q1.cell 0
      clear hb1 HS
      go_wp2
      go_ret2
      exact ⟨congrArg (fun t => Ending.returned (.tuple #[.int .i64 t, .bool true])) e7, bel⟩
    · have e1 : isI64 z = false := decide_eq_false (by omega)
      have e2 : i64Of z = 0 := if_neg (by rw [e1]; decide)
      by_cases h2 : z.natAbs < 18446744073709551616
      · have e3 : smallW z.natAbs = -z := by unfold smallW; rw [if_pos h2]; omega
        have e4 : decide (z.natAbs < 18446744073709551616) = true := decide_eq_true h2
        have e5 : decide (-z ≤ 9223372036854775808) = false := decide_eq_false (by omega)
        clear h1 h2
        rw [e3, e4] at hS
        rw [e1, e2]
        have HS := Lib.hid hS
        clear hS e1 e2 e3 e4 hn
        go_enter Tryz.func89, Tryz.ntmps89
        go_wp2_with fail
        refine HS.out.mono ?_
        rintro e w1 ⟨rfl, hb1⟩
        replace q1 := q1.below hb1 q1.lt
        replace bel := bel.trans (hb1.mono bel.size)
        have c1 : w1.cell? ⟨w.heap.size, 0, none⟩ = some (.bool true) := q1.cell 0
        clear hb1 HS
        go_wp2
        go_ret2
        exact ⟨rfl, bel⟩
      · have e3 : smallW z.natAbs = 0 := by unfold smallW; rw [if_neg h2]
        have e4 : decide (z.natAbs < 18446744073709551616) = false := decide_eq_false h2
        clear h1 h2
        rw [e3, e4] at hS
        rw [e1, e2]
        have HS := Lib.hid hS
        clear hS e1 e2 e3 e4 hn
        go_enter Tryz.func89, Tryz.ntmps89
        go_wp2_with fail
        refine HS.out.mono ?_
        rintro e w1 ⟨rfl, hb1⟩
        replace q1 := q1.below hb1 q1.lt
        replace bel := bel.trans (hb1.mono bel.size)
        have c1 : w1.cell? ⟨w.heap.size, 0, none⟩ = some (.bool true) := q1.cell 0
        clear hb1 HS
        go_wp2
        go_ret2
        exact ⟨rfl, bel⟩
  · rw [decide_eq_false hn]
    replace bel := bel false
    replace q1 := q1 false
    replace hS := hS false
    by_cases h1 : z ≤ 9223372036854775807
    · have e1 : isI64 z = true := decide_eq_true (by omega)
      have e2 : i64Of z = z := if_pos e1
      have e3 : smallW z.natAbs = z := by unfold smallW; rw [if_pos (by omega)]; omega
      have e4 : decide (z.natAbs < 18446744073709551616) = true := decide_eq_true (by omega)
      have e5 : decide (z ≤ 9223372036854775807) = true := decide_eq_true h1
      have n1 : (0 : Int) ≤ z := by omega
      rw [e3, e4] at hS
      rw [e1, e2]
      have HS := Lib.hid hS
      clear hS e1 e2 e3 e4 hn
      go_enter Tryz.func89, Tryz.ntmps89
      go_wp2_with fail
      refine HS.out.mono ?_
      rintro e w1 ⟨rfl, hb1⟩
      replace q1 := q1.below hb1 q1.lt
      replace bel := bel.trans (hb1.mono bel.size)
      have c1 : w1.cell? ⟨w.heap.size, 0, none⟩ = some (.bool false) := q1.cell 0
      clear hb1 HS
      go_wp2
      go_ret2
      exact ⟨rfl, bel⟩
    · have e1 : isI64 z = false := decide_eq_false (by omega)
      have e2 : i64Of z = 0 := if_neg (by rw [e1]; decide)
      by_cases h2 : z.natAbs < 18446744073709551616
      · have e3 : smallW z.natAbs = z := by unfold smallW; rw [if_pos h2]; omega
        have e4 : decide (z.natAbs < 18446744073709551616) = true := decide_eq_true h2
        have e5 : decide (z ≤ 9223372036854775807) = false := decide_eq_false h1
        clear h1 h2
        rw [e3, e4] at hS
        rw [e1, e2]
        have HS := Lib.hid hS
        clear hS e1 e2 e3 e4 hn
        go_enter Tryz.func89, Tryz.ntmps89
        go_wp2_with fail
        refine HS.out.mono ?_
        rintro e w1 ⟨rfl, hb1⟩
        replace q1 := q1.below hb1 q1.lt
        replace bel := bel.trans (hb1.mono bel.size)
        have c1 : w1.cell? ⟨w.heap.size, 0, none⟩ = some (.bool false) := q1.cell 0
        clear hb1 HS
        go_wp2
        go_ret2
        exact ⟨rfl, bel⟩
      · have e3 : smallW z.natAbs = 0 := by unfold smallW; rw [if_neg h2]
        have e4 : decide (z.natAbs < 18446744073709551616) = false := decide_eq_false h2
        clear h1 h2
        rw [e3, e4] at hS
        rw [e1, e2]
        have HS := Lib.hid hS
        clear hS e1 e2 e3 e4 hn
        go_enter Tryz.func89, Tryz.ntmps89
        go_wp2_with fail
        refine HS.out.mono ?_
        rintro e w1 ⟨rfl, hb1⟩
        replace q1 := q1.below hb1 q1.lt
        replace bel := bel.trans (hb1.mono bel.size)
        have c1 : w1.cell? ⟨w.heap.size, 0, none⟩ = some (.bool false) := q1.cell 0
        clear hb1 HS
        go_wp2
        go_ret2
        exact ⟨rfl, bel⟩

/-- -1, 0, 1 -/
def cmpI (a b : Int) : Int := if a < b then -1 else if b < a then 1 else 0

set_option maxRecDepth 100000 in
set_option maxHeartbeats 1000000 in
theorem whCmp_any (b1 b2 : Bool) (v1 v2 : Value) (x y : Int) (w : World) (h1 : IntV w b1 v1 x) (h2 : IntV w b2 v2 y) :
    Calls Tryz.prog 60 #[.agg #[.bool b1, v1], .agg #[.bool b2, v2]] w fun e w' => e = .returned (.int .i64 (cmpI x y)) ∧ Below w.heap.size w w' := by
  obtain ⟨hv1, rfl⟩ := h1
  obtain ⟨hv2, rfl⟩ := h2
  obtain ⟨A1, k1, c1, rfl⟩ := hv1.slice
  obtain ⟨A2, k2, c2, rfl⟩ := hv2.slice
  have bel : ∀ p q : Bool, Below w.heap.size w ((w.alloc (.cells #[.bool p, .slice A1 k1 c1] 38)).alloc (.cells #[.bool q, .slice A2 k2 c2] 38)) := fun p q => box2
  by_cases hx : x < 0
  · rw [decide_eq_true hx]
    by_cases hy : y < 0
    · rw [decide_eq_true hy]
      have hF := Lib.hid (cmp_any _ _ y.natAbs x.natAbs _ (hv2.below (bel true true) (Nat.le_refl _)) (hv1.below (bel true true) (Nat.le_refl _)))
      have hr : cmpN y.natAbs x.natAbs = cmpI x y := by unfold cmpN cmpI; split <;> split <;> (try split) <;> omega
      rw [hr] at hF
      have HB := Lib.hid (bel true true)
      clear hx hy hr
      go_enter Tryz.func60, Tryz.ntmps60
      go_wp2_with fail
      refine hF.out.mono ?_
      rintro e w1 ⟨rfl, hb1⟩
      go_wp2_with fail
      go_ret
      exact ⟨rfl, HB.out.trans (hb1.mono HB.out.size)⟩
    · rw [decide_eq_false hy]
      have hr : cmpI x y = -1 := if_pos (by omega)
      rw [hr]
      clear hx hy hr
      go_enter Tryz.func60, Tryz.ntmps60
      go_wp2_with fail
      go_ret
      exact ⟨rfl, box2⟩
  · rw [decide_eq_false hx]
    by_cases hy : y < 0
    · rw [decide_eq_true hy]
      have hr : cmpI x y = 1 := (if_neg (by omega)).trans (if_pos (by omega))
      rw [hr]
      clear hx hy hr
      go_enter Tryz.func60, Tryz.ntmps60
      go_wp2_with fail
      go_ret
      exact ⟨rfl, box2⟩
    · rw [decide_eq_false hy]
      have hF := Lib.hid (cmp_any _ _ x.natAbs y.natAbs _ (hv1.below (bel false false) (Nat.le_refl _)) (hv2.below (bel false false) (Nat.le_refl _)))
      have hr : cmpN x.natAbs y.natAbs = cmpI x y := by unfold cmpN cmpI; split <;> split <;> (try split) <;> omega
      rw [hr] at hF
      have HB := Lib.hid (bel false false)
      clear hx hy hr
      go_enter Tryz.func60, Tryz.ntmps60
      go_wp2_with fail
      refine hF.out.mono ?_
      rintro e w1 ⟨rfl, hb1⟩
      go_wp2_with fail
      go_ret
      exact ⟨rfl, HB.out.trans (hb1.mono HB.out.size)⟩

theorem mul_sign (x y : Int) : ((decide (x < 0) != decide (y < 0)) && decide ((x.natAbs * y.natAbs) ≠ 0)) = decide (x * y < 0) := by
  rw [← Int.natAbs_mul]
  by_cases hx : x < 0
  · by_cases hy : y < 0
    · have h := Int.mul_pos_of_neg_of_neg hx hy
      rw [decide_eq_true hx, decide_eq_true hy, decide_eq_false (show ¬ x * y < 0 by omega)]; rfl
    · rw [decide_eq_true hx, decide_eq_false hy]
      by_cases h0 : y = 0
      · subst h0; simp
      · have h := Int.mul_neg_of_neg_of_pos hx (show 0 < y by omega)
        rw [decide_eq_true h, decide_eq_true (show (x * y).natAbs ≠ 0 by omega)]; rfl
  · by_cases hy : y < 0
    · rw [decide_eq_false hx, decide_eq_true hy]
      by_cases h0 : x = 0
      · subst h0; simp
      · have h := Int.mul_neg_of_pos_of_neg (show 0 < x by omega) hy
        rw [decide_eq_true h, decide_eq_true (show (x * y).natAbs ≠ 0 by omega)]; rfl
    · have h := Int.mul_nonneg (show 0 ≤ x by omega) (show 0 ≤ y by omega)
      rw [decide_eq_false hx, decide_eq_false hy, decide_eq_false (show ¬ x * y < 0 by omega)]; rfl

set_option maxRecDepth 100000 in
set_option maxHeartbeats 2000000 in
theorem whMul_any (b1 b2 : Bool) (v1 v2 : Value) (x y : Int) (w : World) (h1 : IntV w b1 v1 x) (h2 : IntV w b2 v2 y) (hs1 : bl x.natAbs ≤ 1073741824) (hs2 : bl y.natAbs ≤ 1073741824) :
    Calls Tryz.prog 56 #[.agg #[.bool b1, v1], .agg #[.bool b2, v2]] w fun e w' => ∃ v, e = .returned (.agg #[.bool (decide (x * y < 0)), v]) ∧ IntV w' (decide (x * y < 0)) v (x * y) ∧ Below w.heap.size w w' := by
  obtain ⟨hv1, hb1⟩ := h1
  obtain ⟨hv2, hb2⟩ := h2
  obtain ⟨A1, k1, c1, rfl⟩ := hv1.slice
  obtain ⟨A2, k2, c2, rfl⟩ := hv2.slice
  have hM := Lib.hid (fun (wd : World) (ha : NatV wd (.slice A1 k1 c1) x.natAbs) (hb : NatV wd (.slice A2 k2 c2) y.natAbs) => mul_any _ _ _ _ wd ha hb hs1 hs2)
  have hsz : bl (x.natAbs * y.natAbs) ≤ 4611686018427387904 := by have := bl_mul x.natAbs y.natAbs; omega
  have hF := Lib.hid (fun v (wd : World) (ha : NatV wd v (x.natAbs * y.natAbs)) => from_any (b1 != b2) v _ wd ha hsz)
  have hsg := mul_sign x y
  rw [← hb1, ← hb2] at hsg
  rw [hsg] at hF
  have hna : (x * y).natAbs = x.natAbs * y.natAbs := Int.natAbs_mul x y
  have HNA := Lib.hid hna
  generalize hsgn : decide (x * y < 0) = sg at *
  have HSG := Lib.hid hsgn
  clear hsgn hsg hb1 hb2 hna hsz
  have p1 := Lib.hid (((Blk.mk w _ rfl [.bool b1, .slice A1 k1 c1] 38).alloc (.cells #[.bool b2, .slice A2 k2 c2] 38)).alloc (.cells #[.bool false, .slice none 0 0] 38)).drew
  have p2 := Lib.hid ((Blk.mk (w.alloc (.cells #[.bool b1, .slice A1 k1 c1] 38)) (w.heap.size + 1) (by simp) [.bool b2, .slice A2 k2 c2] 38).alloc (.cells #[.bool false, .slice none 0 0] 38)).drew
  have p3 := Lib.hid (Blk.mk ((w.alloc (.cells #[.bool b1, .slice A1 k1 c1] 38)).alloc (.cells #[.bool b2, .slice A2 k2 c2] 38)) (w.heap.size + 2) (by simp) [.bool false, .slice none 0 0] 38).drew
  have bel0 := Lib.hid (box3 (w := w) (x := #[.bool b1, .slice A1 k1 c1]) (y := #[.bool b2, .slice A2 k2 c2]) (z := #[.bool false, .slice none 0 0]) (S := 38) (T := 38) (U := 38)).drew
  have n1 : ¬ w.heap.size + 1 + 1 = w.heap.size := by omega
  have n2 : ¬ w.heap.size = w.heap.size + 1 + 1 := by omega
  go_enter Tryz.func56, Tryz.ntmps56
  go_upto_region 1 with fail
  go_region_held3 (fun w' => w'.cell? ⟨w.heap.size, 0, none⟩ = some (.bool b1) ∧ w'.cell? ⟨w.heap.size, 1, none⟩ = some (.slice A1 k1 c1) ∧ w'.cell? ⟨w.heap.size + 1, 0, none⟩ = some (.bool b2) ∧ w'.cell? ⟨w.heap.size + 1, 1, none⟩ = some (.slice A2 k2 c2)) (go_keep)
    (first
      | ((go_at_call 59; refine (hM.out _ ?hs1 ?hs2).mono ?_; (case hs1 => exact hv1.below bel0.out (Nat.le_refl _)); (case hs2 => exact hv2.below bel0.out (Nat.le_refl _)); rintro e w2 ⟨r, rfl, hr, hb2⟩; obtain ⟨A3, k3, c3, rfl⟩ := hr.slice; have d0 : w2.cell? ⟨w.heap.size, 0, none⟩ = some (.bool b1) := (p1.out.below hb2 p1.out.lt).cell 0; have d1 : w2.cell? ⟨w.heap.size, 1, none⟩ = some (.slice A1 k1 c1) := (p1.out.below hb2 p1.out.lt).cell 1; have d2 : w2.cell? ⟨w.heap.size + 1, 0, none⟩ = some (.bool b2) := (p2.out.below hb2 p2.out.lt).cell 0; have d3 : w2.cell? ⟨w.heap.size + 1, 1, none⟩ = some (.slice A2 k2 c2) := (p2.out.below hb2 p2.out.lt).cell 1; have P1 := Lib.hid (p1.out.below hb2 p1.out.lt); have P2 := Lib.hid (p2.out.below hb2 p2.out.lt); have P3 := Lib.hid (p3.out.below hb2 p3.out.lt); have BEL2 := Lib.hid (bel0.out.trans (hb2.mono bel0.out.size)); clear hb2))
      | ((go_at_call 40; refine (hF.out _ _ hr).mono ?_; rintro e w3 ⟨rfl, hb3⟩; have t0 : w3.cell? ⟨w.heap.size, 0, none⟩ = some (.bool b1) := (P1.out.below hb3 P1.out.lt).cell 0; have t1 : w3.cell? ⟨w.heap.size, 1, none⟩ = some (.slice A1 k1 c1) := (P1.out.below hb3 P1.out.lt).cell 1; have t2 : w3.cell? ⟨w.heap.size + 1, 0, none⟩ = some (.bool b2) := (P2.out.below hb3 P2.out.lt).cell 0; have t3 : w3.cell? ⟨w.heap.size + 1, 1, none⟩ = some (.slice A2 k2 c2) := (P2.out.below hb3 P2.out.lt).cell 1; have e3 := Lib.hid (P3.out.below hb3 P3.out.lt); have s0 : w3.cell? ⟨w.heap.size + 2, 0, none⟩ = some (.bool false) := e3.out.cell 0; have s1 : w3.cell? ⟨w.heap.size + 2, 1, none⟩ = some (.slice none 0 0) := e3.out.cell 1; have s2 := e3.out.frozen 0; have s3 := e3.out.frozen 1; have HR3 := Lib.hid (hr.below hb3 (Nat.le_refl _)); have BEL3 := Lib.hid (BEL2.out.trans (hb3.mono BEL2.out.size)); clear hb3)))
  all_goals go_wp2
  all_goals
    refine bodyPost_ret (v := .agg #[.bool sg, .slice A3 k3 c3]) (by simp [results, Tryz.results56, go_sem, s0, s1]) rfl ?_
    refine ⟨_, rfl, ⟨?_, HSG.out.symm⟩, (BEL3.out.setCell (by simp <;> omega) _).setCell (by simp <;> omega) _⟩
    rw [HNA.out]
    exact (HR3.out.box e3.out (by simp) 0 (.bool sg)).box (e3.out.set 0 (.bool sg)) (by simp) 1 (.slice A3 k3 c3)
end Go.Proofs.YtjfkniknmkcdcaaGreatDoor
