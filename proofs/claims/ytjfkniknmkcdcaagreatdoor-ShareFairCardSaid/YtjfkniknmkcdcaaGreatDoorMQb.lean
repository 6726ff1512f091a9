/- Texts of this claim, joined: Qa, Qb. -/
import Derived.Test.YtjfkniknmkcdcaaGreatDoorMWf
namespace Go.Proofs.YtjfkniknmkcdcaaGreatDoor
open Go.RowKit K Nu

/-- what rest holds -/
def dn (d : Nat) : Nat := if d = 1 then 0 else d
def QV (w : World) (b : Bool) (vn vr : Value) (q : Rat) : Prop := IntV w b vn q.num ∧ NatV w vr (dn q.den)
theorem QV.below {B : Nat} {w w' : World} {b : Bool} {vn vr : Value} {q : Rat} (h : QV w b vn vr q) (hb : Below B w w') (hB : w.heap.size ≤ B) : QV w' b vn vr q :=
  ⟨⟨h.1.1.below hb hB, h.1.2⟩, h.2.below hb hB⟩
theorem box3set {w : World} {g : Nat} {a b c a' b' c' : Value} {T : TypeId} (h : Blk w g [a, b, c] T) :
    Blk (((w.setCell ⟨g, 0, none⟩ a').setCell ⟨g, 1, none⟩ b').setCell ⟨g, 2, none⟩ c') g [a', b', c'] T := ((h.set 0 a').set 1 b').set 2 c'
theorem NatV.box3 {w : World} {v : Value} {n g : Nat} {a b c a' b' c' : Value} {T : TypeId} (h : NatV w v n) (hg : Blk w g [a, b, c] T) (hno : ∀ x, x ∈ [a, b, c] → ∀ q, x ≠ .int .u64 q) (hno' : ∀ x, x ∈ [a', b', c'] → ∀ q, x ≠ .int .u64 q) :
    NatV (((w.setCell ⟨g, 0, none⟩ a').setCell ⟨g, 1, none⟩ b').setCell ⟨g, 2, none⟩ c') v n :=
  ((h.box hg hno 0 a').box (hg.set 0 a') (by simp at hno hno' ⊢; grind) 1 b').box ((hg.set 0 a').set 1 b') (by simp at hno hno' ⊢; grind) 2 c'
theorem from_false (v : Value) (n : Nat) (w : World) (h : NatV w v n) (hsz : bl n ≤ 4611686018427387904) :
    Calls Tryz.prog 40 #[.bool false, .agg #[v]] w fun e w' => e = .returned (.agg #[.bool false, v]) ∧ Below w.heap.size w w' := from_any false v n w h hsz

set_option maxRecDepth 100000 in
set_option maxHeartbeats 2000000 in
theorem low_any (b : Bool) (vn vd : Value) (n : Nat) (d : Nat) (w : World) (h1 : NatV w vn n) (h2 : NatV w vd d) :
    Calls Tryz.prog 57 #[.agg #[.bool b, vn], .agg #[vd]] w fun e w' => ∃ vr, e = .returned (.agg #[.bool b, vn, vr]) ∧ NatV w' vn n ∧ NatV w' vr (dn d) ∧ Below w.heap.size w w' := by
  obtain ⟨A1, k1, c1, rfl⟩ := h1.slice
  obtain ⟨A2, k2, c2, rfl⟩ := h2.slice
  have p0_0 := Lib.hid ((((Blk.mk w (w.heap.size) rfl [.bool b, .slice A1 k1 c1] 38).alloc (.cells #[.slice A2 k2 c2] 36)).alloc (.cells #[.bool false, .slice none 0 0, .slice none 0 0] 40)).drew)
  have p1_0 := Lib.hid (((Blk.mk (w.alloc (.cells #[.bool b, .slice A1 k1 c1] 38)) (w.heap.size + 1) (by simp) [.slice A2 k2 c2] 36).alloc (.cells #[.bool false, .slice none 0 0, .slice none 0 0] 40)).drew)
  have p2_0 := Lib.hid ((Blk.mk ((w.alloc (.cells #[.bool b, .slice A1 k1 c1] 38)).alloc (.cells #[.slice A2 k2 c2] 36)) (w.heap.size + 2) (by simp) [.bool false, .slice none 0 0, .slice none 0 0] 40).drew)
  have bel_0 := Lib.hid (show Below w.heap.size w (((w.alloc (.cells #[.bool b, .slice A1 k1 c1] 38)).alloc (.cells #[.slice A2 k2 c2] 36)).alloc (.cells #[.bool false, .slice none 0 0, .slice none 0 0] 40)).drew by (repeat (first | assumption | exact Below.refl _ _ | refine Below.drew ?_ | refine Below.setCell ?_ (by simp <;> omega) _ | refine Below.alloc ?_ (by simp <;> omega) _)))
  have ne2 : ¬ w.heap.size + 1 + 1 = w.heap.size := by omega
  have en2 : ¬ w.heap.size = w.heap.size + 1 + 1 := by omega
  have h1_0 := Lib.hid (h1.below bel_0.out (Nat.le_refl _))
  have h2_0 := Lib.hid (h2.below bel_0.out (Nat.le_refl _))
  have hO := Lib.hid (fun wd => of_any 1 wd (by decide))
  have hC := Lib.hid (fun (wd : World) v (ha : NatV wd (.slice A2 k2 c2) d) (hb : NatV wd v 1) => cmp_any _ _ d 1 wd ha hb)
  go_enter Tryz.func57, Tryz.ntmps57
  go_upto_region 1 with fail
  go_region_held3 (fun w' => w'.cell? ⟨w.heap.size + 1, 0, none⟩ = some (.slice A2 k2 c2)) (go_keep)
    (first
      | ((go_at_call 92; refine (hC.out _ _ h2_1.out hr_1.out).mono ?_; rintro e w_2 ⟨rfl, hb_2⟩; have c1_0_2 : w_2.cell? ⟨w.heap.size + 1, 0, none⟩ = some (.slice A2 k2 c2) := (p1_1.out.below hb_2 p1_1.out.lt).cell 0; have p0_2 := Lib.hid (p0_1.out.below hb_2 p0_1.out.lt); have p1_2 := Lib.hid (p1_1.out.below hb_2 p1_1.out.lt); have p2_2 := Lib.hid (p2_1.out.below hb_2 p2_1.out.lt); have h1_2 := Lib.hid (h1_1.out.below hb_2 (Nat.le_refl _)); have h2_2 := Lib.hid (h2_1.out.below hb_2 (Nat.le_refl _)); have hr_2 := Lib.hid (hr_1.out.below hb_2 (Nat.le_refl _)); have bel_2 := Lib.hid (bel_1.out.trans (hb_2.mono bel_1.out.size)); have o0_0 : w_2.cell? ⟨w.heap.size, 0, none⟩ = some (.bool b) := p0_2.out.cell 0; have z0_0 := p0_2.out.frozen 0; have o0_1 : w_2.cell? ⟨w.heap.size, 1, none⟩ = some (.slice A1 k1 c1) := p0_2.out.cell 1; have z0_1 := p0_2.out.frozen 1; have o2_0 : w_2.cell? ⟨w.heap.size + 2, 0, none⟩ = some (.bool false) := p2_2.out.cell 0; have z2_0 := p2_2.out.frozen 0; have o2_1 : w_2.cell? ⟨w.heap.size + 2, 1, none⟩ = some (.slice none 0 0) := p2_2.out.cell 1; have z2_1 := p2_2.out.frozen 1; have o2_2 : w_2.cell? ⟨w.heap.size + 2, 2, none⟩ = some (.slice none 0 0) := p2_2.out.cell 2; have z2_2 := p2_2.out.frozen 2; clear hb_2 ))
      | ((go_at_call 91; refine (hO.out _).mono ?_; rintro e w_1 ⟨r, rfl, hr, hb_1⟩; obtain ⟨A3, k3, c3, rfl⟩ := hr.slice; have c1_0_1 : w_1.cell? ⟨w.heap.size + 1, 0, none⟩ = some (.slice A2 k2 c2) := (p1_0.out.below hb_1 p1_0.out.lt).cell 0; have p0_1 := Lib.hid (p0_0.out.below hb_1 p0_0.out.lt); have p1_1 := Lib.hid (p1_0.out.below hb_1 p1_0.out.lt); have p2_1 := Lib.hid (p2_0.out.below hb_1 p2_0.out.lt); have h1_1 := Lib.hid (h1_0.out.below hb_1 (Nat.le_refl _)); have h2_1 := Lib.hid (h2_0.out.below hb_1 (Nat.le_refl _)); have hr_1 := Lib.hid hr; have bel_1 := Lib.hid (bel_0.out.trans (hb_1.mono bel_0.out.size)); clear hb_1 hr)))
  all_goals by_cases h0 : d = 1
  · have t0 : (cmpN d 1 == 0) = true := by subst h0; decide
    have hd : dn d = 0 := if_pos h0
    have HD := Lib.hid hd
    clear h0 hd
    go_wp2_with fail
    refine bodyPost_ret (v := .agg #[.bool b, .slice A1 k1 c1, .slice none 0 0]) (by simp [results, Tryz.results57, go_sem, o2_0, o2_1, o2_2]) rfl ?_
    refine ⟨_, rfl, h1_2.out.box3 p2_2.out (by simp) (by simp), ?_, ((bel_2.out.setCell (by simp <;> omega) _).setCell (by simp <;> omega) _).setCell (by simp <;> omega) _⟩
    rw [HD.out]; exact NatV.nil _
  · have t0 : (cmpN d 1 == 0) = false := by
      unfold cmpN; split
      · rfl
      · split
        · rfl
        · omega
    have hd : dn d = d := if_neg h0
    have HD := Lib.hid hd
    clear h0 hd
    go_wp2_with fail
    refine bodyPost_ret (v := .agg #[.bool b, .slice A1 k1 c1, .slice A2 k2 c2]) (by simp [results, Tryz.results57, go_sem, o2_0, o2_1, o2_2]) rfl ?_
    refine ⟨_, rfl, h1_2.out.box3 p2_2.out (by simp) (by simp), ?_, ((bel_2.out.setCell (by simp <;> omega) _).setCell (by simp <;> omega) _).setCell (by simp <;> omega) _⟩
    rw [HD.out]; exact h2_2.out.box3 p2_2.out (by simp) (by simp)

set_option maxRecDepth 100000 in
set_option maxHeartbeats 2000000 in
theorem wide_any (v : Value) (n : Nat) (w : World) (h1 : NatV w v n) (hs : bl n ≤ 4611686018427387904) :
    Calls Tryz.prog 54 #[.agg #[v]] w fun e w' => e = .returned (.agg #[.bool false, v]) ∧ IntV w' false v n ∧ Below w.heap.size w w' := by
  obtain ⟨A1, k1, c1, rfl⟩ := h1.slice
  have p0_0 := Lib.hid (((Blk.mk w (w.heap.size) rfl [.slice A1 k1 c1] 36).alloc (.cells #[.bool false, .slice none 0 0] 38)))
  have p1_0 := Lib.hid ((Blk.mk (w.alloc (.cells #[.slice A1 k1 c1] 36)) (w.heap.size + 1) (by simp) [.bool false, .slice none 0 0] 38))
  have bel_0 := Lib.hid (show Below w.heap.size w ((w.alloc (.cells #[.slice A1 k1 c1] 36)).alloc (.cells #[.bool false, .slice none 0 0] 38)) by (repeat (first | assumption | exact Below.refl _ _ | refine Below.drew ?_ | refine Below.setCell ?_ (by simp <;> omega) _ | refine Below.alloc ?_ (by simp <;> omega) _)))
  have h1_0 := Lib.hid (h1.below bel_0.out (Nat.le_refl _))
  have hF := Lib.hid (from_false _ n _ h1_0.out hs)
  go_enter Tryz.func54, Tryz.ntmps54
  go_wp2_with fail
  refine (hF.out).mono ?_
  rintro e w_1 ⟨rfl, hb_1⟩
  have p0_1 := Lib.hid (p0_0.out.below hb_1 p0_0.out.lt)
  have p1_1 := Lib.hid (p1_0.out.below hb_1 p1_0.out.lt)
  have h1_1 := Lib.hid (h1_0.out.below hb_1 (Nat.le_refl _))
  have bel_1 := Lib.hid (bel_0.out.trans (hb_1.mono bel_0.out.size))
  have o1_0 : w_1.cell? ⟨w.heap.size + 1, 0, none⟩ = some (.bool false) := p1_1.out.cell 0
  have z1_0 := p1_1.out.frozen 0
  have o1_1 : w_1.cell? ⟨w.heap.size + 1, 1, none⟩ = some (.slice none 0 0) := p1_1.out.cell 1
  have z1_1 := p1_1.out.frozen 1
  clear hb_1 
  go_wp2_with fail
  refine bodyPost_ret (v := .agg #[.bool false, .slice A1 k1 c1]) (by simp [results, Tryz.results54, go_sem, o1_0, o1_1]) rfl ?_
  refine ⟨rfl, ⟨?_, by simp⟩, (bel_1.out.setCell (by simp <;> omega) _).setCell (by simp <;> omega) _⟩
  exact (h1_1.out.box p1_1.out (by simp) 0 (.bool false)).box (p1_1.out.set 0 (.bool false)) (by simp) 1 (.slice A1 k1 c1)

set_option maxRecDepth 100000 in
set_option maxHeartbeats 2000000 in
theorem frOf_any (n : Int) (w : World) (h0 : -9223372036854775808 ≤ n) (h1 : n ≤ 9223372036854775807) :
    Calls Tryz.prog 28 #[.int .i64 n] w fun e w' => ∃ vn, e = .returned (.agg #[.bool (decide (n < 0)), vn, .slice none 0 0]) ∧ NatV w' vn n.natAbs ∧ Below w.heap.size w w' := by
  have p0_0 := Lib.hid ((Blk.mk w (w.heap.size) rfl [.bool false, .slice none 0 0, .slice none 0 0] 40))
  have bel_0 := Lib.hid (show Below w.heap.size w (w.alloc (.cells #[.bool false, .slice none 0 0, .slice none 0 0] 40)) by (repeat (first | assumption | exact Below.refl _ _ | refine Below.drew ?_ | refine Below.setCell ?_ (by simp <;> omega) _ | refine Below.alloc ?_ (by simp <;> omega) _)))
  have hF := Lib.hid (fun wd => whOf_any n wd h0 h1)
  obtain ⟨sg, hsg⟩ : ∃ sg, decide (n < 0) = sg := ⟨_, rfl⟩
  rw [hsg] at hF ⊢
  clear hsg
  go_enter Tryz.func28, Tryz.ntmps28
  go_wp2_with fail
  refine (hF.out _).mono ?_
  rintro e w_1 ⟨v, rfl, hv, hb_1⟩
  obtain ⟨A1, k1, c1, rfl⟩ := hv.slice
  have p0_1 := Lib.hid (p0_0.out.below hb_1 p0_0.out.lt)
  have hv_1 := Lib.hid hv
  have bel_1 := Lib.hid (bel_0.out.trans (hb_1.mono bel_0.out.size))
  have o0_0 : w_1.cell? ⟨w.heap.size, 0, none⟩ = some (.bool false) := p0_1.out.cell 0
  have z0_0 := p0_1.out.frozen 0
  have o0_1 : w_1.cell? ⟨w.heap.size, 1, none⟩ = some (.slice none 0 0) := p0_1.out.cell 1
  have z0_1 := p0_1.out.frozen 1
  have o0_2 : w_1.cell? ⟨w.heap.size, 2, none⟩ = some (.slice none 0 0) := p0_1.out.cell 2
  have z0_2 := p0_1.out.frozen 2
  clear hb_1 hv
  go_wp2_with fail
  refine bodyPost_ret (v := .agg #[.bool sg, .slice A1 k1 c1, .slice none 0 0]) (by simp [results, Tryz.results28, go_sem, o0_0, o0_1, o0_2]) rfl ?_
  exact ⟨_, rfl, hv_1.out.box3 p0_1.out (by simp) (by simp), ((bel_1.out.setCell (by simp <;> omega) _).setCell (by simp <;> omega) _).setCell (by simp <;> omega) _⟩

set_option maxRecDepth 100000 in
set_option maxHeartbeats 2000000 in
theorem under_any (v1 v2 : Value) (a b : Nat) (w : World) (h1 : NatV w v1 a) (h2 : NatV w v2 b) (hb0 : b ≠ 0) (hs : bl a ≤ 1073741824) :
    Calls Tryz.prog 55 #[.agg #[v1], .agg #[v2]] w fun e w' => ∃ q, e = .returned (.agg #[q]) ∧ NatV w' q (a / b) ∧ Below w.heap.size w w' := by
  obtain ⟨A1, k1, c1, rfl⟩ := h1.slice
  obtain ⟨A2, k2, c2, rfl⟩ := h2.slice
  have p0_0 := Lib.hid ((((Blk.mk w (w.heap.size) rfl [.slice A1 k1 c1] 36).alloc (.cells #[.slice A2 k2 c2] 36)).alloc (.cells #[.slice none 0 0] 36)))
  have p1_0 := Lib.hid (((Blk.mk (w.alloc (.cells #[.slice A1 k1 c1] 36)) (w.heap.size + 1) (by simp) [.slice A2 k2 c2] 36).alloc (.cells #[.slice none 0 0] 36)))
  have p2_0 := Lib.hid ((Blk.mk ((w.alloc (.cells #[.slice A1 k1 c1] 36)).alloc (.cells #[.slice A2 k2 c2] 36)) (w.heap.size + 2) (by simp) [.slice none 0 0] 36))
  have bel_0 := Lib.hid (show Below w.heap.size w (((w.alloc (.cells #[.slice A1 k1 c1] 36)).alloc (.cells #[.slice A2 k2 c2] 36)).alloc (.cells #[.slice none 0 0] 36)) by (repeat (first | assumption | exact Below.refl _ _ | refine Below.drew ?_ | refine Below.setCell ?_ (by simp <;> omega) _ | refine Below.alloc ?_ (by simp <;> omega) _)))
  have ne2 : ¬ w.heap.size + 1 + 1 = w.heap.size := by omega
  have en2 : ¬ w.heap.size = w.heap.size + 1 + 1 := by omega
  have h1_0 := Lib.hid (h1.below bel_0.out (Nat.le_refl _))
  have h2_0 := Lib.hid (h2.below bel_0.out (Nat.le_refl _))
  have hF := Lib.hid (div_any _ _ a b _ h1_0.out h2_0.out hb0 hs)
  go_enter Tryz.func55, Tryz.ntmps55
  go_wp2_with fail
  refine (hF.out).mono ?_
  rintro e w_1 ⟨q, r, rfl, hq, hr, hb_1⟩
  obtain ⟨A3, k3, c3, rfl⟩ := hq.slice
  obtain ⟨A4, k4, c4, rfl⟩ := hr.slice
  have p0_1 := Lib.hid (p0_0.out.below hb_1 p0_0.out.lt)
  have p1_1 := Lib.hid (p1_0.out.below hb_1 p1_0.out.lt)
  have p2_1 := Lib.hid (p2_0.out.below hb_1 p2_0.out.lt)
  have h1_1 := Lib.hid (h1_0.out.below hb_1 (Nat.le_refl _))
  have h2_1 := Lib.hid (h2_0.out.below hb_1 (Nat.le_refl _))
  have hq_1 := Lib.hid hq
  have bel_1 := Lib.hid (bel_0.out.trans (hb_1.mono bel_0.out.size))
  clear hb_1 hq
  have hg_2 : Below w_1.heap.size w_1 ((w_1.alloc (.cells #[.slice A3 k3 c3] 36)).alloc (.cells #[.slice A4 k4 c4] 36)) := by (repeat (first | assumption | exact Below.refl _ _ | refine Below.drew ?_ | refine Below.setCell ?_ (by simp <;> omega) _ | refine Below.alloc ?_ (by simp <;> omega) _))
  have p0_2 := Lib.hid (p0_1.out.below hg_2 p0_1.out.lt)
  have p1_2 := Lib.hid (p1_1.out.below hg_2 p1_1.out.lt)
  have p2_2 := Lib.hid (p2_1.out.below hg_2 p2_1.out.lt)
  have h1_2 := Lib.hid (h1_1.out.below hg_2 (Nat.le_refl _))
  have h2_2 := Lib.hid (h2_1.out.below hg_2 (Nat.le_refl _))
  have hq_2 := Lib.hid (hq_1.out.below hg_2 (Nat.le_refl _))
  have bel_2 := Lib.hid (bel_1.out.trans (hg_2.mono bel_1.out.size))
  have o2_0 : ((w_1.alloc (.cells #[.slice A3 k3 c3] 36)).alloc (.cells #[.slice A4 k4 c4] 36)).cell? ⟨w.heap.size + 2, 0, none⟩ = some (.slice none 0 0) := p2_2.out.cell 0
  have z2_0 := p2_2.out.frozen 0
  clear hg_2
  go_wp2_with fail
  refine bodyPost_ret (v := .agg #[.slice A3 k3 c3]) (by simp [results, Tryz.results55, go_sem, o2_0]) rfl ?_
  exact ⟨_, rfl, hq_2.out.box p2_2.out (by simp) 0 (.slice A3 k3 c3), bel_2.out.setCell (by simp <;> omega) _⟩

set_option maxRecDepth 100000 in
set_option maxHeartbeats 2000000 in
theorem num_any (b : Bool) (vn vr : Value) (n d : Nat) (w : World) (h1 : NatV w vn n) (h2 : NatV w vr d) :
    Calls Tryz.prog 74 #[.agg #[.bool b, vn, vr]] w fun e w' => e = .returned (.agg #[.bool b, vn]) ∧ Below w.heap.size w w' := by
  obtain ⟨A1, k1, c1, rfl⟩ := h1.slice
  obtain ⟨A2, k2, c2, rfl⟩ := h2.slice
  go_enter Tryz.func74, Tryz.ntmps74
  go_wp2_with fail
  refine bodyPost_ret (v := .agg #[.bool b, .slice A1 k1 c1]) (by simp [results, Tryz.results74, go_sem]) rfl ?_
  exact ⟨rfl, by (repeat (first | assumption | exact Below.refl _ _ | refine Below.drew ?_ | refine Below.setCell ?_ (by simp <;> omega) _ | refine Below.alloc ?_ (by simp <;> omega) _))⟩

set_option maxRecDepth 100000 in
set_option maxHeartbeats 2000000 in
theorem frSign_any (b : Bool) (vn vr : Value) (z : Int) (d : Nat) (w : World) (h : IntV w b vn z) (h2 : NatV w vr d) (hs : bl z.natAbs ≤ 4611686018427387904) :
    Calls Tryz.prog 13 #[.agg #[.bool b, vn, vr]] w fun e w' => e = .returned (.int .i64 (if z < 0 then -1 else if z = 0 then 0 else 1)) ∧ Below w.heap.size w w' := by
  obtain ⟨h1, hb⟩ := h
  obtain ⟨A1, k1, c1, rfl⟩ := h1.slice
  obtain ⟨A2, k2, c2, rfl⟩ := h2.slice
  have p0_0 := Lib.hid ((Blk.mk w (w.heap.size) rfl [.bool b, .slice A1 k1 c1, .slice A2 k2 c2] 40))
  have bel_0 := Lib.hid (show Below w.heap.size w (w.alloc (.cells #[.bool b, .slice A1 k1 c1, .slice A2 k2 c2] 40)) by (repeat (first | assumption | exact Below.refl _ _ | refine Below.drew ?_ | refine Below.setCell ?_ (by simp <;> omega) _ | refine Below.alloc ?_ (by simp <;> omega) _)))
  have h1_0 := Lib.hid (h1.below bel_0.out (Nat.le_refl _))
  have hF := Lib.hid (whSign_any b _ z _ ⟨h1_0.out, hb⟩ hs)
  obtain ⟨s, hs'⟩ : ∃ s : Int, (if z < 0 then -1 else if z = 0 then 0 else 1) = s := ⟨_, rfl⟩
  rw [hs'] at hF ⊢
  clear hb hs'
  go_enter Tryz.func13, Tryz.ntmps13
  go_wp2_with fail
  refine (hF.out).mono ?_
  rintro e w_1 ⟨rfl, hb_1⟩
  have p0_1 := Lib.hid (p0_0.out.below hb_1 p0_0.out.lt)
  have h1_1 := Lib.hid (h1_0.out.below hb_1 (Nat.le_refl _))
  have bel_1 := Lib.hid (bel_0.out.trans (hb_1.mono bel_0.out.size))
  clear hb_1 
  go_wp2_with fail
  go_ret
  exact ⟨rfl, bel_1.out⟩

set_option maxRecDepth 100000 in
set_option maxHeartbeats 2000000 in
theorem den_any (b : Bool) (vn vr : Value) (n d : Nat) (w : World) (h1 : NatV w vn n) (h2 : NatV w vr (dn d)) (hd : d ≠ 0) (hs : bl d ≤ 4611686018427387904) :
    Calls Tryz.prog 52 #[.agg #[.bool b, vn, vr]] w fun e w' => ∃ r, e = .returned (.agg #[r]) ∧ NatV w' r d ∧ Below w.heap.size w w' := by
  obtain ⟨A1, k1, c1, rfl⟩ := h1.slice
  obtain ⟨A2, k2, c2, rfl⟩ := h2.slice
  have p0_0 := Lib.hid (((Blk.mk w (w.heap.size) rfl [.bool b, .slice A1 k1 c1, .slice A2 k2 c2] 40).alloc (.cells #[.slice none 0 0] 36)))
  have p1_0 := Lib.hid ((Blk.mk (w.alloc (.cells #[.bool b, .slice A1 k1 c1, .slice A2 k2 c2] 40)) (w.heap.size + 1) (by simp) [.slice none 0 0] 36))
  have bel_0 := Lib.hid (show Below w.heap.size w ((w.alloc (.cells #[.bool b, .slice A1 k1 c1, .slice A2 k2 c2] 40)).alloc (.cells #[.slice none 0 0] 36)) by (repeat (first | assumption | exact Below.refl _ _ | refine Below.drew ?_ | refine Below.setCell ?_ (by simp <;> omega) _ | refine Below.alloc ?_ (by simp <;> omega) _)))
  have h1_0 := Lib.hid (h1.below bel_0.out (Nat.le_refl _))
  have h2_0 := Lib.hid (h2.below bel_0.out (Nat.le_refl _))
  have hO := Lib.hid (fun wd => of_any 1 wd (by decide))
  by_cases hd1 : d = 1
  · subst hd1
    have hF := Lib.hid (bits_any _ _ _ h2_0.out (by decide))
    have hz : (bl (dn 1) : Int) = 0 := by decide
    rw [hz] at hF
    clear hz
    go_enter Tryz.func52, Tryz.ntmps52
    go_wp2_with fail
    refine (hF.out).mono ?_
    rintro e w_1 ⟨rfl, hb_1⟩
    have p0_1 := Lib.hid (p0_0.out.below hb_1 p0_0.out.lt)
    have p1_1 := Lib.hid (p1_0.out.below hb_1 p1_0.out.lt)
    have h1_1 := Lib.hid (h1_0.out.below hb_1 (Nat.le_refl _))
    have h2_1 := Lib.hid (h2_0.out.below hb_1 (Nat.le_refl _))
    have bel_1 := Lib.hid (bel_0.out.trans (hb_1.mono bel_0.out.size))
    have o0_0 : w_1.cell? ⟨w.heap.size, 0, none⟩ = some (.bool b) := p0_1.out.cell 0
    have z0_0 := p0_1.out.frozen 0
    have o0_1 : w_1.cell? ⟨w.heap.size, 1, none⟩ = some (.slice A1 k1 c1) := p0_1.out.cell 1
    have z0_1 := p0_1.out.frozen 1
    have o0_2 : w_1.cell? ⟨w.heap.size, 2, none⟩ = some (.slice A2 k2 c2) := p0_1.out.cell 2
    have z0_2 := p0_1.out.frozen 2
    have o1_0 : w_1.cell? ⟨w.heap.size + 1, 0, none⟩ = some (.slice none 0 0) := p1_1.out.cell 0
    have z1_0 := p1_1.out.frozen 0
    clear hb_1 
    go_wp2_with fail
    refine (hO.out _).mono ?_
    rintro e w_2 ⟨r, rfl, hr, hb_2⟩
    obtain ⟨A3, k3, c3, rfl⟩ := hr.slice
    have p0_2 := Lib.hid (p0_1.out.below hb_2 p0_1.out.lt)
    have p1_2 := Lib.hid (p1_1.out.below hb_2 p1_1.out.lt)
    have h1_2 := Lib.hid (h1_1.out.below hb_2 (Nat.le_refl _))
    have h2_2 := Lib.hid (h2_1.out.below hb_2 (Nat.le_refl _))
    have hr_2 := Lib.hid hr
    have bel_2 := Lib.hid (bel_1.out.trans (hb_2.mono bel_1.out.size))
    have o1_0 : w_2.cell? ⟨w.heap.size + 1, 0, none⟩ = some (.slice none 0 0) := p1_2.out.cell 0
    have z1_0 := p1_2.out.frozen 0
    clear hb_2 hr
    go_wp2_with fail
    refine bodyPost_ret (v := .agg #[.slice A3 k3 c3]) (by simp [results, Tryz.results52, go_sem, o1_0]) rfl ?_
    exact ⟨_, rfl, hr_2.out.box p1_2.out (by simp) 0 (.slice A3 k3 c3), bel_2.out.setCell (by simp <;> omega) _⟩
  · have hdn : dn d = d := if_neg hd1
    rw [hdn] at h2_0 h2
    have hF := Lib.hid (bits_any _ _ _ h2_0.out hs)
    have hz : ((bl d : Int) == 0) = false := by
      have := bl_pos hd
      simp; omega
    have HX := Lib.hid (And.intro hd1 hdn)
    clear hd1 hdn
    go_enter Tryz.func52, Tryz.ntmps52
    go_wp2_with fail
    refine (hF.out).mono ?_
    rintro e w_1 ⟨rfl, hb_1⟩
    have p0_1 := Lib.hid (p0_0.out.below hb_1 p0_0.out.lt)
    have p1_1 := Lib.hid (p1_0.out.below hb_1 p1_0.out.lt)
    have h1_1 := Lib.hid (h1_0.out.below hb_1 (Nat.le_refl _))
    have h2_1 := Lib.hid (h2_0.out.below hb_1 (Nat.le_refl _))
    have bel_1 := Lib.hid (bel_0.out.trans (hb_1.mono bel_0.out.size))
    have o0_0 : w_1.cell? ⟨w.heap.size, 0, none⟩ = some (.bool b) := p0_1.out.cell 0
    have z0_0 := p0_1.out.frozen 0
    have o0_1 : w_1.cell? ⟨w.heap.size, 1, none⟩ = some (.slice A1 k1 c1) := p0_1.out.cell 1
    have z0_1 := p0_1.out.frozen 1
    have o0_2 : w_1.cell? ⟨w.heap.size, 2, none⟩ = some (.slice A2 k2 c2) := p0_1.out.cell 2
    have z0_2 := p0_1.out.frozen 2
    have o1_0 : w_1.cell? ⟨w.heap.size + 1, 0, none⟩ = some (.slice none 0 0) := p1_1.out.cell 0
    have z1_0 := p1_1.out.frozen 0
    clear hb_1 
    go_wp2_with fail
    refine bodyPost_ret (v := .agg #[.slice A2 k2 c2]) (by simp [results, Tryz.results52, go_sem, o1_0]) rfl ?_
    exact ⟨_, rfl, h2_1.out.box p1_1.out (by simp) 0 (.slice A2 k2 c2), bel_1.out.setCell (by simp <;> omega) _⟩

set_option maxRecDepth 100000 in
set_option maxHeartbeats 2000000 in
theorem frNeg_any (b : Bool) (vn vr : Value) (z : Int) (d : Nat) (w : World) (h : IntV w b vn z) (h2 : NatV w vr d) (hs : bl z.natAbs ≤ 4611686018427387904) :
    Calls Tryz.prog 61 #[.agg #[.bool b, vn, vr]] w fun e w' => e = .returned (.agg #[.bool (decide (-z < 0)), vn, vr]) ∧ IntV w' (decide (-z < 0)) vn (-z) ∧ NatV w' vr d ∧ Below w.heap.size w w' := by
  obtain ⟨h1, hb⟩ := h
  obtain ⟨A1, k1, c1, rfl⟩ := h1.slice
  obtain ⟨A2, k2, c2, rfl⟩ := h2.slice
  have p0_0 := Lib.hid (((Blk.mk w (w.heap.size) rfl [.bool b, .slice A1 k1 c1, .slice A2 k2 c2] 40).alloc (.cells #[.bool false, .slice none 0 0, .slice none 0 0] 40)).drew)
  have p1_0 := Lib.hid ((Blk.mk (w.alloc (.cells #[.bool b, .slice A1 k1 c1, .slice A2 k2 c2] 40)) (w.heap.size + 1) (by simp) [.bool false, .slice none 0 0, .slice none 0 0] 40).drew)
  have bel_0 := Lib.hid (show Below w.heap.size w ((w.alloc (.cells #[.bool b, .slice A1 k1 c1, .slice A2 k2 c2] 40)).alloc (.cells #[.bool false, .slice none 0 0, .slice none 0 0] 40)).drew by (repeat (first | assumption | exact Below.refl _ _ | refine Below.drew ?_ | refine Below.setCell ?_ (by simp <;> omega) _ | refine Below.alloc ?_ (by simp <;> omega) _)))
  have h1_0 := Lib.hid (h1.below bel_0.out (Nat.le_refl _))
  have h2_0 := Lib.hid (h2.below bel_0.out (Nat.le_refl _))
  have hF := Lib.hid (whNeg_any b _ z _ ⟨h1_0.out, hb⟩ hs)
  obtain ⟨s, hs'⟩ : ∃ s, decide (-z < 0) = s := ⟨_, rfl⟩
  rw [hs'] at hF ⊢
  have HS := Lib.hid hs'
  clear hb hs'
  go_enter Tryz.func61, Tryz.ntmps61
  go_upto_region 1 with fail
  go_region_held3 (fun w' => w'.cell? ⟨w.heap.size, 0, none⟩ = some (.bool b) ∧ w'.cell? ⟨w.heap.size, 1, none⟩ = some (.slice A1 k1 c1) ∧ w'.cell? ⟨w.heap.size, 2, none⟩ = some (.slice A2 k2 c2)) (go_keep)
    (first
      | ((go_at_call 77; refine (hF.out).mono ?_; rintro e w_1 ⟨rfl, hb_1⟩; have c0_0_1 : w_1.cell? ⟨w.heap.size, 0, none⟩ = some (.bool b) := (p0_0.out.below hb_1 p0_0.out.lt).cell 0; have c0_1_1 : w_1.cell? ⟨w.heap.size, 1, none⟩ = some (.slice A1 k1 c1) := (p0_0.out.below hb_1 p0_0.out.lt).cell 1; have c0_2_1 : w_1.cell? ⟨w.heap.size, 2, none⟩ = some (.slice A2 k2 c2) := (p0_0.out.below hb_1 p0_0.out.lt).cell 2; have p0_1 := Lib.hid (p0_0.out.below hb_1 p0_0.out.lt); have p1_1 := Lib.hid (p1_0.out.below hb_1 p1_0.out.lt); have h1_1 := Lib.hid (h1_0.out.below hb_1 (Nat.le_refl _)); have h2_1 := Lib.hid (h2_0.out.below hb_1 (Nat.le_refl _)); have bel_1 := Lib.hid (bel_0.out.trans (hb_1.mono bel_0.out.size)); have o1_0 : w_1.cell? ⟨w.heap.size + 1, 0, none⟩ = some (.bool false) := p1_1.out.cell 0; have z1_0 := p1_1.out.frozen 0; have o1_1 : w_1.cell? ⟨w.heap.size + 1, 1, none⟩ = some (.slice none 0 0) := p1_1.out.cell 1; have z1_1 := p1_1.out.frozen 1; have o1_2 : w_1.cell? ⟨w.heap.size + 1, 2, none⟩ = some (.slice none 0 0) := p1_1.out.cell 2; have z1_2 := p1_1.out.frozen 2; clear hb_1 )))
  all_goals go_wp2
  all_goals
    refine bodyPost_ret (v := .agg #[.bool s, .slice A1 k1 c1, .slice A2 k2 c2]) (by simp [results, Tryz.results61, go_sem, o1_0, o1_1, o1_2]) rfl ?_
    refine ⟨rfl, ⟨?_, HS.out.symm⟩, ?_, ((bel_1.out.setCell (by simp <;> omega) _).setCell (by simp <;> omega) _).setCell (by simp <;> omega) _⟩
    · rw [Int.natAbs_neg]; exact h1_1.out.box3 p1_1.out (by simp) (by simp)
    · exact h2_1.out.box3 p1_1.out (by simp) (by simp)

end Go.Proofs.YtjfkniknmkcdcaaGreatDoor

namespace Go.Proofs.YtjfkniknmkcdcaaGreatDoor
open Go.RowKit K Nu

theorem mk_num (n : Int) (d : Nat) (hd : d ≠ 0) : (mkRat n d).num = n / (Nat.gcd n.natAbs d : Int) := by
  rw [Rat.num_mkRat, if_neg hd, Nat.gcd_comm]
theorem mk_den (n : Int) (d : Nat) (hd : d ≠ 0) : (mkRat n d).den = d / Nat.gcd n.natAbs d := by
  rw [Rat.den_mkRat, if_neg hd, Nat.gcd_comm]

set_option maxRecDepth 100000 in
set_option maxHeartbeats 2000000 in
theorem quick_any (n : Int) (d : Nat) (w : World) (h0 : n.natAbs < 9223372036854775808) (hd : d ≠ 0) (hd1 : d < 9223372036854775808) :
    Calls Tryz.prog 51 #[.int .i64 n, .int .i64 d] w fun e w' => ∃ b vn vr, e = .returned (.agg #[.bool b, vn, vr]) ∧ QV w' b vn vr (mkRat n d) ∧ Below w.heap.size w w' := by
  have hneg : IntKind.i64.wrap (-n) = -n := by rw [IntKind.wrap_i64]; omega
  have hmax : max n (-n) = (n.natAbs : Int) := by omega
  go_enter Tryz.func51, Tryz.ntmps51
  go_wp2_with fail
  go_loopw [5, 6] (fun av bv wr => ∃ x y : Nat, av = .int .i64 x ∧ bv = .int .i64 y ∧ x < 9223372036854775808 ∧ y < 9223372036854775808 ∧ Hid (Nat.gcd x y = Nat.gcd n.natAbs d) ∧ ∃ k, wr = (w.alloc (.cells #[.bool false, .slice none 0 0, .slice none 0 0] 40)).drewN k) (fun _ bv _ => (intOf bv).toNat)
  case atStart => exact ⟨n.natAbs, d, rfl, rfl, h0, hd1, Lib.hid rfl, 0, rfl⟩
  case round =>
    obtain ⟨x, y, rfl, rfl, hx, hy, hg, kk, rfl⟩ := hrel
    clear hneg hmax
    by_cases hy0 : y = 0
    · subst hy0
      have hxg : x = Nat.gcd n.natAbs d := by rw [← hg.out, Nat.gcd_zero_right]
      have hg0 : Nat.gcd n.natAbs d ≠ 0 := fun h => hd (Nat.eq_zero_of_gcd_eq_zero_right h)
      have hgn : Nat.gcd n.natAbs d ∣ n.natAbs := Nat.gcd_dvd_left _ _
      have hgd : Nat.gcd n.natAbs d ∣ d := Nat.gcd_dvd_right _ _
      clear hg
      subst hxg
      have HN := Lib.hid (mk_num n d hd)
      have HD := Lib.hid (mk_den n d hd)
      generalize Nat.gcd n.natAbs d = g at *
      have hgi : (g : Int) ∣ n := Int.natAbs_dvd_natAbs.1 (by simpa using hgn)
      have q1 : n.tdiv (g : Int) = n / (g : Int) := Int.tdiv_eq_ediv_of_dvd hgi
      have hq2 : (n / (g : Int)).natAbs ≤ n.natAbs := by
        obtain ⟨k, hk⟩ := hgi
        rw [hk, Int.mul_ediv_cancel_left k (by omega), Int.natAbs_mul]
        exact Nat.le_mul_of_pos_left _ (by omega)
      have q3 : (d : Int).tdiv (g : Int) = ((d / g : Nat) : Int) := by rw [Int.tdiv_eq_ediv_of_nonneg (by omega)]; rfl
      have hq4 : d / g ≤ d := Nat.div_le_self _ _
      generalize n / (g : Int) = Q at *
      generalize d / g = D at *
      have hw1 : IntKind.i64.wrap (Q) = Q := by rw [IntKind.wrap_i64]; omega
      have hw2 : IntKind.i64.wrap (D : Int) = (D : Int) := by rw [IntKind.wrap_i64]; omega
      have hw3 : IntKind.u64.wrap (D : Int) = (D : Int) := by rw [wrap64u]; omega
      have hgz : (g : Int) ≠ 0 := by omega
      have hgz2 : ¬ g = 0 := by omega
      have hgz3 : ((g : Int) = 0) = False := by simp; omega
      have hgz4 : (g = 0) = False := by simp; omega
      have hgz5 : ((g : Int) == 0) = false := beq_eq_false_iff_ne.2 hgz
      have hO := Lib.hid (fun wd => whOf_any (Q) wd (by omega) (by omega))
      have hU := Lib.hid (fun wd => of_any D wd (by omega))
      have hL := Lib.hid (fun (wd : World) v vd (ha : NatV wd v (Q).natAbs) (hc : NatV wd vd D) => low_any (decide (Q < 0)) v vd _ _ wd ha hc)
      have p0_0 := Lib.hid (show Blk (((w.alloc (.cells #[.bool false, .slice none 0 0, .slice none 0 0] 40)).drewN kk).drew) w.heap.size [.bool false, .slice none 0 0, .slice none 0 0] 40 from ((Blk.mk w _ rfl _ _).drewN kk).drew)
      have bel_0 := Lib.hid (show Below w.heap.size w (((w.alloc (.cells #[.bool false, .slice none 0 0, .slice none 0 0] 40)).drewN kk).drew) from (bdn (by (repeat (first | assumption | exact Below.refl _ _ | refine Below.drew ?_ | refine Below.setCell ?_ (by simp <;> omega) _ | refine Below.alloc ?_ (by simp <;> omega) _))) kk).drew)
      have HH := Lib.hid (And.intro h0 (And.intro hd (And.intro hd1 (And.intro hg0 (And.intro hq2 hq4)))))
      clear h0 hd hd1 hg0 hq2 hq4 hgn hgd hgi
      go_upto_region 4 with fail
      go_region_held3 (fun _ => True) (go_keep)
        (first
          | ((go_at_call 57; refine (hL.out _ _ _ hv_2.out hr_2.out).mono ?_; rintro e w_3 ⟨vr, rfl, hn, hq, hb_3⟩; obtain ⟨A3, k3, c3, rfl⟩ := hq.slice; have p0_3 := Lib.hid (p0_2.out.below hb_3 p0_2.out.lt); have hv_3 := Lib.hid (hv_2.out.below hb_3 (Nat.le_refl _)); have hr_3 := Lib.hid (hr_2.out.below hb_3 (Nat.le_refl _)); have hn_3 := Lib.hid hn; have hq_3 := Lib.hid hq; have bel_3 := Lib.hid (bel_2.out.trans (hb_3.mono bel_2.out.size)); have o0_0 : w_3.cell? ⟨w.heap.size, 0, none⟩ = some (.bool false) := p0_3.out.cell 0; have z0_0 := p0_3.out.frozen 0; have o0_1 : w_3.cell? ⟨w.heap.size, 1, none⟩ = some (.slice none 0 0) := p0_3.out.cell 1; have z0_1 := p0_3.out.frozen 1; have o0_2 : w_3.cell? ⟨w.heap.size, 2, none⟩ = some (.slice none 0 0) := p0_3.out.cell 2; have z0_2 := p0_3.out.frozen 2; clear hb_3 hn hq))
          | ((go_at_call 91; refine (hU.out _).mono ?_; rintro e w_2 ⟨r, rfl, hr, hb_2⟩; obtain ⟨A2, k2, c2, rfl⟩ := hr.slice; have p0_2 := Lib.hid (p0_1.out.below hb_2 p0_1.out.lt); have hv_2 := Lib.hid (hv_1.out.below hb_2 (Nat.le_refl _)); have hr_2 := Lib.hid hr; have bel_2 := Lib.hid (bel_1.out.trans (hb_2.mono bel_1.out.size)); clear hb_2 hr))
          | ((go_at_call 66; refine (hO.out _).mono ?_; rintro e w_1 ⟨v, rfl, hv, hb_1⟩; obtain ⟨A1, k1, c1, rfl⟩ := hv.slice; have p0_1 := Lib.hid (p0_0.out.below hb_1 p0_0.out.lt); have hv_1 := Lib.hid hv; have bel_1 := Lib.hid (bel_0.out.trans (hb_1.mono bel_0.out.size)); clear hb_1 hv))
          | ((fail)))
      all_goals go_wp2
      all_goals
        refine bodyPost_ret (v := .agg #[.bool (decide (Q < 0)), .slice A1 k1 c1, .slice A3 k3 c3]) (by simp [results, Tryz.results51, go_sem, o0_0, o0_1, o0_2]) rfl ?_
        refine ⟨_, _, _, rfl, ⟨⟨?_, by rw [HN.out]⟩, ?_⟩, ((bel_3.out.setCell (by simp <;> omega) _).setCell (by simp <;> omega) _).setCell (by simp <;> omega) _⟩
        · rw [HN.out]; exact hn_3.out.box3 p0_3.out (by simp) (by simp)
        · rw [HD.out]; exact hq_3.out.box3 p0_3.out (by simp) (by simp)
    · have t0 : ((y : Int) == 0) = false := by simpa using hy0
      have t1 : (y : Int) ≠ 0 := by omega
      have hlt := Lib.hid (Nat.mod_lt x (show y > 0 by omega))
      have hmm : (x : Int).tmod (y : Int) = ((x % y : Nat) : Int) := by rw [Int.tmod_eq_emod_of_nonneg (by omega)]; rfl
      have hw : IntKind.i64.wrap ((x % y : Nat) : Int) = ((x % y : Nat) : Int) := by
        have := hlt.out
        rw [IntKind.wrap_i64]; omega
      have H0 := Lib.hid hy0
      clear hy0
      go_wp2_with fail
      go_region
      all_goals go_wp2
      all_goals
        refine ⟨⟨y, x % y, rfl, rfl, hy, by have := hlt.out; omega, Lib.hid ?_, kk + 1, rfl⟩, ?_⟩
        · rw [← hg.out, Nat.gcd_comm y (x % y), ← Nat.gcd_rec, Nat.gcd_comm]
        · have := hlt.out
          simp only [intOf]
          omega
set_option maxRecDepth 100000 in
set_option maxHeartbeats 2000000 in
theorem short_small (b : Bool) (vn vr : Value) (z : Int) (d : Nat) (w : World) (h : IntV w b vn z) (h2 : NatV w vr (dn d)) (hz0 : -2147483648 < z) (hz1 : z < 2147483648) (hd0 : d ≠ 0) (hd1 : d < 2147483648) :
    Calls Tryz.prog 50 #[.agg #[.bool b, vn, vr]] w fun e w' => e = .returned (.tuple #[.int .i64 z, .int .i64 d, .bool true]) ∧ Below w.heap.size w w' := by
  obtain ⟨h1, hb⟩ := h
  obtain ⟨A1, k1, c1, rfl⟩ := h1.slice
  obtain ⟨A2, k2, c2, rfl⟩ := h2.slice
  have p0_0 := Lib.hid ((Blk.mk w (w.heap.size) rfl [.bool b, .slice A1 k1 c1, .slice A2 k2 c2] 40))
  have bel_0 := Lib.hid (show Below w.heap.size w (w.alloc (.cells #[.bool b, .slice A1 k1 c1, .slice A2 k2 c2] 40)) by (repeat (first | assumption | exact Below.refl _ _ | refine Below.drew ?_ | refine Below.setCell ?_ (by simp <;> omega) _ | refine Below.alloc ?_ (by simp <;> omega) _)))
  have h1_0 := Lib.hid (h1.below bel_0.out (Nat.le_refl _))
  have h2_0 := Lib.hid (h2.below bel_0.out (Nat.le_refl _))
  have hN := whSmall_any b _ z _ ⟨h1_0.out, hb⟩
  have hi2 : isI64 z = true := decide_eq_true (by omega)
  have hi1 : i64Of z = z := if_pos hi2
  rw [hi1, hi2] at hN
  replace hN := Lib.hid hN
  have hR := Lib.hid (fun (wd : World) (ha : NatV wd (.slice A2 k2 c2) (dn d)) => small_any _ _ wd ha)
  have hdl : dn d < 2147483648 := by unfold dn; split <;> omega
  have hs1 : smallW (dn d) = (dn d : Int) := if_pos (by omega)
  have hs2 : decide (dn d < 18446744073709551616) = true := decide_eq_true (by omega)
  rw [hs1, hs2] at hR
  have hmx : max (dn d : Int) 1 = (d : Int) := by unfold dn; split <;> omega
  have t1 : decide (-2147483648 < z) = true := decide_eq_true hz0
  have t2 : decide (z < 2147483648) = true := decide_eq_true hz1
  have t3 : decide ((dn d : Int) < 2147483648) = true := decide_eq_true (by omega)
  have hw1 : IntKind.i64.wrap (d : Int) = d := by rw [IntKind.wrap_i64]; omega
  obtain ⟨u, hu⟩ : ∃ u, dn d = u := ⟨_, rfl⟩
  rw [hu] at hR hmx t3 h2_0
  have HH := Lib.hid (And.intro hb (And.intro hi1 (And.intro hi2 (And.intro hs1 (And.intro hs2 hu)))))
  clear hb hi1 hi2 hs1 hs2 hu
  go_enter Tryz.func50, Tryz.ntmps50
  go_wp2_with fail
  refine (hN.out).mono ?_
  rintro e w_1 ⟨rfl, hb_1⟩
  have p0_1 := Lib.hid (p0_0.out.below hb_1 p0_0.out.lt)
  have h1_1 := Lib.hid (h1_0.out.below hb_1 (Nat.le_refl _))
  have h2_1 := Lib.hid (h2_0.out.below hb_1 (Nat.le_refl _))
  have bel_1 := Lib.hid (bel_0.out.trans (hb_1.mono bel_0.out.size))
  have o0_0 : w_1.cell? ⟨w.heap.size, 0, none⟩ = some (.bool b) := p0_1.out.cell 0
  have z0_0 := p0_1.out.frozen 0
  have o0_1 : w_1.cell? ⟨w.heap.size, 1, none⟩ = some (.slice A1 k1 c1) := p0_1.out.cell 1
  have z0_1 := p0_1.out.frozen 1
  have o0_2 : w_1.cell? ⟨w.heap.size, 2, none⟩ = some (.slice A2 k2 c2) := p0_1.out.cell 2
  have z0_2 := p0_1.out.frozen 2
  clear hb_1 
  go_wp2_with fail
  refine (hR.out _ h2_1.out).mono ?_
  rintro e w_2 ⟨rfl, hb_2⟩
  have p0_2 := Lib.hid (p0_1.out.below hb_2 p0_1.out.lt)
  have h1_2 := Lib.hid (h1_1.out.below hb_2 (Nat.le_refl _))
  have h2_2 := Lib.hid (h2_1.out.below hb_2 (Nat.le_refl _))
  have bel_2 := Lib.hid (bel_1.out.trans (hb_2.mono bel_1.out.size))
  clear hb_2 
  go_wp2_with fail
  refine bodyPost_ret (v := .tuple #[.int .i64 z, .int .i64 d, .bool true]) (by simp [results, Tryz.results50, go_sem]) rfl ?_
  exact ⟨rfl, bel_2.out⟩
end Go.Proofs.YtjfkniknmkcdcaaGreatDoor
