/- The walks of hand's R, Row. (printed by wip/gen/hc.py) -/
import Derived.Test.YtjfkniknmkcdcaaGreatDoorMHb
namespace Go.Proofs.YtjfkniknmkcdcaaGreatDoor
open Go.RowKit K Nu

def d6 (t : Int) : Nat := if t = 3 then 2 else if t = 4 then 3 else if t = 5 then 4 else 1
/-- hand's R -/
def rr (n : Int) : Rat := mkRat (n % 41 - 20) (d6 (n.tdiv 41 % 6))
/-- hand's Row -/
def rowQ (l : List Int) (n : Nat) : List Rat := (List.range n).map fun i => if i < l.length then rr (l.getD i 0) else ((0 : Int) : Rat)
def I64 (n : Int) : Prop := -9223372036854775808 ≤ n ∧ n < 9223372036854775808
theorem d6_le (t : Int) : d6 t ≠ 0 ∧ d6 t ≤ 4 := by unfold d6; split <;> (try split) <;> (try split) <;> omega

set_option maxRecDepth 100000 in
set_option maxHeartbeats 4000000 in
theorem r_any (n : Int) (w : World) (hn : I64 n) :
    Calls Tryz.prog 62 #[.int .i64 n] w fun e w' => ∃ b' v1 v2, e = .returned (.agg #[.bool b', v1, v2]) ∧ RQ w' b' v1 v2 (rr n) ∧ Below w.heap.size w w' := by
  unfold I64 at hn
  have p0_0 := Lib.hid ((Blk.mk w (w.heap.size) rfl [.bool false, .slice none 0 0, .slice none 0 0] 55))
  have bel_0 := Lib.hid (show Below w.heap.size w (w.alloc (.cells #[.bool false, .slice none 0 0, .slice none 0 0] 55)) by (repeat (first | assumption | exact Below.refl _ _ | refine Below.drew ?_ | refine Below.setCell ?_ (by simp <;> omega) _ | refine Below.alloc ?_ (by simp <;> omega) _)))
  unfold rr
  have hP1 := Lib.hid (fun wd => pick_any n 41 wd (by decide) (by decide))
  obtain ⟨t, ht⟩ : ∃ t, n.tdiv 41 % 6 = t := ⟨_, rfl⟩
  have hP2 := fun wd => pick_any (n.tdiv 41) 6 wd (by decide) (by decide)
  rw [ht] at hP2 ⊢
  replace hP2 := Lib.hid hP2
  have ht6 : t = 0 ∨ t = 1 ∨ t = 2 ∨ t = 3 ∨ t = 4 ∨ t = 5 := by omega
  have hq0 : (n.tdiv 41).natAbs = n.natAbs / 41 := by rw [Int.natAbs_tdiv]; rfl
  have hw1 : IntKind.i64.wrap (n.tdiv 41) = n.tdiv 41 := by rw [IntKind.wrap_i64]; omega
  have hw2 : IntKind.i64.wrap (n % 41 - 20) = n % 41 - 20 := by rw [IntKind.wrap_i64]; omega
  have HT := Lib.hid ht
  clear ht hq0
  rcases ht6 with rfl | rfl | rfl | rfl | rfl | rfl
  · have hO := Lib.hid (fun wd => rover_any (n % 41 - 20) (d6 0) wd (by omega) (by omega) (d6_le _).1 (by have := (d6_le 0).2; omega))
    rw [show ((d6 0 : Nat) : Int) = 1 from rfl] at hO
    have hix : ∀ wd : World, (Instr.index 138 (.agg #[.int .i64 1, .int .i64 1, .int .i64 1, .int .i64 2, .int .i64 3, .int .i64 4]) (.int .i64 0)).run Tryz.prog wd = .ok (.int .i64 1) wd := by intro wd; kernel_rfl
    go_enter Tryz.func62, Tryz.ntmps62
    go_wp2_with fail
    refine (hP1.out _).mono ?_
    rintro e w1 ⟨rfl, rfl⟩
    go_wp2_with fail
    refine (hP2.out _).mono ?_
    rintro e w1 ⟨rfl, rfl⟩
    go_wp2_with fail
    refine (hO.out _).mono ?_
    rintro e w_1 ⟨b', v1, v2, rfl, hq, hb_1⟩
    obtain ⟨A1, k1, c1, A2, k2, c2, rfl, rfl⟩ := hq.slices
    have hq1 := hq.1.1
    have HVS := Lib.hid hq.1.2
    have hq2 := hq.2
    clear hq
    have p0_1 := Lib.hid (p0_0.out.below hb_1 p0_0.out.lt)
    have hq1_1 := Lib.hid hq1
    have hq2_1 := Lib.hid hq2
    have bel_1 := Lib.hid (bel_0.out.trans (hb_1.mono bel_0.out.size))
    have o0_0 : w_1.cell? ⟨w.heap.size, 0, none⟩ = some (.bool false) := p0_1.out.cell 0
    have z0_0 := p0_1.out.frozen 0
    have o0_1 : w_1.cell? ⟨w.heap.size, 1, none⟩ = some (.slice none 0 0) := p0_1.out.cell 1
    have z0_1 := p0_1.out.frozen 1
    have o0_2 : w_1.cell? ⟨w.heap.size, 2, none⟩ = some (.slice none 0 0) := p0_1.out.cell 2
    have z0_2 := p0_1.out.frozen 2
    clear hb_1 hq1 hq2
    go_wp2_with fail
    refine bodyPost_ret (v := .agg #[.bool b', .slice A1 k1 c1, .slice A2 k2 c2]) (by simp [results, Tryz.results62, go_sem, o0_0, o0_1, o0_2]) rfl ?_
    exact ⟨_, _, _, rfl, ⟨⟨hq1_1.out.box3 p0_1.out (by simp) (by simp), HVS.out⟩, hq2_1.out.box3 p0_1.out (by simp) (by simp)⟩, Below.set3 bel_1.out (by omega)⟩
  · have hO := Lib.hid (fun wd => rover_any (n % 41 - 20) (d6 1) wd (by omega) (by omega) (d6_le _).1 (by have := (d6_le 1).2; omega))
    rw [show ((d6 1 : Nat) : Int) = 1 from rfl] at hO
    have hix : ∀ wd : World, (Instr.index 138 (.agg #[.int .i64 1, .int .i64 1, .int .i64 1, .int .i64 2, .int .i64 3, .int .i64 4]) (.int .i64 1)).run Tryz.prog wd = .ok (.int .i64 1) wd := by intro wd; kernel_rfl
    go_enter Tryz.func62, Tryz.ntmps62
    go_wp2_with fail
    refine (hP1.out _).mono ?_
    rintro e w1 ⟨rfl, rfl⟩
    go_wp2_with fail
    refine (hP2.out _).mono ?_
    rintro e w1 ⟨rfl, rfl⟩
    go_wp2_with fail
    refine (hO.out _).mono ?_
    rintro e w_1 ⟨b', v1, v2, rfl, hq, hb_1⟩
    obtain ⟨A1, k1, c1, A2, k2, c2, rfl, rfl⟩ := hq.slices
    have hq1 := hq.1.1
    have HVS := Lib.hid hq.1.2
    have hq2 := hq.2
    clear hq
    have p0_1 := Lib.hid (p0_0.out.below hb_1 p0_0.out.lt)
    have hq1_1 := Lib.hid hq1
    have hq2_1 := Lib.hid hq2
    have bel_1 := Lib.hid (bel_0.out.trans (hb_1.mono bel_0.out.size))
    have o0_0 : w_1.cell? ⟨w.heap.size, 0, none⟩ = some (.bool false) := p0_1.out.cell 0
    have z0_0 := p0_1.out.frozen 0
    have o0_1 : w_1.cell? ⟨w.heap.size, 1, none⟩ = some (.slice none 0 0) := p0_1.out.cell 1
    have z0_1 := p0_1.out.frozen 1
    have o0_2 : w_1.cell? ⟨w.heap.size, 2, none⟩ = some (.slice none 0 0) := p0_1.out.cell 2
    have z0_2 := p0_1.out.frozen 2
    clear hb_1 hq1 hq2
    go_wp2_with fail
    refine bodyPost_ret (v := .agg #[.bool b', .slice A1 k1 c1, .slice A2 k2 c2]) (by simp [results, Tryz.results62, go_sem, o0_0, o0_1, o0_2]) rfl ?_
    exact ⟨_, _, _, rfl, ⟨⟨hq1_1.out.box3 p0_1.out (by simp) (by simp), HVS.out⟩, hq2_1.out.box3 p0_1.out (by simp) (by simp)⟩, Below.set3 bel_1.out (by omega)⟩
  · have hO := Lib.hid (fun wd => rover_any (n % 41 - 20) (d6 2) wd (by omega) (by omega) (d6_le _).1 (by have := (d6_le 2).2; omega))
    rw [show ((d6 2 : Nat) : Int) = 1 from rfl] at hO
    have hix : ∀ wd : World, (Instr.index 138 (.agg #[.int .i64 1, .int .i64 1, .int .i64 1, .int .i64 2, .int .i64 3, .int .i64 4]) (.int .i64 2)).run Tryz.prog wd = .ok (.int .i64 1) wd := by intro wd; kernel_rfl
    go_enter Tryz.func62, Tryz.ntmps62
    go_wp2_with fail
    refine (hP1.out _).mono ?_
    rintro e w1 ⟨rfl, rfl⟩
    go_wp2_with fail
    refine (hP2.out _).mono ?_
    rintro e w1 ⟨rfl, rfl⟩
    go_wp2_with fail
    refine (hO.out _).mono ?_
    rintro e w_1 ⟨b', v1, v2, rfl, hq, hb_1⟩
    obtain ⟨A1, k1, c1, A2, k2, c2, rfl, rfl⟩ := hq.slices
    have hq1 := hq.1.1
    have HVS := Lib.hid hq.1.2
    have hq2 := hq.2
    clear hq
    have p0_1 := Lib.hid (p0_0.out.below hb_1 p0_0.out.lt)
    have hq1_1 := Lib.hid hq1
    have hq2_1 := Lib.hid hq2
    have bel_1 := Lib.hid (bel_0.out.trans (hb_1.mono bel_0.out.size))
    have o0_0 : w_1.cell? ⟨w.heap.size, 0, none⟩ = some (.bool false) := p0_1.out.cell 0
    have z0_0 := p0_1.out.frozen 0
    have o0_1 : w_1.cell? ⟨w.heap.size, 1, none⟩ = some (.slice none 0 0) := p0_1.out.cell 1
    have z0_1 := p0_1.out.frozen 1
    have o0_2 : w_1.cell? ⟨w.heap.size, 2, none⟩ = some (.slice none 0 0) := p0_1.out.cell 2
    have z0_2 := p0_1.out.frozen 2
    clear hb_1 hq1 hq2
    go_wp2_with fail
    refine bodyPost_ret (v := .agg #[.bool b', .slice A1 k1 c1, .slice A2 k2 c2]) (by simp [results, Tryz.results62, go_sem, o0_0, o0_1, o0_2]) rfl ?_
    exact ⟨_, _, _, rfl, ⟨⟨hq1_1.out.box3 p0_1.out (by simp) (by simp), HVS.out⟩, hq2_1.out.box3 p0_1.out (by simp) (by simp)⟩, Below.set3 bel_1.out (by omega)⟩
  · have hO := Lib.hid (fun wd => rover_any (n % 41 - 20) (d6 3) wd (by omega) (by omega) (d6_le _).1 (by have := (d6_le 3).2; omega))
    rw [show ((d6 3 : Nat) : Int) = 2 from rfl] at hO
    have hix : ∀ wd : World, (Instr.index 138 (.agg #[.int .i64 1, .int .i64 1, .int .i64 1, .int .i64 2, .int .i64 3, .int .i64 4]) (.int .i64 3)).run Tryz.prog wd = .ok (.int .i64 2) wd := by intro wd; kernel_rfl
    go_enter Tryz.func62, Tryz.ntmps62
    go_wp2_with fail
    refine (hP1.out _).mono ?_
    rintro e w1 ⟨rfl, rfl⟩
    go_wp2_with fail
    refine (hP2.out _).mono ?_
    rintro e w1 ⟨rfl, rfl⟩
    go_wp2_with fail
    refine (hO.out _).mono ?_
    rintro e w_1 ⟨b', v1, v2, rfl, hq, hb_1⟩
    obtain ⟨A1, k1, c1, A2, k2, c2, rfl, rfl⟩ := hq.slices
    have hq1 := hq.1.1
    have HVS := Lib.hid hq.1.2
    have hq2 := hq.2
    clear hq
    have p0_1 := Lib.hid (p0_0.out.below hb_1 p0_0.out.lt)
    have hq1_1 := Lib.hid hq1
    have hq2_1 := Lib.hid hq2
    have bel_1 := Lib.hid (bel_0.out.trans (hb_1.mono bel_0.out.size))
    have o0_0 : w_1.cell? ⟨w.heap.size, 0, none⟩ = some (.bool false) := p0_1.out.cell 0
    have z0_0 := p0_1.out.frozen 0
    have o0_1 : w_1.cell? ⟨w.heap.size, 1, none⟩ = some (.slice none 0 0) := p0_1.out.cell 1
    have z0_1 := p0_1.out.frozen 1
    have o0_2 : w_1.cell? ⟨w.heap.size, 2, none⟩ = some (.slice none 0 0) := p0_1.out.cell 2
    have z0_2 := p0_1.out.frozen 2
    clear hb_1 hq1 hq2
    go_wp2_with fail
    refine bodyPost_ret (v := .agg #[.bool b', .slice A1 k1 c1, .slice A2 k2 c2]) (by simp [results, Tryz.results62, go_sem, o0_0, o0_1, o0_2]) rfl ?_
    exact ⟨_, _, _, rfl, ⟨⟨hq1_1.out.box3 p0_1.out (by simp) (by simp), HVS.out⟩, hq2_1.out.box3 p0_1.out (by simp) (by simp)⟩, Below.set3 bel_1.out (by omega)⟩
  · have hO := Lib.hid (fun wd => rover_any (n % 41 - 20) (d6 4) wd (by omega) (by omega) (d6_le _).1 (by have := (d6_le 4).2; omega))
    rw [show ((d6 4 : Nat) : Int) = 3 from rfl] at hO
    have hix : ∀ wd : World, (Instr.index 138 (.agg #[.int .i64 1, .int .i64 1, .int .i64 1, .int .i64 2, .int .i64 3, .int .i64 4]) (.int .i64 4)).run Tryz.prog wd = .ok (.int .i64 3) wd := by intro wd; kernel_rfl
    go_enter Tryz.func62, Tryz.ntmps62
    go_wp2_with fail
    refine (hP1.out _).mono ?_
    rintro e w1 ⟨rfl, rfl⟩
    go_wp2_with fail
    refine (hP2.out _).mono ?_
    rintro e w1 ⟨rfl, rfl⟩
    go_wp2_with fail
    refine (hO.out _).mono ?_
    rintro e w_1 ⟨b', v1, v2, rfl, hq, hb_1⟩
    obtain ⟨A1, k1, c1, A2, k2, c2, rfl, rfl⟩ := hq.slices
    have hq1 := hq.1.1
    have HVS := Lib.hid hq.1.2
    have hq2 := hq.2
    clear hq
    have p0_1 := Lib.hid (p0_0.out.below hb_1 p0_0.out.lt)
    have hq1_1 := Lib.hid hq1
    have hq2_1 := Lib.hid hq2
    have bel_1 := Lib.hid (bel_0.out.trans (hb_1.mono bel_0.out.size))
    have o0_0 : w_1.cell? ⟨w.heap.size, 0, none⟩ = some (.bool false) := p0_1.out.cell 0
    have z0_0 := p0_1.out.frozen 0
    have o0_1 : w_1.cell? ⟨w.heap.size, 1, none⟩ = some (.slice none 0 0) := p0_1.out.cell 1
    have z0_1 := p0_1.out.frozen 1
    have o0_2 : w_1.cell? ⟨w.heap.size, 2, none⟩ = some (.slice none 0 0) := p0_1.out.cell 2
    have z0_2 := p0_1.out.frozen 2
    clear hb_1 hq1 hq2
    go_wp2_with fail
    refine bodyPost_ret (v := .agg #[.bool b', .slice A1 k1 c1, .slice A2 k2 c2]) (by simp [results, Tryz.results62, go_sem, o0_0, o0_1, o0_2]) rfl ?_
    exact ⟨_, _, _, rfl, ⟨⟨hq1_1.out.box3 p0_1.out (by simp) (by simp), HVS.out⟩, hq2_1.out.box3 p0_1.out (by simp) (by simp)⟩, Below.set3 bel_1.out (by omega)⟩
  · have hO := Lib.hid (fun wd => rover_any (n % 41 - 20) (d6 5) wd (by omega) (by omega) (d6_le _).1 (by have := (d6_le 5).2; omega))
    rw [show ((d6 5 : Nat) : Int) = 4 from rfl] at hO
    have hix : ∀ wd : World, (Instr.index 138 (.agg #[.int .i64 1, .int .i64 1, .int .i64 1, .int .i64 2, .int .i64 3, .int .i64 4]) (.int .i64 5)).run Tryz.prog wd = .ok (.int .i64 4) wd := by intro wd; kernel_rfl
    go_enter Tryz.func62, Tryz.ntmps62
    go_wp2_with fail
    refine (hP1.out _).mono ?_
    rintro e w1 ⟨rfl, rfl⟩
    go_wp2_with fail
    refine (hP2.out _).mono ?_
    rintro e w1 ⟨rfl, rfl⟩
    go_wp2_with fail
    refine (hO.out _).mono ?_
    rintro e w_1 ⟨b', v1, v2, rfl, hq, hb_1⟩
    obtain ⟨A1, k1, c1, A2, k2, c2, rfl, rfl⟩ := hq.slices
    have hq1 := hq.1.1
    have HVS := Lib.hid hq.1.2
    have hq2 := hq.2
    clear hq
    have p0_1 := Lib.hid (p0_0.out.below hb_1 p0_0.out.lt)
    have hq1_1 := Lib.hid hq1
    have hq2_1 := Lib.hid hq2
    have bel_1 := Lib.hid (bel_0.out.trans (hb_1.mono bel_0.out.size))
    have o0_0 : w_1.cell? ⟨w.heap.size, 0, none⟩ = some (.bool false) := p0_1.out.cell 0
    have z0_0 := p0_1.out.frozen 0
    have o0_1 : w_1.cell? ⟨w.heap.size, 1, none⟩ = some (.slice none 0 0) := p0_1.out.cell 1
    have z0_1 := p0_1.out.frozen 1
    have o0_2 : w_1.cell? ⟨w.heap.size, 2, none⟩ = some (.slice none 0 0) := p0_1.out.cell 2
    have z0_2 := p0_1.out.frozen 2
    clear hb_1 hq1 hq2
    go_wp2_with fail
    refine bodyPost_ret (v := .agg #[.bool b', .slice A1 k1 c1, .slice A2 k2 c2]) (by simp [results, Tryz.results62, go_sem, o0_0, o0_1, o0_2]) rfl ?_
    exact ⟨_, _, _, rfl, ⟨⟨hq1_1.out.box3 p0_1.out (by simp) (by simp), HVS.out⟩, hq2_1.out.box3 p0_1.out (by simp) (by simp)⟩, Below.set3 bel_1.out (by omega)⟩

set_option maxRecDepth 100000 in
set_option maxHeartbeats 4000000 in
theorem row_any (v : Value) (l : List Int) (n : Nat) (w : World) (h : IsInts .i64 w v l) (hl : ∀ x, x ∈ l → I64 x) (hn : n ≤ 4096) :
    Calls Tryz.prog 25 #[v, .int .i64 (n : Int)] w fun e w' => ∃ r, e = .returned r ∧ Row3 RQ w' r (rowQ l n) ∧ Below w.heap.size w w' := by
  obtain ⟨A, c, rfl, hc, hm, hr⟩ := h
  obtain ⟨L, hL⟩ : ∃ L, l.length = L := ⟨_, rfl⟩
  obtain ⟨qs, hqs⟩ : ∃ qs, rowQ l n = qs := ⟨_, rfl⟩
  have hql : qs.length = n := by rw [← hqs]; simp [rowQ]
  have hqd : ∀ k, k < n → qs.getD k 0 = if k < L then rr (l.getD k 0) else ((0 : Int) : Rat) := fun k hk => by
    rw [← hqs, ← hL, List.getD_eq_getElem?_getD]; simp [rowQ, hk]
  rw [hqs]
  rw [hL] at hc hm hr ⊢
  have HL := Lib.hid hql
  have HLL := Lib.hid hL
  have HQD := Lib.hid hqd
  clear hL hqs hql hqd hm
  obtain ⟨i0, hi, hz0, hz1, hz2⟩ := info_parts Tryz.infoRQ
  go_enter Tryz.func25, Tryz.ntmps25
  go_wp2
  go_loopw [5, 6] (fun o i wr => ∃ (k : Nat) (ts : List T3), k ≤ n ∧ i = .int .i64 k ∧ Hid (ts.length = k) ∧ wr.ownsRow w.heap.size 55 3 o k (flat ts) ∧ NoInt wr o ∧ Hid (∀ (i : Nat) (t : T3) (q : Rat), ts[i]? = some t → qs[i]? = some q → RQ wr t.1 t.2.1 t.2.2 q) ∧ Below w.heap.size w wr) (fun _ i _ => n - (intOf i).toNat)
  case atStart => exact ⟨0, [], by omega, rfl, Lib.hid rfl, World.ownsRow_nil _ _ _ _, NoInt.nil _, Lib.hid (by simp), Below.refl _ _⟩
  case round =>
    obtain ⟨k, ts, hk, rfl, hts, hown, hno, hq, hbel⟩ := hrel
    by_cases hlt : k < n
    · have hqk := HQD.out k hlt
      by_cases hkL : k < L
      · rw [if_pos hkL] at hqk
        obtain ⟨b, off, rfl, hb, hcell⟩ := hr (by omega)
        have y0 := (hbel.cell (p := ⟨b, off + k, none⟩) hb).trans (hcell k hkL)
        have hI := fun wd => r_any (l.getD k 0) wd (hl _ (getD_mem (by rw [HLL.out]; exact hkL)))
        rw [← hqk] at hI
        replace hI := Lib.hid hI
        clear hqk hcell hr
        generalize l.getD k 0 = y at *
        go_wp2_with fail
        refine (hI.out _).mono ?_
        rintro e w1 ⟨b', vn, vr, rfl, hv, hb1⟩
        obtain ⟨A1, k1, c1, A2, k2, c2, rfl, rfl⟩ := hv.slices
        have hbel1 := hbel.trans (hb1.mono hbel.size)
        have hown1 := own_below hown hb1
        have hno1 := noint_below hown hno hb1
        go_wp2_with ((at_builtin; refine wpList_append_noint rfl _ _ 23 rfl w.heap.size 55 i0 (.agg #[.bool false, .slice none 0 0, .slice none 0 0]) 3 56 Tryz.underlying23 hi hz0 hz1 hz2 rfl (by decide) _ _ _ rfl (hown1.alloc _) (noint_alloc hown1 hno1 _) z3_no ⟨w1.heap.size, 0, none⟩ 1 1 [.bool b', .slice A1 k1 c1, .slice A2 k2 c2] rfl rfl ?c1 ?c2 ?c3 (by decide) ?c4 ?c5 ?c6 ?_))
        case c1 => intro t u hu; rcases t with _ | _ | _ | t <;> simp at hu <;> subst hu <;> simp [Addr.add]
        case c2 => intro u hu; simp at hu; rcases hu with rfl | rfl | rfl <;> rfl
        case c3 => intro u hu; simp at hu; rcases hu with rfl | rfl | rfl <;> simp
        case c4 => unfold maxLen; omega
        case c5 => omega
        case c6 => simp; have := hb1.size; have := hbel.size; omega
        intro v' w2 hown' hgrow hno'
        have hbel2 : Below w.heap.size w w2 := (hbel1.alloc hbel1.size _).grown hgrow (by simp; have := hbel1.size; omega) (fun q hq => by have := (hown1.lt q hq).1; omega)
        have hq2 : ∀ (i : Nat) (t : T3) (q : Rat), (ts ++ [(b', .slice A1 k1 c1, .slice A2 k2 c2)])[i]? = some t → qs[i]? = some q → RQ w2 t.1 t.2.1 t.2.2 q :=
          facts_snoc (fun i t q ht hqi => (((hq.out i t q ht hqi).below hb1 (Nat.le_refl _)).alloc _).grown (hown1.alloc _) (noint_alloc hown1 hno1 _) hgrow) (fun q hqq => by
            rw [hts.out, List.getElem?_eq_getElem (by rw [HL.out]; exact hlt)] at hqq
            simp only [Option.some.injEq] at hqq
            rw [List.getD_eq_getElem?_getD, List.getElem?_eq_getElem (by rw [HL.out]; exact hlt), Option.getD_some, hqq] at hv
            exact (hv.alloc _).grown (hown1.alloc _) (noint_alloc hown1 hno1 _) hgrow)
        have hown2 : w2.ownsRow w.heap.size 55 3 v' (k + 1) (flat (ts ++ [(b', .slice A1 k1 c1, .slice A2 k2 c2)])) := by rw [flat_append]; exact hown'
        have HQ2 := Lib.hid hq2
        clear hq2 hown' hgrow hown1 hno1 hv hb1 hbel1 hbel hown hno hq
        go_wp2
        go_roundw
        case rel => exact ⟨k + 1, _, by omega, by go_num, Lib.hid (by simp [hts.out]), hown2, hno', HQ2, hbel2⟩
        case measure => simp [intOf]; omega
      · rw [if_neg hkL] at hqk
        have hI := fun wd => rof_any 0 wd (by omega) (by omega)
        rw [← hqk] at hI
        replace hI := Lib.hid hI
        clear hqk hr
        go_wp2_with fail
        refine (hI.out _).mono ?_
        rintro e w1 ⟨b', vn, vr, rfl, hv, hb1⟩
        obtain ⟨A1, k1, c1, A2, k2, c2, rfl, rfl⟩ := hv.slices
        have hbel1 := hbel.trans (hb1.mono hbel.size)
        have hown1 := own_below hown hb1
        have hno1 := noint_below hown hno hb1
        go_wp2_with ((at_builtin; refine wpList_append_noint rfl _ _ 23 rfl w.heap.size 55 i0 (.agg #[.bool false, .slice none 0 0, .slice none 0 0]) 3 56 Tryz.underlying23 hi hz0 hz1 hz2 rfl (by decide) _ _ _ rfl (hown1.alloc _) (noint_alloc hown1 hno1 _) z3_no ⟨w1.heap.size, 0, none⟩ 1 1 [.bool b', .slice A1 k1 c1, .slice A2 k2 c2] rfl rfl ?c1 ?c2 ?c3 (by decide) ?c4 ?c5 ?c6 ?_))
        case c1 => intro t u hu; rcases t with _ | _ | _ | t <;> simp at hu <;> subst hu <;> simp [Addr.add]
        case c2 => intro u hu; simp at hu; rcases hu with rfl | rfl | rfl <;> rfl
        case c3 => intro u hu; simp at hu; rcases hu with rfl | rfl | rfl <;> simp
        case c4 => unfold maxLen; omega
        case c5 => omega
        case c6 => simp; have := hb1.size; have := hbel.size; omega
        intro v' w2 hown' hgrow hno'
        have hbel2 : Below w.heap.size w w2 := (hbel1.alloc hbel1.size _).grown hgrow (by simp; have := hbel1.size; omega) (fun q hq => by have := (hown1.lt q hq).1; omega)
        have hq2 : ∀ (i : Nat) (t : T3) (q : Rat), (ts ++ [(b', .slice A1 k1 c1, .slice A2 k2 c2)])[i]? = some t → qs[i]? = some q → RQ w2 t.1 t.2.1 t.2.2 q :=
          facts_snoc (fun i t q ht hqi => (((hq.out i t q ht hqi).below hb1 (Nat.le_refl _)).alloc _).grown (hown1.alloc _) (noint_alloc hown1 hno1 _) hgrow) (fun q hqq => by
            rw [hts.out, List.getElem?_eq_getElem (by rw [HL.out]; exact hlt)] at hqq
            simp only [Option.some.injEq] at hqq
            rw [List.getD_eq_getElem?_getD, List.getElem?_eq_getElem (by rw [HL.out]; exact hlt), Option.getD_some, hqq] at hv
            exact (hv.alloc _).grown (hown1.alloc _) (noint_alloc hown1 hno1 _) hgrow)
        have hown2 : w2.ownsRow w.heap.size 55 3 v' (k + 1) (flat (ts ++ [(b', .slice A1 k1 c1, .slice A2 k2 c2)])) := by rw [flat_append]; exact hown'
        have HQ2 := Lib.hid hq2
        clear hq2 hown' hgrow hown1 hno1 hv hb1 hbel1 hbel hown hno hq
        go_wp2
        go_roundw
        case rel => exact ⟨k + 1, _, by omega, by go_num, Lib.hid (by simp [hts.out]), hown2, hno', HQ2, hbel2⟩
        case measure => simp [intOf]; omega
    · obtain rfl : k = n := by omega
      go_wp2
      go_ret
      exact ⟨_, rfl, own_row3 hown (by rw [HL.out]) (by rw [hts.out, HL.out]) hq.out, hbel⟩

end Go.Proofs.YtjfkniknmkcdcaaGreatDoor
