/- Texts of this claim, joined: Ni, Nj. -/
import Derived.Test.YtjfkniknmkcdcaaGreatDoorMNh
import Derived.Deep.RegionWith
namespace Go.Proofs.YtjfkniknmkcdcaaGreatDoor
open Go.RowKit K Nu

theorem box4 {w : World} {x y z u : Array Value} {S T U X : TypeId} : Below w.heap.size w ((((w.alloc (.cells x S)).alloc (.cells y T)).alloc (.cells z U)).alloc (.cells u X)) := box3.alloc (by simp <;> omega) _

set_option maxRecDepth 100000 in
set_option maxHeartbeats 1000000 in
theorem div_zero (v1 v2 : Value) (a : Nat) (w : World) (h1 : NatV w v1 a) (h2 : NatV w v2 0) :
    Calls Tryz.prog 93 #[.agg #[v1], .agg #[v2]] w fun e w' => e = .returned (.tuple #[.agg #[.slice none 0 0], .agg #[.slice none 0 0], .bool false]) ∧ Below w.heap.size w w' := by
  obtain ⟨A1, n1, c1, rfl⟩ := h1.slice
  obtain ⟨lb, hb, A2, c2, rfl, _⟩ := h2
  obtain rfl : lb = [] := (hb.zero_iff (by decide)).1 rfl
  go_enter Tryz.func93, Tryz.ntmps93
  go_wp2
  refine bodyPost_ret (v := .tuple #[.agg #[.slice none 0 0], .agg #[.slice none 0 0], .bool false]) (by simp [results, Tryz.results93, go_sem]) rfl ?_
  exact ⟨rfl, by repeat (first | exact box4 | refine Below.setCell ?_ (by simp <;> omega) _)⟩

set_option maxRecDepth 100000 in
set_option maxHeartbeats 1000000 in
theorem div_lt (v1 v2 : Value) (a b : Nat) (w : World) (h1 : NatV w v1 a) (h2 : NatV w v2 b) (hab : a < b) :
    Calls Tryz.prog 93 #[.agg #[v1], .agg #[v2]] w fun e w' => e = .returned (.tuple #[.agg #[.slice none 0 0], .agg #[v1], .bool true]) ∧ Below w.heap.size w w' := by
  have h1' := h1
  have h2' := h2
  obtain ⟨A1, n1, c1, rfl⟩ := h1.slice
  obtain ⟨lb, hb, A2, c2, rfl, _⟩ := h2
  have hl : lb ≠ [] := by
    rintro rfl
    have := (hb.zero_iff (by decide)).2 rfl
    omega
  have hl2 : 1 ≤ lb.length := by
    rcases lb with _ | ⟨x, l⟩
    · exact absurd rfl hl
    · simp
  have t1 : ((lb.length : Int) == 0) = false := beq_eq_false_iff_ne.2 (by omega)
  have t2 : (lb.length == 0) = false := beq_eq_false_iff_ne.2 (by omega)
  have t0 : decide (cmpN a b < 0) = true := decide_eq_true (cmpN_lt.2 hab)
  clear hl hl2
  go_enter Tryz.func93, Tryz.ntmps93
  go_wp2_with fail
  have hW := box4 (w := w) (x := #[.slice A1 n1 c1]) (y := #[.slice A2 lb.length c2]) (z := #[.slice none 0 0]) (u := #[.slice none 0 0]) (S := 36) (T := 36) (U := 36) (X := 36)
  refine (cmp_any _ _ a b _ (h1'.below hW (Nat.le_refl _)) (h2'.below hW (Nat.le_refl _))).mono ?_
  rintro e w1 ⟨rfl, hb1⟩
  have hbel := hW.trans (hb1.mono (by simp <;> omega))
  have hB1 : Blk w1 w.heap.size [.slice A1 n1 c1] 36 := ((((Blk.mk w _ rfl [.slice A1 n1 c1] _).alloc _).alloc _).alloc _).below hb1 (by simp <;> omega)
  have hR1 : Blk w1 (w.heap.size + 2) [.slice none 0 0] 36 := ((Blk.mk _ _ (by simp) [.slice none 0 0] _).alloc _).below hb1 (by simp <;> omega)
  have hR2 : Blk w1 (w.heap.size + 3) [.slice none 0 0] 36 := (Blk.mk _ _ (by simp) [.slice none 0 0] _).below hb1 (by simp <;> omega)
  have x1 := hB1.one
  have x2 := hR1.one
  have x3 := hR2.one
  have f2 := hR1.frozen 0
  have f3 := hR2.frozen 0
  clear hW hb1
  go_wp2_with fail
  go_region
  all_goals go_wp2
  all_goals
    refine bodyPost_ret (v := .tuple #[.agg #[.slice none 0 0], .agg #[.slice A1 n1 c1], .bool true]) (by simp [results, Tryz.results93, go_sem, x2, x3]) rfl ?_
    exact ⟨rfl, by repeat (first | exact hbel | refine Below.setCell ?_ (by simp <;> omega) _ | refine Below.drew ?_)⟩

set_option maxRecDepth 100000 in
set_option maxHeartbeats 2000000 in
theorem div_one (v1 v2 : Value) (a b : Nat) (w : World) (h1 : NatV w v1 a) (h2 : NatV w v2 b) (hab : b ≤ a) (hb0 : b ≠ 0) (hb1 : b < 18446744073709551616) (hsz : bl a ≤ 1073741824) :
    Calls Tryz.prog 93 #[.agg #[v1], .agg #[v2]] w fun e w' => ∃ q r, e = .returned (.tuple #[.agg #[q], .agg #[r], .bool true]) ∧ NatV w' q (a / b) ∧ NatV w' r (a % b) ∧ Below w.heap.size w w' := by
  have h1' := h1
  have h2' := h2
  obtain ⟨la, ha, A1, c1, rfl, hc1, hm1, hr1⟩ := h1
  have hI := (show IsInts .u64 w (.slice A1 la.length c1) la from ⟨A1, c1, rfl, hc1, hm1, hr1⟩)
  obtain ⟨lb, hb, A2, c2, rfl, hc2, hm2, hr2⟩ := h2
  have hlb : lb = [(b : Int)] := by
    rcases num_cases hb with ⟨_, h⟩ | ⟨h, _⟩ | ⟨_, h⟩
    · exact absurd h hb0
    · exact h
    · omega
  subst hlb
  obtain ⟨b2, o2, rfl, hbl2, hcell2⟩ := hr2 (by simp)
  have y0 := hcell2 0 (by simp)
  simp only [Nat.add_zero, List.getD_cons_zero] at y0
  have hlen : la.length ≤ 1073741824 := Nat.le_trans (ha.len' (by decide)) hsz
  have t0 : decide (cmpN a b < 0) = false := decide_eq_false (by rw [cmpN_lt]; omega)
  clear hr1 hr2 hcell2 hm2
  go_enter Tryz.func93, Tryz.ntmps93
  go_wp2_with fail
  have hW := box4 (w := w) (x := #[.slice A1 la.length c1]) (y := #[.slice (some ⟨b2, o2, none⟩) 1 c2]) (z := #[.slice none 0 0]) (u := #[.slice none 0 0]) (S := 36) (T := 36) (U := 36) (X := 36)
  refine (cmp_any _ _ a b _ (h1'.below hW (Nat.le_refl _)) (h2'.below hW (Nat.le_refl _))).mono ?_
  rintro e w1 ⟨rfl, hb1'⟩
  have hbel := hW.trans (hb1'.mono (by simp <;> omega))
  have hB1 : Blk w1 w.heap.size [.slice A1 la.length c1] 36 := ((((Blk.mk w _ rfl [.slice A1 la.length c1] _).alloc _).alloc _).alloc _).below hb1' (by simp <;> omega)
  have hB2 : Blk w1 (w.heap.size + 1) [.slice (some ⟨b2, o2, none⟩) 1 c2] 36 := (((Blk.mk _ _ (by simp) [.slice (some ⟨b2, o2, none⟩) 1 c2] _).alloc _).alloc _).below hb1' (by simp <;> omega)
  have hR1 : Blk w1 (w.heap.size + 2) [.slice none 0 0] 36 := ((Blk.mk _ _ (by simp) [.slice none 0 0] _).alloc _).below hb1' (by simp <;> omega)
  have hR2 : Blk w1 (w.heap.size + 3) [.slice none 0 0] 36 := (Blk.mk _ _ (by simp) [.slice none 0 0] _).below hb1' (by simp <;> omega)
  have x1 := hB1.one
  have x1' := hB2.one
  have y1 : w1.cell? ⟨b2, o2, none⟩ = some (.int .u64 (b : Int)) := (hbel.cell (p := ⟨b2, o2, none⟩) hbl2).trans y0
  have hI1 := hI.below hbel (Nat.le_refl _)
  have HSH := Lib.hid (fun (wd : World) (h : IsInts .u64 wd (.slice A1 la.length c1) la) => short_any _ la b wd h ha.dig (by omega) (by omega) (by omega))
  clear hW hb1' y0 hI
  go_upto_region 6 with fail
  go_cut [7, 8] (fun qv rv wc => ∃ (q : Value) (o : List Int), qv = q ∧ rv = .int .u64 (dv W64 la % b) ∧ IsInts .u64 wc q o ∧ Dig W64 o ∧ dv W64 o = dv W64 la / b ∧ Blk wc (w.heap.size + 2) [.slice none 0 0] 36 ∧ Blk wc (w.heap.size + 3) [.slice none 0 0] 36 ∧ Below w.heap.size w wc)
  case first =>
    go_region_with (go_at_call 109; refine (HSH.out _ ?hs).mono ?_; (case hs => exact hI1.below (bel_drew ⟨1, rfl⟩) (Nat.le_refl _)); rintro e w2 ⟨q, o, rfl, hq, hdq, hvq, hb2⟩)
    all_goals
      obtain ⟨A3, n3, c3, rfl⟩ : ∃ A k c, q = .slice A k c := by
        obtain ⟨A, c, h, _⟩ := hq
        exact ⟨_, _, _, h⟩
      go_wp2_with fail
      go_meet
      case rel =>
        have hbd := bel_drew (w := w1) ⟨1, rfl⟩
        exact ⟨_, o, rfl, rfl, hq, hdq, hvq, (hR1.below hbd hR1.lt).below hb2 hR1.lt, (hR2.below hbd hR2.lt).below hb2 hR2.lt, (hbel.trans (hbd.mono hbel.size)).trans (hb2.mono hbel.size)⟩
  case rest =>
    clear hB1 hB2 hR1 hR2 x1 x1' y1 hI1 hbel
    obtain ⟨q, o, rfl, rfl, hq, hdq, hvq, hR1, hR2, hbel⟩ := hcut
    have hqn : dv W64 o = ((a / b : Nat) : Int) := by rw [hvq, ha.val]; exact (Int.natCast_ediv a b).symm
    have hrn : dv W64 la % b = ((a % b : Nat) : Int) := by rw [ha.val]; exact (Int.natCast_emod a b).symm
    have hT := Lib.hid (trim_num hq hdq hqn)
    have hO := Lib.hid (fun wd => of_any (a % b) wd (Nat.lt_trans (Nat.mod_lt _ (by omega)) hb1))
    rw [hrn]
    clear hq hdq hvq hqn hrn
    go_wp2_with fail
    refine hT.out.mono ?_
    rintro e w2 ⟨rq, rfl, hrq, hb2⟩
    have hbel2 := hbel.trans (hb2.mono hbel.size)
    have hR1' := hR1.below hb2 hR1.lt
    have hR2' := hR2.below hb2 hR2.lt
    clear hb2 hR1 hR2 hT hbel
    go_wp2_with fail
    refine (hO.out _).mono ?_
    rintro e w3 ⟨rr, rfl, hrr, hb3⟩
    have hbel3 := hbel2.trans (hb3.mono hbel2.size)
    have hR1 := hR1'.below hb3 hR1'.lt
    have hR2 := hR2'.below hb3 hR2'.lt
    have hrq3 := hrq.below hb3 (Nat.le_refl _)
    clear hb3 hR1' hR2' hO hbel2 hrq
    obtain ⟨A3, n3, c3, rfl⟩ := hrq3.slice
    obtain ⟨A4, n4, c4, rfl⟩ := hrr.slice
    have x2 := hR1.one
    have x3 := hR2.one
    have f2 := hR1.frozen 0
    have f3 := hR2.frozen 0
    go_wp2_with fail
    refine bodyPost_ret (v := .tuple #[.agg #[.slice A3 n3 c3], .agg #[.slice A4 n4 c4], .bool true]) (by simp [results, Tryz.results93, go_sem, x2, x3]) rfl ?_
    have hR2s := hR2.far (a := ⟨w.heap.size + 2, 0, none⟩) (by simp) (.slice A3 n3 c3)
    exact ⟨_, _, rfl, (hrq3.box hR1 (by simp) 0 (.slice A3 n3 c3)).box hR2s (by simp) 0 (.slice A4 n4 c4), (hrr.box hR1 (by simp) 0 (.slice A3 n3 c3)).box hR2s (by simp) 0 (.slice A4 n4 c4), (hbel3.setCell (by simp <;> omega) _).setCell (by simp <;> omega) _⟩

set_option maxRecDepth 100000 in
set_option maxHeartbeats 2000000 in
theorem div_many (v1 v2 : Value) (a b : Nat) (w : World) (h1 : NatV w v1 a) (h2 : NatV w v2 b) (hab : b ≤ a) (hb1 : 18446744073709551616 ≤ b) (hsz : bl a ≤ 1073741824) :
    Calls Tryz.prog 93 #[.agg #[v1], .agg #[v2]] w fun e w' => ∃ q r, e = .returned (.tuple #[.agg #[q], .agg #[r], .bool true]) ∧ NatV w' q (a / b) ∧ NatV w' r (a % b) ∧ Below w.heap.size w w' := by
  have h1' := h1
  have h2' := h2
  obtain ⟨la, ha, hI⟩ := h1
  obtain ⟨lb, hb, hJ⟩ := h2
  obtain ⟨A1, c1, rfl, _⟩ := id hI
  obtain ⟨A2, c2, rfl, _⟩ := id hJ
  have hlb : 2 ≤ lb.length := by
    rcases num_cases hb with ⟨_, h⟩ | ⟨_, _, h⟩ | ⟨h, _⟩
    · omega
    · omega
    · exact h
  have hll : lb.length ≤ la.length := by
    apply Classical.byContradiction
    intro h
    have := ha.lt_of_len (by decide) hb (by omega)
    omega
  have hlen : la.length ≤ 1073741824 := Nat.le_trans (ha.len' (by decide)) hsz
  have t0 : decide (cmpN a b < 0) = false := decide_eq_false (by rw [cmpN_lt]; omega)
  have t1 : ((lb.length : Int) == 0) = false := beq_eq_false_iff_ne.2 (by omega)
  have t2 : ((lb.length : Int) == 1) = false := beq_eq_false_iff_ne.2 (by omega)
  have t3 : (lb.length == 0) = false := beq_eq_false_iff_ne.2 (by omega)
  have t4 : (lb.length == 1) = false := beq_eq_false_iff_ne.2 (by omega)
  go_enter Tryz.func93, Tryz.ntmps93
  go_wp2_with fail
  have hW := box4 (w := w) (x := #[.slice A1 la.length c1]) (y := #[.slice A2 lb.length c2]) (z := #[.slice none 0 0]) (u := #[.slice none 0 0]) (S := 36) (T := 36) (U := 36) (X := 36)
  refine (cmp_any _ _ a b _ (h1'.below hW (Nat.le_refl _)) (h2'.below hW (Nat.le_refl _))).mono ?_
  rintro e w1 ⟨rfl, hb1'⟩
  have hbel := hW.trans (hb1'.mono (by simp <;> omega))
  have hB1 : Blk w1 w.heap.size [.slice A1 la.length c1] 36 := ((((Blk.mk w _ rfl [.slice A1 la.length c1] _).alloc _).alloc _).alloc _).below hb1' (by simp <;> omega)
  have hB2 : Blk w1 (w.heap.size + 1) [.slice A2 lb.length c2] 36 := (((Blk.mk _ _ (by simp) [.slice A2 lb.length c2] _).alloc _).alloc _).below hb1' (by simp <;> omega)
  have hR1 : Blk w1 (w.heap.size + 2) [.slice none 0 0] 36 := ((Blk.mk _ _ (by simp) [.slice none 0 0] _).alloc _).below hb1' (by simp <;> omega)
  have hR2 : Blk w1 (w.heap.size + 3) [.slice none 0 0] 36 := (Blk.mk _ _ (by simp) [.slice none 0 0] _).below hb1' (by simp <;> omega)
  have x1 := hB1.one
  have x1' := hB2.one
  have HL := Lib.hid (long_any _ _ la lb a b w1 ha hb (hI.below hbel (Nat.le_refl _)) (hJ.below hbel (Nat.le_refl _)) hlb hll hlen)
  clear hW hb1' hI hJ h1' h2' hlb hll
  go_wp2_with fail
  refine HL.out.mono ?_
  rintro e wl ⟨q, r, lq, lr, rfl, hq, hr, hdq, hdr, hvq, hvr, hbL⟩
  have hR1l := hR1.below hbL hR1.lt
  have hR2l := hR2.below hbL hR2.lt
  have hbell := hbel.trans (hbL.mono hbel.size)
  have hT := Lib.hid (trim_num hq hdq (show dv W64 lq = ((a / b : Nat) : Int) by rw [hvq]; exact (Int.natCast_ediv a b).symm))
  have hvr' : dv W64 lr = ((a % b : Nat) : Int) := by rw [hvr]; exact (Int.natCast_emod a b).symm
  have hU := Lib.hid (fun (wd : World) (h : IsInts .u64 wd r lr) => trim_num h hdr hvr')
  have HR := Lib.hid hr
  clear hR1 hR2 hbel hB1 hB2 x1 x1' HL hdq hvq hvr hvr' hdr hbL hq hr
  go_wp2_with fail
  refine hT.out.mono ?_
  rintro e w2 ⟨rq, rfl, hrq, hb2⟩
  have hbel2 := hbell.trans (hb2.mono hbell.size)
  have hR1' := hR1l.below hb2 hR1l.lt
  have hR2' := hR2l.below hb2 hR2l.lt
  have hr2 := HR.out.below hb2 (Nat.le_refl _)
  clear hb2 hR1l hR2l hT hbell
  go_wp2_with fail
  refine (hU.out _ hr2).mono ?_
  rintro e w3 ⟨rr, rfl, hrr, hb3⟩
  have hbel3 := hbel2.trans (hb3.mono hbel2.size)
  have hR1 := hR1'.below hb3 hR1'.lt
  have hR2 := hR2'.below hb3 hR2'.lt
  have hrq3 := hrq.below hb3 (Nat.le_refl _)
  clear hb3 hR1' hR2' hU hbel2 hrq
  obtain ⟨A3, n3, c3, rfl⟩ := hrq3.slice
  obtain ⟨A4, n4, c4, rfl⟩ := hrr.slice
  have x2 := hR1.one
  have x3 := hR2.one
  have f2 := hR1.frozen 0
  have f3 := hR2.frozen 0
  go_wp2_with fail
  refine bodyPost_ret (v := .tuple #[.agg #[.slice A3 n3 c3], .agg #[.slice A4 n4 c4], .bool true]) (by simp [results, Tryz.results93, go_sem, x2, x3]) rfl ?_
  have hR2s := hR2.far (a := ⟨w.heap.size + 2, 0, none⟩) (by simp) (.slice A3 n3 c3)
  exact ⟨_, _, rfl, (hrq3.box hR1 (by simp) 0 (.slice A3 n3 c3)).box hR2s (by simp) 0 (.slice A4 n4 c4), (hrr.box hR1 (by simp) 0 (.slice A3 n3 c3)).box hR2s (by simp) 0 (.slice A4 n4 c4), (hbel3.setCell (by simp <;> omega) _).setCell (by simp <;> omega) _⟩

/-- Div is the quotient, and what is left -/
theorem div_any (v1 v2 : Value) (a b : Nat) (w : World) (h1 : NatV w v1 a) (h2 : NatV w v2 b) (hb0 : b ≠ 0) (hsz : bl a ≤ 1073741824) :
    Calls Tryz.prog 93 #[.agg #[v1], .agg #[v2]] w fun e w' => ∃ q r, e = .returned (.tuple #[.agg #[q], .agg #[r], .bool true]) ∧ NatV w' q (a / b) ∧ NatV w' r (a % b) ∧ Below w.heap.size w w' := by
  by_cases h : a < b
  · refine (div_lt v1 v2 a b w h1 h2 h).mono ?_
    rintro e w' ⟨rfl, hb⟩
    rw [Nat.div_eq_of_lt h, Nat.mod_eq_of_lt h]
    exact ⟨_, _, rfl, NatV.nil _, h1.below hb (Nat.le_refl _), hb⟩
  · by_cases hb : b < 18446744073709551616
    · exact div_one v1 v2 a b w h1 h2 (by omega) hb0 hb hsz
    · exact div_many v1 v2 a b w h1 h2 (by omega) (by omega) hsz
end Go.Proofs.YtjfkniknmkcdcaaGreatDoor

namespace Go.Proofs.YtjfkniknmkcdcaaGreatDoor
open Go.RowKit K Nu

theorem bl_top {B m x : Nat} (hx : 0 < x) (hm : m < 2 ^ B) : bl (m + x * 2 ^ B) = B + bl x := by
  have h1 := lt_bl x
  have h2 := two_pow_bl (n := x) (by omega)
  have h3 := bl_pos (n := x) (by omega)
  have hP : 0 < 2 ^ B := Nat.two_pow_pos _
  apply Nat.le_antisymm
  · apply bl_le
    rw [Nat.pow_add]
    have h4 : (x + 1) * 2 ^ B ≤ 2 ^ bl x * 2 ^ B := Nat.mul_le_mul_right _ h1
    rw [Nat.add_mul, Nat.one_mul] at h4
    rw [Nat.mul_comm (2 ^ B)]
    omega
  · have h4 : 2 ^ (B + bl x - 1) ≤ m + x * 2 ^ B := by
      rw [show B + bl x - 1 = (bl x - 1) + B by omega, Nat.pow_add]
      have := Nat.mul_le_mul_right (2 ^ B) h2
      omega
    apply Classical.byContradiction
    intro h5
    have h6 := lt_bl (m + x * 2 ^ B)
    have h7 : (2 : Nat) ^ bl (m + x * 2 ^ B) ≤ 2 ^ (B + bl x - 1) := Nat.pow_le_pow_right (by decide) (by omega)
    omega
theorem bl_num {l : List Int} {x : Int} {n : Nat} (h : IsNum W64 (l ++ [x]) n) : bl n = 64 * l.length + bl x.toNat ∧ 0 < x ∧ x < 18446744073709551616 := by
  have hx := h.dig x (by simp)
  have hx0 := h.can x (by simp)
  have hv := h.val
  rw [dv_snoc] at hv
  have hb := dv_bound (B := W64) (by decide) h.dig.left
  obtain ⟨X, rfl⟩ := Int.eq_ofNat_of_zero_le hx.1
  obtain ⟨M, hM⟩ := Int.eq_ofNat_of_zero_le hb.1
  rw [hM] at hv hb
  have hW : W64 ^ l.length = ((2 ^ (64 * l.length) : Nat) : Int) := by
    rw [Nat.pow_mul, Int.natCast_pow]; rfl
  rw [hW] at hv hb
  have hn : n = M + X * 2 ^ (64 * l.length) := by
    have h1 : ((M + X * 2 ^ (64 * l.length) : Nat) : Int) = n := by rw [Int.natCast_add, Int.natCast_mul]; exact hv
    omega
  unfold W64 at hx
  refine ⟨?_, by omega, hx.2⟩
  rw [hn, bl_top (by omega) (by omega)]
  simp

set_option maxRecDepth 100000 in
set_option maxHeartbeats 1000000 in
theorem bits_any (v : Value) (n : Nat) (w : World) (h : NatV w v n) (hsz : bl n ≤ 4611686018427387904) :
    Calls Tryz.prog 48 #[.agg #[v]] w fun e w' => e = .returned (.int .i64 (bl n)) ∧ Below w.heap.size w w' := by
  obtain ⟨l, hl, A, c, rfl, hc, hm, hr⟩ := h
  rcases snoc_cases l with rfl | ⟨m, x, rfl⟩
  · have h0 := (hl.zero_iff (by decide)).2 rfl
    subst h0
    go_enter Tryz.func48, Tryz.ntmps48
    go_wp2
    go_ret
    exact ⟨rfl, (Below.refl _ _).alloc (Nat.le_refl _) _⟩
  · obtain ⟨e1, e2, e3⟩ := bl_num hl
    have hlen : (m ++ [x]).length = m.length + 1 := by simp
    rw [hlen] at hc hr ⊢
    obtain ⟨b, o, rfl, hb, hcell⟩ := hr (by omega)
    have x0 := hcell m.length (by omega)
    rw [show (m ++ [x]).getD m.length 0 = x by simp] at x0
    have hL := Lib.hid (fun wd => len64_q x (by omega) (by omega) wd)
    have hbit : (Lib.bitLen x.toNat : Int) = bl x.toNat := by rw [bitLen_bl (by omega)]
    rw [hbit] at hL
    obtain ⟨k, hk⟩ : ∃ k, m.length = k := ⟨_, rfl⟩
    rw [hk] at e1 x0 ⊢
    have hbx : bl x.toNat ≤ 64 := bl_le (by omega)
    generalize bl x.toNat = y at *
    have i1 : IntKind.i64.wrap (k : Int) = k := by rw [IntKind.wrap_i64]; omega
    have i2 : IntKind.i64.wrap (64 * (k : Int)) = 64 * k := by rw [IntKind.wrap_i64]; omega
    have i3 : IntKind.i64.wrap (64 * (k : Int) + y) = 64 * k + y := by rw [IntKind.wrap_i64]; omega
    have t1 : ((k : Int) + 1 == 0) = false := beq_eq_false_iff_ne.2 (by omega)
    have E1 := Lib.hid (show (bl n : Int) = 64 * k + y by omega)
    clear hcell hr e1 hk hbit hl
    go_enter Tryz.func48, Tryz.ntmps48
    go_wp2
    go_quiet ((go_at_call 86; exact Calls.quiet_of_same (hL.out _)))
    go_wp2
    go_ret
    rw [E1.out]
    exact ⟨rfl, bdn ((Below.refl _ _).alloc (Nat.le_refl _) _) _⟩
end Go.Proofs.YtjfkniknmkcdcaaGreatDoor
