/- Numbers in memory; the walks of trim, Of, Small. -/
import Derived.Test.YtjfkniknmkcdcaaDoorProg
import Derived.Test.YtjfkniknmkcdcaaDoorKit
import Derived.Test.YtjfkniknmkcdcaaDoorNm
namespace Go.Proofs.YtjfkniknmkcdcaaDoor
open Go.RowKit K Nu

abbrev W64 : Int := 18446744073709551616
abbrev W32 : Int := 4294967296
/-- a slice of words that is a number's -/
def NatV (w : World) (v : Value) (n : Nat) : Prop := ∃ l, IsNum W64 l n ∧ IsInts .u64 w v l
theorem NatV.below {B : Nat} {w w' : World} {v : Value} {n : Nat} (h : NatV w v n) (hb : Below B w w') (hB : w.heap.size ≤ B) : NatV w' v n := by
  obtain ⟨l, h1, h2⟩ := h
  exact ⟨l, h1, h2.below hb hB⟩
theorem NatV.slice {w : World} {v : Value} {n : Nat} (h : NatV w v n) : ∃ A k c, v = .slice A k c := by
  obtain ⟨l, _, A, c, hv, _⟩ := h
  exact ⟨A, _, c, hv⟩
theorem NatV.box {w : World} {v : Value} {n : Nat} {g : Nat} {cells : List Value} {T : TypeId} (h : NatV w v n) (hg : Blk w g cells T) (hno : ∀ x, x ∈ cells → ∀ q, x ≠ .int .u64 q) (j : Nat) (u : Value) : NatV (w.setCell ⟨g, j, none⟩ u) v n := by
  obtain ⟨l, h1, h2⟩ := h
  exact ⟨l, h1, h2.box hg hno j u⟩
theorem NatV.nil (w : World) : NatV w (.slice none 0 0) 0 := ⟨[], IsNum.nil _, IsInts.nil _ _⟩

set_option maxHeartbeats 400000 in
theorem trim_any (v : Value) (l : List Int) (w : World) (hv : IsInts .u64 w v l) :
    Calls Tryd.prog 66 #[v] w fun e w' => ∃ r, e = .returned (.agg #[r]) ∧ IsInts .u64 w' r (trm l) ∧ Below w.heap.size w w' := by
  obtain ⟨A, c, rfl, hc, hm, hr⟩ := hv
  unfold maxLen at hm
  go_enter Tryd.func66, Tryd.ntmps66
  go_wp2
  go_loopw [0] (fun v wr => ∃ k : Nat, k ≤ l.length ∧ v = .slice A k c ∧ Hid (trm (l.take k) = trm l) ∧ wr = w.alloc (.cells #[.slice none 0 0] 39)) (fun v _ => match v with | .slice _ k _ => k | _ => 0)
  case atStart => exact ⟨l.length, by omega, rfl, Lib.hid (by rw [List.take_length]), rfl⟩
  case round =>
    obtain ⟨k, hk, rfl, ht, rfl⟩ := hrel
    have hex : ∀ k : Nat, k ≤ l.length → l.take k = trm l → IsInts .u64 (w.alloc (.cells #[.slice A k c] 39)) (.slice A k c) (trm l) := by
      intro k hk he
      have hkl : (trm l).length = k := by rw [← he, List.length_take]; omega
      refine ⟨A, c, by rw [hkl], by omega, by unfold maxLen; omega, fun hne => ?_⟩
      obtain ⟨b, o, e1, hb, hcell⟩ := hr (by omega)
      refine ⟨b, o, e1, by simp; omega, fun i hi => ?_⟩
      rw [World.cell?_alloc_lt w (a := ⟨b, o + i, none⟩) _ hb, hcell i (by omega), ← he, List.getD_eq_getElem?_getD, List.getD_eq_getElem?_getD, List.getElem?_take_of_lt (by omega)]
    have HX := Lib.hid hex
    clear hex
    rcases k with _ | k
    · go_wp2
      refine bodyPost_ret (v := .agg #[.slice A 0 c]) (by simp [results, Tryd.results66, go_sem]) rfl ?_
      exact ⟨_, rfl, HX.out 0 (by omega) (by rw [← ht.out]; rfl), (Below.refl _ _).alloc (Nat.le_refl _) _⟩
    · obtain ⟨b, o, e1, hb, hcell⟩ := hr (by omega)
      subst e1
      have x1 := hcell k (by omega)
      have HT := Lib.hid (take_snoc (l := l) (k := k) (by omega))
      clear hcell
      generalize l.getD k 0 = x at *
      by_cases hx : x = 0
      · subst hx
        go_wp2
        exact ⟨⟨k, by omega, rfl, Lib.hid (by rw [← ht.out, HT.out, trm_snoc_zero]), trivial⟩, by simp⟩
      · have hx1 : (x == 0) = false := by simpa using hx
        have HZ := Lib.hid hx
        clear hx
        go_wp2
        refine bodyPost_ret (v := .agg #[.slice (some ⟨b, o, none⟩) (k + 1) c]) (by simp [results, Tryd.results66, go_sem]) rfl ?_
        exact ⟨_, rfl, HX.out (k + 1) (by omega) (by rw [← ht.out, HT.out, trm_snoc HZ.out]), (Below.refl _ _).alloc (Nat.le_refl _) _⟩

theorem trim_num {w : World} {v : Value} {l : List Int} {n : Nat} (hv : IsInts .u64 w v l) (hd : Dig W64 l) (hn : dv W64 l = n) :
    Calls Tryd.prog 66 #[v] w fun e w' => ∃ r, e = .returned (.agg #[r]) ∧ NatV w' r n ∧ Below w.heap.size w w' :=
  (trim_any v l w hv).mono fun _ _ ⟨r, he, hr, hb⟩ => ⟨r, he, ⟨_, trm_num (by decide) hd hn, hr⟩, hb⟩

theorem of_any (n : Nat) (w : World) (hn : n < 18446744073709551616) :
    Calls Tryd.prog 58 #[.int .u64 (n : Int)] w fun e w' => ∃ r, e = .returned (.agg #[r]) ∧ NatV w' r n ∧ Below w.heap.size w w' := by
  go_enter Tryd.func58, Tryd.ntmps58
  go_wp2_with fail
  have hv : IsInts .u64 ((w.alloc (.cells #[.slice none 0 0] 39)).alloc (.cells #[.int .u64 (n : Int)] 86)) (.slice (some ⟨w.heap.size + 1, 0, none⟩) 1 1) [(n : Int)] := by
    have h := (Blk.new (w.alloc (.cells #[.slice none 0 0] 39)) (vs .u64 [(n : Int)]) 86).ints (n := 1) rfl (by decide)
    simp only [World.alloc, Array.size_push] at h ⊢
    exact h
  refine (trim_num (n := n) hv (Dig.cons (by unfold W64; omega) (Dig.nil _)) (by simp [dv])).mono ?_
  rintro e w1 ⟨r, rfl, hr, hb⟩
  have hB : Blk w1 w.heap.size [.slice none 0 0] 39 := ((Blk.new w [.slice none 0 0] _).alloc _).below hb (by simp; omega)
  have hc := hB.one
  have hf := hB.frozen 0
  have hb' : Below w.heap.size w w1 := (((Below.refl _ _).alloc (Nat.le_refl _) _).alloc (by simp) _).trans (hb.mono (by simp; omega))
  obtain ⟨A, k, c, rfl⟩ := hr.slice
  clear hv hb
  go_wp2
  refine bodyPost_ret (v := .agg #[.slice A k c]) (by simp [results, Tryd.results58, go_sem, hc]) rfl ?_
  exact ⟨_, rfl, hr.box hB (by simp) _ _, hb'.setCell (Nat.le_refl _) _⟩

theorem IsNum.one {n : Nat} (h : n ≠ 0) (hn : n < 18446744073709551616) : IsNum W64 [(n : Int)] n :=
  ⟨Dig.cons (by unfold W64; omega) (Dig.nil _), Can.snoc (l := []) (by omega), by simp [dv]⟩
/-- the word of a number that a word has -/
def smallW (n : Nat) : Int := if n < 18446744073709551616 then (n : Int) else 0
theorem num_cases {l : List Int} {n : Nat} (h : IsNum W64 l n) : (l = [] ∧ n = 0) ∨ (l = [(n : Int)] ∧ n ≠ 0 ∧ n < 18446744073709551616) ∨ (2 ≤ l.length ∧ 18446744073709551616 ≤ n) := by
  rcases l with _ | ⟨x, _ | ⟨y, l⟩⟩
  · exact .inl ⟨rfl, (h.zero_iff (by decide)).2 rfl⟩
  · have h1 := h.val
    have h2 := h.dig x (by simp)
    have h3 := h.can x (by simp)
    simp only [dv, Int.mul_zero, Int.add_zero] at h1
    unfold W64 at h2
    exact .inr (.inl ⟨by rw [h1], by omega, by omega⟩)
  · have h1 := h.low (by decide) (by simp)
    have h2 := pow_le_pow (B := W64) (by decide) (show 1 ≤ (x :: y :: l).length - 1 by simp)
    rw [Int.pow_one] at h2
    unfold W64 at h1 h2
    exact .inr (.inr ⟨by simp, by omega⟩)

set_option maxHeartbeats 400000 in
theorem small_any (v : Value) (n : Nat) (w : World) (hv : NatV w v n) :
    Calls Tryd.prog 57 #[.agg #[v]] w fun e w' => e = .returned (.tuple #[.int .u64 (smallW n), .bool (decide (n < 18446744073709551616))]) ∧ Below w.heap.size w w' := by
  obtain ⟨l, hn, A, c, rfl, hc, hm, hr⟩ := hv
  rcases num_cases hn with ⟨rfl, rfl⟩ | ⟨rfl, h0, h1⟩ | ⟨h2, h3⟩
  · go_enter Tryd.func57, Tryd.ntmps57
    go_wp2
    go_ret2
    exact ⟨rfl, (Below.refl _ _).alloc (Nat.le_refl _) _⟩
  · obtain ⟨b, o, rfl, hb, hcell⟩ := hr (by simp)
    have x1 := hcell 0 (by simp)
    simp only [Nat.add_zero, List.getD_cons_zero] at x1
    have e1 : smallW n = n := if_pos h1
    have e2 : decide (n < 18446744073709551616) = true := decide_eq_true h1
    rw [e1, e2]
    clear e1 e2 h1 hcell hr
    go_enter Tryd.func57, Tryd.ntmps57
    go_wp2
    go_ret2
    exact ⟨rfl, (Below.refl _ _).alloc (Nat.le_refl _) _⟩
  · have e1 : smallW n = 0 := if_neg (by omega)
    have e2 : decide (n < 18446744073709551616) = false := decide_eq_false (by omega)
    rw [e1, e2]
    have t0 : ((l.length : Int) == 0) = false := beq_eq_false_iff_ne.2 (by omega)
    have t1 : ((l.length : Int) == 1) = false := beq_eq_false_iff_ne.2 (by omega)
    have t2 : (l.length == 1) = false := beq_eq_false_iff_ne.2 (by omega)
    have t3 : (l.length == 0) = false := beq_eq_false_iff_ne.2 (by omega)
    clear e1 e2 h3 hr
    go_enter Tryd.func57, Tryd.ntmps57
    go_wp2
    go_ret2
    exact ⟨rfl, (Below.refl _ _).alloc (Nat.le_refl _) _⟩
end Go.Proofs.YtjfkniknmkcdcaaDoor
