/- The walks of share's columns, ones, rows' Copy, the document's Mixed. -/
import Derived.Test.YtjfkniknmkcdcaaDoorHb
import Derived.Laws.Shifts
namespace Go.Proofs.YtjfkniknmkcdcaaDoor
open Go.RowKit K Nu

/-- of how many columns a table is -/
def cols (L : Nat) : Nat := if L = 2 then 1 else if L = 4 then 2 else if L = 8 then 3 else if L = 16 then 4 else if L = 32 then 5 else if L = 64 then 6 else if L = 128 then 7 else if L = 256 then 8 else if L = 512 then 9 else if L = 1024 then 10 else 0
theorem cols_pow {k : Nat} (h1 : 1 ≤ k) (h2 : k ≤ 10) : cols (2 ^ k) = k := by
  obtain rfl | rfl | rfl | rfl | rfl | rfl | rfl | rfl | rfl | rfl : k = 1 ∨ k = 2 ∨ k = 3 ∨ k = 4 ∨ k = 5 ∨ k = 6 ∨ k = 7 ∨ k = 8 ∨ k = 9 ∨ k = 10 := by omega
  all_goals rfl
theorem cols_none {L : Nat} (h : ∀ j, 1 ≤ j → j < 11 → L ≠ 2 ^ j) : cols L = 0 := by
  have h1 := h 1 (by decide) (by decide); have h2 := h 2 (by decide) (by decide); have h3 := h 3 (by decide) (by decide); have h4 := h 4 (by decide) (by decide); have h5 := h 5 (by decide) (by decide)
  have h6 := h 6 (by decide) (by decide); have h7 := h 7 (by decide) (by decide); have h8 := h 8 (by decide) (by decide); have h9 := h 9 (by decide) (by decide); have h10 := h 10 (by decide) (by decide)
  unfold cols
  rw [if_neg h1, if_neg h2, if_neg h3, if_neg h4, if_neg h5, if_neg h6, if_neg h7, if_neg h8, if_neg h9, if_neg h10]
theorem cols_le (L : Nat) : cols L ≤ 10 ∧ (cols L ≠ 0 → L = 2 ^ cols L) := by
  by_cases h : ∃ j, 1 ≤ j ∧ j < 11 ∧ L = 2 ^ j
  · obtain ⟨j, h1, h2, rfl⟩ := h
    rw [cols_pow h1 (by omega)]
    exact ⟨by omega, fun _ => rfl⟩
  · rw [cols_none (fun j h1 h2 e => h ⟨j, h1, h2, e⟩)]
    exact ⟨by omega, fun h => absurd rfl h⟩

set_option maxRecDepth 100000 in
set_option maxHeartbeats 2000000 in
theorem columns_any (A : Option Addr) (L c : Nat) (w : World) :
    Calls Tryd.prog 37 #[.slice A L c] w fun e w' => e = .returned (.int .i64 (cols L : Int)) ∧ w = w' := by
  obtain ⟨r, hr⟩ : ∃ r, cols L = r := ⟨_, rfl⟩
  rw [hr]
  have HR := Lib.hid hr
  clear hr
  go_enter Tryd.func37, Tryd.ntmps37
  go_wp2
  go_loopw [3] (fun i wr => ∃ k : Nat, 1 ≤ k ∧ k ≤ 11 ∧ i = .int .i64 k ∧ Hid (∀ j, 1 ≤ j → j < k → L ≠ 2 ^ j) ∧ wr = w) (fun i _ => 11 - (intOf i).toNat)
  case atStart => exact ⟨1, by omega, by omega, rfl, Lib.hid (fun j h1 h2 => by omega), rfl⟩
  case round =>
    obtain ⟨k, hk1, hk2, rfl, hno, rfl⟩ := hrel
    by_cases hlt : k < 11
    · have hp : (2 : Nat) ^ k ≤ 2 ^ 10 := Nat.pow_le_pow_right (by decide) (by omega)
      have hp2 : (2 : Nat) ^ 10 = 1024 := by decide
      have hpz : (2 : Int) ^ k = ((2 ^ k : Nat) : Int) := by rw [Int.natCast_pow]; rfl
      have hw : IntKind.i64.wrap ((2 : Int) ^ k) = 2 ^ k := by
        rw [hp2] at hp
        rw [hpz, IntKind.wrap_i64]
        generalize (2 : Nat) ^ k = P at hp ⊢
        omega
      by_cases he : L = 2 ^ k
      · have t1 : ((L : Int) == 2 ^ k) = true := by rw [hpz, he]; simp
        have HZ := Lib.hid (show r = k by rw [← HR.out, he]; exact cols_pow hk1 (by omega))
        clear he hpz
        go_wp2
        go_ret
        rw [HZ.out]
        exact ⟨rfl, rfl⟩
      · have t1 : ((L : Int) == 2 ^ k) = false := by rw [hpz]; exact beq_eq_false_iff_ne.2 (by omega)
        have HE := Lib.hid he
        clear he hpz
        go_wp2
        go_roundw
        case rel =>
          refine ⟨k + 1, by omega, by omega, by go_num, Lib.hid (fun j h1 h2 => ?_), trivial⟩
          by_cases e : j = k
          · subst e; exact HE.out
          · exact hno.out j h1 (by omega)
        case measure => simp [intOf]; omega
    · obtain rfl : k = 11 := by omega
      have HZ := Lib.hid (show r = 0 by rw [← HR.out]; exact cols_none hno.out)
      go_wp2
      go_ret
      rw [HZ.out]
      exact ⟨rfl, rfl⟩

/-- how many bits are 1 (of one that has at most so many) -/
def pc : Nat → Nat → Nat
  | 0, _ => 0
  | f + 1, s => if s = 0 then 0 else pc f (s &&& (s - 1)) + 1
def ones (s : Nat) : Nat := pc s s
theorem pc_zero (f : Nat) : pc f 0 = 0 := by cases f <;> rfl
theorem and_pred_lt {s : Nat} : s &&& (s - 1) ≤ s - 1 := Nat.and_le_right

theorem Tryd.and_i64 {a b : Nat} (ha : a < 9223372036854775808) (hb : b < 9223372036854775808) : bits .and .i64 (a : Int) (b : Int) = ((a &&& b : Nat) : Int) :=
  (bits_nat .i64 63 (by decide) (fun n h0 h1 => by rw [IntKind.wrap_i64]; simp at h1; omega) a b (by simpa using ha) (by simpa using hb)).1

set_option maxRecDepth 100000 in
set_option maxHeartbeats 2000000 in
theorem ones_any (s : Nat) (w : World) (hs : s < 4611686018427387904) :
    Calls Tryd.prog 68 #[.int .i64 (s : Int)] w fun e w' => e = .returned (.int .i64 (ones s : Int)) ∧ w = w' := by
  obtain ⟨r, hr⟩ : ∃ r, ones s = r := ⟨_, rfl⟩
  rw [hr]
  have HR := Lib.hid hr
  clear hr
  go_enter Tryd.func68, Tryd.ntmps68
  go_wp2
  go_loopw [0, 3] (fun u n wr => ∃ (x j : Nat), u = .int .i64 x ∧ n = .int .i64 j ∧ x + j ≤ s ∧ Hid (j + pc (s - j) x = r) ∧ wr = w) (fun u _ _ => (intOf u).toNat)
  case atStart => exact ⟨s, 0, rfl, rfl, by omega, Lib.hid (by rw [Nat.zero_add, Nat.sub_zero]; exact HR.out), rfl⟩
  case round =>
    obtain ⟨x, j, rfl, rfl, hxj, hpc, rfl⟩ := hrel
    by_cases hx : x = 0
    · subst hx
      have HZ := Lib.hid (show r = j by rw [← hpc.out, pc_zero]; rfl)
      go_wp2
      go_ret
      rw [HZ.out]
      exact ⟨rfl, rfl⟩
    · have hand := Tryd.and_i64 (a := x) (b := x - 1) (by omega) (by omega)
      have hsub : ((x - 1 : Nat) : Int) = (x : Int) - 1 := by omega
      rw [hsub] at hand
      have hle := and_pred_lt (s := x)
      obtain ⟨y, hy⟩ : ∃ y, x &&& (x - 1) = y := ⟨_, rfl⟩
      rw [hy] at hand hle
      have HP := Lib.hid (show j + 1 + pc (s - (j + 1)) y = r by
        rw [← hpc.out, show s - j = s - (j + 1) + 1 by omega]
        simp only [pc, if_neg hx, hy]; omega)
      have hw1 : IntKind.i64.wrap ((x : Int) - 1) = x - 1 := by rw [IntKind.wrap_i64]; omega
      have hw2 : IntKind.i64.wrap ((j : Int) + 1) = j + 1 := by rw [IntKind.wrap_i64]; omega
      clear hsub hy
      go_wp2
      go_roundw
      case rel => exact ⟨y, j + 1, rfl, by go_num, by omega, HP, trivial⟩
      case measure => simp [intOf]; omega

set_option maxRecDepth 100000 in
set_option maxHeartbeats 2000000 in
/-- rows' Copy of a row that is not empty: the cells in a block of their own -/
theorem copy_any (v : Value) (qs : List Rat) (w : World) (h : Row3 QV w v qs) (hne : qs.length ≠ 0) (hl : qs.length ≤ 4096) :
    Calls Tryd.prog 22 #[v] w fun e w' => ∃ r ts, e = .returned r ∧ w'.ownsRow w.heap.size 43 3 r qs.length (flat ts) ∧ NoInt w' r ∧ ts.length = qs.length ∧ (∀ (i : Nat) (t : T3) (q : Rat), ts[i]? = some t → qs[i]? = some q → QV w' t.1 t.2.1 t.2.2 q) ∧ Below w.heap.size w w' := by
  obtain ⟨A, c, ts, rfl, hlc, hcm, hts, hc, hq⟩ := h
  obtain ⟨b, off, rfl, hb, hcell⟩ := hc (by rintro rfl; simp at hne)
  obtain ⟨L, hL⟩ : ∃ L, qs.length = L := ⟨_, rfl⟩
  rw [hL] at hlc hne hl hts ⊢
  obtain ⟨i0, hi, hz0, hz1, hz2⟩ := info_parts Tryd.infoQ
  have HQ := Lib.hid hq
  have HT := Lib.hid hts
  have hown0 := World.ownsRow_nil w w.heap.size 43 3
  have hno0 := NoInt.nil w
  have hfl : (flat ts).length = L * 3 := by rw [flat_length, hts]
  have hmem : ∀ u, u ∈ flat ts → (∃ bb, u = .bool bb) ∨ ∃ A k c, u = .slice A k c := by
    intro u hu
    rcases flat_mem hu with h1 | ⟨t, ht, h1⟩
    · exact .inl h1
    · obtain ⟨i, hi, rfl⟩ := List.mem_iff_getElem.1 ht
      have hQ := hq i _ (qs[i]'(by omega)) (List.getElem?_eq_getElem hi) (List.getElem?_eq_getElem (by omega))
      obtain ⟨A1, k1, c1, A2, k2, c2, e1, e2⟩ := hQ.slices
      rcases h1 with h1 | h1
      · exact .inr ⟨_, _, _, h1.trans e1⟩
      · exact .inr ⟨_, _, _, h1.trans e2⟩
  have HM := Lib.hid hmem
  have HC := Lib.hid hcell
  clear hts hq hL hc hcell hmem
  go_enter Tryd.func22, Tryd.ntmps22
  go_wp2_with ((at_builtin; refine wpList_append_noint rfl _ _ 28 rfl w.heap.size 43 i0 (.agg #[.bool false, .slice none 0 0, .slice none 0 0]) 3 56 Tryd.underlying28 hi hz0 hz1 hz2 rfl (by decide) _ _ _ rfl hown0 hno0 z3_no ⟨b, off, none⟩ L c (flat ts) rfl hfl ?c1 ?c2 ?c3 (by omega) ?c4 ?c5 (Nat.le_refl _) ?_))
  case c1 =>
    intro t u hu
    have := HC.out t u hu
    by_cases e : t = 0
    · subst e; simpa [Addr.add] using this
    · simpa [Addr.add, e] using this
  case c2 => intro u hu; rcases HM.out u hu with ⟨_, rfl⟩ | ⟨_, _, _, rfl⟩ <;> rfl
  case c3 => intro u hu; rcases HM.out u hu with ⟨_, rfl⟩ | ⟨_, _, _, rfl⟩ <;> simp
  case c4 => unfold maxLen; omega
  case c5 => omega
  intro v' w2 hown' hgrow hno'
  have hbel2 : Below w.heap.size w w2 := (Below.refl _ _).grown hgrow (Nat.le_refl _) (fun q hq => by simp [Value.ownBlock] at hq)
  have hq2 := Lib.hid (fun i t q ht hqi => (HQ.out i t q ht hqi).grown hown0 hno0 hgrow)
  clear hgrow hown0 hno0
  go_wp2
  go_ret
  exact ⟨_, ts, rfl, hown', hno', HT.out, hq2.out, hbel2⟩
end Go.Proofs.YtjfkniknmkcdcaaDoor
