/- The numbers of the dice: a word of the stream is one to one with its state, so that rejection ends. No program. -/
import Derived.WalkKit
import Derived.Laws.BitsLemmas
namespace Go.Proofs.Ytjfkniknmkcdcaa.Dm
open Go

/-- the next state -/
def nx (s : Int) : Int := IntKind.u64.wrap (s + 11400714819323198485)
/-- the word of a state -/
def mx1 (z : Int) : Int := IntKind.u64.wrap (bits BinOp.xor IntKind.u64 z (z / 1073741824) * 13787848793156543929)
def mx2 (z : Int) : Int := IntKind.u64.wrap (bits BinOp.xor IntKind.u64 z (z / 134217728) * 10723151780598845931)
def mx3 (z : Int) : Int := bits BinOp.xor IntKind.u64 z (z / 2147483648)
def mx (z : Int) : Int := mx3 (mx2 (mx1 z))
def st : Nat → Int → Int
  | 0, s => s
  | i + 1, s => nx (st i s)

theorem wrap_u64 (n : Int) : IntKind.u64.wrap n = n % 18446744073709551616 := by simp [IntKind.wrap, IntKind.bits, IntKind.signed]
theorem wrap_bv (n : Int) : IntKind.u64.wrap n = ((BitVec.ofInt 64 n).toNat : Int) := by
  rw [wrap_u64, BitVec.toNat_ofInt]
  have : (0 : Int) ≤ n % 18446744073709551616 := Int.emod_nonneg _ (by decide)
  have e : ((2 ^ 64 : Nat) : Int) = 18446744073709551616 := by decide
  rw [e]; omega
theorem bits_bv (x y : Int) : bits BinOp.xor IntKind.u64 x y = ((BitVec.ofInt 64 x ^^^ BitVec.ofInt 64 y).toNat : Int) := by
  show IntKind.u64.wrap _ = _
  rw [wrap_u64]
  have := (BitVec.ofInt 64 x ^^^ BitVec.ofInt 64 y).isLt
  apply Int.emod_eq_of_lt
  · omega
  · have e : (2 : Nat) ^ 64 = 18446744073709551616 := by decide
    have : (BitVec.ofInt 64 x ^^^ BitVec.ofInt 64 y).toNat < 2 ^ 64 := BitVec.isLt _
    show (((BitVec.ofInt 64 x ^^^ BitVec.ofInt 64 y).toNat : Nat) : Int) < 18446744073709551616
    omega
theorem ofInt_toNat (a : BitVec 64) : BitVec.ofInt 64 (a.toNat : Int) = a := by
  rw [BitVec.ofInt_natCast]; simp
theorem ofInt_div (a : BitVec 64) (k : Nat) (d : Int) (hd : d = ((2 ^ k : Nat) : Int)) : BitVec.ofInt 64 ((a.toNat : Int) / d) = a >>> k := by
  subst hd
  rw [← Int.natCast_ediv, BitVec.ofInt_natCast]
  apply BitVec.eq_of_toNat_eq
  rw [BitVec.toNat_ofNat, BitVec.toNat_ushiftRight, Nat.shiftRight_eq_div_pow]
  exact Nat.mod_eq_of_lt (Nat.lt_of_le_of_lt (Nat.div_le_self _ _) a.isLt)
theorem ofInt_mul (a : BitVec 64) (m : Nat) : BitVec.ofInt 64 ((a.toNat : Int) * (m : Int)) = a * BitVec.ofNat 64 m := by
  rw [BitVec.ofInt_mul, ofInt_toNat, BitVec.ofInt_natCast]

def b1 (z : BitVec 64) : BitVec 64 := (z ^^^ z >>> 30) * BitVec.ofNat 64 13787848793156543929
def b2 (z : BitVec 64) : BitVec 64 := (z ^^^ z >>> 27) * BitVec.ofNat 64 10723151780598845931
def b3 (z : BitVec 64) : BitVec 64 := z ^^^ z >>> 31

theorem mx1_bv (z : BitVec 64) : mx1 (z.toNat : Int) = ((b1 z).toNat : Int) := by
  unfold mx1 b1
  rw [bits_bv, ofInt_toNat, ofInt_div z 30 _ (by decide), wrap_bv]
  rw [show (13787848793156543929 : Int) = ((13787848793156543929 : Nat) : Int) from rfl, ofInt_mul]
theorem mx2_bv (z : BitVec 64) : mx2 (z.toNat : Int) = ((b2 z).toNat : Int) := by
  unfold mx2 b2
  rw [bits_bv, ofInt_toNat, ofInt_div z 27 _ (by decide), wrap_bv]
  rw [show (10723151780598845931 : Int) = ((10723151780598845931 : Nat) : Int) from rfl, ofInt_mul]
theorem mx3_bv (z : BitVec 64) : mx3 (z.toNat : Int) = ((b3 z).toNat : Int) := by
  unfold mx3 b3
  rw [bits_bv, ofInt_toNat, ofInt_div z 31 _ (by decide)]
theorem mx_bv (z : BitVec 64) : mx (z.toNat : Int) = ((b3 (b2 (b1 z))).toNat : Int) := by
  unfold mx
  rw [mx1_bv, mx2_bv, mx3_bv]
theorem mx_range (z : Int) : 0 ≤ mx z ∧ mx z < 18446744073709551616 := by
  unfold mx mx3
  rw [bits_bv]
  have := (BitVec.ofInt 64 (mx2 (mx1 z)) ^^^ BitVec.ofInt 64 (mx2 (mx1 z) / 2147483648)).isLt
  have e : (2 : Nat) ^ 64 = 18446744073709551616 := by decide
  omega
theorem nx_range (s : Int) : 0 ≤ nx s ∧ nx s < 18446744073709551616 := by
  unfold nx; rw [wrap_u64]; omega

theorem xs_inj {k : Nat} (hk : 0 < k) {x y : BitVec 64} (h : x ^^^ x >>> k = y ^^^ y >>> k) : x = y := by
  have h1 : (x ^^^ y) = (x ^^^ y) >>> k := by
    rw [BitVec.ushiftRight_xor_distrib]
    have h2 : x ^^^ x >>> k ^^^ (y ^^^ y >>> k) = 0#64 := by rw [h]; simp
    have h3 : (x ^^^ y) ^^^ (x >>> k ^^^ y >>> k) = 0#64 := by
      rw [← h2]; ac_rfl
    have h4 : (x ^^^ y) ^^^ (x >>> k ^^^ y >>> k) ^^^ (x >>> k ^^^ y >>> k) = (x >>> k ^^^ y >>> k) := by rw [h3]; simp
    rw [BitVec.xor_assoc] at h4
    simpa using h4
  have h2 : (x ^^^ y).toNat = (x ^^^ y).toNat / 2 ^ k := by
    conv => lhs; rw [h1]
    rw [BitVec.toNat_ushiftRight, Nat.shiftRight_eq_div_pow]
  have h3 : (x ^^^ y).toNat = 0 := by
    apply Classical.byContradiction
    intro hne
    have : (x ^^^ y).toNat / 2 ^ k < (x ^^^ y).toNat := Nat.div_lt_self (by omega) (Nat.one_lt_two_pow (by omega))
    omega
  have h4 : x ^^^ y = 0#64 := BitVec.eq_of_toNat_eq (by simpa using h3)
  have h5 : x ^^^ y ^^^ y = 0#64 ^^^ y := by rw [h4]
  rw [BitVec.xor_assoc] at h5
  simpa using h5
theorem mul_inj {m i : BitVec 64} (hm : m * i = 1#64) {x y : BitVec 64} (h : x * m = y * m) : x = y := by
  have h1 : x * m * i = y * m * i := by rw [h]
  rw [BitVec.mul_assoc, BitVec.mul_assoc, hm] at h1
  simpa using h1
theorem b1_inj {x y : BitVec 64} (h : b1 x = b1 y) : x = y :=
  xs_inj (k := 30) (by decide) (mul_inj (i := BitVec.ofNat 64 10871156337175269513) (by decide) h)
theorem b2_inj {x y : BitVec 64} (h : b2 x = b2 y) : x = y :=
  xs_inj (k := 27) (by decide) (mul_inj (i := BitVec.ofNat 64 3573116690164977347) (by decide) h)
theorem b3_inj {x y : BitVec 64} (h : b3 x = b3 y) : x = y := xs_inj (k := 31) (by decide) h

def stc (c : Nat) : Nat → Int → Int
  | 0, s => s
  | i + 1, s => IntKind.u64.wrap (stc c i s + (c : Int))
theorem stc_bv (c : Nat) (s : Int) : ∀ i : Nat, 1 ≤ i → stc c i s = ((BitVec.ofInt 64 s + BitVec.ofNat 64 i * BitVec.ofNat 64 c).toNat : Int)
  | 0, h => absurd h (by decide)
  | 1, _ => by
    show IntKind.u64.wrap (s + (c : Int)) = _
    rw [wrap_bv, BitVec.ofInt_add, BitVec.ofInt_natCast, show BitVec.ofNat 64 1 = 1#64 from rfl, BitVec.one_mul]
  | i + 2, _ => by
    show IntKind.u64.wrap (stc c (i + 1) s + (c : Int)) = _
    rw [stc_bv c s (i + 1) (by omega)]
    rw [wrap_bv, BitVec.ofInt_add, ofInt_toNat, BitVec.ofInt_natCast, BitVec.add_assoc]
    have : BitVec.ofNat 64 (i + 2) = BitVec.ofNat 64 (i + 1) + 1#64 := by
      rw [show i + 2 = (i + 1) + 1 from rfl, BitVec.ofNat_add]
    rw [this, BitVec.add_mul, BitVec.one_mul]
theorem st_stc (s : Int) : ∀ i : Nat, st i s = stc 11400714819323198485 i s
  | 0 => rfl
  | i + 1 => by
    show IntKind.u64.wrap (st i s + 11400714819323198485) = IntKind.u64.wrap (stc 11400714819323198485 i s + _)
    rw [st_stc s i]; rfl
theorem st_bv (s : Int) (i : Nat) (h : 1 ≤ i) : st i s = ((BitVec.ofInt 64 s + BitVec.ofNat 64 i * BitVec.ofNat 64 11400714819323198485).toNat : Int) := by
  rw [st_stc, stc_bv _ s i h]
theorem add_inj' {a x y : BitVec 64} (h : a + x = a + y) : x = y := by
  have := congrArg (fun z => z - a) h
  simpa [BitVec.add_comm a, BitVec.add_sub_cancel] using this
theorem mx_inj {x y : BitVec 64} (h : mx (x.toNat : Int) = mx (y.toNat : Int)) : x = y := by
  rw [mx_bv, mx_bv] at h
  exact b1_inj (b2_inj (b3_inj (BitVec.eq_of_toNat_eq (Int.ofNat.inj h))))
theorem st_inj {s : Int} {i j : Nat} (hi : 1 ≤ i) (hj : 1 ≤ j) (hi2 : i < 2 ^ 64) (hj2 : j < 2 ^ 64) (h : mx (st i s) = mx (st j s)) : i = j := by
  rw [st_bv s i hi, st_bv s j hj] at h
  have h2 := add_inj' (mx_inj h)
  have h3 := mul_inj (i := BitVec.ofNat 64 17428512612931826493) (by decide) h2
  have h4 := congrArg BitVec.toNat h3
  rw [BitVec.toNat_ofNat, BitVec.toNat_ofNat, Nat.mod_eq_of_lt hi2, Nat.mod_eq_of_lt hj2] at h4
  exact h4

theorem pigeon : ∀ (m : Nat) (f : Nat → Nat), (∀ i, i ≤ m → f i < m) → ∃ i j, i < j ∧ j ≤ m ∧ f i = f j
  | 0, f, h => absurd (h 0 (Nat.le_refl _)) (by omega)
  | m + 1, f, h => by
    by_cases hc : ∃ i, i ≤ m ∧ f i = f (m + 1)
    · obtain ⟨i, hi, he⟩ := hc
      exact ⟨i, m + 1, by omega, by omega, he⟩
    · have hne : ∀ i, i ≤ m → f i ≠ f (m + 1) := fun i hi he => hc ⟨i, hi, he⟩
      obtain ⟨i, j, hij, hj, he⟩ := pigeon m (fun i => if f i = m then f (m + 1) else f i) (by
        intro i hi
        have h1 := h i (by omega)
        have h2 := h (m + 1) (by omega)
        have h3 := hne i hi
        by_cases e : f i = m
        · simp only [e, if_true]; omega
        · simp only [e, if_false]; omega)
      refine ⟨i, j, hij, by omega, ?_⟩
      have h1 := hne i (by omega)
      have h2 := hne j hj
      split at he <;> split at he <;> omega

theorem exists_acc (lim s : Int) (h : 9223372036854775808 ≤ lim) (h2 : lim ≤ 18446744073709551615) : ∃ i : Nat, mx (st (i + 1) s) ≤ lim := by
  apply Classical.byContradiction
  intro hno
  have hr : ∀ i, lim < mx (st (i + 1) s) := fun i => Int.not_le.1 fun h => hno ⟨i, h⟩
  obtain ⟨i, j, hij, hj, he⟩ := pigeon (18446744073709551615 - lim).toNat (fun i => (mx (st (i + 1) s) - lim - 1).toNat) (by
    intro i _
    have := hr i
    have := mx_range (st (i + 1) s)
    omega)
  have e : mx (st (i + 1) s) = mx (st (j + 1) s) := by
    have := hr i
    have := hr j
    omega
  have e2 : (2 : Nat) ^ 64 = 18446744073709551616 := by decide
  have := st_inj (by omega) (by omega) (by omega) (by omega) e
  omega

theorem least_of {p : Nat → Prop} (h : ∃ i, p i) : ∃ i, p i ∧ ∀ j, j < i → ¬ p j := by
  obtain ⟨i, hi⟩ := h
  induction i using Nat.strongRecOn with
  | _ i ih =>
    by_cases hc : ∃ j, j < i ∧ p j
    · obtain ⟨j, hj, hp⟩ := hc
      exact ih j hj hp
    · exact ⟨i, hi, fun j hj hp => hc ⟨j, hj, hp⟩⟩

/-- the highest word that is taken, for 1 ≤ n -/
def lim (n : Int) : Int := IntKind.u64.wrap (18446744073709551615 - (IntKind.u64.wrap (-n)).tmod n)
theorem lim_range {n : Int} (h : 1 ≤ n) (h2 : n ≤ 9223372036854775807) : 9223372036854775808 ≤ lim n ∧ lim n ≤ 18446744073709551615 := by
  unfold lim
  have h0 : 0 ≤ IntKind.u64.wrap (-n) := by rw [wrap_u64]; omega
  rw [Int.tmod_eq_emod_of_nonneg h0]
  have h1 : 0 ≤ IntKind.u64.wrap (-n) % n := Int.emod_nonneg _ (by omega)
  have h3 : IntKind.u64.wrap (-n) % n < n := Int.emod_lt_of_pos _ (by omega)
  rw [wrap_u64 (18446744073709551615 - _)]
  omega
theorem acc_least {n : Int} (s : Int) (h : 1 ≤ n) (h2 : n ≤ 9223372036854775807) : ∃ i : Nat, mx (st (i + 1) s) ≤ lim n ∧ ∀ j, j < i → ¬ mx (st (j + 1) s) ≤ lim n :=
  least_of (exists_acc (lim n) s (lim_range h h2).1 (lim_range h h2).2)
open Classical in
/-- how many words are refused -/
noncomputable def rej (n s : Int) : Nat := if h : ∃ i : Nat, mx (st (i + 1) s) ≤ lim n ∧ ∀ j, j < i → ¬ mx (st (j + 1) s) ≤ lim n then Classical.choose h else 0
theorem rej_spec {n : Int} (s : Int) (h : 1 ≤ n) (h2 : n ≤ 9223372036854775807) : mx (st (rej n s + 1) s) ≤ lim n ∧ ∀ j, j < rej n s → ¬ mx (st (j + 1) s) ≤ lim n := by
  unfold rej
  rw [dif_pos (acc_least s h h2)]
  exact Classical.choose_spec (acc_least s h h2)
/-- Below: the number, and the state behind it. -/
noncomputable def bv (n s : Int) : Int := mx (st (rej n s + 1) s) % n
noncomputable def bs (n s : Int) : Int := st (rej n s + 1) s
theorem bv_range {n : Int} (s : Int) (h : 1 ≤ n) : 0 ≤ bv n s ∧ bv n s < n := ⟨Int.emod_nonneg _ (by omega), Int.emod_lt_of_pos _ (by omega)⟩
theorem bs_range (n s : Int) : 0 ≤ bs n s ∧ bs n s < 18446744073709551616 := nx_range _
/-- Draw: so many numbers, and the state behind them. -/
noncomputable def dl (n : Int) : Nat → Int → List Int
  | 0, _ => []
  | k + 1, s => bv n s :: dl n k (bs n s)
noncomputable def ds (n : Int) : Nat → Int → Int
  | 0, s => s
  | k + 1, s => bs n (ds n k s)
theorem ds_succ' (n : Int) : ∀ (k : Nat) (s : Int), ds n k (bs n s) = bs n (ds n k s)
  | 0, _ => rfl
  | k + 1, s => by show bs n _ = bs n _; rw [ds_succ' n k s]; rfl
theorem dl_snoc (n : Int) : ∀ (k : Nat) (s : Int), dl n (k + 1) s = dl n k s ++ [bv n (ds n k s)]
  | 0, _ => rfl
  | k + 1, s => by
    show bv n s :: dl n (k + 1) (bs n s) = bv n s :: dl n k (bs n s) ++ [bv n (bs n (ds n k s))]
    rw [dl_snoc n k, ds_succ']
    rfl
theorem dl_length (n : Int) : ∀ (k : Nat) (s : Int), (dl n k s).length = k
  | 0, _ => rfl
  | k + 1, s => by simp [dl, dl_length n k]
theorem dl_range {n : Int} (h : 1 ≤ n) : ∀ (k : Nat) (s : Int), ∀ x ∈ dl n k s, 0 ≤ x ∧ x < n
  | 0, _ => by simp [dl]
  | k + 1, s => by
    intro x hx
    simp only [dl, List.mem_cons] at hx
    rcases hx with rfl | hx
    · exact bv_range s h
    · exact dl_range h k _ x hx
theorem ds_range (n : Int) : ∀ (k : Nat) (s : Int), 1 ≤ k → 0 ≤ ds n k s ∧ ds n k s < 18446744073709551616
  | 0, _, h => absurd h (by decide)
  | k + 1, s, _ => bs_range _ _
end Go.Proofs.Ytjfkniknmkcdcaa.Dm
