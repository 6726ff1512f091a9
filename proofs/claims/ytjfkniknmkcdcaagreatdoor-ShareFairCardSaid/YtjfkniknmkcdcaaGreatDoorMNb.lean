/- Texts of this claim, joined: Nm, Nv, Na, Nb. -/
import Derived.Test.YtjfkniknmkcdcaaGreatDoorProg
import Derived.Test.YtjfkniknmkcdcaaGreatDoorMPk
import Derived.Laws.Externs
namespace Go.Proofs.YtjfkniknmkcdcaaGreatDoor.Nu

/-- the value of digits to a base -/
def dv (B : Int) : List Int → Int
  | [] => 0
  | x :: l => x + B * dv B l
def Dig (B : Int) (l : List Int) : Prop := ∀ x, x ∈ l → 0 ≤ x ∧ x < B
def Can (l : List Int) : Prop := ∀ x, l.getLast? = some x → x ≠ 0

theorem Dig.nil (B : Int) : Dig B [] := fun _ h => absurd h (by simp)
theorem Dig.cons {B x : Int} {l : List Int} (hx : 0 ≤ x ∧ x < B) (h : Dig B l) : Dig B (x :: l) := by
  intro y hy
  rcases List.mem_cons.1 hy with rfl | hy
  · exact hx
  · exact h y hy
theorem Dig.append {B : Int} {l m : List Int} (h : Dig B l) (h2 : Dig B m) : Dig B (l ++ m) := by
  intro y hy
  rcases List.mem_append.1 hy with hy | hy
  · exact h y hy
  · exact h2 y hy
theorem Dig.snoc {B x : Int} {l : List Int} (h : Dig B l) (hx : 0 ≤ x ∧ x < B) : Dig B (l ++ [x]) := h.append (Dig.cons hx (Dig.nil B))
theorem Dig.left {B : Int} {l m : List Int} (h : Dig B (l ++ m)) : Dig B l := fun x hx => h x (List.mem_append_left _ hx)
theorem Dig.right {B : Int} {l m : List Int} (h : Dig B (l ++ m)) : Dig B m := fun x hx => h x (List.mem_append_right _ hx)
theorem Dig.take {B : Int} {l : List Int} (h : Dig B l) (k : Nat) : Dig B (l.take k) := fun x hx => h x (List.mem_of_mem_take hx)
theorem Dig.drop {B : Int} {l : List Int} (h : Dig B l) (k : Nat) : Dig B (l.drop k) := fun x hx => h x (List.mem_of_mem_drop hx)
theorem getD_mem {l : List Int} {i : Nat} (h : i < l.length) : l.getD i 0 ∈ l := by
  rw [List.getD_eq_getElem?_getD, List.getElem?_eq_getElem h]; exact List.getElem_mem h
theorem Dig.at {B : Int} (hB : 0 < B) {l : List Int} (h : Dig B l) (i : Nat) : 0 ≤ l.getD i 0 ∧ l.getD i 0 < B := by
  by_cases hi : i < l.length
  · exact h _ (getD_mem hi)
  · rw [List.getD_eq_getElem?_getD, List.getElem?_eq_none (by omega)]; exact ⟨Int.le_refl _, hB⟩

theorem dv_append (B : Int) : ∀ l m : List Int, dv B (l ++ m) = dv B l + B ^ l.length * dv B m
  | [], m => by simp [dv]
  | x :: l, m => by
    show x + B * dv B (l ++ m) = x + B * dv B l + B ^ (l.length + 1) * dv B m
    rw [dv_append B l m, Int.pow_succ]; grind
theorem dv_snoc (B : Int) (l : List Int) (x : Int) : dv B (l ++ [x]) = dv B l + x * B ^ l.length := by
  rw [dv_append]; simp [dv, Int.mul_comm]
theorem dv_zeros (B : Int) : ∀ n : Nat, dv B (List.replicate n 0) = 0
  | 0 => rfl
  | n + 1 => by simp [List.replicate_succ, dv, dv_zeros B n]
theorem dv_pad (B : Int) (l : List Int) (n : Nat) : dv B (l ++ List.replicate n 0) = dv B l := by
  rw [dv_append, dv_zeros]; simp
theorem pow_pos {B : Int} (hB : 0 < B) (n : Nat) : 0 < B ^ n := Int.pow_pos hB
theorem dv_bound {B : Int} (hB : 0 < B) : ∀ {l : List Int}, Dig B l → 0 ≤ dv B l ∧ dv B l < B ^ l.length
  | [], _ => by simp [dv]
  | x :: l, h => by
    have h1 := h x (by simp)
    have h2 := dv_bound hB (l := l) (fun y hy => h y (by simp [hy]))
    have h3 : B * dv B l ≤ B * (B ^ l.length - 1) := Int.mul_le_mul_of_nonneg_left (by omega) (by omega)
    have h4 : 0 ≤ B * dv B l := Int.mul_nonneg (by omega) h2.1
    show 0 ≤ x + B * dv B l ∧ x + B * dv B l < B ^ (l.length + 1)
    rw [Int.pow_succ]
    have h5 : B * (B ^ l.length - 1) = B ^ l.length * B - B := by rw [Int.mul_sub, Int.mul_comm]; omega
    omega
theorem dv_inj {B : Int} (hB : 0 < B) : ∀ {l m : List Int}, l.length = m.length → Dig B l → Dig B m → dv B l = dv B m → l = m
  | [], [], _, _, _, _ => rfl
  | [], _ :: _, h, _, _, _ => by simp at h
  | _ :: _, [], h, _, _, _ => by simp at h
  | x :: l, y :: m, h, hl, hm, e => by
    have hx := hl x (by simp)
    have hy := hm y (by simp)
    have e1 : x + B * dv B l = y + B * dv B m := e
    have e2 : x = y := by
      have h1 : (x + B * dv B l) % B = (y + B * dv B m) % B := by rw [e1]
      rw [Int.add_mul_emod_self_left, Int.add_mul_emod_self_left, Int.emod_eq_of_lt hx.1 hx.2, Int.emod_eq_of_lt hy.1 hy.2] at h1
      exact h1
    subst e2
    have e3 : dv B l = dv B m := by
      have : B * dv B l = B * dv B m := by omega
      exact Int.eq_of_mul_eq_mul_left (by omega) this
    rw [dv_inj hB (by simpa using h) (fun z hz => hl z (by simp [hz])) (fun z hz => hm z (by simp [hz])) e3]
theorem dv_nonneg {B : Int} (hB : 0 < B) {l : List Int} (h : Dig B l) : 0 ≤ dv B l := (dv_bound hB h).1
theorem dv_take_drop (B : Int) (l : List Int) (k : Nat) (hk : k ≤ l.length) : dv B l = dv B (l.take k) + B ^ k * dv B (l.drop k) := by
  conv => lhs; rw [← List.take_append_drop k l]
  rw [dv_append, List.length_take, Nat.min_eq_left hk]

theorem Can.nil : Can [] := fun _ h => by simp at h
theorem Can.snoc {l : List Int} {x : Int} (h : x ≠ 0) : Can (l ++ [x]) := fun y hy => by simp at hy; omega
/-- digits to a base that are those of a number -/
structure IsNum (B : Int) (l : List Int) (n : Nat) : Prop where
  dig : Dig B l
  can : Can l
  val : dv B l = n
theorem IsNum.nil (B : Int) : IsNum B [] 0 := ⟨Dig.nil B, Can.nil, rfl⟩
theorem snoc_cases (l : List Int) : l = [] ∨ ∃ m x, l = m ++ [x] := by
  rcases List.eq_nil_or_concat l with h | ⟨m, x, h⟩
  · exact .inl h
  · exact .inr ⟨m, x, by simpa using h⟩
theorem IsNum.low {B : Int} (hB : 0 < B) {l : List Int} {n : Nat} (h : IsNum B l n) (hl : l ≠ []) : B ^ (l.length - 1) ≤ n := by
  rcases snoc_cases l with rfl | ⟨m, x, rfl⟩
  · exact absurd rfl hl
  · have hx : x ≠ 0 := h.can x (by simp)
    have h1 := h.dig x (by simp)
    have h2 := dv_bound hB h.dig.left
    have h3 := h.val
    rw [dv_snoc] at h3
    have h4 : 1 * B ^ m.length ≤ x * B ^ m.length := Int.mul_le_mul_of_nonneg_right (by omega) (Int.le_of_lt (pow_pos hB _))
    simp only [List.length_append, List.length_cons, List.length_nil, Nat.zero_add, Nat.add_sub_cancel]
    omega
theorem IsNum.high {B : Int} (hB : 0 < B) {l : List Int} {n : Nat} (h : IsNum B l n) : (n : Int) < B ^ l.length := by
  rw [← h.val]; exact (dv_bound hB h.dig).2
theorem IsNum.zero_iff {B : Int} (hB : 0 < B) {l : List Int} {n : Nat} (h : IsNum B l n) : n = 0 ↔ l = [] := by
  constructor
  · intro h0
    apply Classical.byContradiction
    intro hl
    have := h.low hB hl
    have := pow_pos hB (l.length - 1)
    omega
  · rintro rfl
    have := h.val
    simp [dv] at this
    omega
theorem pow_le_pow {B : Int} (hB : 1 ≤ B) {i j : Nat} (h : i ≤ j) : B ^ i ≤ B ^ j := by
  obtain ⟨k, rfl⟩ := Nat.exists_eq_add_of_le h
  rw [Int.pow_add]
  have h1 := pow_pos (show 0 < B by omega) i
  have h2 := pow_pos (show 0 < B by omega) k
  have := Int.mul_le_mul_of_nonneg_left (show 1 ≤ B ^ k by omega) (Int.le_of_lt h1)
  omega
/-- the longer number is the greater -/
theorem IsNum.lt_of_len {B : Int} (hB : 1 ≤ B) {l m : List Int} {a b : Nat} (h : IsNum B l a) (k : IsNum B m b) (hlt : l.length < m.length) : a < b := by
  have h1 := h.high (by omega)
  have h2 := k.low (by omega) (by intro e; rw [e] at hlt; simp at hlt)
  have h3 := pow_le_pow hB (show l.length ≤ m.length - 1 by omega)
  omega
theorem IsNum.inj {B : Int} (hB : 1 ≤ B) {l m : List Int} {a : Nat} (h : IsNum B l a) (k : IsNum B m a) : l = m := by
  rcases Nat.lt_trichotomy l.length m.length with hl | hl | hl
  · have := h.lt_of_len hB k hl; omega
  · exact dv_inj (by omega) hl h.dig k.dig (by rw [h.val, k.val])
  · have := k.lt_of_len hB h hl; omega
theorem pow2_le {B : Int} (hB : 2 ≤ B) (n : Nat) : (2 : Int) ^ n ≤ B ^ n := by
  induction n with
  | zero => simp
  | succ n ih =>
    rw [Int.pow_succ, Int.pow_succ]
    have h1 := pow_pos (show (0 : Int) < 2 by decide) n
    have h2 : (2 : Int) ^ n * 2 ≤ B ^ n * 2 := Int.mul_le_mul_of_nonneg_right ih (by decide)
    have h3 : B ^ n * 2 ≤ B ^ n * B := Int.mul_le_mul_of_nonneg_left hB (by omega)
    omega
theorem lt_two_pow (n : Nat) : n < 2 ^ n := Nat.lt_two_pow_self
/-- a number of h bits has at most h digits -/
theorem IsNum.len {B : Int} (hB : 2 ≤ B) {l : List Int} {n h : Nat} (hn : IsNum B l n) (hb : n < 2 ^ h) : l.length ≤ h := by
  apply Classical.byContradiction
  intro hlt
  have h1 := hn.low (by omega) (by intro e; rw [e] at hlt; simp at hlt)
  have h2 := pow2_le hB (l.length - 1)
  have h3 : (2 : Nat) ^ h ≤ 2 ^ (l.length - 1) := Nat.pow_le_pow_right (by decide) (by omega)
  have h4 : ((2 ^ (l.length - 1) : Nat) : Int) = (2 : Int) ^ (l.length - 1) := by rw [Int.natCast_pow]; rfl
  omega
/-- digits without the noughts at their end -/
def trm (l : List Int) : List Int := (l.reverse.dropWhile (· == 0)).reverse
theorem trm_snoc_zero (l : List Int) : trm (l ++ [0]) = trm l := by simp [trm]
theorem trm_snoc {l : List Int} {x : Int} (h : x ≠ 0) : trm (l ++ [x]) = l ++ [x] := by
  simp [trm, h]
theorem trm_nil : trm [] = [] := rfl
theorem trm_spec {B : Int} : ∀ (k : Nat) (l : List Int), l.length = k → Dig B l → Dig B (trm l) ∧ Can (trm l) ∧ dv B (trm l) = dv B l ∧ (trm l).length ≤ l.length
  | 0, l, h, hd => by
    rw [List.eq_nil_of_length_eq_zero h]; exact ⟨Dig.nil B, Can.nil, rfl, Nat.le_refl _⟩
  | k + 1, l, h, hd => by
    rcases snoc_cases l with rfl | ⟨m, x, rfl⟩
    · simp at h
    · by_cases hx : x = 0
      · subst hx
        rw [trm_snoc_zero]
        have := trm_spec k m (by simpa using h) hd.left
        refine ⟨this.1, this.2.1, ?_, ?_⟩
        · rw [dv_snoc, this.2.2.1]; simp
        · simp; omega
      · rw [trm_snoc hx]; exact ⟨hd, Can.snoc hx, rfl, Nat.le_refl _⟩
theorem trm_num {B : Int} (_hB : 0 < B) {l : List Int} {n : Nat} (hd : Dig B l) (hv : dv B l = n) : IsNum B (trm l) n :=
  have h := trm_spec (B := B) _ l rfl hd
  ⟨h.1, h.2.1, h.2.2.1.trans hv⟩
/-- what is trimmed is a begin of what was there -/
theorem trm_prefix (l : List Int) : ∃ k, l = trm l ++ List.replicate k 0 := by
  generalize hn : l.length = n
  induction n generalizing l with
  | zero => rw [List.eq_nil_of_length_eq_zero hn]; exact ⟨0, rfl⟩
  | succ n ih =>
    rcases snoc_cases l with rfl | ⟨m, x, rfl⟩
    · simp at hn
    · by_cases hx : x = 0
      · subst hx
        rw [trm_snoc_zero]
        obtain ⟨k, hk⟩ := ih m (by simpa using hn)
        exact ⟨k + 1, by rw [List.replicate_succ', ← List.append_assoc, ← hk]⟩
      · rw [trm_snoc hx]; exact ⟨0, by simp⟩
theorem take_snoc {l : List Int} {k : Nat} (h : k < l.length) : l.take (k + 1) = l.take k ++ [l.getD k 0] := by
  rw [List.take_succ_eq_append_getElem h]
  simp [h]
/-- how many bits -/
def bl (n : Nat) : Nat := if n = 0 then 0 else n.log2 + 1
theorem lt_bl (n : Nat) : n < 2 ^ bl n := by
  unfold bl
  split
  · subst_vars; simp
  · exact Nat.lt_log2_self
theorem bl_le {n h : Nat} (hn : n < 2 ^ h) : bl n ≤ h := by
  unfold bl
  split
  · omega
  · rename_i h0
    have := (Nat.log2_lt h0).2 hn
    omega
theorem bl_mono {m n : Nat} (h : m ≤ n) : bl m ≤ bl n := bl_le (Nat.lt_of_le_of_lt h (lt_bl n))
theorem bl_add (a b : Nat) : bl (a + b) ≤ bl a + 1 ∨ bl (a + b) ≤ bl b + 1 := by
  rcases Nat.le_total (bl a) (bl b) with h | h
  · right
    apply bl_le
    have h1 := lt_bl a
    have h2 := lt_bl b
    have h3 : (2 : Nat) ^ bl a ≤ 2 ^ bl b := Nat.pow_le_pow_right (by decide) h
    rw [Nat.pow_succ]; omega
  · left
    apply bl_le
    have h1 := lt_bl a
    have h2 := lt_bl b
    have h3 : (2 : Nat) ^ bl b ≤ 2 ^ bl a := Nat.pow_le_pow_right (by decide) h
    rw [Nat.pow_succ]; omega
theorem bl_mul (a b : Nat) : bl (a * b) ≤ bl a + bl b := by
  apply bl_le
  rw [Nat.pow_add]
  have h1 := lt_bl a
  have h2 := lt_bl b
  have h3 : a * b ≤ a * 2 ^ bl b := Nat.mul_le_mul_left a (by omega)
  have h4 : a * 2 ^ bl b < 2 ^ bl a * 2 ^ bl b := Nat.mul_lt_mul_of_pos_right h1 (Nat.two_pow_pos _)
  omega
theorem bl_zero : bl 0 = 0 := rfl
theorem bl_pos {n : Nat} (h : n ≠ 0) : 1 ≤ bl n := by unfold bl; rw [if_neg h]; omega
theorem bl_eq_zero {n : Nat} : bl n = 0 ↔ n = 0 := by
  constructor
  · intro h; apply Classical.byContradiction; intro h0; have := bl_pos h0; omega
  · rintro rfl; rfl
theorem bl_div (a b : Nat) : bl (a / b) ≤ bl a := bl_mono (Nat.div_le_self a b)
theorem bl_mod (a b : Nat) : bl (a % b) ≤ bl a := bl_mono (Nat.mod_le a b)
theorem bl_sub (a b : Nat) : bl (a - b) ≤ bl a := bl_mono (Nat.sub_le a b)
theorem two_pow_bl {n : Nat} (h : n ≠ 0) : 2 ^ (bl n - 1) ≤ n := by
  unfold bl; rw [if_neg h, Nat.add_sub_cancel]; exact Nat.log2_self_le h
theorem bl_dvd {a b : Nat} (h : a ∣ b) (hb : b ≠ 0) : bl a ≤ bl b := bl_mono (Nat.le_of_dvd (by omega) h)
theorem IsNum.len' {B : Int} (hB : 2 ≤ B) {l : List Int} {n : Nat} (hn : IsNum B l n) : l.length ≤ bl n := hn.len hB (lt_bl n)
theorem drop_getD {l : List Int} {k : Nat} (h : k < l.length) : l.drop k = l.getD k 0 :: l.drop (k + 1) := by
  rw [List.drop_eq_getElem_cons h]
  simp [h]
theorem dv_lt_top {B : Int} (hB : 0 < B) {l m : List Int} {k : Nat} (hl : Dig B l) (hm : Dig B m) (hk : k < l.length) (hk2 : k < m.length) (hd : l.drop (k + 1) = m.drop (k + 1)) (hlt : l.getD k 0 < m.getD k 0) : dv B l < dv B m := by
  rw [dv_take_drop B l k (by omega), dv_take_drop B m k (by omega), drop_getD hk, drop_getD hk2, hd]
  have h1 := (dv_bound hB (hl.take k)).2
  rw [List.length_take, Nat.min_eq_left (by omega)] at h1
  have h2 := (dv_bound hB (hm.take k)).1
  show dv B (l.take k) + B ^ k * (l.getD k 0 + B * dv B (m.drop (k + 1))) < dv B (m.take k) + B ^ k * (m.getD k 0 + B * dv B (m.drop (k + 1)))
  have h3 : B ^ k * (l.getD k 0 + B * dv B (m.drop (k + 1)) + 1) ≤ B ^ k * (m.getD k 0 + B * dv B (m.drop (k + 1))) :=
    Int.mul_le_mul_of_nonneg_left (by omega) (Int.le_of_lt (pow_pos hB k))
  rw [Int.mul_add, Int.mul_one] at h3
  omega
/-- -1, 0, 1 -/
def cmpN (a b : Nat) : Int := if a < b then -1 else if b < a then 1 else 0
theorem dv_set (B : Int) : ∀ (l : List Int) (i : Nat) (d : Int), i < l.length → dv B (l.set i d) = dv B l + (d - l.getD i 0) * B ^ i
  | [], i, d, h => absurd h (by simp)
  | x :: l, 0, d, _ => by simp [dv]; omega
  | x :: l, i + 1, d, h => by
    show x + B * dv B (l.set i d) = x + B * dv B l + (d - l.getD i 0) * B ^ (i + 1)
    rw [dv_set B l i d (by simpa using h), Int.pow_succ]
    grind
theorem Dig.set {B : Int} {l : List Int} (h : Dig B l) (i : Nat) {d : Int} (hd : 0 ≤ d ∧ d < B) : Dig B (l.set i d) := by
  intro x hx
  rcases List.mem_or_eq_of_mem_set hx with hx | rfl
  · exact h x hx
  · exact hd
theorem getD_left {l m : List Int} {i : Nat} (h : i < l.length) : (l ++ m).getD i 0 = l.getD i 0 := by
  rw [List.getD_eq_getElem?_getD, List.getD_eq_getElem?_getD, List.getElem?_append_left h]
/-- one digit of a product -/
theorem carry_mul {W U V D A T x y q c d c' : Int} (h : d + c' * W = q + x * y + c) (inv : D + c * (U * V) = A + x * T * U) :
    D + (d - q) * (U * V) + c' * (U * V * W) = A + x * (T + y * V) * U := by
  have h1 : (d + c' * W) * (U * V) = (q + x * y + c) * (U * V) := by rw [h]
  grind
theorem divmod_of {N Q y r : Int} (h : N = Q * y + r) (h0 : 0 ≤ r) (h1 : r < y) : N / y = Q ∧ N % y = r := by
  have hy : y ≠ 0 := by omega
  subst h
  constructor
  · rw [Int.add_comm, Int.add_mul_ediv_right _ _ hy, Int.ediv_eq_zero_of_lt h0 h1, Int.zero_add]
  · rw [Int.add_comm, Int.add_mul_emod_self_right, Int.emod_eq_of_lt h0 h1]
/-- what was moved up by a power comes down again -/
theorem divmod_scaled {N S Q y R : Int} (hS : 0 < S) (h : N * S = Q * (y * S) + R) (h0 : 0 ≤ R) (h1 : R < y * S) : N / y = Q ∧ N % y = R / S := by
  have e : R = (N - Q * y) * S := by rw [Int.sub_mul, Int.mul_assoc]; omega
  have e2 : R / S = N - Q * y := by rw [e]; exact Int.mul_ediv_cancel _ (by omega)
  have h2 : 0 ≤ N - Q * y := by
    rw [e] at h0
    exact Int.nonneg_of_mul_nonneg_left h0 hS
  have h3 : N - Q * y < y := by
    rw [e] at h1
    exact Int.lt_of_mul_lt_mul_right h1 (Int.le_of_lt hS)
  rw [e2]
  exact divmod_of (by omega) h2 h3
end Go.Proofs.YtjfkniknmkcdcaaGreatDoor.Nu

namespace Go.Proofs.YtjfkniknmkcdcaaGreatDoor
open Go.RowKit K Nu

abbrev W64 : Int := 18446744073709551616
abbrev W32 : Int := 4294967296
/-- a slice of words that is a number's -/
def NatV (w : World) (v : Value) (n : Nat) : Prop := ∃ l, IsNum W64 l n ∧ IsInts .u64 w v l
theorem NatV.below {B : Nat} {w w' : World} {v : Value} {n : Nat} (h : NatV w v n) (hb : Below B w w') (hB : w.heap.size ≤ B) : NatV w' v n := by
  obtain ⟨l, h1, h2⟩ := h
  exact ⟨l, h1, h2.below hb hB⟩
theorem NatV.slice {w : World} {v : Value} {n : Nat} (h : NatV w v n) : ∃ A k c, v = .slice A k c := by
  obtain ⟨l, _, A, c, hv, _⟩ := h
  exact ⟨A, _, c, hv⟩
theorem NatV.box {w : World} {v : Value} {n : Nat} {g : Nat} {cells : List Value} {T : TypeId} (h : NatV w v n) (hg : Blk w g cells T) (hno : ∀ x, x ∈ cells → ∀ q, x ≠ .int .u64 q) (j : Nat) (u : Value) : NatV (w.setCell ⟨g, j, none⟩ u) v n := by
  obtain ⟨l, h1, h2⟩ := h
  exact ⟨l, h1, h2.box hg hno j u⟩
theorem NatV.nil (w : World) : NatV w (.slice none 0 0) 0 := ⟨[], IsNum.nil _, IsInts.nil _ _⟩

set_option maxHeartbeats 400000 in
theorem trim_any (v : Value) (l : List Int) (w : World) (hv : IsInts .u64 w v l) :
    Calls Tryz.prog 99 #[v] w fun e w' => ∃ r, e = .returned (.agg #[r]) ∧ IsInts .u64 w' r (trm l) ∧ Below w.heap.size w w' := by
  obtain ⟨A, c, rfl, hc, hm, hr⟩ := hv
  unfold maxLen at hm
  go_enter Tryz.func99, Tryz.ntmps99
  go_wp2
  go_loopw [0] (fun v wr => ∃ k : Nat, k ≤ l.length ∧ v = .slice A k c ∧ Hid (trm (l.take k) = trm l) ∧ wr = w.alloc (.cells #[.slice none 0 0] 36)) (fun v _ => match v with | .slice _ k _ => k | _ => 0)
  case atStart => exact ⟨l.length, by omega, rfl, Lib.hid (by rw [List.take_length]), rfl⟩
  case round =>
    obtain ⟨k, hk, rfl, ht, rfl⟩ := hrel
    have hex : ∀ k : Nat, k ≤ l.length → l.take k = trm l → IsInts .u64 (w.alloc (.cells #[.slice A k c] 36)) (.slice A k c) (trm l) := by
      intro k hk he
      have hkl : (trm l).length = k := by rw [← he, List.length_take]; omega
      refine ⟨A, c, by rw [hkl], by omega, by unfold maxLen; omega, fun hne => ?_⟩
      obtain ⟨b, o, e1, hb, hcell⟩ := hr (by omega)
      refine ⟨b, o, e1, by simp; omega, fun i hi => ?_⟩
      rw [World.cell?_alloc_lt w (a := ⟨b, o + i, none⟩) _ hb, hcell i (by omega), ← he, List.getD_eq_getElem?_getD, List.getD_eq_getElem?_getD, List.getElem?_take_of_lt (by omega)]
    have HX := Lib.hid hex
    clear hex
    rcases k with _ | k
    · go_wp2
      refine bodyPost_ret (v := .agg #[.slice A 0 c]) (by simp [results, Tryz.results99, go_sem]) rfl ?_
      exact ⟨_, rfl, HX.out 0 (by omega) (by rw [← ht.out]; rfl), (Below.refl _ _).alloc (Nat.le_refl _) _⟩
    · obtain ⟨b, o, e1, hb, hcell⟩ := hr (by omega)
      subst e1
      have x1 := hcell k (by omega)
      have HT := Lib.hid (take_snoc (l := l) (k := k) (by omega))
      clear hcell
      generalize l.getD k 0 = x at *
      by_cases hx : x = 0
      · subst hx
        go_wp2
        exact ⟨⟨k, by omega, rfl, Lib.hid (by rw [← ht.out, HT.out, trm_snoc_zero]), trivial⟩, by simp⟩
      · have hx1 : (x == 0) = false := by simpa using hx
        have HZ := Lib.hid hx
        clear hx
        go_wp2
        refine bodyPost_ret (v := .agg #[.slice (some ⟨b, o, none⟩) (k + 1) c]) (by simp [results, Tryz.results99, go_sem]) rfl ?_
        exact ⟨_, rfl, HX.out (k + 1) (by omega) (by rw [← ht.out, HT.out, trm_snoc HZ.out]), (Below.refl _ _).alloc (Nat.le_refl _) _⟩

theorem trim_num {w : World} {v : Value} {l : List Int} {n : Nat} (hv : IsInts .u64 w v l) (hd : Dig W64 l) (hn : dv W64 l = n) :
    Calls Tryz.prog 99 #[v] w fun e w' => ∃ r, e = .returned (.agg #[r]) ∧ NatV w' r n ∧ Below w.heap.size w w' :=
  (trim_any v l w hv).mono fun _ _ ⟨r, he, hr, hb⟩ => ⟨r, he, ⟨_, trm_num (by decide) hd hn, hr⟩, hb⟩

theorem of_any (n : Nat) (w : World) (hn : n < 18446744073709551616) :
    Calls Tryz.prog 91 #[.int .u64 (n : Int)] w fun e w' => ∃ r, e = .returned (.agg #[r]) ∧ NatV w' r n ∧ Below w.heap.size w w' := by
  go_enter Tryz.func91, Tryz.ntmps91
  go_wp2_with fail
  have hv : IsInts .u64 ((w.alloc (.cells #[.slice none 0 0] 36)).alloc (.cells #[.int .u64 (n : Int)] 106)) (.slice (some ⟨w.heap.size + 1, 0, none⟩) 1 1) [(n : Int)] := by
    have h := (Blk.new (w.alloc (.cells #[.slice none 0 0] 36)) (vs .u64 [(n : Int)]) 106).ints (n := 1) rfl (by decide)
    simp only [World.alloc, Array.size_push] at h ⊢
    exact h
  refine (trim_num (n := n) hv (Dig.cons (by unfold W64; omega) (Dig.nil _)) (by simp [dv])).mono ?_
  rintro e w1 ⟨r, rfl, hr, hb⟩
  have hB : Blk w1 w.heap.size [.slice none 0 0] 36 := ((Blk.new w [.slice none 0 0] _).alloc _).below hb (by simp; omega)
  have hc := hB.one
  have hf := hB.frozen 0
  have hb' : Below w.heap.size w w1 := (((Below.refl _ _).alloc (Nat.le_refl _) _).alloc (by simp) _).trans (hb.mono (by simp; omega))
  obtain ⟨A, k, c, rfl⟩ := hr.slice
  clear hv hb
  go_wp2
  refine bodyPost_ret (v := .agg #[.slice A k c]) (by simp [results, Tryz.results91, go_sem, hc]) rfl ?_
  exact ⟨_, rfl, hr.box hB (by simp) _ _, hb'.setCell (Nat.le_refl _) _⟩

theorem IsNum.one {n : Nat} (h : n ≠ 0) (hn : n < 18446744073709551616) : IsNum W64 [(n : Int)] n :=
  ⟨Dig.cons (by unfold W64; omega) (Dig.nil _), Can.snoc (l := []) (by omega), by simp [dv]⟩
/-- the word of a number that a word has -/
def smallW (n : Nat) : Int := if n < 18446744073709551616 then (n : Int) else 0
theorem num_cases {l : List Int} {n : Nat} (h : IsNum W64 l n) : (l = [] ∧ n = 0) ∨ (l = [(n : Int)] ∧ n ≠ 0 ∧ n < 18446744073709551616) ∨ (2 ≤ l.length ∧ 18446744073709551616 ≤ n) := by
  rcases l with _ | ⟨x, _ | ⟨y, l⟩⟩
  · exact .inl ⟨rfl, (h.zero_iff (by decide)).2 rfl⟩
  · have h1 := h.val
    have h2 := h.dig x (by simp)
    have h3 := h.can x (by simp)
    simp only [dv, Int.mul_zero, Int.add_zero] at h1
    unfold W64 at h2
    exact .inr (.inl ⟨by rw [h1], by omega, by omega⟩)
  · have h1 := h.low (by decide) (by simp)
    have h2 := pow_le_pow (B := W64) (by decide) (show 1 ≤ (x :: y :: l).length - 1 by simp)
    rw [Int.pow_one] at h2
    unfold W64 at h1 h2
    exact .inr (.inr ⟨by simp, by omega⟩)

set_option maxHeartbeats 400000 in
theorem small_any (v : Value) (n : Nat) (w : World) (hv : NatV w v n) :
    Calls Tryz.prog 90 #[.agg #[v]] w fun e w' => e = .returned (.tuple #[.int .u64 (smallW n), .bool (decide (n < 18446744073709551616))]) ∧ Below w.heap.size w w' := by
  obtain ⟨l, hn, A, c, rfl, hc, hm, hr⟩ := hv
  rcases num_cases hn with ⟨rfl, rfl⟩ | ⟨rfl, h0, h1⟩ | ⟨h2, h3⟩
  · go_enter Tryz.func90, Tryz.ntmps90
    go_wp2
    go_ret2
    exact ⟨rfl, (Below.refl _ _).alloc (Nat.le_refl _) _⟩
  · obtain ⟨b, o, rfl, hb, hcell⟩ := hr (by simp)
    have x1 := hcell 0 (by simp)
    simp only [Nat.add_zero, List.getD_cons_zero] at x1
    have e1 : smallW n = n := if_pos h1
    have e2 : decide (n < 18446744073709551616) = true := decide_eq_true h1
    rw [e1, e2]
    clear e1 e2 h1 hcell hr
    go_enter Tryz.func90, Tryz.ntmps90
    go_wp2
    go_ret2
    exact ⟨rfl, (Below.refl _ _).alloc (Nat.le_refl _) _⟩
  · have e1 : smallW n = 0 := if_neg (by omega)
    have e2 : decide (n < 18446744073709551616) = false := decide_eq_false (by omega)
    rw [e1, e2]
    have t0 : ((l.length : Int) == 0) = false := beq_eq_false_iff_ne.2 (by omega)
    have t1 : ((l.length : Int) == 1) = false := beq_eq_false_iff_ne.2 (by omega)
    have t2 : (l.length == 1) = false := beq_eq_false_iff_ne.2 (by omega)
    have t3 : (l.length == 0) = false := beq_eq_false_iff_ne.2 (by omega)
    clear e1 e2 h3 hr
    go_enter Tryz.func90, Tryz.ntmps90
    go_wp2
    go_ret2
    exact ⟨rfl, (Below.refl _ _).alloc (Nat.le_refl _) _⟩
end Go.Proofs.YtjfkniknmkcdcaaGreatDoor

namespace Go.Proofs.YtjfkniknmkcdcaaGreatDoor
open Go.RowKit K Nu

theorem Tryz.info106 : (Tryz.prog.info? 106).map (fun i => (i.zero, i.size, i.bytes)) = some (some (.int .u64 0), 1, 8) := by kernel_rfl

theorem add64_run (x y c : Int) (hx : 0 ≤ x) (hy : 0 ≤ y) (hc0 : 0 ≤ c) (hc : c ≤ 1) :
    ∀ w : World, (callFunc 98 #[.int .u64 x, .int .u64 y, .int .u64 c]).run Tryz.prog w = .ok (.value (.tuple #[.int .u64 ((x + y + c) % 18446744073709551616), .int .u64 ((x + y + c) / 18446744073709551616)])) w := by
  intro w
  rw [run_callFunc_extern (e := add64Entry) Tryz.func98 (by kernel_rfl) (by kernel_rfl) (by kernel_rfl) (by rfl)]
  rw [run_add64 x y c hx hy hc0 hc w]
  rfl

def sub64Entry : Array Value → Sem Value := fun args => do
  let (x, y, b) ← Extern.MathBitsCarry.three "Sub64" args
  pure (Extern.MathBitsCarry.pair ((x + Extern.MathBitsCarry.m64 - y - b) % Extern.MathBitsCarry.m64) (if x < y + b then 1 else 0))
theorem run_sub64 {P : Program} (x y c : Int) (hx : 0 ≤ x) (hy : 0 ≤ y) (hy1 : y < 18446744073709551616) (hc0 : 0 ≤ c) (hc : c ≤ 1) (w : World) :
    (sub64Entry #[.int .u64 x, .int .u64 y, .int .u64 c]).run P w =
      .ok (.tuple #[.int .u64 ((x - y - c) % 18446744073709551616), .int .u64 (if x < y + c then 1 else 0)]) w := by
  have key : ∀ k : Nat, k ≤ 1 → (sub64Entry #[.int .u64 x, .int .u64 y, .int .u64 (k : Int)]).run P w =
      .ok (Extern.MathBitsCarry.pair ((x.toNat + Extern.MathBitsCarry.m64 - y.toNat - k) % Extern.MathBitsCarry.m64) (if x.toNat < y.toNat + k then 1 else 0)) w := by
    intro k hk
    have : k = 0 ∨ k = 1 := by omega
    rcases this with rfl | rfl <;> rfl
  obtain ⟨k, rfl⟩ := Int.eq_ofNat_of_zero_le hc0
  rw [key k (by omega)]
  obtain ⟨X, rfl⟩ := Int.eq_ofNat_of_zero_le hx
  obtain ⟨Y, rfl⟩ := Int.eq_ofNat_of_zero_le hy
  have e1 : Int.ofNat ((X + 2 ^ 64 - Y - k) % 2 ^ 64) = ((X : Int) - Y - k) % 18446744073709551616 := by
    show (((X + 2 ^ 64 - Y - k) % 2 ^ 64 : Nat) : Int) = _
    omega
  have e2 : Int.ofNat (if X < Y + k then 1 else 0) = if (X : Int) < Y + k then 1 else 0 := by
    by_cases h : X < Y + k
    · rw [if_pos h, if_pos (by omega)]; rfl
    · rw [if_neg h, if_neg (by omega)]; rfl
  simp only [Extern.MathBitsCarry.pair, Extern.MathBitsCarry.m64, Int.toNat_natCast]
  rw [e1, e2]
theorem sub64_run (x y c : Int) (hx : 0 ≤ x) (hy : 0 ≤ y) (hy1 : y < 18446744073709551616) (hc0 : 0 ≤ c) (hc : c ≤ 1) :
    ∀ w : World, (callFunc 108 #[.int .u64 x, .int .u64 y, .int .u64 c]).run Tryz.prog w = .ok (.value (.tuple #[.int .u64 ((x - y - c) % 18446744073709551616), .int .u64 (if x < y + c then 1 else 0)])) w := by
  intro w
  rw [run_callFunc_extern (e := sub64Entry) Tryz.func108 (by kernel_rfl) (by kernel_rfl) (by kernel_rfl) (by rfl)]
  rw [run_sub64 x y c hx hy hy1 hc0 hc w]
  rfl

theorem dv_take_succ (B : Int) (l : List Int) (j : Nat) : dv B (l.take (j + 1)) = dv B (l.take j) + l.getD j 0 * B ^ j := by
  by_cases h : j < l.length
  · rw [take_snoc h, dv_snoc, List.length_take, Nat.min_eq_left (by omega)]
  · have : l.getD j 0 = 0 := by rw [List.getD_eq_getElem?_getD, List.getElem?_eq_none (by omega)]; rfl
    rw [this, List.take_of_length_le (by omega), List.take_of_length_le (by omega)]; simp
/-- one digit of a sum -/
theorem carry_add {B P a b o c c' s : Int} (h : o + c' * B = s + c) (inv : a + c * P = b) : a + o * P + c' * (P * B) = b + s * P := by
  have h1 : (o + c' * B) * P = (s + c) * P := by rw [h]
  grind

set_option maxRecDepth 100000 in
set_option maxHeartbeats 1000000 in
theorem add_both (v1 v2 : Value) (a b : Nat) (la lb : List Int) (w : World) (ha : IsNum W64 la a) (hb : IsNum W64 lb b) (h1 : IsInts .u64 w v1 la) (h2 : IsInts .u64 w v2 lb) (hla : la.length ≤ 1073741824) :
    (lb.length ≤ la.length → Calls Tryz.prog 87 #[.agg #[v1], .agg #[v2]] w fun e w' => ∃ r, e = .returned (.agg #[r]) ∧ NatV w' r (a + b) ∧ Below w.heap.size w w') ∧
    (lb.length < la.length → Calls Tryz.prog 87 #[.agg #[v2], .agg #[v1]] w fun e w' => ∃ r, e = .returned (.agg #[r]) ∧ NatV w' r (a + b) ∧ Below w.heap.size w w') := by
  obtain ⟨A1, c1, rfl, hc1, hm1, hr1⟩ := h1
  obtain ⟨A2, c2, rfl, hc2, hm2, hr2⟩ := h2
  have hmk := mk_at (P := Tryz.prog) Tryz.underlying34 Tryz.info106 rfl .i64 .i64 ((la.length : Int) + 1) (la.length + 1) rfl (by unfold maxLen; omega) (by omega) (vs_replicate (k := .u64) (n := la.length + 1) (x := 0))
  unfold maxLen at hm1 hm2
  refine ⟨fun hge => ?_, fun hlt0 => ?_⟩
  rotate_left
  have hge : lb.length ≤ la.length := Nat.le_of_lt hlt0
  have t1 : decide (lb.length < la.length) = true := by simp; omega
  have t2 : decide ((lb.length : Int) < (la.length : Int)) = true := by simp; omega
  rotate_left
  have t1 : decide (la.length < lb.length) = false := by simp; omega
  have t2 : decide ((la.length : Int) < (lb.length : Int)) = false := by simp; omega
  all_goals
    go_enter Tryz.func87, Tryz.ntmps87
    go_wp2
    go_quiet (fail)
    go_wp2
    go_loopw [28, 8] (fun i cv wr => ∃ j : Nat, j ≤ la.length ∧ i = .int .i64 j ∧ ∃ (c : Int) (o : List Int), cv = .int .u64 c ∧ 0 ≤ c ∧ c ≤ 1 ∧ Hid (o.length = j) ∧ Dig W64 o ∧ Hid (dv W64 o + c * W64 ^ j = dv W64 (la.take j) + dv W64 (lb.take j)) ∧
      Blk wr (w.heap.size + 3) (vs .u64 (o ++ List.replicate (la.length + 1 - j) 0)) 106 ∧ Blk wr (w.heap.size + 2) [.slice none 0 0] 36 ∧ Below w.heap.size w wr) (fun i _ _ => la.length - (intOf i).toNat)
    case atStart =>
      refine ⟨0, by omega, rfl, 0, [], rfl, by omega, by omega, Lib.hid rfl, Dig.nil _, Lib.hid (by simp [dv]), ?_, ?_, ?_⟩
      · exact Blk.mk _ _ (by simp) _ _
      · exact ((Blk.mk _ _ (by simp) [.slice none 0 0] _).drewN _).alloc _
      · exact (bdn ((((Below.refl _ _).alloc (Nat.le_refl _) _).alloc (by simp) _).alloc (by simp; omega) _) _).alloc (by simp; omega) _
    case round =>
      obtain ⟨j, hj, rfl, c, o, rfl, hc0, hc1', ho, hd, hval, hB, hR, hbel⟩ := hrel
      by_cases hlt : j < la.length
      · obtain ⟨b1, o1, e1, hb1, hcell1⟩ := hr1 (by omega)
        subst e1
        have x1 := (hbel.cell (p := ⟨b1, o1 + j, none⟩) hb1).trans (hcell1 j hlt)
        have hx := ha.dig.at (by decide) j
        have hy := hb.dig.at (by decide) j
        have HX := Lib.hid (dv_take_succ W64 la j)
        have HY := Lib.hid (dv_take_succ W64 lb j)
        have hset : ∀ q : Int, (o ++ List.replicate (la.length + 1 - j) 0).set j q = (o ++ [q]) ++ List.replicate (la.length + 1 - (j + 1)) 0 := by
          intro q
          rw [List.set_append_right _ _ (by rw [ho.out]; exact Nat.le_refl _), ho.out, Nat.sub_self, List.append_assoc]
          congr 1
          rw [show la.length + 1 - j = (la.length + 1 - (j + 1)) + 1 by omega, List.replicate_succ]
          rfl
        have HS := Lib.hid hset
        have xc := hB.at j (by simp; have := ho.out; omega)
        have xf := hB.frozen j
        have hcase : ∃ y, lb.getD j 0 = y ∧ (j < lb.length ∨ (¬ j < lb.length ∧ y = 0)) := by
          refine ⟨_, rfl, ?_⟩
          by_cases h : j < lb.length
          · exact .inl h
          · refine .inr ⟨h, ?_⟩; rw [List.getD_eq_getElem?_getD, List.getElem?_eq_none (by omega)]; rfl
        obtain ⟨y, hye, hyl⟩ := hcase
        obtain ⟨x, hxe⟩ : ∃ x, la.getD j 0 = x := ⟨_, rfl⟩
        rw [hxe] at x1 hx
        rw [hye] at hy
        have HXE := Lib.hid hxe
        have HYE := Lib.hid hye
        unfold W64 at hx hy
        obtain ⟨hx0, hx1⟩ := hx
        obtain ⟨hy0, hy1⟩ := hy
        have hadd := add64_run x y c hx0 hy0 hc0 hc1'
        have hfin : ∀ q c', q = (x + y + c) % 18446744073709551616 → c' = (x + y + c) / 18446744073709551616 →
            (0 ≤ c' ∧ c' ≤ 1) ∧ Hid ((o ++ [q]).length = j + 1) ∧ Dig W64 (o ++ [q]) ∧ Hid (dv W64 (o ++ [q]) + c' * W64 ^ (j + 1) = dv W64 (la.take (j + 1)) + dv W64 (lb.take (j + 1))) := by
          rintro q c' hq hc'
          refine ⟨by omega, Lib.hid (by simp [ho.out]), hd.snoc (by unfold W64; omega), Lib.hid ?_⟩
          rw [dv_snoc, ho.out, HX.out, HY.out, HXE.out, HYE.out, Int.pow_succ]
          have := carry_add (B := W64) (P := W64 ^ j) (o := q) (c' := c') (c := c) (s := x + y) (by unfold W64; omega) hval.out
          rw [this, Int.add_mul]; omega
        have HF := Lib.hid hfin
        clear hcell1 hset hye hxe hfin
        rcases hyl with hyl | hyl
        · obtain ⟨b2, o2, e2, hb2, hcell2⟩ := hr2 (by omega)
          subst e2
          have x2 := (hbel.cell (p := ⟨b2, o2 + j, none⟩) hb2).trans (hcell2 j hyl)
          rw [HYE.out] at x2
          clear hcell2
          go_wp2
          go_roundw
          case rel =>
            obtain ⟨⟨f1, f2⟩, f3, f4, f5⟩ := HF.out _ _ rfl rfl
            refine ⟨j + 1, by omega, by go_num, _, _, rfl, f1, f2, f3, f4, f5, ?_, hR.far (by simp) _, hbel.setCell (by simp; omega) _⟩
            have h := hB.set j (.int .u64 ((x + y + c) % 18446744073709551616))
            rw [vs_set, HS.out] at h
            exact h
          case measure => simp [intOf]; omega
        · obtain ⟨hyl, rfl⟩ := hyl
          go_wp2
          go_roundw
          case rel =>
            obtain ⟨⟨f1, f2⟩, f3, f4, f5⟩ := HF.out ((x + c) % 18446744073709551616) ((x + c) / 18446744073709551616) (by rw [Int.add_zero]) (by rw [Int.add_zero])
            refine ⟨j + 1, by omega, by go_num, _, _, rfl, f1, f2, f3, f4, f5, ?_, hR.far (by simp) _, hbel.setCell (by simp; omega) _⟩
            have h := hB.set j (.int .u64 ((x + c) % 18446744073709551616))
            rw [vs_set, HS.out] at h
            exact h
          case measure => simp [intOf]; omega
      · obtain rfl : j = la.length := by omega
        have xc := hB.at la.length (by simp; have := ho.out; omega)
        have xf := hB.frozen la.length
        have hset : (o ++ List.replicate (la.length + 1 - la.length) 0).set la.length c = o ++ [c] := by
          rw [List.set_append_right _ _ (by rw [ho.out]; exact Nat.le_refl _), ho.out, Nat.sub_self]
          congr 1
          rw [show la.length + 1 - la.length = 0 + 1 by omega, List.replicate_succ]
          rfl
        have hv := hB.set la.length (.int .u64 c)
        rw [vs_set, hset] at hv
        have hI := hv.ints (n := la.length + 1) (by simp; have := ho.out; omega) (by unfold maxLen; omega)
        have hR2 := hR.far (a := ⟨w.heap.size + 3, la.length, none⟩) (by simp) (.int .u64 c)
        have hval2 : dv W64 (o ++ [c]) = ((a + b : Nat) : Int) := by
          have h := hval.out
          rw [List.take_length, List.take_of_length_le hge, ha.val, hb.val] at h
          rw [dv_snoc, ho.out, h]; simp
        have hT := trim_num hI (hd.snoc (by unfold W64; omega)) hval2
        have HT := Lib.hid hT
        have HR2 := Lib.hid hR2
        have HBel := Lib.hid (hbel.setCell (p := ⟨w.heap.size + 3, la.length, none⟩) (by simp) (.int .u64 c))
        clear hset hv hI hR2 hval2 hT hB hR hbel
        go_wp2_with fail
        refine HT.out.mono ?_
        rintro e w1 ⟨r, rfl, hr, hb1⟩
        have hR3 := HR2.out.below hb1 (by have := HR2.out.lt; exact this)
        have hc := hR3.one
        have hf := hR3.frozen 0
        have hb2 := HBel.out.trans (hb1.mono (by have := HBel.out.size; exact this))
        obtain ⟨A, k, cc, rfl⟩ := hr.slice
        clear hb1
        go_wp2
        refine bodyPost_ret (v := .agg #[.slice A k cc]) (by simp [results, Tryz.results87, go_sem, hc]) rfl ?_
        exact ⟨_, rfl, hr.box hR3 (by simp) _ _, hb2.setCell (by simp; omega) _⟩

/-- Add is the sum -/
theorem add_any (v1 v2 : Value) (a b : Nat) (w : World) (h1 : NatV w v1 a) (h2 : NatV w v2 b) (ha : bl a ≤ 1073741824) (hb : bl b ≤ 1073741824) :
    Calls Tryz.prog 87 #[.agg #[v1], .agg #[v2]] w fun e w' => ∃ r, e = .returned (.agg #[r]) ∧ NatV w' r (a + b) ∧ Below w.heap.size w w' := by
  obtain ⟨la, n1, i1⟩ := h1
  obtain ⟨lb, n2, i2⟩ := h2
  rcases Nat.lt_or_ge la.length lb.length with h | h
  · rw [Nat.add_comm]
    exact (add_both v2 v1 b a lb la w n2 n1 i2 i1 (Nat.le_trans (n2.len' (by decide)) hb)).2 h
  · exact (add_both v1 v2 a b la lb w n1 n2 i1 i2 (Nat.le_trans (n1.len' (by decide)) ha)).1 h
end Go.Proofs.YtjfkniknmkcdcaaGreatDoor

namespace Go.Proofs.YtjfkniknmkcdcaaGreatDoor
open Go.RowKit K Nu

theorem box3 {w : World} {x y z : Array Value} {S T U : TypeId} : Below w.heap.size w (((w.alloc (.cells x S)).alloc (.cells y T)).alloc (.cells z U)) := (((Below.refl _ _).alloc (Nat.le_refl _) _).alloc (by simp) _).alloc (by simp; omega) _
theorem box2 {w : World} {x y : Array Value} {S T : TypeId} : Below w.heap.size w ((w.alloc (.cells x S)).alloc (.cells y T)) := ((Below.refl _ _).alloc (Nat.le_refl _) _).alloc (by simp) _

set_option maxRecDepth 100000 in
set_option maxHeartbeats 1000000 in
theorem cmp_eqlen (A1 A2 : Option Addr) (c1 c2 : Nat) (a b : Nat) (la lb : List Int) (w : World) (ha : IsNum W64 la a) (hb : IsNum W64 lb b)
    (hr1 : la.length ≠ 0 → ∃ b off, A1 = some ⟨b, off, none⟩ ∧ b < w.heap.size ∧ ∀ i, i < la.length → w.cell? ⟨b, off + i, none⟩ = some (.int .u64 (la.getD i 0)))
    (hr2 : la.length ≠ 0 → ∃ b off, A2 = some ⟨b, off, none⟩ ∧ b < w.heap.size ∧ ∀ i, i < la.length → w.cell? ⟨b, off + i, none⟩ = some (.int .u64 (lb.getD i 0)))
    (hm1 : la.length ≤ maxLen) (hl : la.length = lb.length) :
    Calls Tryz.prog 92 #[.agg #[.slice A1 la.length c1], .agg #[.slice A2 la.length c2]] w fun e w' => e = .returned (.int .i64 (cmpN a b)) ∧ Below w.heap.size w w' := by
  unfold maxLen at hm1
  have HL := Lib.hid hl
  clear hl
  go_enter Tryz.func92, Tryz.ntmps92
  go_wp2
  go_loopw [5] (fun v wr => ∃ (i : Int) (j : Nat), v = .int .i64 i ∧ i = j - 1 ∧ j ≤ la.length ∧ Hid (la.drop j = lb.drop j) ∧ Blk wr w.heap.size [.slice A1 la.length c1] 36 ∧ Blk wr (w.heap.size + 1) [.slice A2 la.length c2] 36 ∧ Below w.heap.size w wr) (fun v _ => (intOf v + 1).toNat)
  case atStart => exact ⟨_, la.length, rfl, rfl, by omega, Lib.hid (by rw [List.drop_length, HL.out, List.drop_length]), (Blk.mk w _ rfl [.slice A1 la.length c1] _).alloc _, Blk.mk _ _ (by simp) [.slice A2 la.length c2] _, box2⟩
  case round =>
    obtain ⟨i, j, rfl, hi, hj, hdrop, hB1, hB2, hbel⟩ := hrel
    have hx1 := hB1.one
    have hx2 := hB2.one
    rcases j with _ | k
    · have t1 : decide (0 ≤ i) = false := by simp; omega
      have hab : cmpN a b = 0 := by
        have h1 : la = lb := hdrop.out
        have h2 : a = b := by have h3 := ha.val; have h4 := hb.val; rw [h1] at h3; omega
        simp [cmpN, h2]
      have HAB := Lib.hid hab
      clear hi hab
      go_wp2
      go_ret
      rw [HAB.out]
      exact ⟨rfl, hbel⟩
    · obtain rfl : i = (k : Int) := by omega
      obtain ⟨b1, o1, e1, hb1, hcell1⟩ := hr1 (by omega)
      obtain ⟨b2, o2, e2, hb2, hcell2⟩ := hr2 (by omega)
      subst e1; subst e2
      have x1 := (hbel.cell (p := ⟨b1, o1 + k, none⟩) hb1).trans (hcell1 k (by omega))
      have x2 := (hbel.cell (p := ⟨b2, o2 + k, none⟩) hb2).trans (hcell2 k (by omega))
      have hlt1 := dv_lt_top (B := W64) (by decide) (k := k) ha.dig hb.dig (by omega) (by have := HL.out; omega) hdrop.out
      have hlt2 := dv_lt_top (B := W64) (by decide) (k := k) hb.dig ha.dig (by have := HL.out; omega) (by omega) hdrop.out.symm
      have hnext : la.getD k 0 = lb.getD k 0 → la.drop k = lb.drop k := fun h => by
        rw [drop_getD (l := la) (by omega), drop_getD (l := lb) (by have := HL.out; omega), h, hdrop.out]
      have H1 := Lib.hid hlt1
      have H2 := Lib.hid hlt2
      have H3 := Lib.hid hnext
      clear hcell1 hcell2 hr1 hr2 hlt1 hlt2 hnext hi
      generalize la.getD k 0 = x at *
      generalize lb.getD k 0 = y at *
      have hav := ha.val
      have hbv := hb.val
      have HAV := Lib.hid hav
      have HBV := Lib.hid hbv
      clear hav hbv
      rcases Int.lt_trichotomy x y with hxy | hxy | hxy
      · have hab : cmpN a b = -1 := by
          have := H1.out hxy; rw [HAV.out, HBV.out] at this; exact if_pos (by omega)
        have HAB := Lib.hid hab
        clear hab
        go_wp2
        go_quiet (fail)
        go_wp2
        go_ret
        rw [HAB.out]
        exact ⟨rfl, by first | exact bdn hbel _ | exact bdn (bdn hbel _) _⟩
      · subst hxy
        go_wp2
        go_quiet (fail)
        go_wp2
        go_quiet (fail)
        go_wp2
        go_roundw
        case rel => exact ⟨_, k, rfl, rfl, by omega, Lib.hid (H3.out (by trivial)), hB1, hB2, bdn hbel _⟩
        case measure => simp [intOf]
      · have hab : cmpN a b = 1 := by
          have := H2.out hxy; rw [HAV.out, HBV.out] at this
          exact (if_neg (by omega)).trans (if_pos (by omega))
        have HAB := Lib.hid hab
        clear hab
        go_wp2
        go_quiet (fail)
        go_wp2
        go_quiet (fail)
        go_wp2
        go_ret
        rw [HAB.out]
        exact ⟨rfl, by first | exact bdn hbel _ | exact bdn (bdn hbel _) _⟩

theorem cmpN_range (a b : Nat) : -1 ≤ cmpN a b ∧ cmpN a b ≤ 1 := by unfold cmpN; split <;> (try split) <;> omega
theorem cmpN_lt {a b : Nat} : cmpN a b < 0 ↔ a < b := by unfold cmpN; split <;> (try split) <;> omega
theorem cmpN_eq {a b : Nat} : cmpN a b = 0 ↔ a = b := by unfold cmpN; split <;> (try split) <;> omega

set_option maxHeartbeats 400000 in
theorem cmp_any (v1 v2 : Value) (a b : Nat) (w : World) (h1 : NatV w v1 a) (h2 : NatV w v2 b) :
    Calls Tryz.prog 92 #[.agg #[v1], .agg #[v2]] w fun e w' => e = .returned (.int .i64 (cmpN a b)) ∧ Below w.heap.size w w' := by
  obtain ⟨la, n1, A1, c1, rfl, hc1, hm1, hr1⟩ := h1
  obtain ⟨lb, n2, A2, c2, rfl, hc2, hm2, hr2⟩ := h2
  by_cases hl : la.length = lb.length
  · rw [← hl] at hr2 ⊢
    exact cmp_eqlen A1 A2 c1 c2 a b la lb w n1 n2 hr1 hr2 hm1 hl
  · have t1 : ((la.length : Int) != (lb.length : Int)) = true := by rw [bne_iff_ne]; omega
    have t2 : (la.length != lb.length) = true := by rw [bne_iff_ne]; omega
    clear hr1 hr2
    rcases Nat.lt_or_gt_of_ne hl with h | h
    · have hab : cmpN a b = -1 := if_pos (n1.lt_of_len (by decide) n2 h)
      rw [hab]
      have t3 : decide (la.length < lb.length) = true := by simpa using h
      have t4 : decide ((la.length : Int) < lb.length) = true := by simpa using h
      clear h hl
      go_enter Tryz.func92, Tryz.ntmps92
      go_wp2
      go_ret
      exact ⟨rfl, box2⟩
    · have hab : cmpN a b = 1 := by
        have := n2.lt_of_len (by decide) n1 h
        exact (if_neg (by omega)).trans (if_pos this)
      rw [hab]
      have t3 : decide (la.length < lb.length) = false := by simp; omega
      have t4 : decide ((la.length : Int) < lb.length) = false := by simp; omega
      clear h hl
      go_enter Tryz.func92, Tryz.ntmps92
      go_wp2
      go_ret
      exact ⟨rfl, box2⟩

/-- one digit of a difference -/
theorem carry_sub {B P a b o c c' s : Int} (h : o - c' * B = s - c) (inv : a - c * P = b) : a + o * P - c' * (P * B) = b + s * P := by
  have h1 : (o - c' * B) * P = (s - c) * P := by rw [h]
  grind

set_option maxRecDepth 100000 in
set_option maxHeartbeats 1000000 in
theorem sub_ge (v1 v2 : Value) (a b : Nat) (w : World) (h1 : NatV w v1 a) (h2 : NatV w v2 b) (hab : b ≤ a) (hsz : bl a ≤ 1073741824) :
    Calls Tryz.prog 88 #[.agg #[v1], .agg #[v2]] w fun e w' => ∃ r, e = .returned (.tuple #[.agg #[r], .bool true]) ∧ NatV w' r (a - b) ∧ Below w.heap.size w w' := by
  have h1' := h1
  have h2' := h2
  obtain ⟨la, ha, A1, c1, rfl, hc1, hm1, hr1⟩ := h1
  obtain ⟨lb, hb, A2, c2, rfl, hc2, hm2, hr2⟩ := h2
  have hla : la.length ≤ 1073741824 := Nat.le_trans (ha.len' (by decide)) hsz
  have hge : lb.length ≤ la.length := by
    apply Classical.byContradiction
    intro h
    have := ha.lt_of_len (by decide) hb (by omega)
    omega
  have hmk := mk_at (P := Tryz.prog) Tryz.underlying34 Tryz.info106 rfl .i64 .i64 (la.length : Int) la.length rfl (by unfold maxLen; omega) (by omega) (vs_replicate (k := .u64) (n := la.length) (x := 0))
  unfold maxLen at hm1 hm2
  have t0 : decide (cmpN a b < 0) = false := decide_eq_false (by rw [cmpN_lt]; omega)
  go_enter Tryz.func88, Tryz.ntmps88
  go_wp2_with fail
  have hW := box3 (w := w) (x := #[.slice A1 la.length c1]) (y := #[.slice A2 lb.length c2]) (z := #[.slice none 0 0]) (S := 36) (T := 36) (U := 36)
  refine (cmp_any _ _ a b _ (h1'.below hW (Nat.le_refl _)) (h2'.below hW (Nat.le_refl _))).mono ?_
  rintro e w1 ⟨rfl, hb1⟩
  have hbel := hW.trans (hb1.mono (by simp; omega))
  have hB1 : Blk w1 w.heap.size [.slice A1 la.length c1] 36 := (((Blk.mk w _ rfl [.slice A1 la.length c1] _).alloc _).alloc _).below hb1 (by simp; omega)
  have hB2 : Blk w1 (w.heap.size + 1) [.slice A2 lb.length c2] 36 := ((Blk.mk _ _ (by simp) [.slice A2 lb.length c2] _).alloc _).below hb1 (by simp)
  have hR : Blk w1 (w.heap.size + 2) [.slice none 0 0] 36 := (Blk.mk _ _ (by simp) [.slice none 0 0] _).below hb1 (by simp)
  have hx0 := hR.lt
  have hx01 := hB1.lt
  have hx02 := hB2.lt
  have hx1 := hB1.one
  have hx2 := hB2.one
  clear hW hb1
  go_wp2
  go_loopw [22, 7] (fun i cv wr => ∃ j : Nat, j ≤ la.length ∧ i = .int .i64 j ∧ ∃ (c : Int) (o : List Int), cv = .int .u64 c ∧ 0 ≤ c ∧ c ≤ 1 ∧ Hid (o.length = j) ∧ Dig W64 o ∧ Hid (dv W64 o - c * W64 ^ j = dv W64 (la.take j) - dv W64 (lb.take j)) ∧
    Blk wr w1.heap.size (vs .u64 (o ++ List.replicate (la.length - j) 0)) 106 ∧ Blk wr (w.heap.size + 2) [.slice none 0 0] 36 ∧ Blk wr w.heap.size [.slice A1 la.length c1] 36 ∧ Blk wr (w.heap.size + 1) [.slice A2 lb.length c2] 36 ∧ Below w.heap.size w wr) (fun i _ _ => la.length - (intOf i).toNat)
  case atStart => exact ⟨0, by omega, rfl, 0, [], rfl, by omega, by omega, Lib.hid rfl, Dig.nil _, Lib.hid (by simp [dv]), Blk.new _ _ _, hR.alloc _, hB1.alloc _, hB2.alloc _, hbel.alloc (by omega) _⟩
  case round =>
    clear hB1 hB2 hR hx1 hx2 hbel
    obtain ⟨j, hj, rfl, c, o, rfl, hc0, hc1', ho, hd, hval, hB, hR, hB1, hB2, hbel⟩ := hrel
    have hx1 := hB1.one
    have hx2 := hB2.one
    by_cases hlt : j < la.length
    · obtain ⟨b1, o1, e1, hb1, hcell1⟩ := hr1 (by omega)
      subst e1
      have x1 := (hbel.cell (p := ⟨b1, o1 + j, none⟩) hb1).trans (hcell1 j hlt)
      have hx := ha.dig.at (by decide) j
      have hy := hb.dig.at (by decide) j
      have HX := Lib.hid (dv_take_succ W64 la j)
      have HY := Lib.hid (dv_take_succ W64 lb j)
      have hset : ∀ q : Int, (o ++ List.replicate (la.length - j) 0).set j q = (o ++ [q]) ++ List.replicate (la.length - (j + 1)) 0 := by
        intro q
        rw [List.set_append_right _ _ (by rw [ho.out]; exact Nat.le_refl _), ho.out, Nat.sub_self, List.append_assoc]
        congr 1
        rw [show la.length - j = (la.length - (j + 1)) + 1 by omega, List.replicate_succ]
        rfl
      have HS := Lib.hid hset
      have xc := hB.at j (by simp; have := ho.out; omega)
      have xf := hB.frozen j
      have hcase : ∃ y, lb.getD j 0 = y ∧ (j < lb.length ∨ (¬ j < lb.length ∧ y = 0)) := by
        refine ⟨_, rfl, ?_⟩
        by_cases h : j < lb.length
        · exact .inl h
        · refine .inr ⟨h, ?_⟩; rw [List.getD_eq_getElem?_getD, List.getElem?_eq_none (by omega)]; rfl
      obtain ⟨y, hye, hyl⟩ := hcase
      obtain ⟨x, hxe⟩ : ∃ x, la.getD j 0 = x := ⟨_, rfl⟩
      rw [hxe] at x1 hx
      rw [hye] at hy
      have HXE := Lib.hid hxe
      have HYE := Lib.hid hye
      unfold W64 at hx hy
      obtain ⟨hx0, hx1⟩ := hx
      obtain ⟨hy0, hy1⟩ := hy
      have hsub := sub64_run x y c hx0 hy0 hy1 hc0 hc1'
      have hfin : ∀ q c', q = (x - y - c) % 18446744073709551616 → c' = (if x < y + c then 1 else 0) →
          (0 ≤ c' ∧ c' ≤ 1) ∧ Hid ((o ++ [q]).length = j + 1) ∧ Dig W64 (o ++ [q]) ∧ Hid (dv W64 (o ++ [q]) - c' * W64 ^ (j + 1) = dv W64 (la.take (j + 1)) - dv W64 (lb.take (j + 1))) := by
        rintro q c' hq hc'
        have hc2 : (0 ≤ c' ∧ c' ≤ 1) ∧ q - c' * 18446744073709551616 = x - y - c := by
          subst hc'; split <;> omega
        refine ⟨hc2.1, Lib.hid (by simp [ho.out]), hd.snoc (by unfold W64; omega), Lib.hid ?_⟩
        rw [dv_snoc, ho.out, HX.out, HY.out, HXE.out, HYE.out, Int.pow_succ]
        have := carry_sub (B := W64) (P := W64 ^ j) (o := q) (c' := c') (c := c) (s := x - y) hc2.2 hval.out
        rw [this, Int.sub_mul]; omega
      have HF := Lib.hid hfin
      clear hcell1 hset hye hxe hfin
      obtain ⟨f1, f2, f3, f4⟩ := HF.out _ _ rfl rfl
      rcases hyl with hyl | hyl
      · obtain ⟨b2, o2, e2, hb2, hcell2⟩ := hr2 (by omega)
        subst e2
        have x2 := (hbel.cell (p := ⟨b2, o2 + j, none⟩) hb2).trans (hcell2 j hyl)
        rw [HYE.out] at x2
        clear hcell2
        go_wp2
        go_roundw
        case rel =>
          refine ⟨j + 1, by omega, by go_num, _, _, rfl, f1.1, f1.2, f2, f3, f4, ?_, hR.far (by simp; omega) _, hB1.far (by simp; omega) _, hB2.far (by simp; omega) _, hbel.setCell (by simp; omega) _⟩
          have h := hB.set j (.int .u64 ((x - y - c) % 18446744073709551616))
          rw [vs_set, HS.out] at h
          exact h
        case measure => simp [intOf]; omega
      · obtain ⟨hyl, rfl⟩ := hyl
        go_wp2
        go_roundw
        case rel =>
          have e0 : x - 0 - c = x - c := by omega
          rw [e0] at f2 f3 f4
          simp only [Int.zero_add] at f1 f4
          refine ⟨j + 1, by omega, by go_num, _, _, rfl, f1.1, f1.2, f2, f3, f4, ?_, hR.far (by simp; omega) _, hB1.far (by simp; omega) _, hB2.far (by simp; omega) _, hbel.setCell (by simp; omega) _⟩
          have h := hB.set j (.int .u64 ((x - c) % 18446744073709551616))
          rw [vs_set, HS.out] at h
          exact h
        case measure => simp [intOf]; omega
    · obtain rfl : j = la.length := by omega
      have hval2 : dv W64 o = ((a - b : Nat) : Int) := by
        have h := hval.out
        rw [List.take_length, List.take_of_length_le hge, ha.val, hb.val] at h
        have h2 := (dv_bound (by decide) hd).2
        rw [ho.out] at h2
        have h3 : c = 0 := by
          apply Classical.byContradiction
          intro hne
          have : c = 1 := by omega
          subst this
          omega
        subst h3
        omega
      rw [Nat.sub_self, List.replicate_zero, List.append_nil] at hB
      have hT := trim_num (hB.ints (n := la.length) ho.out.symm (by unfold maxLen; omega)) hd hval2
      have HT := Lib.hid hT
      clear hval2 hT
      go_wp2_with fail
      refine HT.out.mono ?_
      rintro e w2 ⟨r, rfl, hr, hb1⟩
      have hR3 := hR.below hb1 hR.lt
      have hc := hR3.one
      have hf := hR3.frozen 0
      have hb2 := hbel.trans (hb1.mono hbel.size)
      obtain ⟨A, k, cc, rfl⟩ := hr.slice
      clear hb1 hR hB1 hB2 hbel hx1 hx2
      go_wp2
      refine bodyPost_ret (v := .tuple #[.agg #[.slice A k cc], .bool true]) (by simp [results, Tryz.results88, go_sem, hc]) rfl ?_
      exact ⟨_, rfl, hr.box hR3 (by simp) _ _, hb2.setCell (by simp; omega) _⟩

set_option maxHeartbeats 400000 in
theorem sub_lt (v1 v2 : Value) (a b : Nat) (w : World) (h1 : NatV w v1 a) (h2 : NatV w v2 b) (hab : a < b) :
    Calls Tryz.prog 88 #[.agg #[v1], .agg #[v2]] w fun e w' => e = .returned (.tuple #[.agg #[.slice none 0 0], .bool false]) ∧ Below w.heap.size w w' := by
  have h1' := h1
  have h2' := h2
  obtain ⟨A1, n1, c1, rfl⟩ := h1.slice
  obtain ⟨A2, n2, c2, rfl⟩ := h2.slice
  have t0 : decide (cmpN a b < 0) = true := decide_eq_true (cmpN_lt.2 hab)
  go_enter Tryz.func88, Tryz.ntmps88
  go_wp2_with fail
  have hW := box3 (w := w) (x := #[.slice A1 n1 c1]) (y := #[.slice A2 n2 c2]) (z := #[.slice none 0 0]) (S := 36) (T := 36) (U := 36)
  refine (cmp_any _ _ a b _ (h1'.below hW (Nat.le_refl _)) (h2'.below hW (Nat.le_refl _))).mono ?_
  rintro e w1 ⟨rfl, hb1⟩
  have hbel := hW.trans (hb1.mono (by simp; omega))
  have hR : Blk w1 (w.heap.size + 2) [.slice none 0 0] 36 := (Blk.mk _ _ (by simp) [.slice none 0 0] _).below hb1 (by simp)
  have hc := hR.one
  have hf := hR.frozen 0
  clear hW hb1
  go_wp2
  refine bodyPost_ret (v := .tuple #[.agg #[.slice none 0 0], .bool false]) (by simp [results, Tryz.results88, go_sem, hc]) rfl ?_
  exact ⟨rfl, hbel.setCell (by simp; omega) _⟩
end Go.Proofs.YtjfkniknmkcdcaaGreatDoor
