/- Numbers as digits, the lowest first. No program. -/
namespace Go.Proofs.YtjfkniknmkcdcaaDoor.Nu

/-- the value of digits to a base -/
def dv (B : Int) : List Int → Int
  | [] => 0
  | x :: l => x + B * dv B l
def Dig (B : Int) (l : List Int) : Prop := ∀ x, x ∈ l → 0 ≤ x ∧ x < B
def Can (l : List Int) : Prop := ∀ x, l.getLast? = some x → x ≠ 0

theorem Dig.nil (B : Int) : Dig B [] := fun _ h => absurd h (by simp)
theorem Dig.cons {B x : Int} {l : List Int} (hx : 0 ≤ x ∧ x < B) (h : Dig B l) : Dig B (x :: l) := by
  intro y hy
  rcases List.mem_cons.1 hy with rfl | hy
  · exact hx
  · exact h y hy
theorem Dig.append {B : Int} {l m : List Int} (h : Dig B l) (h2 : Dig B m) : Dig B (l ++ m) := by
  intro y hy
  rcases List.mem_append.1 hy with hy | hy
  · exact h y hy
  · exact h2 y hy
theorem Dig.snoc {B x : Int} {l : List Int} (h : Dig B l) (hx : 0 ≤ x ∧ x < B) : Dig B (l ++ [x]) := h.append (Dig.cons hx (Dig.nil B))
theorem Dig.left {B : Int} {l m : List Int} (h : Dig B (l ++ m)) : Dig B l := fun x hx => h x (List.mem_append_left _ hx)
theorem Dig.right {B : Int} {l m : List Int} (h : Dig B (l ++ m)) : Dig B m := fun x hx => h x (List.mem_append_right _ hx)
theorem Dig.take {B : Int} {l : List Int} (h : Dig B l) (k : Nat) : Dig B (l.take k) := fun x hx => h x (List.mem_of_mem_take hx)
theorem Dig.drop {B : Int} {l : List Int} (h : Dig B l) (k : Nat) : Dig B (l.drop k) := fun x hx => h x (List.mem_of_mem_drop hx)
theorem getD_mem {l : List Int} {i : Nat} (h : i < l.length) : l.getD i 0 ∈ l := by
  rw [List.getD_eq_getElem?_getD, List.getElem?_eq_getElem h]; exact List.getElem_mem h
theorem Dig.at {B : Int} (hB : 0 < B) {l : List Int} (h : Dig B l) (i : Nat) : 0 ≤ l.getD i 0 ∧ l.getD i 0 < B := by
  by_cases hi : i < l.length
  · exact h _ (getD_mem hi)
  · rw [List.getD_eq_getElem?_getD, List.getElem?_eq_none (by omega)]; exact ⟨Int.le_refl _, hB⟩

theorem dv_append (B : Int) : ∀ l m : List Int, dv B (l ++ m) = dv B l + B ^ l.length * dv B m
  | [], m => by simp [dv]
  | x :: l, m => by
    show x + B * dv B (l ++ m) = x + B * dv B l + B ^ (l.length + 1) * dv B m
    rw [dv_append B l m, Int.pow_succ]; grind
theorem dv_snoc (B : Int) (l : List Int) (x : Int) : dv B (l ++ [x]) = dv B l + x * B ^ l.length := by
  rw [dv_append]; simp [dv, Int.mul_comm]
theorem dv_zeros (B : Int) : ∀ n : Nat, dv B (List.replicate n 0) = 0
  | 0 => rfl
  | n + 1 => by simp [List.replicate_succ, dv, dv_zeros B n]
theorem dv_pad (B : Int) (l : List Int) (n : Nat) : dv B (l ++ List.replicate n 0) = dv B l := by
  rw [dv_append, dv_zeros]; simp
theorem pow_pos {B : Int} (hB : 0 < B) (n : Nat) : 0 < B ^ n := Int.pow_pos hB
theorem dv_bound {B : Int} (hB : 0 < B) : ∀ {l : List Int}, Dig B l → 0 ≤ dv B l ∧ dv B l < B ^ l.length
  | [], _ => by simp [dv]
  | x :: l, h => by
    have h1 := h x (by simp)
    have h2 := dv_bound hB (l := l) (fun y hy => h y (by simp [hy]))
    have h3 : B * dv B l ≤ B * (B ^ l.length - 1) := Int.mul_le_mul_of_nonneg_left (by omega) (by omega)
    have h4 : 0 ≤ B * dv B l := Int.mul_nonneg (by omega) h2.1
    show 0 ≤ x + B * dv B l ∧ x + B * dv B l < B ^ (l.length + 1)
    rw [Int.pow_succ]
    have h5 : B * (B ^ l.length - 1) = B ^ l.length * B - B := by rw [Int.mul_sub, Int.mul_comm]; omega
    omega
theorem dv_inj {B : Int} (hB : 0 < B) : ∀ {l m : List Int}, l.length = m.length → Dig B l → Dig B m → dv B l = dv B m → l = m
  | [], [], _, _, _, _ => rfl
  | [], _ :: _, h, _, _, _ => by simp at h
  | _ :: _, [], h, _, _, _ => by simp at h
  | x :: l, y :: m, h, hl, hm, e => by
    have hx := hl x (by simp)
    have hy := hm y (by simp)
    have e1 : x + B * dv B l = y + B * dv B m := e
    have e2 : x = y := by
      have h1 : (x + B * dv B l) % B = (y + B * dv B m) % B := by rw [e1]
      rw [Int.add_mul_emod_self_left, Int.add_mul_emod_self_left, Int.emod_eq_of_lt hx.1 hx.2, Int.emod_eq_of_lt hy.1 hy.2] at h1
      exact h1
    subst e2
    have e3 : dv B l = dv B m := by
      have : B * dv B l = B * dv B m := by omega
      exact Int.eq_of_mul_eq_mul_left (by omega) this
    rw [dv_inj hB (by simpa using h) (fun z hz => hl z (by simp [hz])) (fun z hz => hm z (by simp [hz])) e3]
theorem dv_nonneg {B : Int} (hB : 0 < B) {l : List Int} (h : Dig B l) : 0 ≤ dv B l := (dv_bound hB h).1
theorem dv_take_drop (B : Int) (l : List Int) (k : Nat) (hk : k ≤ l.length) : dv B l = dv B (l.take k) + B ^ k * dv B (l.drop k) := by
  conv => lhs; rw [← List.take_append_drop k l]
  rw [dv_append, List.length_take, Nat.min_eq_left hk]

theorem Can.nil : Can [] := fun _ h => by simp at h
theorem Can.snoc {l : List Int} {x : Int} (h : x ≠ 0) : Can (l ++ [x]) := fun y hy => by simp at hy; omega
/-- digits to a base that are those of a number -/
structure IsNum (B : Int) (l : List Int) (n : Nat) : Prop where
  dig : Dig B l
  can : Can l
  val : dv B l = n
theorem IsNum.nil (B : Int) : IsNum B [] 0 := ⟨Dig.nil B, Can.nil, rfl⟩
theorem snoc_cases (l : List Int) : l = [] ∨ ∃ m x, l = m ++ [x] := by
  rcases List.eq_nil_or_concat l with h | ⟨m, x, h⟩
  · exact .inl h
  · exact .inr ⟨m, x, by simpa using h⟩
theorem IsNum.low {B : Int} (hB : 0 < B) {l : List Int} {n : Nat} (h : IsNum B l n) (hl : l ≠ []) : B ^ (l.length - 1) ≤ n := by
  rcases snoc_cases l with rfl | ⟨m, x, rfl⟩
  · exact absurd rfl hl
  · have hx : x ≠ 0 := h.can x (by simp)
    have h1 := h.dig x (by simp)
    have h2 := dv_bound hB h.dig.left
    have h3 := h.val
    rw [dv_snoc] at h3
    have h4 : 1 * B ^ m.length ≤ x * B ^ m.length := Int.mul_le_mul_of_nonneg_right (by omega) (Int.le_of_lt (pow_pos hB _))
    simp only [List.length_append, List.length_cons, List.length_nil, Nat.zero_add, Nat.add_sub_cancel]
    omega
theorem IsNum.high {B : Int} (hB : 0 < B) {l : List Int} {n : Nat} (h : IsNum B l n) : (n : Int) < B ^ l.length := by
  rw [← h.val]; exact (dv_bound hB h.dig).2
theorem IsNum.zero_iff {B : Int} (hB : 0 < B) {l : List Int} {n : Nat} (h : IsNum B l n) : n = 0 ↔ l = [] := by
  constructor
  · intro h0
    apply Classical.byContradiction
    intro hl
    have := h.low hB hl
    have := pow_pos hB (l.length - 1)
    omega
  · rintro rfl
    have := h.val
    simp [dv] at this
    omega
theorem pow_le_pow {B : Int} (hB : 1 ≤ B) {i j : Nat} (h : i ≤ j) : B ^ i ≤ B ^ j := by
  obtain ⟨k, rfl⟩ := Nat.exists_eq_add_of_le h
  rw [Int.pow_add]
  have h1 := pow_pos (show 0 < B by omega) i
  have h2 := pow_pos (show 0 < B by omega) k
  have := Int.mul_le_mul_of_nonneg_left (show 1 ≤ B ^ k by omega) (Int.le_of_lt h1)
  omega
/-- the longer number is the greater -/
theorem IsNum.lt_of_len {B : Int} (hB : 1 ≤ B) {l m : List Int} {a b : Nat} (h : IsNum B l a) (k : IsNum B m b) (hlt : l.length < m.length) : a < b := by
  have h1 := h.high (by omega)
  have h2 := k.low (by omega) (by intro e; rw [e] at hlt; simp at hlt)
  have h3 := pow_le_pow hB (show l.length ≤ m.length - 1 by omega)
  omega
theorem IsNum.inj {B : Int} (hB : 1 ≤ B) {l m : List Int} {a : Nat} (h : IsNum B l a) (k : IsNum B m a) : l = m := by
  rcases Nat.lt_trichotomy l.length m.length with hl | hl | hl
  · have := h.lt_of_len hB k hl; omega
  · exact dv_inj (by omega) hl h.dig k.dig (by rw [h.val, k.val])
  · have := k.lt_of_len hB h hl; omega
theorem pow2_le {B : Int} (hB : 2 ≤ B) (n : Nat) : (2 : Int) ^ n ≤ B ^ n := by
  induction n with
  | zero => simp
  | succ n ih =>
    rw [Int.pow_succ, Int.pow_succ]
    have h1 := pow_pos (show (0 : Int) < 2 by decide) n
    have h2 : (2 : Int) ^ n * 2 ≤ B ^ n * 2 := Int.mul_le_mul_of_nonneg_right ih (by decide)
    have h3 : B ^ n * 2 ≤ B ^ n * B := Int.mul_le_mul_of_nonneg_left hB (by omega)
    omega
theorem lt_two_pow (n : Nat) : n < 2 ^ n := Nat.lt_two_pow_self
/-- a number of h bits has at most h digits -/
theorem IsNum.len {B : Int} (hB : 2 ≤ B) {l : List Int} {n h : Nat} (hn : IsNum B l n) (hb : n < 2 ^ h) : l.length ≤ h := by
  apply Classical.byContradiction
  intro hlt
  have h1 := hn.low (by omega) (by intro e; rw [e] at hlt; simp at hlt)
  have h2 := pow2_le hB (l.length - 1)
  have h3 : (2 : Nat) ^ h ≤ 2 ^ (l.length - 1) := Nat.pow_le_pow_right (by decide) (by omega)
  have h4 : ((2 ^ (l.length - 1) : Nat) : Int) = (2 : Int) ^ (l.length - 1) := by rw [Int.natCast_pow]; rfl
  omega
/-- digits without the noughts at their end -/
def trm (l : List Int) : List Int := (l.reverse.dropWhile (· == 0)).reverse
theorem trm_snoc_zero (l : List Int) : trm (l ++ [0]) = trm l := by simp [trm]
theorem trm_snoc {l : List Int} {x : Int} (h : x ≠ 0) : trm (l ++ [x]) = l ++ [x] := by
  simp [trm, h]
theorem trm_nil : trm [] = [] := rfl
theorem trm_spec {B : Int} : ∀ (k : Nat) (l : List Int), l.length = k → Dig B l → Dig B (trm l) ∧ Can (trm l) ∧ dv B (trm l) = dv B l ∧ (trm l).length ≤ l.length
  | 0, l, h, hd => by
    rw [List.eq_nil_of_length_eq_zero h]; exact ⟨Dig.nil B, Can.nil, rfl, Nat.le_refl _⟩
  | k + 1, l, h, hd => by
    rcases snoc_cases l with rfl | ⟨m, x, rfl⟩
    · simp at h
    · by_cases hx : x = 0
      · subst hx
        rw [trm_snoc_zero]
        have := trm_spec k m (by simpa using h) hd.left
        refine ⟨this.1, this.2.1, ?_, ?_⟩
        · rw [dv_snoc, this.2.2.1]; simp
        · simp; omega
      · rw [trm_snoc hx]; exact ⟨hd, Can.snoc hx, rfl, Nat.le_refl _⟩
theorem trm_num {B : Int} (_hB : 0 < B) {l : List Int} {n : Nat} (hd : Dig B l) (hv : dv B l = n) : IsNum B (trm l) n :=
  have h := trm_spec (B := B) _ l rfl hd
  ⟨h.1, h.2.1, h.2.2.1.trans hv⟩
/-- what is trimmed is a begin of what was there -/
theorem trm_prefix (l : List Int) : ∃ k, l = trm l ++ List.replicate k 0 := by
  generalize hn : l.length = n
  induction n generalizing l with
  | zero => rw [List.eq_nil_of_length_eq_zero hn]; exact ⟨0, rfl⟩
  | succ n ih =>
    rcases snoc_cases l with rfl | ⟨m, x, rfl⟩
    · simp at hn
    · by_cases hx : x = 0
      · subst hx
        rw [trm_snoc_zero]
        obtain ⟨k, hk⟩ := ih m (by simpa using hn)
        exact ⟨k + 1, by rw [List.replicate_succ', ← List.append_assoc, ← hk]⟩
      · rw [trm_snoc hx]; exact ⟨0, by simp⟩
theorem take_snoc {l : List Int} {k : Nat} (h : k < l.length) : l.take (k + 1) = l.take k ++ [l.getD k 0] := by
  rw [List.take_succ_eq_append_getElem h]
  simp [h]
/-- how many bits -/
def bl (n : Nat) : Nat := if n = 0 then 0 else n.log2 + 1
theorem lt_bl (n : Nat) : n < 2 ^ bl n := by
  unfold bl
  split
  · subst_vars; simp
  · exact Nat.lt_log2_self
theorem bl_le {n h : Nat} (hn : n < 2 ^ h) : bl n ≤ h := by
  unfold bl
  split
  · omega
  · rename_i h0
    have := (Nat.log2_lt h0).2 hn
    omega
theorem bl_mono {m n : Nat} (h : m ≤ n) : bl m ≤ bl n := bl_le (Nat.lt_of_le_of_lt h (lt_bl n))
theorem bl_add (a b : Nat) : bl (a + b) ≤ bl a + 1 ∨ bl (a + b) ≤ bl b + 1 := by
  rcases Nat.le_total (bl a) (bl b) with h | h
  · right
    apply bl_le
    have h1 := lt_bl a
    have h2 := lt_bl b
    have h3 : (2 : Nat) ^ bl a ≤ 2 ^ bl b := Nat.pow_le_pow_right (by decide) h
    rw [Nat.pow_succ]; omega
  · left
    apply bl_le
    have h1 := lt_bl a
    have h2 := lt_bl b
    have h3 : (2 : Nat) ^ bl b ≤ 2 ^ bl a := Nat.pow_le_pow_right (by decide) h
    rw [Nat.pow_succ]; omega
theorem bl_mul (a b : Nat) : bl (a * b) ≤ bl a + bl b := by
  apply bl_le
  rw [Nat.pow_add]
  have h1 := lt_bl a
  have h2 := lt_bl b
  have h3 : a * b ≤ a * 2 ^ bl b := Nat.mul_le_mul_left a (by omega)
  have h4 : a * 2 ^ bl b < 2 ^ bl a * 2 ^ bl b := Nat.mul_lt_mul_of_pos_right h1 (Nat.two_pow_pos _)
  omega
theorem bl_zero : bl 0 = 0 := rfl
theorem bl_pos {n : Nat} (h : n ≠ 0) : 1 ≤ bl n := by unfold bl; rw [if_neg h]; omega
theorem bl_eq_zero {n : Nat} : bl n = 0 ↔ n = 0 := by
  constructor
  · intro h; apply Classical.byContradiction; intro h0; have := bl_pos h0; omega
  · rintro rfl; rfl
theorem bl_div (a b : Nat) : bl (a / b) ≤ bl a := bl_mono (Nat.div_le_self a b)
theorem bl_mod (a b : Nat) : bl (a % b) ≤ bl a := bl_mono (Nat.mod_le a b)
theorem bl_sub (a b : Nat) : bl (a - b) ≤ bl a := bl_mono (Nat.sub_le a b)
theorem two_pow_bl {n : Nat} (h : n ≠ 0) : 2 ^ (bl n - 1) ≤ n := by
  unfold bl; rw [if_neg h, Nat.add_sub_cancel]; exact Nat.log2_self_le h
theorem bl_dvd {a b : Nat} (h : a ∣ b) (hb : b ≠ 0) : bl a ≤ bl b := bl_mono (Nat.le_of_dvd (by omega) h)
theorem IsNum.len' {B : Int} (hB : 2 ≤ B) {l : List Int} {n : Nat} (hn : IsNum B l n) : l.length ≤ bl n := hn.len hB (lt_bl n)
theorem drop_getD {l : List Int} {k : Nat} (h : k < l.length) : l.drop k = l.getD k 0 :: l.drop (k + 1) := by
  rw [List.drop_eq_getElem_cons h]
  simp [h]
theorem dv_lt_top {B : Int} (hB : 0 < B) {l m : List Int} {k : Nat} (hl : Dig B l) (hm : Dig B m) (hk : k < l.length) (hk2 : k < m.length) (hd : l.drop (k + 1) = m.drop (k + 1)) (hlt : l.getD k 0 < m.getD k 0) : dv B l < dv B m := by
  rw [dv_take_drop B l k (by omega), dv_take_drop B m k (by omega), drop_getD hk, drop_getD hk2, hd]
  have h1 := (dv_bound hB (hl.take k)).2
  rw [List.length_take, Nat.min_eq_left (by omega)] at h1
  have h2 := (dv_bound hB (hm.take k)).1
  show dv B (l.take k) + B ^ k * (l.getD k 0 + B * dv B (m.drop (k + 1))) < dv B (m.take k) + B ^ k * (m.getD k 0 + B * dv B (m.drop (k + 1)))
  have h3 : B ^ k * (l.getD k 0 + B * dv B (m.drop (k + 1)) + 1) ≤ B ^ k * (m.getD k 0 + B * dv B (m.drop (k + 1))) :=
    Int.mul_le_mul_of_nonneg_left (by omega) (Int.le_of_lt (pow_pos hB k))
  rw [Int.mul_add, Int.mul_one] at h3
  omega
/-- -1, 0, 1 -/
def cmpN (a b : Nat) : Int := if a < b then -1 else if b < a then 1 else 0
theorem dv_set (B : Int) : ∀ (l : List Int) (i : Nat) (d : Int), i < l.length → dv B (l.set i d) = dv B l + (d - l.getD i 0) * B ^ i
  | [], i, d, h => absurd h (by simp)
  | x :: l, 0, d, _ => by simp [dv]; omega
  | x :: l, i + 1, d, h => by
    show x + B * dv B (l.set i d) = x + B * dv B l + (d - l.getD i 0) * B ^ (i + 1)
    rw [dv_set B l i d (by simpa using h), Int.pow_succ]
    grind
theorem Dig.set {B : Int} {l : List Int} (h : Dig B l) (i : Nat) {d : Int} (hd : 0 ≤ d ∧ d < B) : Dig B (l.set i d) := by
  intro x hx
  rcases List.mem_or_eq_of_mem_set hx with hx | rfl
  · exact h x hx
  · exact hd
theorem getD_left {l m : List Int} {i : Nat} (h : i < l.length) : (l ++ m).getD i 0 = l.getD i 0 := by
  rw [List.getD_eq_getElem?_getD, List.getD_eq_getElem?_getD, List.getElem?_append_left h]
/-- one digit of a product -/
theorem carry_mul {W U V D A T x y q c d c' : Int} (h : d + c' * W = q + x * y + c) (inv : D + c * (U * V) = A + x * T * U) :
    D + (d - q) * (U * V) + c' * (U * V * W) = A + x * (T + y * V) * U := by
  have h1 : (d + c' * W) * (U * V) = (q + x * y + c) * (U * V) := by rw [h]
  grind
theorem divmod_of {N Q y r : Int} (h : N = Q * y + r) (h0 : 0 ≤ r) (h1 : r < y) : N / y = Q ∧ N % y = r := by
  have hy : y ≠ 0 := by omega
  subst h
  constructor
  · rw [Int.add_comm, Int.add_mul_ediv_right _ _ hy, Int.ediv_eq_zero_of_lt h0 h1, Int.zero_add]
  · rw [Int.add_comm, Int.add_mul_emod_self_right, Int.emod_eq_of_lt h0 h1]
/-- what was moved up by a power comes down again -/
theorem divmod_scaled {N S Q y R : Int} (hS : 0 < S) (h : N * S = Q * (y * S) + R) (h0 : 0 ≤ R) (h1 : R < y * S) : N / y = Q ∧ N % y = R / S := by
  have e : R = (N - Q * y) * S := by rw [Int.sub_mul, Int.mul_assoc]; omega
  have e2 : R / S = N - Q * y := by rw [e]; exact Int.mul_ediv_cancel _ (by omega)
  have h2 : 0 ≤ N - Q * y := by
    rw [e] at h0
    exact Int.nonneg_of_mul_nonneg_left h0 hS
  have h3 : N - Q * y < y := by
    rw [e] at h1
    exact Int.lt_of_mul_lt_mul_right h1 (Int.le_of_lt hS)
  rw [e2]
  exact divmod_of (by omega) h2 h3
end Go.Proofs.YtjfkniknmkcdcaaDoor.Nu
