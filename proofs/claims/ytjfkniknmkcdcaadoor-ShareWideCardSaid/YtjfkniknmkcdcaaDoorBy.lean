/- Numbers as bytes and as words of so many bytes. No program. -/
import Derived.Test.YtjfkniknmkcdcaaDoorNm
namespace Go.Proofs.YtjfkniknmkcdcaaDoor.By
open Nu

theorem natCast_pow' (a b : Nat) : ((a ^ b : Nat) : Int) = (a : Int) ^ b := Int.natCast_pow a b
/-- a digit, out of the number -/
theorem digit_at {B : Nat} (hB : 0 < B) {l : List Int} {n : Nat} (h : IsNum (B : Int) l n) (i : Nat) : l.getD i 0 = ((n / B ^ i % B : Nat) : Int) := by
  have hB' : (0 : Int) < (B : Int) := by omega
  by_cases hi : i < l.length
  · have h1 := dv_take_drop (B : Int) l i (by omega)
    rw [h.val, drop_getD hi] at h1
    have h2 := dv_bound hB' (h.dig.take i)
    rw [List.length_take, Nat.min_eq_left (by omega)] at h2
    have h3 := h.dig.at hB' i
    have h4 := dv_nonneg hB' (h.dig.drop (i + 1))
    have e : dv (B : Int) (l.getD i 0 :: l.drop (i + 1)) = l.getD i 0 + B * dv B (l.drop (i + 1)) := rfl
    rw [e] at h1
    generalize l.getD i 0 = x at *
    obtain ⟨X, rfl⟩ := Int.eq_ofNat_of_zero_le h3.1
    obtain ⟨M, hM⟩ := Int.eq_ofNat_of_zero_le h2.1
    obtain ⟨D, hD⟩ := Int.eq_ofNat_of_zero_le h4
    rw [hM, hD, ← natCast_pow'] at h1
    rw [hM, ← natCast_pow'] at h2
    have h5 : n = M + B ^ i * (X + B * D) := by
      have : ((M + B ^ i * (X + B * D) : Nat) : Int) = n := by
        rw [Int.natCast_add, Int.natCast_mul, Int.natCast_add, Int.natCast_mul]; exact h1.symm
      omega
    have h6 : n / B ^ i = X + B * D := by
      rw [h5, Nat.add_mul_div_left _ _ (Nat.pow_pos hB), Nat.div_eq_of_lt (by omega), Nat.zero_add]
    rw [h6, Nat.add_mul_mod_self_left, Nat.mod_eq_of_lt (by omega)]
  · have h0 : l.getD i 0 = 0 := by rw [List.getD_eq_getElem?_getD, List.getElem?_eq_none (by omega)]; rfl
    have h1 := h.high hB'
    have h2 : ((B ^ l.length : Nat) : Int) ≤ ((B ^ i : Nat) : Int) := Int.ofNat_le.2 (Nat.pow_le_pow_right hB (by omega))
    rw [← natCast_pow'] at h1
    rw [h0, Nat.div_eq_of_lt (by omega)]
    simp
/-- a byte out of a word -/
theorem byte_of (n k i : Nat) (hk : 0 < k) : (n / (256 ^ k) ^ (i / k) % 256 ^ k) / 256 ^ (i % k) % 256 = n / 256 ^ i % 256 := by
  have hr : i % k < k := Nat.mod_lt _ hk
  have e : 256 ^ k = 256 ^ (i % k) * 256 ^ (k - i % k) := by rw [← Nat.pow_add]; congr 1; omega
  generalize hx : n / (256 ^ k) ^ (i / k) = x
  have h1 : x % 256 ^ k / 256 ^ (i % k) = x / 256 ^ (i % k) % 256 ^ (k - i % k) := by
    rw [e, Nat.mod_mul_right_div_self]
  rw [h1, Nat.mod_mod_of_dvd]
  · rw [← hx, ← Nat.pow_mul, Nat.div_div_eq_div_mul, ← Nat.pow_add]
    congr 3
    exact Nat.div_add_mod i k
  · obtain ⟨j, hj⟩ : ∃ j, k - i % k = j + 1 := ⟨k - i % k - 1, by omega⟩
    rw [hj, Nat.pow_succ]
    exact Nat.dvd_mul_left _ _
theorem mod_step (n i : Nat) : n % 256 ^ i + n / 256 ^ i % 256 * 256 ^ i = n % 256 ^ (i + 1) := by
  rw [Nat.pow_succ, Nat.mod_mul]
  rw [Nat.mul_comm (256 ^ i)]
theorem two_256 (r : Nat) : (2 : Nat) ^ (r * 8) = 256 ^ r := by
  rw [Nat.mul_comm, Nat.pow_mul]
theorem word_pow (k i : Nat) : (256 ^ k) ^ (i / k) * 256 ^ (i % k) = 256 ^ i := by
  rw [← Nat.pow_mul, ← Nat.pow_add, Nat.div_add_mod]
/-- bytes that make up a number, the highest first -/
def IsBytes (bs : List Int) (n : Nat) : Prop := Dig 256 bs ∧ dv 256 bs.reverse = n
theorem div_succ (i k : Nat) (hk : 0 < k) (h : (i + 1) % k ≠ 0) : (i + 1) / k = i / k ∧ (i + 1) % k = i % k + 1 := by
  have h1 := Nat.div_add_mod i k
  have h2 := Nat.div_add_mod (i + 1) k
  have h3 := Nat.mod_lt i hk
  have h4 := Nat.mod_lt (i + 1) hk
  have h5 : i % k + 1 < k ∨ i % k + 1 = k := by omega
  rcases h5 with h5 | h5
  · have : (i + 1) / k = i / k := by
      have e : i + 1 = (i % k + 1) + k * (i / k) := by omega
      rw [e, Nat.add_mul_div_left _ _ hk, Nat.div_eq_of_lt h5, Nat.zero_add]
    exact ⟨this, by rw [this] at h2; omega⟩
  · exfalso
    apply h
    have e : i + 1 = k * (i / k + 1) := by rw [Nat.mul_add]; omega
    rw [e, Nat.mul_mod_right]
theorem div_wrap (i k : Nat) (hk : 0 < k) (h : (i + 1) % k = 0) : (i + 1) / k = i / k + 1 := by
  have h1 := Nat.div_add_mod i k
  have h2 := Nat.div_add_mod (i + 1) k
  have h3 := Nat.mod_lt i hk
  rw [h] at h2
  have h4 : k * ((i + 1) / k) = k * (i / k) + (i % k + 1) := by omega
  have h5 : i % k + 1 = k := by
    have h6 : k ∣ k * (i / k) + (i % k + 1) := by rw [← h4]; exact Nat.dvd_mul_right _ _
    have h7 : k ∣ i % k + 1 := (Nat.dvd_add_iff_right (Nat.dvd_mul_right k (i / k))).2 h6
    have := Nat.le_of_dvd (by omega) h7
    omega
  rw [h5] at h4
  have h8 : k * ((i + 1) / k) = k * (i / k + 1) := by rw [Nat.mul_add, Nat.mul_one]; exact h4
  exact Nat.eq_of_mul_eq_mul_left hk h8
end Go.Proofs.YtjfkniknmkcdcaaDoor.By
