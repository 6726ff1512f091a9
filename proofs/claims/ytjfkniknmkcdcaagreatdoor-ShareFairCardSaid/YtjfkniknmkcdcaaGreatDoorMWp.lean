/- The plain law of sums of single worths: their shares are these worths, and all on the way is short. No walk. -/
import Derived.Test.YtjfkniknmkcdcaaGreatDoorMSd
import Derived.Test.YtjfkniknmkcdcaaGreatDoorMHc
namespace Go.Proofs.YtjfkniknmkcdcaaGreatDoor
open Go.RowKit K Nu

/-- a whole number of D-ths -/
def lat (D : Nat) (z : Int) : Rat := (z : Rat) * mkRat 1 D
theorem lat_mk (D : Nat) (z : Int) : lat D z = mkRat z D := by
  have h : ((z : Int) : Rat) = mkRat z 1 := by rw [Rat.mkRat_one]
  unfold lat
  rw [h, Rat.mkRat_mul_mkRat, Int.mul_one, Nat.one_mul]
theorem lat_add (D : Nat) (x y : Int) : lat D x + lat D y = lat D (x + y) := by
  unfold lat; rw [Rat.intCast_add, Rat.add_mul]
theorem lat_mul (D E : Nat) (x y : Int) : lat D x * lat E y = lat (D * E) (x * y) := by
  rw [lat_mk, lat_mk, lat_mk, Rat.mkRat_mul_mkRat]
theorem lat_short {D : Nat} {z : Int} (hD : D ≠ 0) (hD2 : D < 2147483648) (h0 : -2147483648 < z) (h1 : z < 2147483648) : Short (lat D z) := by
  rw [lat_mk]
  have e1 := mk_num z D hD
  have e2 := mk_den z D hD
  have hg : 0 < Nat.gcd z.natAbs D := Nat.gcd_pos_of_pos_right _ (by omega)
  have h3 : D / Nat.gcd z.natAbs D ≤ D := Nat.div_le_self _ _
  have h4 : (z / (Nat.gcd z.natAbs D : Int)).natAbs ≤ z.natAbs := by
    have hdv : ((Nat.gcd z.natAbs D : Nat) : Int) ∣ z := Int.ofNat_dvd_left.2 (Nat.gcd_dvd_left _ _)
    rw [Int.natAbs_ediv_of_dvd hdv]; exact Nat.div_le_self _ _
  rw [← e1] at h4
  exact ⟨by omega, by omega, by omega⟩

/-- twelfths, of size at most 240 -/
def Twelve (q : Rat) : Prop := ∃ z : Int, q = lat 12 z ∧ -240 ≤ z ∧ z ≤ 240
theorem rr_twelve (n : Int) : Twelve (rr n) := by
  have hr : 0 ≤ n % 41 ∧ n % 41 < 41 := ⟨Int.emod_nonneg _ (by decide), Int.emod_lt_of_pos _ (by decide)⟩
  have key : ∀ (a : Int) (d k : Nat), k ≠ 0 → d * k = 12 → mkRat a d = lat 12 (a * k) := by
    intro a d k hk h
    rw [lat_mk, ← h, Rat.mkRat_mul_right hk]
  unfold rr d6
  split
  · exact ⟨_, key _ 2 6 (by decide) (by decide), by omega, by omega⟩
  · split
    · exact ⟨_, key _ 3 4 (by decide) (by decide), by omega, by omega⟩
    · split
      · exact ⟨_, key _ 4 3 (by decide) (by decide), by omega, by omega⟩
      · exact ⟨_, key _ 1 12 (by decide) (by decide), by omega, by omega⟩
theorem rowQ_twelve {l : List Int} {n : Nat} : ∀ q, q ∈ rowQ l n → Twelve q := by
  intro q hq
  simp only [rowQ, List.mem_map] at hq
  obtain ⟨i, -, rfl⟩ := hq
  split
  · exact rr_twelve _
  · exact ⟨0, by decide +kernel, by decide, by decide⟩

theorem Twelve.short {q : Rat} (h : Twelve q) : Short q := by
  obtain ⟨z, rfl, h1, h2⟩ := h
  exact lat_short (by decide) (by decide) (by omega) (by omega)
theorem rowQ_len2 {l : List Int} {n : Nat} : (rowQ l n).length = n := by simp [rowQ]
/-- the sum of the worths of a set's first columns -/
def subs (ws : List Rat) (s : Nat) : Nat → Rat
  | 0 => 0
  | k + 1 => if s.testBit k then subs ws s k + ws.getD k 0 else subs ws s k
theorem subs_lat {ws : List Rat} (h : ∀ q, q ∈ ws → Twelve q) (s : Nat) : ∀ k, k ≤ ws.length → ∃ z : Int, subs ws s k = lat 12 z ∧ -(240 * k : Int) ≤ z ∧ z ≤ 240 * k
  | 0, _ => ⟨0, by show (0 : Rat) = lat 12 0; decide +kernel, by simp, by simp⟩
  | k + 1, hk => by
    obtain ⟨z, hz, h1, h2⟩ := subs_lat h s k (by omega)
    unfold subs
    split
    · have hm : ws.getD k 0 ∈ ws := getD_mem' (by omega)
      obtain ⟨y, hy, h3, h4⟩ := h _ hm
      exact ⟨z + y, by rw [hz, hy, lat_add], by omega, by omega⟩
    · exact ⟨z, hz, by omega, by omega⟩
theorem subs_or {ws : List Rat} {s c : Nat} (hb : s.testBit c = false) : ∀ k, subs ws (s ||| 2 ^ c) k = subs ws s k + (if c < k then ws.getD c 0 else 0)
  | 0 => by simp [subs, Rat.add_zero]
  | k + 1 => by
    have ih := subs_or (ws := ws) hb k
    unfold subs
    rw [Nat.testBit_or, Nat.testBit_two_pow]
    by_cases e : c = k
    · subst e
      rw [hb, ih]
      simp [Rat.add_zero]
    · have e1 : decide (c = k) = false := decide_eq_false e
      have e2 : (if c < k + 1 then ws.getD c 0 else 0) = (if c < k then ws.getD c 0 else 0) := by
        by_cases h7 : c < k
        · rw [if_pos h7, if_pos (by omega)]
        · rw [if_neg h7, if_neg (by omega)]
      rw [e1, Bool.or_false, ih, e2]
      split
      · rw [Rat.add_assoc, Rat.add_assoc, Rat.add_comm (ws.getD k 0)]
      · rfl
/-- weights in 2520ths -/
def iw (n k : Nat) : Nat := 2520 * (fc k * fc (n - 1 - k)) / fc n
theorem iw_all : ∀ n, n < 11 → ∀ k, k < n → wt n k = lat 2520 (iw n k) ∧ iw n k ≤ 2520 := by decide +kernel
def Zs (n c : Nat) : Nat → Nat
  | 0 => 0
  | s + 1 => Zs n c s + (if s.testBit c then 0 else iw n (ones s))
theorem Zs_mono (n c : Nat) : ∀ d s, Zs n c s ≤ Zs n c (s + d)
  | 0, _ => Nat.le_refl _
  | d + 1, s => Nat.le_trans (Zs_mono n c d s) (by rw [show s + (d + 1) = (s + d) + 1 by omega]; simp only [Zs]; omega)
theorem Zs_all : ∀ n, n < 11 → ∀ c, c < n → Zs n c (2 ^ n) = 2520 := by decide +kernel
theorem Zs_le {n c s : Nat} (hn : n ≤ 10) (hc : c < n) (hs : s ≤ 2 ^ n) : Zs n c s ≤ 2520 := by
  have h := Zs_mono n c (2 ^ n - s) s
  rw [show s + (2 ^ n - s) = 2 ^ n by omega, Zs_all n (by omega) c hc] at h
  exact h

/-- a table of sums of single worths -/
def IsSums (v ws : List Rat) (n : Nat) : Prop := ws.length = n ∧ v.length = 2 ^ n ∧ ∀ s, s < 2 ^ n → v.getD s 0 = subs ws s n
section
variable {v ws : List Rat} {n : Nat}
theorem sums_diff (h : IsSums v ws n) {s c : Nat} (hs : s < 2 ^ n) (hc : c < n) (hb : s.testBit c = false) : v.getD (s ||| 2 ^ c) 0 - v.getD s 0 = ws.getD c 0 := by
  rw [h.2.2 _ (Nat.or_lt_two_pow hs (Nat.pow_lt_pow_right (by decide) hc)), h.2.2 _ hs, subs_or hb, if_pos hc, Rat.add_comm, Rat.sub_eq_add_neg, Rat.add_assoc, ← Rat.sub_eq_add_neg, Rat.sub_self, Rat.add_zero]
theorem sums_acc (h : IsSums v ws n) (hn : n ≤ 10) {c : Nat} (hc : c < n) : ∀ s, s ≤ 2 ^ n → acc v n c s = lat 2520 (Zs n c s) * ws.getD c 0
  | 0, _ => by simp only [acc, Zs]; rw [show lat 2520 ((0 : Nat) : Int) = 0 by decide +kernel, Rat.zero_mul]
  | s + 1, hs => by
    rw [acc, sums_acc h hn hc s (by omega), tm]
    simp only [Zs]
    by_cases hb : s.testBit c = true
    · rw [if_pos hb, if_pos hb, Rat.add_zero, Nat.add_zero]
    · have hb0 : s.testBit c = false := by simpa using hb
      rw [if_neg hb, if_neg hb, sums_diff h (by omega) hc hb0, (iw_all n (by omega) _ (ones_lt hn (by omega) hc hb0)).1, ← Rat.add_mul, lat_add, Int.natCast_add]
theorem sums_fit (h : IsSums v ws n) (hn : n ≤ 10) (hw : ∀ q, q ∈ ws → Twelve q) : Fit v n := by
  have hcw : ∀ c, c < n → Twelve (ws.getD c 0) := fun c hc => hw _ (getD_mem' (by rw [h.1]; exact hc))
  refine ⟨fun x hx => ?_, fun s c hs hc hb => ?_, fun s c hs hc => ?_⟩
  · obtain ⟨i, hi, rfl⟩ := List.mem_iff_getElem.1 hx
    have hi2 : i < 2 ^ n := by rw [← h.2.1]; exact hi
    have e := h.2.2 i hi2
    rw [List.getD_eq_getElem?_getD, List.getElem?_eq_getElem hi, Option.getD_some] at e
    obtain ⟨z, hz, h1, h2⟩ := subs_lat hw i n (by rw [h.1]; exact Nat.le_refl _)
    rw [e, hz]
    exact lat_short (by decide) (by decide) (by omega) (by omega)
  · obtain ⟨z, hz, h1, h2⟩ := hcw c hc
    have hi := iw_all n (by omega) _ (ones_lt hn hs hc hb)
    rw [sums_diff h hs hc hb, hz, hi.1, lat_mul]
    refine ⟨lat_short (by decide) (by decide) (by omega) (by omega), lat_short (by decide) (by decide) ?_ ?_⟩
    · have h5 : ((iw n (ones s) : Nat) : Int) * z = z * ((iw n (ones s) : Nat) : Int) := Int.mul_comm _ _
      have h6 : -(240 * 2520) ≤ ((iw n (ones s) : Nat) : Int) * z := by
        have h7 : (((iw n (ones s) : Nat) : Int) * z).natAbs ≤ 2520 * 240 := by rw [Int.natAbs_mul]; exact Nat.mul_le_mul (by omega) (by omega)
        omega
      omega
    · have h7 : (((iw n (ones s) : Nat) : Int) * z).natAbs ≤ 2520 * 240 := by rw [Int.natAbs_mul]; exact Nat.mul_le_mul (by omega) (by omega)
      omega
  · obtain ⟨z, hz, h1, h2⟩ := hcw c hc
    rw [sums_acc h hn hc s hs, hz, lat_mul]
    have hZ := Zs_le hn hc hs
    have h7 : (((Zs n c s : Nat) : Int) * z).natAbs ≤ 2520 * 240 := by rw [Int.natAbs_mul]; exact Nat.mul_le_mul (by omega) (by omega)
    exact lat_short (by decide) (by decide) (by omega) (by omega)
theorem sums_shs (h : IsSums v ws n) (hn : n ≤ 10) : shs v n = ws := by
  apply List.ext_getElem (by simp [shs, h.1])
  intro i h1 h2
  have hi : i < n := by rw [← h.1]; exact h2
  have e : (shs v n)[i] = acc v n i (2 ^ n) := by simp [shs]
  rw [e, sums_acc h hn hi _ (Nat.le_refl _), Zs_all n (by omega) i hi, show lat 2520 ((2520 : Nat) : Int) = 1 by decide +kernel, Rat.one_mul, List.getD_eq_getElem?_getD, List.getElem?_eq_getElem h2]
  rfl
end
end Go.Proofs.YtjfkniknmkcdcaaGreatDoor
