/- The plain law of shares of tables of at most four columns: the mean over all orders is the weighted sum; what is reckoned on the way is short. No walk. -/
import Derived.Test.YtjfkniknmkcdcaaGreatDoorMWp
import Derived.Test.YtjfkniknmkcdcaaGreatDoorMSf
namespace Go.Proofs.YtjfkniknmkcdcaaGreatDoor
open Go.RowKit K Nu

/-- a number put in at a place -/
def insAt (l : List Nat) (k x : Nat) : List Nat := l.take k ++ x :: l.drop k
/-- all orders of n columns: each of one less, with n - 1 at each place -/
def ords : Nat → List (List Nat)
  | 0 => [[]]
  | n + 1 => (ords n).flatMap fun l => (List.range (n + 1)).map fun k => insAt l k n
/-- what each adds, as they come -/
def tset (v : List Rat) : List Nat → Nat → List Rat → List Rat
  | [], _, out => out
  | c :: cs, s, out => tset v cs (s ||| 2 ^ c) (out.set c (v.getD (s ||| 2 ^ c) 0 - v.getD s 0))
def hav (os : List Nat) (s : Nat) : Nat := os.foldl (fun s c => s ||| 2 ^ c) s
theorem tset_len (v : List Rat) : ∀ os s out, (tset v os s out).length = out.length
  | [], _, _ => rfl
  | c :: cs, s, out => by rw [tset, tset_len v cs, List.length_set]
/-- what a column adds in one order -/
def tval (v : List Rat) (n : Nat) (l : List Nat) (c : Nat) : Rat := (tset v l 0 (List.replicate n 0)).getD c 0
/-- the sum over the first k orders -/
def rs (v : List Rat) (n c : Nat) : Nat → Rat
  | 0 => 0
  | k + 1 => rs v n c k + tval v n ((ords n).getD k []) c
/-- the mean over all orders -/
def rshs (v : List Rat) (n : Nat) : List Rat := (List.range n).map fun c => rs v n c (ords n).length * mkRat 1 (ords n).length

/-- a table of twelfths of size at most B -/
def Tab (v : List Rat) (z : Nat → Int) (B : Int) : Prop := (∀ s, v.getD s 0 = lat 12 (z s)) ∧ ∀ s, -B ≤ z s ∧ z s ≤ B
theorem lat_zero (D : Nat) : lat D 0 = 0 := by unfold lat; rw [show ((0 : Int) : Rat) = 0 from rfl, Rat.zero_mul]
theorem lat_neg (D : Nat) (z : Int) : -lat D z = lat D (-z) := by
  unfold lat; rw [Rat.intCast_neg, Rat.neg_mul]
theorem lat_sub (D : Nat) (x y : Int) : lat D x - lat D y = lat D (x - y) := by
  rw [Rat.sub_eq_add_neg, lat_neg, lat_add, Int.sub_eq_add_neg]
theorem tab_of {v : List Rat} (h : ∀ q, q ∈ v → Twelve q) : ∃ z, Tab v z 240 := by
  have h1 : ∀ s, ∃ z : Int, v.getD s 0 = lat 12 z ∧ -240 ≤ z ∧ z ≤ 240 := by
    intro s
    by_cases hs : s < v.length
    · exact h _ (getD_mem' hs)
    · exact ⟨0, by rw [List.getD_eq_getElem?_getD, List.getElem?_eq_none (by omega), lat_zero]; rfl, by decide, by decide⟩
  exact ⟨fun s => (h1 s).choose, fun s => (h1 s).choose_spec.1, fun s => (h1 s).choose_spec.2⟩

/-- the whole numbers behind a column's turn -/
def tz (z : Nat → Int) : List Nat → Nat → Nat → Int → Int
  | [], _, _, d => d
  | o :: os, s, c, d => tz z os (s ||| 2 ^ o) c (if o = c then z (s ||| 2 ^ o) - z s else d)
theorem tset_tz {v : List Rat} {z : Nat → Int} {B : Int} (h : Tab v z B) {c : Nat} : ∀ (os : List Nat) (s : Nat) (out : List Rat) (d : Int), c < out.length → out.getD c 0 = lat 12 d → (tset v os s out).getD c 0 = lat 12 (tz z os s c d)
  | [], _, _, _, _, h2 => h2
  | o :: os, s, out, d, h1, h2 => by
    rw [tset, tz]
    refine tset_tz h os _ _ _ (by rw [List.length_set]; exact h1) ?_
    by_cases e : o = c
    · subst e
      rw [if_pos rfl, List.getD_eq_getElem?_getD, List.getElem?_set_self h1, Option.getD_some, h.1, h.1, lat_sub]
    · rw [if_neg e, List.getD_eq_getElem?_getD, List.getElem?_set_ne e, ← List.getD_eq_getElem?_getD, h2]
theorem tz_le {z : Nat → Int} {B : Int} (h : ∀ s, -B ≤ z s ∧ z s ≤ B) {c : Nat} : ∀ (os : List Nat) (s : Nat) (d : Int), -(2 * B) ≤ d ∧ d ≤ 2 * B → -(2 * B) ≤ tz z os s c d ∧ tz z os s c d ≤ 2 * B
  | [], _, _, h2 => h2
  | o :: os, s, d, h2 => by
    rw [tz]
    refine tz_le h os _ _ ?_
    split
    · have := h (s ||| 2 ^ o); have := h s; omega
    · exact h2
def rz (z : Nat → Int) (n c : Nat) : Nat → Int
  | 0 => 0
  | k + 1 => rz z n c k + tz z ((ords n).getD k []) 0 c 0
theorem rs_rz {v : List Rat} {z : Nat → Int} {B : Int} (h : Tab v z B) {n c : Nat} (hc : c < n) : ∀ k, rs v n c k = lat 12 (rz z n c k)
  | 0 => by rw [rs, rz, lat_zero]
  | k + 1 => by
    rw [rs, rz, rs_rz h hc k, tval, tset_tz h _ _ _ 0 (by simpa using hc) (by rw [List.getD_eq_getElem?_getD, List.getElem?_replicate, if_pos hc, lat_zero]; rfl), lat_add]
theorem rz_le {z : Nat → Int} {B : Int} (h : ∀ s, -B ≤ z s ∧ z s ≤ B) {n c : Nat} : ∀ k : Nat, -(2 * B * k) ≤ rz z n c k ∧ rz z n c k ≤ 2 * B * k
  | 0 => by simp [rz]
  | k + 1 => by
    have h1 := rz_le h (n := n) (c := c) k
    have h0 := h 0
    have h2 := tz_le h (c := c) ((ords n).getD k []) 0 0 (by omega)
    rw [rz, Int.natCast_add, Int.mul_add]
    generalize 2 * B * (k : Int) = X at *
    omega
def accz (z : Nat → Int) (n c : Nat) : Nat → Int
  | 0 => 0
  | s + 1 => accz z n c s + (if s.testBit c then 0 else (iw n (ones s) : Int) * (z (s ||| 2 ^ c) - z s))
theorem acc_accz {v : List Rat} {z : Nat → Int} {B : Int} (h : Tab v z B) {n c : Nat} (hn : n ≤ 10) (hc : c < n) : ∀ s, s ≤ 2 ^ n → acc v n c s = lat (2520 * 12) (accz z n c s)
  | 0, _ => by rw [acc, accz, lat_zero]
  | s + 1, hs => by
    rw [acc, accz, acc_accz h hn hc s (by omega), tm]
    by_cases hb : s.testBit c = true
    · rw [if_pos hb, if_pos hb, Rat.add_zero, Int.add_zero]
    · have hb0 : s.testBit c = false := by simpa using hb
      rw [if_neg hb, if_neg hb, h.1, h.1, lat_sub, (iw_all n (by omega) _ (ones_lt hn (by omega) hc hb0)).1, lat_mul, lat_add]
set_option maxRecDepth 100000
theorem law_1_0 (z : Nat → Int) : rz z 1 0 1 * 2520 = accz z 1 0 2 * 1 := by
  rw [show rz z 1 0 1 = 0 + (z 1 - z 0) from rfl, show accz z 1 0 2 = 0 + ((2520 : Nat) : Int) * (z 1 - z 0) + 0 from rfl]
  omega
theorem law_2_0 (z : Nat → Int) : rz z 2 0 2 * 2520 = accz z 2 0 4 * 2 := by
  rw [show rz z 2 0 2 = 0 + (z 3 - z 2) + (z 1 - z 0) from rfl, show accz z 2 0 4 = 0 + ((1260 : Nat) : Int) * (z 1 - z 0) + 0 + ((1260 : Nat) : Int) * (z 3 - z 2) + 0 from rfl]
  omega
theorem law_2_1 (z : Nat → Int) : rz z 2 1 2 * 2520 = accz z 2 1 4 * 2 := by
  rw [show rz z 2 1 2 = 0 + (z 2 - z 0) + (z 3 - z 1) from rfl, show accz z 2 1 4 = 0 + ((1260 : Nat) : Int) * (z 2 - z 0) + ((1260 : Nat) : Int) * (z 3 - z 1) + 0 + 0 from rfl]
  omega
theorem law_3_0 (z : Nat → Int) : rz z 3 0 6 * 2520 = accz z 3 0 8 * 6 := by
  rw [show rz z 3 0 6 = 0 + (z 7 - z 6) + (z 7 - z 6) + (z 3 - z 2) + (z 5 - z 4) + (z 1 - z 0) + (z 1 - z 0) from rfl, show accz z 3 0 8 = 0 + ((840 : Nat) : Int) * (z 1 - z 0) + 0 + ((420 : Nat) : Int) * (z 3 - z 2) + 0 + ((420 : Nat) : Int) * (z 5 - z 4) + 0 + ((840 : Nat) : Int) * (z 7 - z 6) + 0 from rfl]
  omega
theorem law_3_1 (z : Nat → Int) : rz z 3 1 6 * 2520 = accz z 3 1 8 * 6 := by
  rw [show rz z 3 1 6 = 0 + (z 6 - z 4) + (z 2 - z 0) + (z 2 - z 0) + (z 7 - z 5) + (z 7 - z 5) + (z 3 - z 1) from rfl, show accz z 3 1 8 = 0 + ((840 : Nat) : Int) * (z 2 - z 0) + ((420 : Nat) : Int) * (z 3 - z 1) + 0 + 0 + ((420 : Nat) : Int) * (z 6 - z 4) + ((840 : Nat) : Int) * (z 7 - z 5) + 0 + 0 from rfl]
  omega
theorem law_3_2 (z : Nat → Int) : rz z 3 2 6 * 2520 = accz z 3 2 8 * 6 := by
  rw [show rz z 3 2 6 = 0 + (z 4 - z 0) + (z 6 - z 2) + (z 7 - z 3) + (z 4 - z 0) + (z 5 - z 1) + (z 7 - z 3) from rfl, show accz z 3 2 8 = 0 + ((840 : Nat) : Int) * (z 4 - z 0) + ((420 : Nat) : Int) * (z 5 - z 1) + ((420 : Nat) : Int) * (z 6 - z 2) + ((840 : Nat) : Int) * (z 7 - z 3) + 0 + 0 + 0 + 0 from rfl]
  omega
theorem law_4_0 (z : Nat → Int) : rz z 4 0 24 * 2520 = accz z 4 0 16 * 24 := by
  rw [show rz z 4 0 24 = 0 + (z 15 - z 14) + (z 15 - z 14) + (z 15 - z 14) + (z 7 - z 6) + (z 15 - z 14) + (z 15 - z 14) + (z 15 - z 14) + (z 7 - z 6) + (z 11 - z 10) + (z 11 - z 10) + (z 3 - z 2) + (z 3 - z 2) + (z 13 - z 12) + (z 13 - z 12) + (z 5 - z 4) + (z 5 - z 4) + (z 9 - z 8) + (z 1 - z 0) + (z 1 - z 0) + (z 1 - z 0) + (z 9 - z 8) + (z 1 - z 0) + (z 1 - z 0) + (z 1 - z 0) from rfl, show accz z 4 0 16 = 0 + ((630 : Nat) : Int) * (z 1 - z 0) + 0 + ((210 : Nat) : Int) * (z 3 - z 2) + 0 + ((210 : Nat) : Int) * (z 5 - z 4) + 0 + ((210 : Nat) : Int) * (z 7 - z 6) + 0 + ((210 : Nat) : Int) * (z 9 - z 8) + 0 + ((210 : Nat) : Int) * (z 11 - z 10) + 0 + ((210 : Nat) : Int) * (z 13 - z 12) + 0 + ((630 : Nat) : Int) * (z 15 - z 14) + 0 from rfl]
  omega
theorem law_4_1 (z : Nat → Int) : rz z 4 1 24 * 2520 = accz z 4 1 16 * 24 := by
  rw [show rz z 4 1 24 = 0 + (z 14 - z 12) + (z 14 - z 12) + (z 6 - z 4) + (z 6 - z 4) + (z 10 - z 8) + (z 2 - z 0) + (z 2 - z 0) + (z 2 - z 0) + (z 10 - z 8) + (z 2 - z 0) + (z 2 - z 0) + (z 2 - z 0) + (z 15 - z 13) + (z 15 - z 13) + (z 15 - z 13) + (z 7 - z 5) + (z 15 - z 13) + (z 15 - z 13) + (z 15 - z 13) + (z 7 - z 5) + (z 11 - z 9) + (z 11 - z 9) + (z 3 - z 1) + (z 3 - z 1) from rfl, show accz z 4 1 16 = 0 + ((630 : Nat) : Int) * (z 2 - z 0) + ((210 : Nat) : Int) * (z 3 - z 1) + 0 + 0 + ((210 : Nat) : Int) * (z 6 - z 4) + ((210 : Nat) : Int) * (z 7 - z 5) + 0 + 0 + ((210 : Nat) : Int) * (z 10 - z 8) + ((210 : Nat) : Int) * (z 11 - z 9) + 0 + 0 + ((210 : Nat) : Int) * (z 14 - z 12) + ((630 : Nat) : Int) * (z 15 - z 13) + 0 + 0 from rfl]
  omega
theorem law_4_2 (z : Nat → Int) : rz z 4 2 24 * 2520 = accz z 4 2 16 * 24 := by
  rw [show rz z 4 2 24 = 0 + (z 12 - z 8) + (z 4 - z 0) + (z 4 - z 0) + (z 4 - z 0) + (z 14 - z 10) + (z 14 - z 10) + (z 6 - z 2) + (z 6 - z 2) + (z 15 - z 11) + (z 15 - z 11) + (z 15 - z 11) + (z 7 - z 3) + (z 12 - z 8) + (z 4 - z 0) + (z 4 - z 0) + (z 4 - z 0) + (z 13 - z 9) + (z 13 - z 9) + (z 5 - z 1) + (z 5 - z 1) + (z 15 - z 11) + (z 15 - z 11) + (z 15 - z 11) + (z 7 - z 3) from rfl, show accz z 4 2 16 = 0 + ((630 : Nat) : Int) * (z 4 - z 0) + ((210 : Nat) : Int) * (z 5 - z 1) + ((210 : Nat) : Int) * (z 6 - z 2) + ((210 : Nat) : Int) * (z 7 - z 3) + 0 + 0 + 0 + 0 + ((210 : Nat) : Int) * (z 12 - z 8) + ((210 : Nat) : Int) * (z 13 - z 9) + ((210 : Nat) : Int) * (z 14 - z 10) + ((630 : Nat) : Int) * (z 15 - z 11) + 0 + 0 + 0 + 0 from rfl]
  omega
theorem law_4_3 (z : Nat → Int) : rz z 4 3 24 * 2520 = accz z 4 3 16 * 24 := by
  rw [show rz z 4 3 24 = 0 + (z 8 - z 0) + (z 12 - z 4) + (z 14 - z 6) + (z 15 - z 7) + (z 8 - z 0) + (z 10 - z 2) + (z 14 - z 6) + (z 15 - z 7) + (z 8 - z 0) + (z 10 - z 2) + (z 11 - z 3) + (z 15 - z 7) + (z 8 - z 0) + (z 12 - z 4) + (z 13 - z 5) + (z 15 - z 7) + (z 8 - z 0) + (z 9 - z 1) + (z 13 - z 5) + (z 15 - z 7) + (z 8 - z 0) + (z 9 - z 1) + (z 11 - z 3) + (z 15 - z 7) from rfl, show accz z 4 3 16 = 0 + ((630 : Nat) : Int) * (z 8 - z 0) + ((210 : Nat) : Int) * (z 9 - z 1) + ((210 : Nat) : Int) * (z 10 - z 2) + ((210 : Nat) : Int) * (z 11 - z 3) + ((210 : Nat) : Int) * (z 12 - z 4) + ((210 : Nat) : Int) * (z 13 - z 5) + ((210 : Nat) : Int) * (z 14 - z 6) + ((630 : Nat) : Int) * (z 15 - z 7) + 0 + 0 + 0 + 0 + 0 + 0 + 0 + 0 from rfl]
  omega
/-- 2520 times the sum over all orders is n! times the weighted sum -/
theorem orders_law (z : Nat → Int) : ∀ n, 1 ≤ n → n ≤ 4 → ∀ c, c < n → rz z n c (ords n).length * 2520 = accz z n c (2 ^ n) * ((ords n).length : Int) := by
  intro n h1 h4 c hc
  obtain rfl | rfl | rfl | rfl : n = 1 ∨ n = 2 ∨ n = 3 ∨ n = 4 := by omega
  · rw [show (ords 1).length = 1 by decide +kernel, show (2 : Nat) ^ 1 = 2 from rfl]
    obtain rfl : c = 0 := by omega
    exact law_1_0 z
  · rw [show (ords 2).length = 2 by decide +kernel, show (2 : Nat) ^ 2 = 4 from rfl]
    obtain rfl | rfl : c = 0 ∨ c = 1 := by omega
    · exact law_2_0 z
    · exact law_2_1 z
  · rw [show (ords 3).length = 6 by decide +kernel, show (2 : Nat) ^ 3 = 8 from rfl]
    obtain rfl | rfl | rfl : c = 0 ∨ c = 1 ∨ c = 2 := by omega
    · exact law_3_0 z
    · exact law_3_1 z
    · exact law_3_2 z
  · rw [show (ords 4).length = 24 by decide +kernel, show (2 : Nat) ^ 4 = 16 from rfl]
    obtain rfl | rfl | rfl | rfl : c = 0 ∨ c = 1 ∨ c = 2 ∨ c = 3 := by omega
    · exact law_4_0 z
    · exact law_4_1 z
    · exact law_4_2 z
    · exact law_4_3 z

theorem lat_tiny {D : Nat} {z : Int} (hD : D ≠ 0) (hD2 : D < 32768) (h0 : -32768 < z) (h1 : z < 32768) : (lat D z).num.natAbs < 32768 ∧ (lat D z).den < 32768 := by
  rw [lat_mk]
  have e1 := mk_num z D hD
  have e2 := mk_den z D hD
  have h3 : D / Nat.gcd z.natAbs D ≤ D := Nat.div_le_self _ _
  have h4 : (z / (Nat.gcd z.natAbs D : Int)).natAbs ≤ z.natAbs := by
    have hdv : ((Nat.gcd z.natAbs D : Nat) : Int) ∣ z := Int.ofNat_dvd_left.2 (Nat.gcd_dvd_left _ _)
    rw [Int.natAbs_ediv_of_dvd hdv]; exact Nat.div_le_self _ _
  rw [← e1] at h4
  exact ⟨by omega, by omega⟩
theorem accz_le {z : Nat → Int} {B : Int} (h : ∀ s, -B ≤ z s ∧ z s ≤ B) {n c : Nat} : ∀ s, -(2 * B * (Zs n c s : Int)) ≤ accz z n c s ∧ accz z n c s ≤ 2 * B * (Zs n c s : Int)
  | 0 => by simp [accz, Zs]
  | s + 1 => by
    have ih := accz_le h (n := n) (c := c) s
    rw [accz, Zs, Int.natCast_add, Int.mul_add]
    by_cases hb : s.testBit c = true
    · rw [if_pos hb, if_pos hb, Int.natCast_zero, Int.mul_zero, Int.add_zero, Int.add_zero]; exact ih
    · rw [if_neg hb, if_neg hb]
      have h1 := h (s ||| 2 ^ c)
      have h2 := h s
      have h3 : (iw n (ones s) : Int) * (z (s ||| 2 ^ c) - z s) ≤ (iw n (ones s) : Int) * (2 * B) := Int.mul_le_mul_of_nonneg_left (by omega) (by omega)
      have h4 : (iw n (ones s) : Int) * (-(2 * B)) ≤ (iw n (ones s) : Int) * (z (s ||| 2 ^ c) - z s) := Int.mul_le_mul_of_nonneg_left (by omega) (by omega)
      rw [Int.mul_neg] at h4
      rw [Int.mul_comm (iw n (ones s) : Int) (2 * B)] at h3 h4
      omega
theorem Tab.short {v : List Rat} {z : Nat → Int} {B : Int} (h : Tab v z B) (hB : B ≤ 1000) (s : Nat) : Short (v.getD s 0) := by
  have := h.2 s
  rw [h.1]; exact lat_short (by decide) (by decide) (by omega) (by omega)
theorem Tab.mem {v : List Rat} {z : Nat → Int} {B : Int} (_h : Tab v z B) {q : Rat} (hq : q ∈ v) : ∃ s, q = v.getD s 0 := by
  obtain ⟨i, hi, rfl⟩ := List.mem_iff_getElem.1 hq
  exact ⟨i, by rw [List.getD_eq_getElem?_getD, List.getElem?_eq_getElem hi]; rfl⟩
theorem tab_fit {v : List Rat} {z : Nat → Int} {B : Int} {n : Nat} (h : Tab v z B) (hB : B ≤ 1000) (hn : n ≤ 10) : Fit v n := by
  have h0 := h.2 0
  refine ⟨fun x hx => ?_, fun s c hs hc hb => ?_, fun s c hs hc => ?_⟩
  · obtain ⟨i, rfl⟩ := h.mem hx
    exact h.short hB i
  · have hi := iw_all n (by omega) _ (ones_lt hn hs hc hb)
    have h1 := h.2 (s ||| 2 ^ c)
    have h2 := h.2 s
    rw [h.1, h.1, lat_sub, hi.1, lat_mul]
    have hd1 : -2000 ≤ z (s ||| 2 ^ c) - z s := by omega
    have hd2 : z (s ||| 2 ^ c) - z s ≤ 2000 := by omega
    generalize z (s ||| 2 ^ c) - z s = d at *
    have h7 : (((iw n (ones s) : Nat) : Int) * d).natAbs ≤ 2520 * 2000 := by rw [Int.natAbs_mul]; exact Nat.mul_le_mul (by omega) (by omega)
    refine ⟨lat_short (by decide) (by decide) (by omega) (by omega), lat_short (by decide) (by decide) ?_ ?_⟩
    · omega
    · omega
  · rw [acc_accz h hn hc s hs]
    have hZ := Zs_le hn hc hs
    have h1 := accz_le h.2 (n := n) (c := c) s
    have h2 : 2 * B * (Zs n c s : Int) ≤ 2 * 1000 * 2520 := Int.mul_le_mul (by omega) (by omega) (by omega) (by omega)
    exact lat_short (by decide) (by decide) (by omega) (by omega)
theorem tab_shs {v : List Rat} {z : Nat → Int} {B : Int} {n : Nat} (h : Tab v z B) (h1 : 1 ≤ n) (h4 : n ≤ 4) : shs v n = rshs v n := by
  unfold shs rshs
  refine List.map_congr_left fun c hc => ?_
  rw [List.mem_range] at hc
  have hl : (ords n).length ≠ 0 := by
    obtain rfl | rfl | rfl | rfl : n = 1 ∨ n = 2 ∨ n = 3 ∨ n = 4 := by omega
    all_goals decide +kernel
  rw [acc_accz h (by omega) hc _ (Nat.le_refl _), rs_rz h hc, ← lat_mk, lat_mul, lat_mk, lat_mk, Int.mul_one]
  have h5 := orders_law z n h1 h4 c hc
  rw [Rat.mkRat_eq_iff (by decide) (by omega)]
  rw [Int.natCast_mul]
  generalize ((ords n).length : Int) = f at *
  generalize accz z n c (2 ^ n) = A at *
  grind
theorem tgo_some (v : List Rat) : ∀ (os : List Nat) (s : Nat) (out : List Rat), os.Nodup → (∀ c, c ∈ os → c < out.length ∧ s.testBit c = false) → tgo v os s out = some (tset v os s out)
  | [], _, _, _, _ => rfl
  | c :: cs, s, out, hn, hc => by
    have h1 := hc c (by simp)
    rw [tgo, tset, if_neg (by rw [h1.2]; simp; exact h1.1)]
    rw [List.nodup_cons] at hn
    refine tgo_some v cs _ _ hn.2 fun d hd => ⟨by rw [List.length_set]; exact (hc d (by simp [hd])).1, ?_⟩
    rw [Nat.testBit_or, Nat.testBit_two_pow, (hc d (by simp [hd])).2, Bool.false_or]
    exact decide_eq_false (fun e => hn.1 (e ▸ hd))
theorem tgo_none (v : List Rat) : ∀ (os : List Nat) (s : Nat) (out : List Rat), ¬ (os.Nodup ∧ ∀ c, c ∈ os → s.testBit c = false) → tgo v os s out = none
  | [], _, _, h => absurd ⟨List.nodup_nil, by simp⟩ h
  | c :: cs, s, out, h => by
    rw [tgo]
    by_cases h1 : out.length ≤ c ∨ s.testBit c = true
    · rw [if_pos h1]
    · rw [if_neg h1]
      refine tgo_none v cs _ _ fun ⟨h2, h3⟩ => h ⟨?_, ?_⟩
      · rw [List.nodup_cons]
        refine ⟨fun hm => ?_, h2⟩
        have := h3 c hm
        rw [Nat.testBit_or, Nat.testBit_two_pow] at this
        simp at this
      · intro d hd
        rcases List.mem_cons.1 hd with rfl | hd
        · simpa using fun e => h1 (.inr e)
        · have := h3 d hd
          rw [Nat.testBit_or] at this
          simp at this
          simpa using this.1
def tup (n : Nat) : Nat → List (List Nat)
  | 0 => [[]]
  | k + 1 => (List.range n).flatMap fun c => (tup n k).map fun l => c :: l
theorem mem_tup {n : Nat} : ∀ (k : Nat) (os : List Nat), os.length = k → (∀ c, c ∈ os → c < n) → os ∈ tup n k
  | 0, os, h, _ => by rw [List.eq_nil_of_length_eq_zero h]; simp [tup]
  | k + 1, [], h, _ => by simp at h
  | k + 1, c :: os, h, hc => by
    rw [tup, List.mem_flatMap]
    exact ⟨c, by rw [List.mem_range]; exact hc c (by simp), List.mem_map.2 ⟨os, mem_tup k os (by simpa using h) (fun d hd => hc d (by simp [hd])), rfl⟩⟩
theorem tup_hav : ∀ n, n < 5 → ∀ os, os ∈ tup n n → os.Nodup → hav os 0 = 2 ^ n - 1 := by decide +kernel
theorem hav_all {n : Nat} (hn : n ≤ 4) {os : List Nat} (hl : os.length = n) (hc : ∀ c, c ∈ os → c < n) (hnd : os.Nodup) : hav os 0 = 2 ^ n - 1 := tup_hav n (by omega) os (mem_tup n os hl hc) hnd
end Go.Proofs.YtjfkniknmkcdcaaGreatDoor
