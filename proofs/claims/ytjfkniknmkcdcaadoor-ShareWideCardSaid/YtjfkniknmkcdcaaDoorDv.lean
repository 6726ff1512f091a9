/- A digit of a quotient, guessed from the first digits and put right. No program. -/
import Derived.Test.YtjfkniknmkcdcaaDoorNm
namespace Go.Proofs.YtjfkniknmkcdcaaDoor.Dv
open Nu

/-- the digit T of u2 u1 by y1 y0, base B -/
structure Step (B y1 y0 u2 u1 T : Int) : Prop where
  y1lo : B ≤ 2 * y1
  y1hi : y1 < B
  y0lo : 0 ≤ y0
  y0hi : y0 < B
  u2lo : 0 ≤ u2
  u2hi : u2 < y1 * B + y0
  u1lo : 0 ≤ u1
  u1hi : u1 < B
  low : T * (y1 * B + y0) ≤ u2 * B + u1
  high : u2 * B + u1 < (T + 1) * (y1 * B + y0)

theorem Step.mk' {B y1 y0 u2 u1 : Int} (h1 : B ≤ 2 * y1) (h2 : y1 < B) (h3 : 0 ≤ y0) (h4 : y0 < B) (h5 : 0 ≤ u2) (h6 : u2 < y1 * B + y0) (h7 : 0 ≤ u1) (h8 : u1 < B) :
    Step B y1 y0 u2 u1 ((u2 * B + u1) / (y1 * B + y0)) := by
  have hY : 0 < y1 * B + y0 := by omega
  refine ⟨h1, h2, h3, h4, h5, h6, h7, h8, Int.ediv_mul_le _ (by omega), ?_⟩
  have := Int.lt_ediv_add_one_mul_self (u2 * B + u1) hY
  exact this

section
variable {B y1 y0 u2 u1 T : Int} (S : Step B y1 y0 u2 u1 T)
include S
theorem Step.ypos : 0 < y1 := by have := S.y1lo; have := S.y1hi; omega
theorem Step.nonneg : 0 ≤ T := by
  have hy := S.ypos
  have hY : 0 < y1 * B + y0 := by
    have := Int.mul_pos hy (show 0 < B by have := S.y1hi; omega)
    have := S.y0lo; omega
  have h := S.high
  have h2 : 0 < (T + 1) * (y1 * B + y0) := by
    have := Int.mul_nonneg S.u2lo (show 0 ≤ B by have := S.y1hi; omega)
    have := S.u1lo; omega
  have := Int.pos_of_mul_pos_left h2 hY
  omega
theorem Step.lt : T < B := by
  have hB : 0 < B := by have := S.y1hi; have := S.ypos; omega
  have hY : 0 < y1 * B + y0 := by
    have := Int.mul_pos S.ypos hB
    have := S.y0lo; omega
  have h1 : (u2 + 1) * B ≤ (y1 * B + y0) * B := Int.mul_le_mul_of_nonneg_right (by have := S.u2hi; omega) (by omega)
  have h2 : T * (y1 * B + y0) < B * (y1 * B + y0) := by
    rw [Int.add_mul] at h1
    have := S.low; have := S.u1hi
    rw [Int.mul_comm B]
    omega
  exact Int.lt_of_mul_lt_mul_right h2 (by omega)
theorem Step.le_of {q : Int} (h : q * y1 * B + q * y0 ≤ u2 * B + u1) : q ≤ T := by
  have hB : 0 < B := by have := S.y1hi; have := S.ypos; omega
  have hY : 0 < y1 * B + y0 := by
    have := Int.mul_pos S.ypos hB
    have := S.y0lo; omega
  have h1 : q * (y1 * B + y0) < (T + 1) * (y1 * B + y0) := by
    rw [Int.mul_add, ← Int.mul_assoc]
    have := S.high; omega
  have := Int.lt_of_mul_lt_mul_right h1 (by omega)
  omega
/-- the first guess is not too small -/
theorem Step.start : T ≤ u2 / y1 := by
  have hB : 0 < B := by have := S.y1hi; have := S.ypos; omega
  have h1 := S.low
  have h2 : 0 ≤ T * y0 := Int.mul_nonneg S.nonneg S.y0lo
  rw [Int.mul_add, ← Int.mul_assoc] at h1
  have h3 : T * y1 < u2 + 1 := by
    have h4 : (T * y1) * B < (u2 + 1) * B := by rw [Int.add_mul]; have := S.u1hi; omega
    exact Int.lt_of_mul_lt_mul_right h4 (by omega)
  exact Int.le_ediv_of_mul_le S.ypos (by omega)
/-- a guess that is too great is lowered -/
theorem Step.down {q r : Int} (hq : q * y1 + r = u2) (h : B ≤ q ∨ B * r + u1 < q * y0) : T ≤ q - 1 := by
  rcases h with h | h
  · have := S.lt; omega
  · apply Classical.byContradiction
    intro hn
    have hle : q ≤ T := by omega
    have h1 : q * y1 ≤ T * y1 := Int.mul_le_mul_of_nonneg_right hle (Int.le_of_lt S.ypos)
    have h2 : q * y0 ≤ T * y0 := Int.mul_le_mul_of_nonneg_right hle S.y0lo
    have h3 := S.low
    have hB : 0 < B := by have := S.y1hi; have := S.ypos; omega
    rw [Int.mul_add, ← Int.mul_assoc] at h3
    have h4 : q * y1 * B ≤ T * y1 * B := Int.mul_le_mul_of_nonneg_right h1 (by omega)
    have h5 : (q * y1 + r) * B = u2 * B := by rw [hq]
    rw [Int.add_mul, Int.mul_comm r] at h5
    omega
/-- a guess that passes is the digit -/
theorem Step.done {q r : Int} (hq : q * y1 + r = u2) (hT : T ≤ q) (h : q * y0 ≤ B * r + u1) : q = T := by
  have h5 : (q * y1 + r) * B = u2 * B := by rw [hq]
  rw [Int.add_mul, Int.mul_comm r] at h5
  have := S.le_of (q := q) (by omega)
  omega
/-- where what is left has grown out of a digit, the guess is the digit -/
theorem Step.brk {q r : Int} (hq : q * y1 + r = u2) (hT : T ≤ q) (h : B ≤ r) : q = T := by
  have hB : 0 < B := by have := S.y1hi; have := S.ypos; omega
  have h0 := S.nonneg
  have h1 : q * y1 < B * y1 := by
    rw [Int.mul_comm B]
    have := S.u2hi; have := S.y0hi; omega
  have h2 : q < B := Int.lt_of_mul_lt_mul_right h1 (Int.le_of_lt S.ypos)
  refine S.done hq hT ?_
  have h3 : q * y0 ≤ B * y0 := Int.mul_le_mul_of_nonneg_right (by omega) S.y0lo
  have h4 : B * y0 ≤ B * r := Int.mul_le_mul_of_nonneg_left (by have := S.y0hi; omega) (by omega)
  have := S.u1lo
  omega
/-- what is left behind the digit -/
theorem Step.left : 0 ≤ u2 * B + u1 - T * (y1 * B + y0) ∧ u2 * B + u1 - T * (y1 * B + y0) < y1 * B + y0 := by
  have h1 := S.low
  have h2 := S.high
  rw [Int.add_mul, Int.one_mul] at h2
  omega
end
end Go.Proofs.YtjfkniknmkcdcaaDoor.Dv
