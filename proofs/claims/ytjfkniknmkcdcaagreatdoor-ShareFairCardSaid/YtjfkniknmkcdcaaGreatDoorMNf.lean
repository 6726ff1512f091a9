/- Texts of this claim, joined: Dv, Ne, Nf. -/
import Derived.Test.YtjfkniknmkcdcaaGreatDoorMNb
import Derived.Test.YtjfkniknmkcdcaaGreatDoorMNd
import Derived.Deep.DeepCutAuto
import Derived.Deep.CutBlock
namespace Go.Proofs.YtjfkniknmkcdcaaGreatDoor.Dv
open Nu

/-- the digit T of u2 u1 by y1 y0, base B -/
structure Step (B y1 y0 u2 u1 T : Int) : Prop where
  y1lo : B ≤ 2 * y1
  y1hi : y1 < B
  y0lo : 0 ≤ y0
  y0hi : y0 < B
  u2lo : 0 ≤ u2
  u2hi : u2 < y1 * B + y0
  u1lo : 0 ≤ u1
  u1hi : u1 < B
  low : T * (y1 * B + y0) ≤ u2 * B + u1
  high : u2 * B + u1 < (T + 1) * (y1 * B + y0)

theorem Step.mk' {B y1 y0 u2 u1 : Int} (h1 : B ≤ 2 * y1) (h2 : y1 < B) (h3 : 0 ≤ y0) (h4 : y0 < B) (h5 : 0 ≤ u2) (h6 : u2 < y1 * B + y0) (h7 : 0 ≤ u1) (h8 : u1 < B) :
    Step B y1 y0 u2 u1 ((u2 * B + u1) / (y1 * B + y0)) := by
  have hY : 0 < y1 * B + y0 := by omega
  refine ⟨h1, h2, h3, h4, h5, h6, h7, h8, Int.ediv_mul_le _ (by omega), ?_⟩
  have := Int.lt_ediv_add_one_mul_self (u2 * B + u1) hY
  exact this

section
variable {B y1 y0 u2 u1 T : Int} (S : Step B y1 y0 u2 u1 T)
include S
theorem Step.ypos : 0 < y1 := by have := S.y1lo; have := S.y1hi; omega
theorem Step.nonneg : 0 ≤ T := by
  have hy := S.ypos
  have hY : 0 < y1 * B + y0 := by
    have := Int.mul_pos hy (show 0 < B by have := S.y1hi; omega)
    have := S.y0lo; omega
  have h := S.high
  have h2 : 0 < (T + 1) * (y1 * B + y0) := by
    have := Int.mul_nonneg S.u2lo (show 0 ≤ B by have := S.y1hi; omega)
    have := S.u1lo; omega
  have := Int.pos_of_mul_pos_left h2 hY
  omega
theorem Step.lt : T < B := by
  have hB : 0 < B := by have := S.y1hi; have := S.ypos; omega
  have hY : 0 < y1 * B + y0 := by
    have := Int.mul_pos S.ypos hB
    have := S.y0lo; omega
  have h1 : (u2 + 1) * B ≤ (y1 * B + y0) * B := Int.mul_le_mul_of_nonneg_right (by have := S.u2hi; omega) (by omega)
  have h2 : T * (y1 * B + y0) < B * (y1 * B + y0) := by
    rw [Int.add_mul] at h1
    have := S.low; have := S.u1hi
    rw [Int.mul_comm B]
    omega
  exact Int.lt_of_mul_lt_mul_right h2 (by omega)
theorem Step.le_of {q : Int} (h : q * y1 * B + q * y0 ≤ u2 * B + u1) : q ≤ T := by
  have hB : 0 < B := by have := S.y1hi; have := S.ypos; omega
  have hY : 0 < y1 * B + y0 := by
    have := Int.mul_pos S.ypos hB
    have := S.y0lo; omega
  have h1 : q * (y1 * B + y0) < (T + 1) * (y1 * B + y0) := by
    rw [Int.mul_add, ← Int.mul_assoc]
    have := S.high; omega
  have := Int.lt_of_mul_lt_mul_right h1 (by omega)
  omega
/-- the first guess is not too small -/
theorem Step.start : T ≤ u2 / y1 := by
  have hB : 0 < B := by have := S.y1hi; have := S.ypos; omega
  have h1 := S.low
  have h2 : 0 ≤ T * y0 := Int.mul_nonneg S.nonneg S.y0lo
  rw [Int.mul_add, ← Int.mul_assoc] at h1
  have h3 : T * y1 < u2 + 1 := by
    have h4 : (T * y1) * B < (u2 + 1) * B := by rw [Int.add_mul]; have := S.u1hi; omega
    exact Int.lt_of_mul_lt_mul_right h4 (by omega)
  exact Int.le_ediv_of_mul_le S.ypos (by omega)
/-- a guess that is too great is lowered -/
theorem Step.down {q r : Int} (hq : q * y1 + r = u2) (h : B ≤ q ∨ B * r + u1 < q * y0) : T ≤ q - 1 := by
  rcases h with h | h
  · have := S.lt; omega
  · apply Classical.byContradiction
    intro hn
    have hle : q ≤ T := by omega
    have h1 : q * y1 ≤ T * y1 := Int.mul_le_mul_of_nonneg_right hle (Int.le_of_lt S.ypos)
    have h2 : q * y0 ≤ T * y0 := Int.mul_le_mul_of_nonneg_right hle S.y0lo
    have h3 := S.low
    have hB : 0 < B := by have := S.y1hi; have := S.ypos; omega
    rw [Int.mul_add, ← Int.mul_assoc] at h3
    have h4 : q * y1 * B ≤ T * y1 * B := Int.mul_le_mul_of_nonneg_right h1 (by omega)
    have h5 : (q * y1 + r) * B = u2 * B := by rw [hq]
    rw [Int.add_mul, Int.mul_comm r] at h5
    omega
/-- a guess that passes is the digit -/
theorem Step.done {q r : Int} (hq : q * y1 + r = u2) (hT : T ≤ q) (h : q * y0 ≤ B * r + u1) : q = T := by
  have h5 : (q * y1 + r) * B = u2 * B := by rw [hq]
  rw [Int.add_mul, Int.mul_comm r] at h5
  have := S.le_of (q := q) (by omega)
  omega
/-- where what is left has grown out of a digit, the guess is the digit -/
theorem Step.brk {q r : Int} (hq : q * y1 + r = u2) (hT : T ≤ q) (h : B ≤ r) : q = T := by
  have hB : 0 < B := by have := S.y1hi; have := S.ypos; omega
  have h0 := S.nonneg
  have h1 : q * y1 < B * y1 := by
    rw [Int.mul_comm B]
    have := S.u2hi; have := S.y0hi; omega
  have h2 : q < B := Int.lt_of_mul_lt_mul_right h1 (Int.le_of_lt S.ypos)
  refine S.done hq hT ?_
  have h3 : q * y0 ≤ B * y0 := Int.mul_le_mul_of_nonneg_right (by omega) S.y0lo
  have h4 : B * y0 ≤ B * r := Int.mul_le_mul_of_nonneg_left (by have := S.y0hi; omega) (by omega)
  have := S.u1lo
  omega
/-- what is left behind the digit -/
theorem Step.left : 0 ≤ u2 * B + u1 - T * (y1 * B + y0) ∧ u2 * B + u1 - T * (y1 * B + y0) < y1 * B + y0 := by
  have h1 := S.low
  have h2 := S.high
  rw [Int.add_mul, Int.one_mul] at h2
  omega
end
end Go.Proofs.YtjfkniknmkcdcaaGreatDoor.Dv

namespace Go.Proofs.YtjfkniknmkcdcaaGreatDoor
open Go.RowKit K Nu

theorem bel_drew {w w' : World} (h : ∃ k, w' = w.drewN k) : Below w.heap.size w w' := by
  obtain ⟨k, rfl⟩ := h; exact bdn (Below.refl _ _) k

set_option maxRecDepth 100000 in
set_option maxHeartbeats 2000000 in
theorem div64_zero (lo y : Int) (w : World) (hl0 : 0 ≤ lo) (hl1 : lo < 18446744073709551616) (hy0 : 0 < y) (hy1 : y < 18446744073709551616) :
    Calls Tryz.prog 113 #[.int .u64 0, .int .u64 lo, .int .u64 y] w fun e w' => e = .returned (.tuple #[.int .u64 (lo / y), .int .u64 (lo % y)]) ∧ ∃ k, w' = w.drewN k := by
  have t1 : (y == 0) = false := beq_eq_false_iff_ne.2 (by omega)
  have t2 : decide (y ≤ 0) = false := decide_eq_false (by omega)
  go_enter Tryz.func113, Tryz.ntmps113
  go_wp2
  go_quiet (fail)
  go_wp2
  go_ret2
  exact ⟨rfl, _, rfl⟩

theorem bitLenAux_bl : ∀ (f x : Nat), x < 2 ^ f → Lib.bitLenAux f x = bl x
  | 0, x, h => by
    have : x = 0 := by simpa using h
    subst this; rfl
  | f + 1, x, h => by
    show (if x = 0 then 0 else 1 + Lib.bitLenAux f (x / 2)) = bl x
    by_cases h0 : x = 0
    · subst h0; rfl
    · rw [if_neg h0, bitLenAux_bl f (x / 2) (by rw [Nat.pow_succ] at h; omega)]
      unfold bl
      rw [if_neg h0, Nat.log2_def x]
      by_cases h2 : 2 ≤ x
      · rw [if_pos h2, if_neg (by omega)]; omega
      · rw [if_neg h2, if_pos (by omega)]
theorem bitLen_bl {x : Nat} (h : x < 18446744073709551616) : Lib.bitLen x = bl x := bitLenAux_bl 64 x h
theorem bitLen_pos {y : Nat} (hy : 0 < y) (hy1 : y < 18446744073709551616) : 1 ≤ Lib.bitLen y ∧ Lib.bitLen y ≤ 64 ∧ 9223372036854775808 ≤ y * 2 ^ (64 - Lib.bitLen y) ∧ y * 2 ^ (64 - Lib.bitLen y) < 18446744073709551616 := by
  rw [bitLen_bl hy1]
  have h1 := bl_pos (n := y) (by omega)
  have h2 : bl y ≤ 64 := bl_le hy1
  have h3 := two_pow_bl (n := y) (by omega)
  have h4 := lt_bl y
  refine ⟨h1, h2, ?_, ?_⟩
  · have h5 : 2 ^ (bl y - 1) * 2 ^ (64 - bl y) ≤ y * 2 ^ (64 - bl y) := Nat.mul_le_mul_right _ h3
    rw [← Nat.pow_add, show bl y - 1 + (64 - bl y) = 63 by omega] at h5
    exact h5
  · have h5 : y * 2 ^ (64 - bl y) < 2 ^ bl y * 2 ^ (64 - bl y) := Nat.mul_lt_mul_of_pos_right h4 (Nat.two_pow_pos _)
    rw [← Nat.pow_add, show bl y + (64 - bl y) = 64 by omega] at h5
    exact h5
theorem and_u64 {a : Int} (h0 : 0 ≤ a) (h1 : a < 18446744073709551616) : bits .and .u64 a 4294967295 = a % 4294967296 := by
  obtain ⟨A, rfl⟩ := Int.eq_ofNat_of_zero_le h0
  rw [Mul64.maskN A (by omega)]; rfl

set_option maxRecDepth 100000 in
set_option maxHeartbeats 4000000 in
theorem div64_pos (hi lo y : Int) (w : World) (hh0 : 0 < hi) (hh1 : hi < y) (hl0 : 0 ≤ lo) (hl1 : lo < 18446744073709551616) (hy1 : y < 18446744073709551616) :
    Calls Tryz.prog 113 #[.int .u64 hi, .int .u64 lo, .int .u64 y] w fun e w' => e = .returned (.tuple #[.int .u64 ((hi * 18446744073709551616 + lo) / y), .int .u64 ((hi * 18446744073709551616 + lo) % y)]) ∧ ∃ k, w' = w.drewN k := by
  have t1 : (y == 0) = false := beq_eq_false_iff_ne.2 (by omega)
  have t2 : decide (y ≤ hi) = false := decide_eq_false (by omega)
  have t3 : (hi == 0) = false := beq_eq_false_iff_ne.2 (by omega)
  obtain ⟨b1, b2, b3, b4⟩ := bitLen_pos (y := y.toNat) (by omega) (by omega)
  obtain ⟨s, hs⟩ : ∃ s : Nat, 64 - Lib.bitLen y.toNat = s := ⟨_, rfl⟩
  have hlz := lz64_any y (by omega) (by omega)
  rw [show (64 : Int) - (Lib.bitLen y.toNat : Int) = (s : Int) by omega] at hlz
  rw [hs] at b3 b4
  have hs2 : s ≤ 63 := by omega
  obtain ⟨Y, hY⟩ : ∃ Y, IntKind.u64.wrap (y * 2 ^ s) = Y := ⟨_, rfl⟩
  obtain ⟨y1, hY1⟩ : ∃ y1, Y / 4294967296 = y1 := ⟨_, rfl⟩
  obtain ⟨y0, hY0⟩ : ∃ y0, bits BinOp.and IntKind.u64 Y 4294967295 = y0 := ⟨_, rfl⟩
  obtain ⟨u2, hu2⟩ : ∃ u2, bits BinOp.or IntKind.u64 (IntKind.u64.wrap (hi * 2 ^ s)) (lo / 2 ^ (64 - s)) = u2 := ⟨_, rfl⟩
  obtain ⟨ul, hul⟩ : ∃ ul, IntKind.u64.wrap (lo * 2 ^ s) = ul := ⟨_, rfl⟩
  obtain ⟨u1, hu1⟩ : ∃ u1, ul / 4294967296 = u1 := ⟨_, rfl⟩
  obtain ⟨u0, hu0⟩ : ∃ u0, bits BinOp.and IntKind.u64 ul 4294967295 = u0 := ⟨_, rfl⟩
  have hE : Y = y1 * 4294967296 + y0 ∧ 2147483648 ≤ y1 ∧ y1 < 4294967296 ∧ 0 ≤ y0 ∧ y0 < 4294967296 ∧ Y = y * 2 ^ s := by
    have hb3 : 9223372036854775808 ≤ y * 2 ^ s := by
      have := Int.ofNat_le.2 b3
      rw [Int.natCast_mul, Int.natCast_pow, Int.toNat_of_nonneg (by omega)] at this
      exact this
    have hb4 : y * 2 ^ s < 18446744073709551616 := by
      have := Int.ofNat_lt.2 b4
      rw [Int.natCast_mul, Int.natCast_pow, Int.toNat_of_nonneg (by omega)] at this
      exact this
    have hYe : Y = y * 2 ^ s := by rw [← hY, wrap64u]; exact Int.emod_eq_of_lt (by omega) hb4
    rw [and_u64 (by omega) (by omega)] at hY0
    refine ⟨by omega, by omega, by omega, by omega, by omega, hYe⟩
  have hU : u2 * 18446744073709551616 + (u1 * 4294967296 + u0) = (hi * 18446744073709551616 + lo) * 2 ^ s ∧ 0 ≤ u2 ∧ u2 < Y ∧ 0 ≤ u1 ∧ u1 < 4294967296 ∧ 0 ≤ u0 ∧ u0 < 4294967296 := by
    obtain ⟨e1, e2, e3, e4, e5, e6⟩ := hE
    have hS : (0 : Int) < 2 ^ s := Int.pow_pos (by decide)
    have hTU : (2 : Int) ^ (64 - s) * 2 ^ s = 18446744073709551616 := by
      have := pow_split (s := s) (by omega)
      have h7 : (2 : Int) ^ (64 - s) * 2 ^ s = ((2 ^ s * 2 ^ (64 - s) : Nat) : Int) := by
        rw [Int.natCast_mul, Int.natCast_pow, Int.natCast_pow, Int.mul_comm]; rfl
      rw [h7, this]; rfl
    have h0 := shl_or (s := s) (x := lo) (c := 0) (by omega) hl0 hl1 (by omega) hS (by omega)
    obtain ⟨_, l2, l3, l4, l5, l6⟩ := h0
    have h1 := shl_or (s := s) (x := hi) (c := lo / 2 ^ (64 - s)) (by omega) (by omega) (by omega) l5 l6 (Int.lt_of_le_of_lt (Int.ediv_le_self _ hl0) hl1)
    obtain ⟨k1, k2, k3, k4, k5, k6⟩ := h1
    have hhi : hi % 2 ^ (64 - s) = hi := by
      apply Int.emod_eq_of_lt (by omega)
      have h2 : hi * 2 ^ s < 2 ^ (64 - s) * 2 ^ s := by
        rw [hTU]
        have := Int.mul_lt_mul_of_pos_right hh1 hS
        omega
      exact Int.lt_of_mul_lt_mul_right h2 (Int.le_of_lt hS)
    rw [k1, hhi] at hu2
    rw [hhi] at k3
    have hule : ul = (lo % 2 ^ (64 - s)) * 2 ^ s := by rw [← hul, wrap64u, l2]; omega
    rw [and_u64 (by omega) (by omega)] at hu0
    have hsum : u2 * 18446744073709551616 + (u1 * 4294967296 + u0) = (hi * 18446744073709551616 + lo) * 2 ^ s := by
      have h3 : u1 * 4294967296 + u0 = ul := by omega
      rw [h3, hule, ← hu2, Int.add_mul (hi * 18446744073709551616) lo, l2]
      generalize (2 : Int) ^ s = T at *
      grind
    refine ⟨hsum, by omega, ?_, by omega, by omega, by omega, by omega⟩
    have h4 : (hi * 18446744073709551616 + lo) * 2 ^ s < Y * 18446744073709551616 := by
      rw [e6]
      have h5 : (hi + 1) * 2 ^ s ≤ y * 2 ^ s := Int.mul_le_mul_of_nonneg_right (by omega) (Int.le_of_lt hS)
      have h6 : (hi * 18446744073709551616 + lo) * 2 ^ s < ((hi + 1) * 18446744073709551616) * 2 ^ s := Int.mul_lt_mul_of_pos_right (by omega) hS
      have h7 : ((hi + 1) * 18446744073709551616) * 2 ^ s = ((hi + 1) * 2 ^ s) * 18446744073709551616 := by
        generalize (2 : Int) ^ s = T at *
        grind
      omega
    omega
  obtain ⟨hE1, hE2, hE3, hE4, hE5, hE6⟩ := hE
  obtain ⟨hU1, hU2, hU3, hU4, hU5, hU6, hU7⟩ := hU
  have HLZ := Lib.hid hlz
  have HE1 := Lib.hid hE1
  have HE6 := Lib.hid hE6
  have HU1 := Lib.hid hU1
  have S1 : Dv.Step 4294967296 y1 y0 u2 u1 ((u2 * 4294967296 + u1) / (y1 * 4294967296 + y0)) := Dv.Step.mk' (by omega) hE3 hE4 hE5 hU2 (by omega) hU4 hU5
  obtain ⟨T1, hT1⟩ : ∃ T1, (u2 * 4294967296 + u1) / (y1 * 4294967296 + y0) = T1 := ⟨_, rfl⟩
  rw [hT1] at S1
  clear hT1
  have hst := S1.start
  have hq1 : u2 / y1 * y1 ≤ u2 := Int.ediv_mul_le _ (by omega)
  have hq2 : u2 < (u2 / y1 + 1) * y1 := Int.lt_ediv_add_one_mul_self u2 (by omega)
  rw [Int.add_mul, Int.one_mul] at hq2
  have hq3 : 0 ≤ u2 / y1 * y1 := Int.mul_nonneg (by have := S1.nonneg; omega) (by omega)
  have hq4 : 0 ≤ u2 / y1 := by have := S1.nonneg; omega
  have hr1 : 0 ≤ u2 - u2 / y1 * y1 := by omega
  have hr2 : u2 - u2 / y1 * y1 < 4294967296 := by omega
  have HR3 := Lib.hid (show u2 / y1 * y1 + (u2 - u2 / y1 * y1) = u2 by omega)
  have HST := Lib.hid hst
  have y1ne : (y1 == 0) = false := beq_eq_false_iff_ne.2 (by omega)
  have u2u : u2 < 18446744073709551616 := by omega
  clear hlz b1 b2 b3 b4 hs hE1 hE6 hU1 hq2 hst
  go_enter Tryz.func113, Tryz.ntmps113
  go_upto_block 0 with (go_at_call 114; refine (HLZ.out _).mono ?_; rintro e w' ⟨rfl, rfl⟩)
  go_cut [15, 16] (fun q r wc => q = .int .u64 T1 ∧ (∃ r', r = .int .u64 r') ∧ wc = w)
  case first =>
    go_wp2_with fail
    go_loopw [15, 16] (fun qv rv wr => ∃ q r : Int, qv = .int .u64 q ∧ rv = .int .u64 r ∧ Hid (q * y1 + r = u2) ∧ Hid (T1 ≤ q) ∧ 0 ≤ r ∧ r < 4294967296 ∧ wr = w) (fun qv _ _ => (intOf qv).toNat)
    case atStart => exact ⟨_, _, rfl, rfl, HR3, HST, hr1, hr2, rfl⟩
    case round =>
      clear hr1 hr2 HR3 HST hq1 hq3 hq4
      obtain ⟨q, r, rfl, rfl, hqr, hTq, hr0, hr1, hwr⟩ := hrel
      subst hwr
      have hT0 := S1.nonneg
      have hq0 : 0 ≤ q := by have := hTq.out; omega
      have hqu : 0 ≤ q * y1 := Int.mul_nonneg hq0 (by omega)
      have hqb : q < 18446744073709551616 := by
        have h1 : q * 1 ≤ q * y1 := Int.mul_le_mul_of_nonneg_left (by omega) hq0
        have := hqr.out; omega
      have hdown : (4294967296 ≤ q ∨ 4294967296 * r + u1 < q * y0) → T1 ≤ q - 1 := fun h => S1.down hqr.out h
      have HD := Lib.hid hdown
      have hqr1 : (q - 1) * y1 + (r + y1) = u2 := by rw [Int.sub_mul, Int.one_mul]; have := hqr.out; omega
      have HQ1 := Lib.hid hqr1
      have HS1 := Lib.hid S1
      clear hdown hqr1 S1
      by_cases hqB : 4294967296 ≤ q
      · have c1 : decide (4294967296 ≤ q) = true := decide_eq_true hqB
        have hT := HD.out (.inl hqB)
        have h1q : 1 ≤ q := by omega
        by_cases hb : 4294967296 ≤ r + y1
        · have HQ' := Lib.hid (HS1.out.brk HQ1.out hT hb)
          have c2 : decide (4294967296 ≤ r + y1) = true := decide_eq_true hb
          clear hb hqB hT
          go_wp2_with fail
          go_meet
          case rel => exact ⟨by rw [HQ'.out], ⟨_, rfl⟩, by first | rfl | trivial⟩
        · have c2 : decide (4294967296 ≤ r + y1) = false := decide_eq_false hb
          have HT := Lib.hid hT
          clear hqB hT
          go_wp2_with fail
          go_roundw
          case rel => exact ⟨q - 1, r + y1, rfl, rfl, HQ1, HT, by omega, by omega, by first | rfl | trivial⟩
          case measure => simp [intOf]; omega
      · have c1 : decide (4294967296 ≤ q) = false := decide_eq_false hqB
        have hp0 : 0 ≤ q * y0 := Int.mul_nonneg hq0 (by omega)
        have hp1 : q * y0 ≤ 4294967295 * 4294967295 := Int.mul_le_mul (by omega) (by omega) (by omega) (by omega)
        by_cases hgt : 4294967296 * r + u1 < q * y0
        · have c3 : decide (4294967296 * r + u1 < q * y0) = true := decide_eq_true hgt
          have hT := HD.out (.inr hgt)
          have h1q : 1 ≤ q := by omega
          by_cases hb : 4294967296 ≤ r + y1
          · have HQ' := Lib.hid (HS1.out.brk HQ1.out hT hb)
            have c2 : decide (4294967296 ≤ r + y1) = true := decide_eq_true hb
            clear hb hgt hT
            go_wp2_with fail
            go_meet
            case rel => exact ⟨by rw [HQ'.out], ⟨_, rfl⟩, by first | rfl | trivial⟩
          · have c2 : decide (4294967296 ≤ r + y1) = false := decide_eq_false hb
            have HT := Lib.hid hT
            clear hgt hT
            go_wp2_with fail
            go_roundw
            case rel => exact ⟨q - 1, r + y1, rfl, rfl, HQ1, HT, by omega, by omega, by first | rfl | trivial⟩
            case measure => simp [intOf]; omega
        · have c3 : decide (4294967296 * r + u1 < q * y0) = false := decide_eq_false hgt
          have HQ' := Lib.hid (HS1.out.done hqr.out hTq.out (by omega))
          clear hgt
          go_wp2_with fail
          go_meet
          case rel => exact ⟨by rw [HQ'.out], ⟨_, rfl⟩, by first | rfl | trivial⟩
  case rest =>
    obtain ⟨rfl, ⟨r', rfl⟩, hwc⟩ := hcut
    subst hwc
    have hleft := S1.left
    rw [← HE1.out] at hleft
    obtain ⟨R1, hR1e⟩ : ∃ R1, u2 * 4294967296 + u1 - T1 * Y = R1 := ⟨_, rfl⟩
    rw [hR1e] at hleft
    have hT1n := S1.nonneg
    have hT1l := S1.lt
    have HR1E := Lib.hid hR1e
    have hTY : 0 ≤ T1 * Y := Int.mul_nonneg hT1n (by omega)
    have hR1 : IntKind.u64.wrap (IntKind.u64.wrap (IntKind.u64.wrap (u2 * 4294967296) + u1) - IntKind.u64.wrap (T1 * Y)) = R1 := by
      rw [wrap64u, wrap64u, wrap64u, wrap64u]; omega
    obtain ⟨hl0', hl1'⟩ := hleft
    clear hR1e hr1 hr2 HR3 HST hq1 hq3 hq4 hTY S1
    have S2 : Dv.Step 4294967296 y1 y0 R1 u0 ((R1 * 4294967296 + u0) / (y1 * 4294967296 + y0)) := Dv.Step.mk' (by omega) hE3 hE4 hE5 hl0' (by have := HE1.out; omega) hU6 hU7
    obtain ⟨T0, hT0⟩ : ∃ T0, (R1 * 4294967296 + u0) / (y1 * 4294967296 + y0) = T0 := ⟨_, rfl⟩
    rw [hT0] at S2
    clear hT0
    have hst := S2.start
    have hq1 : R1 / y1 * y1 ≤ R1 := Int.ediv_mul_le _ (by omega)
    have hq2 : R1 < (R1 / y1 + 1) * y1 := Int.lt_ediv_add_one_mul_self R1 (by omega)
    rw [Int.add_mul, Int.one_mul] at hq2
    have hq3 : 0 ≤ R1 / y1 * y1 := Int.mul_nonneg (by have := S2.nonneg; omega) (by omega)
    have hq4 : 0 ≤ R1 / y1 := by have := S2.nonneg; omega
    have hr1 : 0 ≤ R1 - R1 / y1 * y1 := by omega
    have hr2 : R1 - R1 / y1 * y1 < 4294967296 := by omega
    have HR3 := Lib.hid (show R1 / y1 * y1 + (R1 - R1 / y1 * y1) = R1 by omega)
    have HST := Lib.hid hst
    have r1u : R1 < 18446744073709551616 := by omega
    clear hq2 hst
    go_upto_block 2 with fail
    go_cut [18, 16] (fun q r wd => q = .int .u64 T0 ∧ (∃ r', r = .int .u64 r') ∧ wd = wc)
    case first =>
      go_wp2_with fail
      go_loopw [18, 16] (fun qv rv wr => ∃ q r : Int, qv = .int .u64 q ∧ rv = .int .u64 r ∧ Hid (q * y1 + r = R1) ∧ Hid (T0 ≤ q) ∧ 0 ≤ r ∧ r < 4294967296 ∧ wr = wc) (fun qv _ _ => (intOf qv).toNat)
      case atStart => exact ⟨_, _, rfl, rfl, HR3, HST, hr1, hr2, rfl⟩
      case round =>
        clear hr1 hr2 HR3 HST hq1 hq3 hq4
        obtain ⟨q, r, rfl, rfl, hqr, hTq, hr0, hr1, hwr⟩ := hrel
        subst hwr
        have hT0 := S2.nonneg
        have hq0 : 0 ≤ q := by have := hTq.out; omega
        have hqu : 0 ≤ q * y1 := Int.mul_nonneg hq0 (by omega)
        have hqb : q < 18446744073709551616 := by
          have h1 : q * 1 ≤ q * y1 := Int.mul_le_mul_of_nonneg_left (by omega) hq0
          have := hqr.out; omega
        have hdown : (4294967296 ≤ q ∨ 4294967296 * r + u0 < q * y0) → T0 ≤ q - 1 := fun h => S2.down hqr.out h
        have HD := Lib.hid hdown
        have hqr1 : (q - 1) * y1 + (r + y1) = R1 := by rw [Int.sub_mul, Int.one_mul]; have := hqr.out; omega
        have HQ1 := Lib.hid hqr1
        have HS2 := Lib.hid S2
        clear hdown hqr1 S2
        by_cases hqB : 4294967296 ≤ q
        · have c1 : decide (4294967296 ≤ q) = true := decide_eq_true hqB
          have hT := HD.out (.inl hqB)
          have h1q : 1 ≤ q := by omega
          by_cases hb : 4294967296 ≤ r + y1
          · have HQ' := Lib.hid (HS2.out.brk HQ1.out hT hb)
            have c2 : decide (4294967296 ≤ r + y1) = true := decide_eq_true hb
            clear hb hqB hT
            go_wp2_with fail
            go_meet
            case rel => exact ⟨by rw [HQ'.out], ⟨_, rfl⟩, by first | rfl | trivial⟩
          · have c2 : decide (4294967296 ≤ r + y1) = false := decide_eq_false hb
            have HT := Lib.hid hT
            clear hqB hT
            go_wp2_with fail
            go_roundw
            case rel => exact ⟨q - 1, r + y1, rfl, rfl, HQ1, HT, by omega, by omega, by first | rfl | trivial⟩
            case measure => simp [intOf]; omega
        · have c1 : decide (4294967296 ≤ q) = false := decide_eq_false hqB
          have hp0 : 0 ≤ q * y0 := Int.mul_nonneg hq0 (by omega)
          have hp1 : q * y0 ≤ 4294967295 * 4294967295 := Int.mul_le_mul (by omega) (by omega) (by omega) (by omega)
          by_cases hgt : 4294967296 * r + u0 < q * y0
          · have c3 : decide (4294967296 * r + u0 < q * y0) = true := decide_eq_true hgt
            have hT := HD.out (.inr hgt)
            have h1q : 1 ≤ q := by omega
            by_cases hb : 4294967296 ≤ r + y1
            · have HQ' := Lib.hid (HS2.out.brk HQ1.out hT hb)
              have c2 : decide (4294967296 ≤ r + y1) = true := decide_eq_true hb
              clear hb hgt hT
              go_wp2_with fail
              go_meet
              case rel => exact ⟨by rw [HQ'.out], ⟨_, rfl⟩, by first | rfl | trivial⟩
            · have c2 : decide (4294967296 ≤ r + y1) = false := decide_eq_false hb
              have HT := Lib.hid hT
              clear hgt hT
              go_wp2_with fail
              go_roundw
              case rel => exact ⟨q - 1, r + y1, rfl, rfl, HQ1, HT, by omega, by omega, by first | rfl | trivial⟩
              case measure => simp [intOf]; omega
          · have c3 : decide (4294967296 * r + u0 < q * y0) = false := decide_eq_false hgt
            have HQ' := Lib.hid (HS2.out.done hqr.out hTq.out (by omega))
            clear hgt
            go_wp2_with fail
            go_meet
            case rel => exact ⟨by rw [HQ'.out], ⟨_, rfl⟩, by first | rfl | trivial⟩
    case rest =>
      obtain ⟨rfl, ⟨r'', rfl⟩, hwc⟩ := hcut
      subst hwc
      have hleft := S2.left
      rw [← HE1.out] at hleft
      obtain ⟨R0, hR0e⟩ : ∃ R0, R1 * 4294967296 + u0 - T0 * Y = R0 := ⟨_, rfl⟩
      rw [hR0e] at hleft
      have hT0n := S2.nonneg
      have hT0l := S2.lt
      have hTY : 0 ≤ T0 * Y := Int.mul_nonneg hT0n (by omega)
      have hR0 : IntKind.u64.wrap (IntKind.u64.wrap (IntKind.u64.wrap (R1 * 4294967296) + u0) - IntKind.u64.wrap (T0 * Y)) = R0 := by
        rw [wrap64u, wrap64u, wrap64u, wrap64u]; omega
      have hS : (0 : Int) < 2 ^ s := Int.pow_pos (by decide)
      have hfin := divmod_scaled (N := hi * 18446744073709551616 + lo) (S := 2 ^ s) (Q := T1 * 4294967296 + T0) (y := y) (R := R0) hS (by
        rw [← HU1.out, ← HE6.out, Int.add_mul]
        have h1 := HR1E.out
        have h2 : T1 * 4294967296 * Y = (T1 * Y) * 4294967296 := by rw [Int.mul_assoc, Int.mul_comm 4294967296, ← Int.mul_assoc]
        omega) hleft.1 (by rw [← HE6.out]; exact hleft.2)
      have HF := Lib.hid hfin
      obtain ⟨g0, g1⟩ := hleft
      clear hfin hR0e hTY S2 hq1 hq3 hq4 hr1 hr2 HR3 HST
      go_wp2_with fail
      go_ret2
      rw [HF.out.1, HF.out.2]
      exact ⟨rfl, 0, rfl⟩

/-- Div64 is the quotient of two words by one, and what is left -/
theorem div64_any (hi lo y : Int) (w : World) (hh0 : 0 ≤ hi) (hh1 : hi < y) (hl0 : 0 ≤ lo) (hl1 : lo < 18446744073709551616) (hy1 : y < 18446744073709551616) :
    Calls Tryz.prog 113 #[.int .u64 hi, .int .u64 lo, .int .u64 y] w fun e w' => e = .returned (.tuple #[.int .u64 ((hi * 18446744073709551616 + lo) / y), .int .u64 ((hi * 18446744073709551616 + lo) % y)]) ∧ ∃ k, w' = w.drewN k := by
  by_cases h : hi = 0
  · subst h
    have := div64_zero lo y w hl0 hl1 (by omega) hy1
    simpa using this
  · exact div64_pos hi lo y w (by omega) hh1 hl0 hl1 hy1
end Go.Proofs.YtjfkniknmkcdcaaGreatDoor

namespace Go.Proofs.YtjfkniknmkcdcaaGreatDoor
open Go.RowKit K Nu

theorem set_snoc {l : List Int} {n j : Nat} (hj : l.length = j) (q : Int) (hn : j < n) : (l ++ List.replicate (n - j) 0).set j q = (l ++ [q]) ++ List.replicate (n - (j + 1)) 0 := by
  rw [List.set_append_right _ _ (by omega), hj, Nat.sub_self, List.append_assoc]
  congr 1
  rw [show n - j = (n - (j + 1)) + 1 by omega, List.replicate_succ]
  rfl
theorem set_pre {l : List Int} {k : Nat} (q : Int) : (List.replicate (k + 1) 0 ++ l).set k q = List.replicate k 0 ++ (q :: l) := by
  rw [List.replicate_succ', List.append_assoc, List.set_append_right _ _ (by simp)]
  simp

set_option maxRecDepth 100000 in
set_option maxHeartbeats 1000000 in
theorem short_any (A : Value) (u : List Int) (v : Int) (w : World) (hA : IsInts .u64 w A u) (hd : Dig W64 u) (hv0 : 0 < v) (hv1 : v < 18446744073709551616) (hn : u.length ≤ 2147483648) :
    Calls Tryz.prog 109 #[A, .int .u64 v] w fun e w' => ∃ (q : Value) (o : List Int), e = .returned (.tuple #[q, .int .u64 (dv W64 u % v)]) ∧ IsInts .u64 w' q o ∧ Dig W64 o ∧ dv W64 o = dv W64 u / v ∧ Below w.heap.size w w' := by
  obtain ⟨A, c0, rfl, hc, hm, hr⟩ := hA
  have hmk := mk_at (P := Tryz.prog) Tryz.underlying34 Tryz.info106 rfl .i64 .i64 (u.length : Int) u.length rfl (by unfold maxLen; omega) (by omega) (vs_replicate (k := .u64) (n := u.length) (x := 0))
  unfold maxLen at hm
  go_enter Tryz.func109, Tryz.ntmps109
  go_wp2
  go_loopw [8, 7] (fun iv rv wr => ∃ (i r : Int) (j : Nat) (o : List Int), iv = .int .i64 i ∧ i = j - 1 ∧ j ≤ u.length ∧ rv = .int .u64 r ∧ 0 ≤ r ∧ r < v ∧ Hid (o.length = u.length - j) ∧ Dig W64 o ∧ Hid (dv W64 (u.drop j) = dv W64 o * v + r) ∧
    Blk wr w.heap.size (vs .u64 (List.replicate j 0 ++ o)) 106 ∧ Below w.heap.size w wr) (fun iv _ _ => (intOf iv + 1).toNat)
  case atStart => exact ⟨_, 0, u.length, [], rfl, rfl, by omega, rfl, by omega, by omega, Lib.hid (by simp), Dig.nil _, Lib.hid (by rw [List.drop_length]; simp [dv]), by rw [List.append_nil]; exact Blk.new _ _ _, (Below.refl _ _).alloc (Nat.le_refl _) _⟩
  case round =>
    obtain ⟨i, r, j, o, rfl, hi, hj, rfl, hr0, hr1, ho, hdo, hval, hB, hbel⟩ := hrel
    rcases j with _ | k
    · have t1 : decide (0 ≤ i) = false := decide_eq_false (by omega)
      clear hi
      go_wp2
      go_ret2
      have h := hval.out
      rw [List.drop_zero] at h
      obtain ⟨h1, h2⟩ := divmod_of h hr0 hr1
      rw [List.replicate_zero, List.nil_append] at hB
      exact ⟨.slice (some ⟨w.heap.size, 0, none⟩) u.length u.length, o, by rw [h2]; rfl, hB.ints (by have := ho.out; omega) (by unfold maxLen; omega), hdo, h1.symm, hbel⟩
    · obtain rfl : i = (k : Int) := by omega
      obtain ⟨b1, o1, e1, hb1, hcell1⟩ := hr (by omega)
      subst e1
      have x1 := (hbel.cell (p := ⟨b1, o1 + k, none⟩) hb1).trans (hcell1 k (by omega))
      have hx := hd.at (by decide) k
      have xc := hB.at k (by simp; omega)
      have xf := hB.frozen k
      have HD := Lib.hid (drop_getD (l := u) (k := k) (by omega))
      generalize hxe : u.getD k 0 = x at *
      have HXE := Lib.hid hxe
      unfold W64 at hx
      obtain ⟨hx0, hx1⟩ := hx
      clear hxe hcell1 hi
      have hq0 : 0 ≤ (r * 18446744073709551616 + x) / v := Int.ediv_nonneg (by omega) (by omega)
      have hq1 : (r * 18446744073709551616 + x) / v < 18446744073709551616 := Int.ediv_lt_of_lt_mul hv0 (by
        have := Int.mul_le_mul_of_nonneg_right (show r + 1 ≤ v by omega) (show (0 : Int) ≤ 18446744073709551616 by decide)
        rw [Int.add_mul] at this
        rw [Int.mul_comm 18446744073709551616]
        omega)
      have hm0 := Int.emod_nonneg (r * 18446744073709551616 + x) (show v ≠ 0 by omega)
      have hm1 := Int.emod_lt_of_pos (r * 18446744073709551616 + x) hv0
      have hdm := Lib.hid (Int.mul_ediv_add_emod (r * 18446744073709551616 + x) v)
      have hdiv := Lib.hid (fun w => div64_any r x v w hr0 hr1 hx0 hx1 hv1)
      generalize (r * 18446744073709551616 + x) / v = q at *
      generalize (r * 18446744073709551616 + x) % v = m at *
      go_wp2_with fail
      refine (hdiv.out _).mono ?_
      rintro e w1 ⟨rfl, hdr⟩
      have hb2 := bel_drew hdr
      clear hdr
      have hbel1 := hbel.trans (hb2.mono hbel.size)
      have hB1 := hB.below hb2 hB.lt
      have xc1 := hB1.at k (by simp; omega)
      have xf1 := hB1.frozen k
      clear hb2
      go_wp2
      go_roundw
      case rel =>
        refine ⟨_, _, k, q :: o, rfl, rfl, by omega, rfl, hm0, hm1, Lib.hid (by have := ho.out; simp; omega), Dig.cons ⟨hq0, by unfold W64; omega⟩ hdo, Lib.hid ?_, ?_, hbel1.setCell (Nat.le_refl _) _⟩
        · rw [HD.out]
          show x + W64 * dv W64 (u.drop (k + 1)) = (q + W64 * dv W64 o) * v + m
          rw [hval.out]
          have h1 := hdm.out
          unfold W64
          grind
        · have h := hB1.set k (.int .u64 q)
          rw [vs_set, set_pre] at h
          exact h
      case measure => simp [intOf]

/-- what is guessed: the digit of the first three by the first two -/
def gv (a b c v w : Int) : Int := if v ≤ a then 18446744073709551615 else ((a * 18446744073709551616 + b) * 18446744073709551616 + c) / (v * 18446744073709551616 + w)
theorem gv_range {a b c v w : Int} (ha : 0 ≤ a) (hb0 : 0 ≤ b) (hb1 : b < 18446744073709551616) (hc0 : 0 ≤ c) (hc1 : c < 18446744073709551616) (hv : 0 < v) (hw : 0 ≤ w) : 0 ≤ gv a b c v w ∧ gv a b c v w < 18446744073709551616 := by
  unfold gv
  split
  · omega
  · refine ⟨Int.ediv_nonneg (by omega) (by omega), Int.ediv_lt_of_lt_mul (by omega) ?_⟩
    have := Int.mul_le_mul_of_nonneg_right (show a + 1 ≤ v by omega) (show (0 : Int) ≤ 18446744073709551616 * 18446744073709551616 by decide)
    rw [Int.add_mul] at this
    omega
theorem gv_low {T a b c v w : Int} (hv : 0 < v) (hw : 0 ≤ w) (hT1 : T < 18446744073709551616) (hT : T * (v * 18446744073709551616 + w) ≤ (a * 18446744073709551616 + b) * 18446744073709551616 + c) : T ≤ gv a b c v w := by
  unfold gv
  split
  · omega
  · exact Int.le_ediv_of_mul_le (by omega) hT
theorem guess_down {G v w a b c q r : Int} (hv : 0 < v) (hw : 0 ≤ w) (hG : G * (v * 18446744073709551616 + w) ≤ (a * 18446744073709551616 + b) * 18446744073709551616 + c) (hqr : q * v + r = a * 18446744073709551616 + b)
    (h : r * 18446744073709551616 + c < q * w) : G ≤ q - 1 := by
  apply Classical.byContradiction
  intro hn
  have h1 : q * v ≤ G * v := Int.mul_le_mul_of_nonneg_right (by omega) (by omega)
  have h2 : q * w ≤ G * w := Int.mul_le_mul_of_nonneg_right (by omega) hw
  rw [← hqr, Int.add_mul, Int.mul_add, ← Int.mul_assoc] at hG
  have h3 : q * v * 18446744073709551616 ≤ G * v * 18446744073709551616 := Int.mul_le_mul_of_nonneg_right h1 (by decide)
  omega
theorem guess_up {G v w a b c q r : Int} (hv : 0 < v) (hw : 0 ≤ w) (hG : (a * 18446744073709551616 + b) * 18446744073709551616 + c < (G + 1) * (v * 18446744073709551616 + w)) (hqr : q * v + r = a * 18446744073709551616 + b)
    (h : q * w ≤ r * 18446744073709551616 + c) : q ≤ G := by
  have h1 : q * (v * 18446744073709551616 + w) < (G + 1) * (v * 18446744073709551616 + w) := by
    rw [← hqr, Int.add_mul] at hG
    rw [Int.mul_add q, ← Int.mul_assoc]
    omega
  have := Int.lt_of_mul_lt_mul_right h1 (by omega)
  omega
theorem guess_start {G v w a b c : Int} (hG0 : 0 ≤ G) (hv : 0 < v) (hw : 0 ≤ w) (hc : c < 18446744073709551616) (hG : G * (v * 18446744073709551616 + w) ≤ (a * 18446744073709551616 + b) * 18446744073709551616 + c) : G ≤ (a * 18446744073709551616 + b) / v := by
  apply Int.le_ediv_of_mul_le hv
  rw [Int.mul_add, ← Int.mul_assoc] at hG
  have := Int.mul_nonneg hG0 hw
  omega

set_option maxRecDepth 100000 in
set_option maxHeartbeats 2000000 in
theorem guess_any (a b c v w : Int) (wd : World) (ha0 : 0 ≤ a) (hb0 : 0 ≤ b) (hb1 : b < 18446744073709551616) (hc0 : 0 ≤ c) (hc1 : c < 18446744073709551616) (hv0 : 0 < v) (hv1 : v < 18446744073709551616)
    (hw0 : 0 ≤ w) (hw1 : w < 18446744073709551616) :
    Calls Tryz.prog 116 #[.int .u64 a, .int .u64 b, .int .u64 c, .int .u64 v, .int .u64 w] wd fun e w' => e = .returned (.int .u64 (gv a b c v w)) ∧ ∃ m, w' = wd.drewN m := by
  have hgr := gv_range ha0 hb0 hb1 hc0 hc1 hv0 hw0
  by_cases hav : v ≤ a
  · have t1 : decide (v ≤ a) = true := decide_eq_true hav
    have hg : gv a b c v w = 18446744073709551615 := if_pos hav
    rw [hg]
    clear hav hg hgr
    go_enter Tryz.func116, Tryz.ntmps116
    go_wp2
    go_ret
    exact ⟨rfl, 0, rfl⟩
  · have t1 : decide (v ≤ a) = false := decide_eq_false hav
    obtain ⟨G, hG⟩ : ∃ G, gv a b c v w = G := ⟨_, rfl⟩
    rw [hG] at hgr ⊢
    have hGe : ((a * 18446744073709551616 + b) * 18446744073709551616 + c) / (v * 18446744073709551616 + w) = G := by rw [← hG]; exact (if_neg hav).symm
    have hGlo : G * (v * 18446744073709551616 + w) ≤ (a * 18446744073709551616 + b) * 18446744073709551616 + c := by rw [← hGe]; exact Int.ediv_mul_le _ (by omega)
    have hGhi : (a * 18446744073709551616 + b) * 18446744073709551616 + c < (G + 1) * (v * 18446744073709551616 + w) := by rw [← hGe]; exact Int.lt_ediv_add_one_mul_self _ (by omega)
    have hst := Lib.hid (guess_start hgr.1 hv0 hw0 hc1 hGlo)
    have hlow := Lib.hid (fun q r (hqr : q * v + r = a * 18446744073709551616 + b) => guess_down hv0 hw0 hGlo hqr)
    have hupp := Lib.hid (fun q r (hqr : q * v + r = a * 18446744073709551616 + b) => guess_up hv0 hw0 hGhi hqr)
    have hq1 : (a * 18446744073709551616 + b) / v < 18446744073709551616 := Int.ediv_lt_of_lt_mul hv0 (by
        have := Int.mul_le_mul_of_nonneg_right (show a + 1 ≤ v by omega) (show (0 : Int) ≤ 18446744073709551616 by decide)
        rw [Int.add_mul] at this
        rw [Int.mul_comm 18446744073709551616]
        omega)
    have hm0 := Int.emod_nonneg (a * 18446744073709551616 + b) (show v ≠ 0 by omega)
    have hm1 := Int.emod_lt_of_pos (a * 18446744073709551616 + b) hv0
    have hdm : (a * 18446744073709551616 + b) / v * v + (a * 18446744073709551616 + b) % v = a * 18446744073709551616 + b := by rw [Int.mul_comm]; exact Int.mul_ediv_add_emod _ v
    have HDM := Lib.hid hdm
    have hdiv := Lib.hid (fun w => div64_any a b v w ha0 (by omega) hb0 hb1 hv1)
    obtain ⟨hG0, hG1⟩ := hgr
    clear hG hGe hGlo hGhi hdm
    go_enter Tryz.func116, Tryz.ntmps116
    go_wp2_with fail
    refine (hdiv.out _).mono ?_
    rintro e w1 ⟨rfl, m1, rfl⟩
    go_wp2_with fail
    go_loopw [11, 12] (fun qv rv wr => ∃ q r : Int, qv = .int .u64 q ∧ rv = .int .u64 r ∧ Hid (q * v + r = a * 18446744073709551616 + b) ∧ G ≤ q ∧ q < 18446744073709551616 ∧ 0 ≤ r ∧ r < 18446744073709551616 ∧ wr = wd.drewN m1) (fun qv _ _ => (intOf qv).toNat)
    case atStart => exact ⟨_, _, rfl, rfl, HDM, hst.out, hq1, hm0, by omega, rfl⟩
    case round =>
      clear hst hq1 hm0 hm1 HDM hdiv
      obtain ⟨q, r, rfl, rfl, hqr, hTq, hq1, hr0, hr1, hwr⟩ := hrel
      subst hwr
      obtain ⟨Q, rfl⟩ := Int.eq_ofNat_of_zero_le (show 0 ≤ q by omega)
      obtain ⟨Wn, rfl⟩ := Int.eq_ofNat_of_zero_le hw0
      have hm := Lib.hid (mul64_any Q Wn (by omega) (by omega))
      have hprod : (Q : Int) * (Wn : Int) = ((Q * Wn : Nat) : Int) := (Int.natCast_mul Q Wn).symm
      have hl := hlow.out Q r hqr.out
      have hu := hupp.out Q r hqr.out
      rw [hprod] at hl hu
      have hu2 : 18446744073709551616 ≤ r + v → (Q : Int) - 1 ≤ G := fun h => by
        refine hupp.out (Q - 1) (r + v) (by rw [Int.sub_mul, Int.one_mul]; have := hqr.out; omega) ?_
        have h1 : ((Q : Int) - 1) * (Wn : Int) ≤ 18446744073709551615 * 18446744073709551615 := by
          by_cases h0 : (Q : Int) = 0
          · rw [h0]; have : (0 - 1 : Int) * Wn = -Wn := by omega
            omega
          · exact Int.mul_le_mul (by omega) (by omega) (by omega) (by omega)
        omega
      have hpb := mul_bound (x := Q) (y := Wn) (by omega) (by omega)
      have HL := Lib.hid hl
      have HU := Lib.hid hu
      have HU2 := Lib.hid hu2
      obtain ⟨p, hp⟩ : ∃ p, Q * Wn = p := ⟨_, rfl⟩
      rw [hp] at hm HL HU hpb
      clear hp hprod hl hu hu2
      obtain ⟨hi', hhi⟩ : ∃ t : Nat, p / 18446744073709551616 = t := ⟨_, rfl⟩
      obtain ⟨lo', hlo⟩ : ∃ t : Nat, p % 18446744073709551616 = t := ⟨_, rfl⟩
      rw [hhi, hlo] at hm
      have HP := Lib.hid (show p = hi' * 18446744073709551616 + lo' by omega)
      have hlob : lo' < 18446744073709551616 := by omega
      clear hhi hlo
      have hadd := add64_run r v 0 hr0 (by omega) (by omega) (by omega)
      simp only [Int.add_zero] at hadd
      have hq1' : Q < 18446744073709551616 := by omega
      by_cases h1 : (hi' : Int) < r
      · have t2 : decide ((hi' : Int) < r) = true := decide_eq_true h1
        have hfin : (Q : Int) = G := by have := HU.out (by have := HP.out; omega); omega
        have HF := Lib.hid hfin
        clear h1 hfin
        go_wp2_with (go_at_call 97; refine (hm.out _).mono ?_; rintro e w' ⟨rfl, rfl⟩)
        go_ret
        exact ⟨by rw [← HF.out]; rfl, m1, rfl⟩
      · have t2 : decide ((hi' : Int) < r) = false := decide_eq_false h1
        by_cases h2 : (hi' : Int) = r
        · have t3 : ((hi' : Int) == r) = true := beq_iff_eq.2 h2
          by_cases h3 : (lo' : Int) ≤ c
          · have t4 : decide ((lo' : Int) ≤ c) = true := decide_eq_true h3
            have hfin : (Q : Int) = G := by have := HU.out (by have := HP.out; omega); omega
            have HF := Lib.hid hfin
            clear h1 h2 h3 hfin
            go_wp2_with (go_at_call 97; refine (hm.out _).mono ?_; rintro e w' ⟨rfl, rfl⟩)
            go_ret
            exact ⟨by rw [← HF.out]; rfl, m1, rfl⟩
          · have t4 : decide ((lo' : Int) ≤ c) = false := decide_eq_false h3
            have HDN := Lib.hid (HL.out (by have := HP.out; omega))
            clear h1 h2 h3
            have h1q : 1 ≤ Q := by have := HDN.out; omega
            by_cases hov : 18446744073709551616 ≤ r + v
            · have h5 : (r + v) / 18446744073709551616 = 1 := by omega
              have HF := Lib.hid (show (Q : Int) - 1 = G by have := HU2.out hov; have := HDN.out; omega)
              clear hov
              go_wp2_with (go_at_call 97; refine (hm.out _).mono ?_; rintro e w' ⟨rfl, rfl⟩)
              go_ret
              exact ⟨by rw [← HF.out]; rfl, m1, rfl⟩
            · have h5 : (r + v) / 18446744073709551616 = 0 := by omega
              have h6 : (r + v) % 18446744073709551616 = r + v := by omega
              go_wp2_with (go_at_call 97; refine (hm.out _).mono ?_; rintro e w' ⟨rfl, rfl⟩)
              go_roundw
              case rel =>
                have := HDN.out
                exact ⟨(Q : Int) - 1, r + v, rfl, rfl, Lib.hid (by rw [Int.sub_mul, Int.one_mul]; have := hqr.out; omega), by omega, by omega, by omega, by omega, by first | rfl | trivial⟩
              case measure => simp [intOf]; omega
        · have t3 : ((hi' : Int) == r) = false := beq_eq_false_iff_ne.2 h2
          have HDN := Lib.hid (HL.out (by have := HP.out; omega))
          clear h1 h2
          have h1q : 1 ≤ Q := by have := HDN.out; omega
          by_cases hov : 18446744073709551616 ≤ r + v
          · have h5 : (r + v) / 18446744073709551616 = 1 := by omega
            have HF := Lib.hid (show (Q : Int) - 1 = G by have := HU2.out hov; have := HDN.out; omega)
            clear hov
            go_wp2_with (go_at_call 97; refine (hm.out _).mono ?_; rintro e w' ⟨rfl, rfl⟩)
            go_ret
            exact ⟨by rw [← HF.out]; rfl, m1, rfl⟩
          · have h5 : (r + v) / 18446744073709551616 = 0 := by omega
            have h6 : (r + v) % 18446744073709551616 = r + v := by omega
            go_wp2_with (go_at_call 97; refine (hm.out _).mono ?_; rintro e w' ⟨rfl, rfl⟩)
            go_roundw
            case rel =>
              have := HDN.out
              exact ⟨(Q : Int) - 1, r + v, rfl, rfl, Lib.hid (by rw [Int.sub_mul, Int.one_mul]; have := hqr.out; omega), by omega, by omega, by omega, by omega, by first | rfl | trivial⟩
            case measure => simp [intOf]; omega
end Go.Proofs.YtjfkniknmkcdcaaGreatDoor
