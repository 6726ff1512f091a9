/- The walk of math/bits.Div64. -/
import Derived.Test.YtjfkniknmkcdcaaDoorNd
import Derived.Test.YtjfkniknmkcdcaaDoorDv
import Derived.Deep.DeepCutAuto
import Derived.Deep.CutBlock
namespace Go.Proofs.YtjfkniknmkcdcaaDoor
open Go.RowKit K Nu

theorem bel_drew {w w' : World} (h : ∃ k, w' = w.drewN k) : Below w.heap.size w w' := by
  obtain ⟨k, rfl⟩ := h; exact bdn (Below.refl _ _) k

set_option maxRecDepth 100000 in
set_option maxHeartbeats 2000000 in
theorem div64_zero (lo y : Int) (w : World) (hl0 : 0 ≤ lo) (hl1 : lo < 18446744073709551616) (hy0 : 0 < y) (hy1 : y < 18446744073709551616) :
    Calls Tryd.prog 95 #[.int .u64 0, .int .u64 lo, .int .u64 y] w fun e w' => e = .returned (.tuple #[.int .u64 (lo / y), .int .u64 (lo % y)]) ∧ ∃ k, w' = w.drewN k := by
  have t1 : (y == 0) = false := beq_eq_false_iff_ne.2 (by omega)
  have t2 : decide (y ≤ 0) = false := decide_eq_false (by omega)
  go_enter Tryd.func95, Tryd.ntmps95
  go_wp2
  go_quiet (fail)
  go_wp2
  go_ret2
  exact ⟨rfl, _, rfl⟩

theorem bitLenAux_bl : ∀ (f x : Nat), x < 2 ^ f → Lib.bitLenAux f x = bl x
  | 0, x, h => by
    have : x = 0 := by simpa using h
    subst this; rfl
  | f + 1, x, h => by
    show (if x = 0 then 0 else 1 + Lib.bitLenAux f (x / 2)) = bl x
    by_cases h0 : x = 0
    · subst h0; rfl
    · rw [if_neg h0, bitLenAux_bl f (x / 2) (by rw [Nat.pow_succ] at h; omega)]
      unfold bl
      rw [if_neg h0, Nat.log2_def x]
      by_cases h2 : 2 ≤ x
      · rw [if_pos h2, if_neg (by omega)]; omega
      · rw [if_neg h2, if_pos (by omega)]
theorem bitLen_bl {x : Nat} (h : x < 18446744073709551616) : Lib.bitLen x = bl x := bitLenAux_bl 64 x h
theorem bitLen_pos {y : Nat} (hy : 0 < y) (hy1 : y < 18446744073709551616) : 1 ≤ Lib.bitLen y ∧ Lib.bitLen y ≤ 64 ∧ 9223372036854775808 ≤ y * 2 ^ (64 - Lib.bitLen y) ∧ y * 2 ^ (64 - Lib.bitLen y) < 18446744073709551616 := by
  rw [bitLen_bl hy1]
  have h1 := bl_pos (n := y) (by omega)
  have h2 : bl y ≤ 64 := bl_le hy1
  have h3 := two_pow_bl (n := y) (by omega)
  have h4 := lt_bl y
  refine ⟨h1, h2, ?_, ?_⟩
  · have h5 : 2 ^ (bl y - 1) * 2 ^ (64 - bl y) ≤ y * 2 ^ (64 - bl y) := Nat.mul_le_mul_right _ h3
    rw [← Nat.pow_add, show bl y - 1 + (64 - bl y) = 63 by omega] at h5
    exact h5
  · have h5 : y * 2 ^ (64 - bl y) < 2 ^ bl y * 2 ^ (64 - bl y) := Nat.mul_lt_mul_of_pos_right h4 (Nat.two_pow_pos _)
    rw [← Nat.pow_add, show bl y + (64 - bl y) = 64 by omega] at h5
    exact h5
theorem and_u64 {a : Int} (h0 : 0 ≤ a) (h1 : a < 18446744073709551616) : bits .and .u64 a 4294967295 = a % 4294967296 := by
  obtain ⟨A, rfl⟩ := Int.eq_ofNat_of_zero_le h0
  rw [Mul64.maskN A (by omega)]; rfl

set_option maxRecDepth 100000 in
set_option maxHeartbeats 4000000 in
theorem div64_pos (hi lo y : Int) (w : World) (hh0 : 0 < hi) (hh1 : hi < y) (hl0 : 0 ≤ lo) (hl1 : lo < 18446744073709551616) (hy1 : y < 18446744073709551616) :
    Calls Tryd.prog 95 #[.int .u64 hi, .int .u64 lo, .int .u64 y] w fun e w' => e = .returned (.tuple #[.int .u64 ((hi * 18446744073709551616 + lo) / y), .int .u64 ((hi * 18446744073709551616 + lo) % y)]) ∧ ∃ k, w' = w.drewN k := by
  have t1 : (y == 0) = false := beq_eq_false_iff_ne.2 (by omega)
  have t2 : decide (y ≤ hi) = false := decide_eq_false (by omega)
  have t3 : (hi == 0) = false := beq_eq_false_iff_ne.2 (by omega)
  obtain ⟨b1, b2, b3, b4⟩ := bitLen_pos (y := y.toNat) (by omega) (by omega)
  obtain ⟨s, hs⟩ : ∃ s : Nat, 64 - Lib.bitLen y.toNat = s := ⟨_, rfl⟩
  have hlz := lz64_any y (by omega) (by omega)
  rw [show (64 : Int) - (Lib.bitLen y.toNat : Int) = (s : Int) by omega] at hlz
  rw [hs] at b3 b4
  have hs2 : s ≤ 63 := by omega
  obtain ⟨Y, hY⟩ : ∃ Y, IntKind.u64.wrap (y * 2 ^ s) = Y := ⟨_, rfl⟩
  obtain ⟨y1, hY1⟩ : ∃ y1, Y / 4294967296 = y1 := ⟨_, rfl⟩
  obtain ⟨y0, hY0⟩ : ∃ y0, bits BinOp.and IntKind.u64 Y 4294967295 = y0 := ⟨_, rfl⟩
  obtain ⟨u2, hu2⟩ : ∃ u2, bits BinOp.or IntKind.u64 (IntKind.u64.wrap (hi * 2 ^ s)) (lo / 2 ^ (64 - s)) = u2 := ⟨_, rfl⟩
  obtain ⟨ul, hul⟩ : ∃ ul, IntKind.u64.wrap (lo * 2 ^ s) = ul := ⟨_, rfl⟩
  obtain ⟨u1, hu1⟩ : ∃ u1, ul / 4294967296 = u1 := ⟨_, rfl⟩
  obtain ⟨u0, hu0⟩ : ∃ u0, bits BinOp.and IntKind.u64 ul 4294967295 = u0 := ⟨_, rfl⟩
  have hE : Y = y1 * 4294967296 + y0 ∧ 2147483648 ≤ y1 ∧ y1 < 4294967296 ∧ 0 ≤ y0 ∧ y0 < 4294967296 ∧ Y = y * 2 ^ s := by
    have hb3 : 9223372036854775808 ≤ y * 2 ^ s := by
      have := Int.ofNat_le.2 b3
      rw [Int.natCast_mul, Int.natCast_pow, Int.toNat_of_nonneg (by omega)] at this
      exact this
    have hb4 : y * 2 ^ s < 18446744073709551616 := by
      have := Int.ofNat_lt.2 b4
      rw [Int.natCast_mul, Int.natCast_pow, Int.toNat_of_nonneg (by omega)] at this
      exact this
    have hYe : Y = y * 2 ^ s := by rw [← hY, wrap64u]; exact Int.emod_eq_of_lt (by omega) hb4
    rw [and_u64 (by omega) (by omega)] at hY0
    refine ⟨by omega, by omega, by omega, by omega, by omega, hYe⟩
  have hU : u2 * 18446744073709551616 + (u1 * 4294967296 + u0) = (hi * 18446744073709551616 + lo) * 2 ^ s ∧ 0 ≤ u2 ∧ u2 < Y ∧ 0 ≤ u1 ∧ u1 < 4294967296 ∧ 0 ≤ u0 ∧ u0 < 4294967296 := by
    obtain ⟨e1, e2, e3, e4, e5, e6⟩ := hE
    have hS : (0 : Int) < 2 ^ s := Int.pow_pos (by decide)
    have hTU : (2 : Int) ^ (64 - s) * 2 ^ s = 18446744073709551616 := by
      have := pow_split (s := s) (by omega)
      have h7 : (2 : Int) ^ (64 - s) * 2 ^ s = ((2 ^ s * 2 ^ (64 - s) : Nat) : Int) := by
        rw [Int.natCast_mul, Int.natCast_pow, Int.natCast_pow, Int.mul_comm]; rfl
      rw [h7, this]; rfl
    have h0 := shl_or (s := s) (x := lo) (c := 0) (by omega) hl0 hl1 (by omega) hS (by omega)
    obtain ⟨_, l2, l3, l4, l5, l6⟩ := h0
    have h1 := shl_or (s := s) (x := hi) (c := lo / 2 ^ (64 - s)) (by omega) (by omega) (by omega) l5 l6 (Int.lt_of_le_of_lt (Int.ediv_le_self _ hl0) hl1)
    obtain ⟨k1, k2, k3, k4, k5, k6⟩ := h1
    have hhi : hi % 2 ^ (64 - s) = hi := by
      apply Int.emod_eq_of_lt (by omega)
      have h2 : hi * 2 ^ s < 2 ^ (64 - s) * 2 ^ s := by
        rw [hTU]
        have := Int.mul_lt_mul_of_pos_right hh1 hS
        omega
      exact Int.lt_of_mul_lt_mul_right h2 (Int.le_of_lt hS)
    rw [k1, hhi] at hu2
    rw [hhi] at k3
    have hule : ul = (lo % 2 ^ (64 - s)) * 2 ^ s := by rw [← hul, wrap64u, l2]; omega
    rw [and_u64 (by omega) (by omega)] at hu0
    have hsum : u2 * 18446744073709551616 + (u1 * 4294967296 + u0) = (hi * 18446744073709551616 + lo) * 2 ^ s := by
      have h3 : u1 * 4294967296 + u0 = ul := by omega
      rw [h3, hule, ← hu2, Int.add_mul (hi * 18446744073709551616) lo, l2]
      generalize (2 : Int) ^ s = T at *
      grind
    refine ⟨hsum, by omega, ?_, by omega, by omega, by omega, by omega⟩
    have h4 : (hi * 18446744073709551616 + lo) * 2 ^ s < Y * 18446744073709551616 := by
      rw [e6]
      have h5 : (hi + 1) * 2 ^ s ≤ y * 2 ^ s := Int.mul_le_mul_of_nonneg_right (by omega) (Int.le_of_lt hS)
      have h6 : (hi * 18446744073709551616 + lo) * 2 ^ s < ((hi + 1) * 18446744073709551616) * 2 ^ s := Int.mul_lt_mul_of_pos_right (by omega) hS
      have h7 : ((hi + 1) * 18446744073709551616) * 2 ^ s = ((hi + 1) * 2 ^ s) * 18446744073709551616 := by
        generalize (2 : Int) ^ s = T at *
        grind
      omega
    omega
  obtain ⟨hE1, hE2, hE3, hE4, hE5, hE6⟩ := hE
  obtain ⟨hU1, hU2, hU3, hU4, hU5, hU6, hU7⟩ := hU
  have HLZ := Lib.hid hlz
  have HE1 := Lib.hid hE1
  have HE6 := Lib.hid hE6
  have HU1 := Lib.hid hU1
  have S1 : Dv.Step 4294967296 y1 y0 u2 u1 ((u2 * 4294967296 + u1) / (y1 * 4294967296 + y0)) := Dv.Step.mk' (by omega) hE3 hE4 hE5 hU2 (by omega) hU4 hU5
  obtain ⟨T1, hT1⟩ : ∃ T1, (u2 * 4294967296 + u1) / (y1 * 4294967296 + y0) = T1 := ⟨_, rfl⟩
  rw [hT1] at S1
  clear hT1
  have hst := S1.start
  have hq1 : u2 / y1 * y1 ≤ u2 := Int.ediv_mul_le _ (by omega)
  have hq2 : u2 < (u2 / y1 + 1) * y1 := Int.lt_ediv_add_one_mul_self u2 (by omega)
  rw [Int.add_mul, Int.one_mul] at hq2
  have hq3 : 0 ≤ u2 / y1 * y1 := Int.mul_nonneg (by have := S1.nonneg; omega) (by omega)
  have hq4 : 0 ≤ u2 / y1 := by have := S1.nonneg; omega
  have hr1 : 0 ≤ u2 - u2 / y1 * y1 := by omega
  have hr2 : u2 - u2 / y1 * y1 < 4294967296 := by omega
  have HR3 := Lib.hid (show u2 / y1 * y1 + (u2 - u2 / y1 * y1) = u2 by omega)
  have HST := Lib.hid hst
  have y1ne : (y1 == 0) = false := beq_eq_false_iff_ne.2 (by omega)
  have u2u : u2 < 18446744073709551616 := by omega
  clear hlz b1 b2 b3 b4 hs hE1 hE6 hU1 hq2 hst
  go_enter Tryd.func95, Tryd.ntmps95
  go_upto_block 0 with (go_at_call 96; refine (HLZ.out _).mono ?_; rintro e w' ⟨rfl, rfl⟩)
  go_cut [15, 16] (fun q r wc => q = .int .u64 T1 ∧ (∃ r', r = .int .u64 r') ∧ wc = w)
  case first =>
    go_wp2_with fail
    go_loopw [15, 16] (fun qv rv wr => ∃ q r : Int, qv = .int .u64 q ∧ rv = .int .u64 r ∧ Hid (q * y1 + r = u2) ∧ Hid (T1 ≤ q) ∧ 0 ≤ r ∧ r < 4294967296 ∧ wr = w) (fun qv _ _ => (intOf qv).toNat)
    case atStart => exact ⟨_, _, rfl, rfl, HR3, HST, hr1, hr2, rfl⟩
    case round =>
      clear hr1 hr2 HR3 HST hq1 hq3 hq4
      obtain ⟨q, r, rfl, rfl, hqr, hTq, hr0, hr1, hwr⟩ := hrel
      subst hwr
      have hT0 := S1.nonneg
      have hq0 : 0 ≤ q := by have := hTq.out; omega
      have hqu : 0 ≤ q * y1 := Int.mul_nonneg hq0 (by omega)
      have hqb : q < 18446744073709551616 := by
        have h1 : q * 1 ≤ q * y1 := Int.mul_le_mul_of_nonneg_left (by omega) hq0
        have := hqr.out; omega
      have hdown : (4294967296 ≤ q ∨ 4294967296 * r + u1 < q * y0) → T1 ≤ q - 1 := fun h => S1.down hqr.out h
      have HD := Lib.hid hdown
      have hqr1 : (q - 1) * y1 + (r + y1) = u2 := by rw [Int.sub_mul, Int.one_mul]; have := hqr.out; omega
      have HQ1 := Lib.hid hqr1
      have HS1 := Lib.hid S1
      clear hdown hqr1 S1
      by_cases hqB : 4294967296 ≤ q
      · have c1 : decide (4294967296 ≤ q) = true := decide_eq_true hqB
        have hT := HD.out (.inl hqB)
        have h1q : 1 ≤ q := by omega
        by_cases hb : 4294967296 ≤ r + y1
        · have HQ' := Lib.hid (HS1.out.brk HQ1.out hT hb)
          have c2 : decide (4294967296 ≤ r + y1) = true := decide_eq_true hb
          clear hb hqB hT
          go_wp2_with fail
          go_meet
          case rel => exact ⟨by rw [HQ'.out], ⟨_, rfl⟩, by first | rfl | trivial⟩
        · have c2 : decide (4294967296 ≤ r + y1) = false := decide_eq_false hb
          have HT := Lib.hid hT
          clear hqB hT
          go_wp2_with fail
          go_roundw
          case rel => exact ⟨q - 1, r + y1, rfl, rfl, HQ1, HT, by omega, by omega, by first | rfl | trivial⟩
          case measure => simp [intOf]; omega
      · have c1 : decide (4294967296 ≤ q) = false := decide_eq_false hqB
        have hp0 : 0 ≤ q * y0 := Int.mul_nonneg hq0 (by omega)
        have hp1 : q * y0 ≤ 4294967295 * 4294967295 := Int.mul_le_mul (by omega) (by omega) (by omega) (by omega)
        by_cases hgt : 4294967296 * r + u1 < q * y0
        · have c3 : decide (4294967296 * r + u1 < q * y0) = true := decide_eq_true hgt
          have hT := HD.out (.inr hgt)
          have h1q : 1 ≤ q := by omega
          by_cases hb : 4294967296 ≤ r + y1
          · have HQ' := Lib.hid (HS1.out.brk HQ1.out hT hb)
            have c2 : decide (4294967296 ≤ r + y1) = true := decide_eq_true hb
            clear hb hgt hT
            go_wp2_with fail
            go_meet
            case rel => exact ⟨by rw [HQ'.out], ⟨_, rfl⟩, by first | rfl | trivial⟩
          · have c2 : decide (4294967296 ≤ r + y1) = false := decide_eq_false hb
            have HT := Lib.hid hT
            clear hgt hT
            go_wp2_with fail
            go_roundw
            case rel => exact ⟨q - 1, r + y1, rfl, rfl, HQ1, HT, by omega, by omega, by first | rfl | trivial⟩
            case measure => simp [intOf]; omega
        · have c3 : decide (4294967296 * r + u1 < q * y0) = false := decide_eq_false hgt
          have HQ' := Lib.hid (HS1.out.done hqr.out hTq.out (by omega))
          clear hgt
          go_wp2_with fail
          go_meet
          case rel => exact ⟨by rw [HQ'.out], ⟨_, rfl⟩, by first | rfl | trivial⟩
  case rest =>
    obtain ⟨rfl, ⟨r', rfl⟩, hwc⟩ := hcut
    subst hwc
    have hleft := S1.left
    rw [← HE1.out] at hleft
    obtain ⟨R1, hR1e⟩ : ∃ R1, u2 * 4294967296 + u1 - T1 * Y = R1 := ⟨_, rfl⟩
    rw [hR1e] at hleft
    have hT1n := S1.nonneg
    have hT1l := S1.lt
    have HR1E := Lib.hid hR1e
    have hTY : 0 ≤ T1 * Y := Int.mul_nonneg hT1n (by omega)
    have hR1 : IntKind.u64.wrap (IntKind.u64.wrap (IntKind.u64.wrap (u2 * 4294967296) + u1) - IntKind.u64.wrap (T1 * Y)) = R1 := by
      rw [wrap64u, wrap64u, wrap64u, wrap64u]; omega
    obtain ⟨hl0', hl1'⟩ := hleft
    clear hR1e hr1 hr2 HR3 HST hq1 hq3 hq4 hTY S1
    have S2 : Dv.Step 4294967296 y1 y0 R1 u0 ((R1 * 4294967296 + u0) / (y1 * 4294967296 + y0)) := Dv.Step.mk' (by omega) hE3 hE4 hE5 hl0' (by have := HE1.out; omega) hU6 hU7
    obtain ⟨T0, hT0⟩ : ∃ T0, (R1 * 4294967296 + u0) / (y1 * 4294967296 + y0) = T0 := ⟨_, rfl⟩
    rw [hT0] at S2
    clear hT0
    have hst := S2.start
    have hq1 : R1 / y1 * y1 ≤ R1 := Int.ediv_mul_le _ (by omega)
    have hq2 : R1 < (R1 / y1 + 1) * y1 := Int.lt_ediv_add_one_mul_self R1 (by omega)
    rw [Int.add_mul, Int.one_mul] at hq2
    have hq3 : 0 ≤ R1 / y1 * y1 := Int.mul_nonneg (by have := S2.nonneg; omega) (by omega)
    have hq4 : 0 ≤ R1 / y1 := by have := S2.nonneg; omega
    have hr1 : 0 ≤ R1 - R1 / y1 * y1 := by omega
    have hr2 : R1 - R1 / y1 * y1 < 4294967296 := by omega
    have HR3 := Lib.hid (show R1 / y1 * y1 + (R1 - R1 / y1 * y1) = R1 by omega)
    have HST := Lib.hid hst
    have r1u : R1 < 18446744073709551616 := by omega
    clear hq2 hst
    go_upto_block 2 with fail
    go_cut [18, 16] (fun q r wd => q = .int .u64 T0 ∧ (∃ r', r = .int .u64 r') ∧ wd = wc)
    case first =>
      go_wp2_with fail
      go_loopw [18, 16] (fun qv rv wr => ∃ q r : Int, qv = .int .u64 q ∧ rv = .int .u64 r ∧ Hid (q * y1 + r = R1) ∧ Hid (T0 ≤ q) ∧ 0 ≤ r ∧ r < 4294967296 ∧ wr = wc) (fun qv _ _ => (intOf qv).toNat)
      case atStart => exact ⟨_, _, rfl, rfl, HR3, HST, hr1, hr2, rfl⟩
      case round =>
        clear hr1 hr2 HR3 HST hq1 hq3 hq4
        obtain ⟨q, r, rfl, rfl, hqr, hTq, hr0, hr1, hwr⟩ := hrel
        subst hwr
        have hT0 := S2.nonneg
        have hq0 : 0 ≤ q := by have := hTq.out; omega
        have hqu : 0 ≤ q * y1 := Int.mul_nonneg hq0 (by omega)
        have hqb : q < 18446744073709551616 := by
          have h1 : q * 1 ≤ q * y1 := Int.mul_le_mul_of_nonneg_left (by omega) hq0
          have := hqr.out; omega
        have hdown : (4294967296 ≤ q ∨ 4294967296 * r + u0 < q * y0) → T0 ≤ q - 1 := fun h => S2.down hqr.out h
        have HD := Lib.hid hdown
        have hqr1 : (q - 1) * y1 + (r + y1) = R1 := by rw [Int.sub_mul, Int.one_mul]; have := hqr.out; omega
        have HQ1 := Lib.hid hqr1
        have HS2 := Lib.hid S2
        clear hdown hqr1 S2
        by_cases hqB : 4294967296 ≤ q
        · have c1 : decide (4294967296 ≤ q) = true := decide_eq_true hqB
          have hT := HD.out (.inl hqB)
          have h1q : 1 ≤ q := by omega
          by_cases hb : 4294967296 ≤ r + y1
          · have HQ' := Lib.hid (HS2.out.brk HQ1.out hT hb)
            have c2 : decide (4294967296 ≤ r + y1) = true := decide_eq_true hb
            clear hb hqB hT
            go_wp2_with fail
            go_meet
            case rel => exact ⟨by rw [HQ'.out], ⟨_, rfl⟩, by first | rfl | trivial⟩
          · have c2 : decide (4294967296 ≤ r + y1) = false := decide_eq_false hb
            have HT := Lib.hid hT
            clear hqB hT
            go_wp2_with fail
            go_roundw
            case rel => exact ⟨q - 1, r + y1, rfl, rfl, HQ1, HT, by omega, by omega, by first | rfl | trivial⟩
            case measure => simp [intOf]; omega
        · have c1 : decide (4294967296 ≤ q) = false := decide_eq_false hqB
          have hp0 : 0 ≤ q * y0 := Int.mul_nonneg hq0 (by omega)
          have hp1 : q * y0 ≤ 4294967295 * 4294967295 := Int.mul_le_mul (by omega) (by omega) (by omega) (by omega)
          by_cases hgt : 4294967296 * r + u0 < q * y0
          · have c3 : decide (4294967296 * r + u0 < q * y0) = true := decide_eq_true hgt
            have hT := HD.out (.inr hgt)
            have h1q : 1 ≤ q := by omega
            by_cases hb : 4294967296 ≤ r + y1
            · have HQ' := Lib.hid (HS2.out.brk HQ1.out hT hb)
              have c2 : decide (4294967296 ≤ r + y1) = true := decide_eq_true hb
              clear hb hgt hT
              go_wp2_with fail
              go_meet
              case rel => exact ⟨by rw [HQ'.out], ⟨_, rfl⟩, by first | rfl | trivial⟩
            · have c2 : decide (4294967296 ≤ r + y1) = false := decide_eq_false hb
              have HT := Lib.hid hT
              clear hgt hT
              go_wp2_with fail
              go_roundw
              case rel => exact ⟨q - 1, r + y1, rfl, rfl, HQ1, HT, by omega, by omega, by first | rfl | trivial⟩
              case measure => simp [intOf]; omega
          · have c3 : decide (4294967296 * r + u0 < q * y0) = false := decide_eq_false hgt
            have HQ' := Lib.hid (HS2.out.done hqr.out hTq.out (by omega))
            clear hgt
            go_wp2_with fail
            go_meet
            case rel => exact ⟨by rw [HQ'.out], ⟨_, rfl⟩, by first | rfl | trivial⟩
    case rest =>
      obtain ⟨rfl, ⟨r'', rfl⟩, hwc⟩ := hcut
      subst hwc
      have hleft := S2.left
      rw [← HE1.out] at hleft
      obtain ⟨R0, hR0e⟩ : ∃ R0, R1 * 4294967296 + u0 - T0 * Y = R0 := ⟨_, rfl⟩
      rw [hR0e] at hleft
      have hT0n := S2.nonneg
      have hT0l := S2.lt
      have hTY : 0 ≤ T0 * Y := Int.mul_nonneg hT0n (by omega)
      have hR0 : IntKind.u64.wrap (IntKind.u64.wrap (IntKind.u64.wrap (R1 * 4294967296) + u0) - IntKind.u64.wrap (T0 * Y)) = R0 := by
        rw [wrap64u, wrap64u, wrap64u, wrap64u]; omega
      have hS : (0 : Int) < 2 ^ s := Int.pow_pos (by decide)
      have hfin := divmod_scaled (N := hi * 18446744073709551616 + lo) (S := 2 ^ s) (Q := T1 * 4294967296 + T0) (y := y) (R := R0) hS (by
        rw [← HU1.out, ← HE6.out, Int.add_mul]
        have h1 := HR1E.out
        have h2 : T1 * 4294967296 * Y = (T1 * Y) * 4294967296 := by rw [Int.mul_assoc, Int.mul_comm 4294967296, ← Int.mul_assoc]
        omega) hleft.1 (by rw [← HE6.out]; exact hleft.2)
      have HF := Lib.hid hfin
      obtain ⟨g0, g1⟩ := hleft
      clear hfin hR0e hTY S2 hq1 hq3 hq4 hr1 hr2 HR3 HST
      go_wp2_with fail
      go_ret2
      rw [HF.out.1, HF.out.2]
      exact ⟨rfl, 0, rfl⟩

/-- Div64 is the quotient of two words by one, and what is left -/
theorem div64_any (hi lo y : Int) (w : World) (hh0 : 0 ≤ hi) (hh1 : hi < y) (hl0 : 0 ≤ lo) (hl1 : lo < 18446744073709551616) (hy1 : y < 18446744073709551616) :
    Calls Tryd.prog 95 #[.int .u64 hi, .int .u64 lo, .int .u64 y] w fun e w' => e = .returned (.tuple #[.int .u64 ((hi * 18446744073709551616 + lo) / y), .int .u64 ((hi * 18446744073709551616 + lo) % y)]) ∧ ∃ k, w' = w.drewN k := by
  by_cases h : hi = 0
  · subst h
    have := div64_zero lo y w hl0 hl1 (by omega) hy1
    simpa using this
  · exact div64_pos hi lo y w (by omega) hh1 hl0 hl1 hy1
end Go.Proofs.YtjfkniknmkcdcaaDoor
