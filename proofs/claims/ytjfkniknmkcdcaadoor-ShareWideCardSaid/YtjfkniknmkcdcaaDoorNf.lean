/- The walks of short and guess. -/
import Derived.Test.YtjfkniknmkcdcaaDoorNe
namespace Go.Proofs.YtjfkniknmkcdcaaDoor
open Go.RowKit K Nu

theorem set_snoc {l : List Int} {n j : Nat} (hj : l.length = j) (q : Int) (hn : j < n) : (l ++ List.replicate (n - j) 0).set j q = (l ++ [q]) ++ List.replicate (n - (j + 1)) 0 := by
  rw [List.set_append_right _ _ (by omega), hj, Nat.sub_self, List.append_assoc]
  congr 1
  rw [show n - j = (n - (j + 1)) + 1 by omega, List.replicate_succ]
  rfl
theorem set_pre {l : List Int} {k : Nat} (q : Int) : (List.replicate (k + 1) 0 ++ l).set k q = List.replicate k 0 ++ (q :: l) := by
  rw [List.replicate_succ', List.append_assoc, List.set_append_right _ _ (by simp)]
  simp

set_option maxRecDepth 100000 in
set_option maxHeartbeats 1000000 in
theorem short_any (A : Value) (u : List Int) (v : Int) (w : World) (hA : IsInts .u64 w A u) (hd : Dig W64 u) (hv0 : 0 < v) (hv1 : v < 18446744073709551616) (hn : u.length ≤ 2147483648) :
    Calls Tryd.prog 85 #[A, .int .u64 v] w fun e w' => ∃ (q : Value) (o : List Int), e = .returned (.tuple #[q, .int .u64 (dv W64 u % v)]) ∧ IsInts .u64 w' q o ∧ Dig W64 o ∧ dv W64 o = dv W64 u / v ∧ Below w.heap.size w w' := by
  obtain ⟨A, c0, rfl, hc, hm, hr⟩ := hA
  have hmk := mk_at (P := Tryd.prog) Tryd.underlying37 Tryd.info86 rfl .i64 .i64 (u.length : Int) u.length rfl (by unfold maxLen; omega) (by omega) (vs_replicate (k := .u64) (n := u.length) (x := 0))
  unfold maxLen at hm
  go_enter Tryd.func85, Tryd.ntmps85
  go_wp2
  go_loopw [8, 7] (fun iv rv wr => ∃ (i r : Int) (j : Nat) (o : List Int), iv = .int .i64 i ∧ i = j - 1 ∧ j ≤ u.length ∧ rv = .int .u64 r ∧ 0 ≤ r ∧ r < v ∧ Hid (o.length = u.length - j) ∧ Dig W64 o ∧ Hid (dv W64 (u.drop j) = dv W64 o * v + r) ∧
    Blk wr w.heap.size (vs .u64 (List.replicate j 0 ++ o)) 86 ∧ Below w.heap.size w wr) (fun iv _ _ => (intOf iv + 1).toNat)
  case atStart => exact ⟨_, 0, u.length, [], rfl, rfl, by omega, rfl, by omega, by omega, Lib.hid (by simp), Dig.nil _, Lib.hid (by rw [List.drop_length]; simp [dv]), by rw [List.append_nil]; exact Blk.new _ _ _, (Below.refl _ _).alloc (Nat.le_refl _) _⟩
  case round =>
    obtain ⟨i, r, j, o, rfl, hi, hj, rfl, hr0, hr1, ho, hdo, hval, hB, hbel⟩ := hrel
    rcases j with _ | k
    · have t1 : decide (0 ≤ i) = false := decide_eq_false (by omega)
      clear hi
      go_wp2
      go_ret2
      have h := hval.out
      rw [List.drop_zero] at h
      obtain ⟨h1, h2⟩ := divmod_of h hr0 hr1
      rw [List.replicate_zero, List.nil_append] at hB
      exact ⟨.slice (some ⟨w.heap.size, 0, none⟩) u.length u.length, o, by rw [h2]; rfl, hB.ints (by have := ho.out; omega) (by unfold maxLen; omega), hdo, h1.symm, hbel⟩
    · obtain rfl : i = (k : Int) := by omega
      obtain ⟨b1, o1, e1, hb1, hcell1⟩ := hr (by omega)
      subst e1
      have x1 := (hbel.cell (p := ⟨b1, o1 + k, none⟩) hb1).trans (hcell1 k (by omega))
      have hx := hd.at (by decide) k
      have xc := hB.at k (by simp; omega)
      have xf := hB.frozen k
      have HD := Lib.hid (drop_getD (l := u) (k := k) (by omega))
      generalize hxe : u.getD k 0 = x at *
      have HXE := Lib.hid hxe
      unfold W64 at hx
      obtain ⟨hx0, hx1⟩ := hx
      clear hxe hcell1 hi
      have hq0 : 0 ≤ (r * 18446744073709551616 + x) / v := Int.ediv_nonneg (by omega) (by omega)
      have hq1 : (r * 18446744073709551616 + x) / v < 18446744073709551616 := Int.ediv_lt_of_lt_mul hv0 (by
        have := Int.mul_le_mul_of_nonneg_right (show r + 1 ≤ v by omega) (show (0 : Int) ≤ 18446744073709551616 by decide)
        rw [Int.add_mul] at this
        rw [Int.mul_comm 18446744073709551616]
        omega)
      have hm0 := Int.emod_nonneg (r * 18446744073709551616 + x) (show v ≠ 0 by omega)
      have hm1 := Int.emod_lt_of_pos (r * 18446744073709551616 + x) hv0
      have hdm := Lib.hid (Int.mul_ediv_add_emod (r * 18446744073709551616 + x) v)
      have hdiv := Lib.hid (fun w => div64_any r x v w hr0 hr1 hx0 hx1 hv1)
      generalize (r * 18446744073709551616 + x) / v = q at *
      generalize (r * 18446744073709551616 + x) % v = m at *
      go_wp2_with fail
      refine (hdiv.out _).mono ?_
      rintro e w1 ⟨rfl, hdr⟩
      have hb2 := bel_drew hdr
      clear hdr
      have hbel1 := hbel.trans (hb2.mono hbel.size)
      have hB1 := hB.below hb2 hB.lt
      have xc1 := hB1.at k (by simp; omega)
      have xf1 := hB1.frozen k
      clear hb2
      go_wp2
      go_roundw
      case rel =>
        refine ⟨_, _, k, q :: o, rfl, rfl, by omega, rfl, hm0, hm1, Lib.hid (by have := ho.out; simp; omega), Dig.cons ⟨hq0, by unfold W64; omega⟩ hdo, Lib.hid ?_, ?_, hbel1.setCell (Nat.le_refl _) _⟩
        · rw [HD.out]
          show x + W64 * dv W64 (u.drop (k + 1)) = (q + W64 * dv W64 o) * v + m
          rw [hval.out]
          have h1 := hdm.out
          unfold W64
          grind
        · have h := hB1.set k (.int .u64 q)
          rw [vs_set, set_pre] at h
          exact h
      case measure => simp [intOf]

/-- what is guessed: the digit of the first three by the first two -/
def gv (a b c v w : Int) : Int := if v ≤ a then 18446744073709551615 else ((a * 18446744073709551616 + b) * 18446744073709551616 + c) / (v * 18446744073709551616 + w)
theorem gv_range {a b c v w : Int} (ha : 0 ≤ a) (hb0 : 0 ≤ b) (hb1 : b < 18446744073709551616) (hc0 : 0 ≤ c) (hc1 : c < 18446744073709551616) (hv : 0 < v) (hw : 0 ≤ w) : 0 ≤ gv a b c v w ∧ gv a b c v w < 18446744073709551616 := by
  unfold gv
  split
  · omega
  · refine ⟨Int.ediv_nonneg (by omega) (by omega), Int.ediv_lt_of_lt_mul (by omega) ?_⟩
    have := Int.mul_le_mul_of_nonneg_right (show a + 1 ≤ v by omega) (show (0 : Int) ≤ 18446744073709551616 * 18446744073709551616 by decide)
    rw [Int.add_mul] at this
    omega
theorem gv_low {T a b c v w : Int} (hv : 0 < v) (hw : 0 ≤ w) (hT1 : T < 18446744073709551616) (hT : T * (v * 18446744073709551616 + w) ≤ (a * 18446744073709551616 + b) * 18446744073709551616 + c) : T ≤ gv a b c v w := by
  unfold gv
  split
  · omega
  · exact Int.le_ediv_of_mul_le (by omega) hT
theorem guess_down {G v w a b c q r : Int} (hv : 0 < v) (hw : 0 ≤ w) (hG : G * (v * 18446744073709551616 + w) ≤ (a * 18446744073709551616 + b) * 18446744073709551616 + c) (hqr : q * v + r = a * 18446744073709551616 + b)
    (h : r * 18446744073709551616 + c < q * w) : G ≤ q - 1 := by
  apply Classical.byContradiction
  intro hn
  have h1 : q * v ≤ G * v := Int.mul_le_mul_of_nonneg_right (by omega) (by omega)
  have h2 : q * w ≤ G * w := Int.mul_le_mul_of_nonneg_right (by omega) hw
  rw [← hqr, Int.add_mul, Int.mul_add, ← Int.mul_assoc] at hG
  have h3 : q * v * 18446744073709551616 ≤ G * v * 18446744073709551616 := Int.mul_le_mul_of_nonneg_right h1 (by decide)
  omega
theorem guess_up {G v w a b c q r : Int} (hv : 0 < v) (hw : 0 ≤ w) (hG : (a * 18446744073709551616 + b) * 18446744073709551616 + c < (G + 1) * (v * 18446744073709551616 + w)) (hqr : q * v + r = a * 18446744073709551616 + b)
    (h : q * w ≤ r * 18446744073709551616 + c) : q ≤ G := by
  have h1 : q * (v * 18446744073709551616 + w) < (G + 1) * (v * 18446744073709551616 + w) := by
    rw [← hqr, Int.add_mul] at hG
    rw [Int.mul_add q, ← Int.mul_assoc]
    omega
  have := Int.lt_of_mul_lt_mul_right h1 (by omega)
  omega
theorem guess_start {G v w a b c : Int} (hG0 : 0 ≤ G) (hv : 0 < v) (hw : 0 ≤ w) (hc : c < 18446744073709551616) (hG : G * (v * 18446744073709551616 + w) ≤ (a * 18446744073709551616 + b) * 18446744073709551616 + c) : G ≤ (a * 18446744073709551616 + b) / v := by
  apply Int.le_ediv_of_mul_le hv
  rw [Int.mul_add, ← Int.mul_assoc] at hG
  have := Int.mul_nonneg hG0 hw
  omega

set_option maxRecDepth 100000 in
set_option maxHeartbeats 2000000 in
theorem guess_any (a b c v w : Int) (wd : World) (ha0 : 0 ≤ a) (hb0 : 0 ≤ b) (hb1 : b < 18446744073709551616) (hc0 : 0 ≤ c) (hc1 : c < 18446744073709551616) (hv0 : 0 < v) (hv1 : v < 18446744073709551616)
    (hw0 : 0 ≤ w) (hw1 : w < 18446744073709551616) :
    Calls Tryd.prog 98 #[.int .u64 a, .int .u64 b, .int .u64 c, .int .u64 v, .int .u64 w] wd fun e w' => e = .returned (.int .u64 (gv a b c v w)) ∧ ∃ m, w' = wd.drewN m := by
  have hgr := gv_range ha0 hb0 hb1 hc0 hc1 hv0 hw0
  by_cases hav : v ≤ a
  · have t1 : decide (v ≤ a) = true := decide_eq_true hav
    have hg : gv a b c v w = 18446744073709551615 := if_pos hav
    rw [hg]
    clear hav hg hgr
    go_enter Tryd.func98, Tryd.ntmps98
    go_wp2
    go_ret
    exact ⟨rfl, 0, rfl⟩
  · have t1 : decide (v ≤ a) = false := decide_eq_false hav
    obtain ⟨G, hG⟩ : ∃ G, gv a b c v w = G := ⟨_, rfl⟩
    rw [hG] at hgr ⊢
    have hGe : ((a * 18446744073709551616 + b) * 18446744073709551616 + c) / (v * 18446744073709551616 + w) = G := by rw [← hG]; exact (if_neg hav).symm
    have hGlo : G * (v * 18446744073709551616 + w) ≤ (a * 18446744073709551616 + b) * 18446744073709551616 + c := by rw [← hGe]; exact Int.ediv_mul_le _ (by omega)
    have hGhi : (a * 18446744073709551616 + b) * 18446744073709551616 + c < (G + 1) * (v * 18446744073709551616 + w) := by rw [← hGe]; exact Int.lt_ediv_add_one_mul_self _ (by omega)
    have hst := Lib.hid (guess_start hgr.1 hv0 hw0 hc1 hGlo)
    have hlow := Lib.hid (fun q r (hqr : q * v + r = a * 18446744073709551616 + b) => guess_down hv0 hw0 hGlo hqr)
    have hupp := Lib.hid (fun q r (hqr : q * v + r = a * 18446744073709551616 + b) => guess_up hv0 hw0 hGhi hqr)
    have hq1 : (a * 18446744073709551616 + b) / v < 18446744073709551616 := Int.ediv_lt_of_lt_mul hv0 (by
        have := Int.mul_le_mul_of_nonneg_right (show a + 1 ≤ v by omega) (show (0 : Int) ≤ 18446744073709551616 by decide)
        rw [Int.add_mul] at this
        rw [Int.mul_comm 18446744073709551616]
        omega)
    have hm0 := Int.emod_nonneg (a * 18446744073709551616 + b) (show v ≠ 0 by omega)
    have hm1 := Int.emod_lt_of_pos (a * 18446744073709551616 + b) hv0
    have hdm : (a * 18446744073709551616 + b) / v * v + (a * 18446744073709551616 + b) % v = a * 18446744073709551616 + b := by rw [Int.mul_comm]; exact Int.mul_ediv_add_emod _ v
    have HDM := Lib.hid hdm
    have hdiv := Lib.hid (fun w => div64_any a b v w ha0 (by omega) hb0 hb1 hv1)
    obtain ⟨hG0, hG1⟩ := hgr
    clear hG hGe hGlo hGhi hdm
    go_enter Tryd.func98, Tryd.ntmps98
    go_wp2_with fail
    refine (hdiv.out _).mono ?_
    rintro e w1 ⟨rfl, m1, rfl⟩
    go_wp2_with fail
    go_loopw [11, 12] (fun qv rv wr => ∃ q r : Int, qv = .int .u64 q ∧ rv = .int .u64 r ∧ Hid (q * v + r = a * 18446744073709551616 + b) ∧ G ≤ q ∧ q < 18446744073709551616 ∧ 0 ≤ r ∧ r < 18446744073709551616 ∧ wr = wd.drewN m1) (fun qv _ _ => (intOf qv).toNat)
    case atStart => exact ⟨_, _, rfl, rfl, HDM, hst.out, hq1, hm0, by omega, rfl⟩
    case round =>
      clear hst hq1 hm0 hm1 HDM hdiv
      obtain ⟨q, r, rfl, rfl, hqr, hTq, hq1, hr0, hr1, hwr⟩ := hrel
      subst hwr
      obtain ⟨Q, rfl⟩ := Int.eq_ofNat_of_zero_le (show 0 ≤ q by omega)
      obtain ⟨Wn, rfl⟩ := Int.eq_ofNat_of_zero_le hw0
      have hm := Lib.hid (mul64_any Q Wn (by omega) (by omega))
      have hprod : (Q : Int) * (Wn : Int) = ((Q * Wn : Nat) : Int) := (Int.natCast_mul Q Wn).symm
      have hl := hlow.out Q r hqr.out
      have hu := hupp.out Q r hqr.out
      rw [hprod] at hl hu
      have hu2 : 18446744073709551616 ≤ r + v → (Q : Int) - 1 ≤ G := fun h => by
        refine hupp.out (Q - 1) (r + v) (by rw [Int.sub_mul, Int.one_mul]; have := hqr.out; omega) ?_
        have h1 : ((Q : Int) - 1) * (Wn : Int) ≤ 18446744073709551615 * 18446744073709551615 := by
          by_cases h0 : (Q : Int) = 0
          · rw [h0]; have : (0 - 1 : Int) * Wn = -Wn := by omega
            omega
          · exact Int.mul_le_mul (by omega) (by omega) (by omega) (by omega)
        omega
      have hpb := mul_bound (x := Q) (y := Wn) (by omega) (by omega)
      have HL := Lib.hid hl
      have HU := Lib.hid hu
      have HU2 := Lib.hid hu2
      obtain ⟨p, hp⟩ : ∃ p, Q * Wn = p := ⟨_, rfl⟩
      rw [hp] at hm HL HU hpb
      clear hp hprod hl hu hu2
      obtain ⟨hi', hhi⟩ : ∃ t : Nat, p / 18446744073709551616 = t := ⟨_, rfl⟩
      obtain ⟨lo', hlo⟩ : ∃ t : Nat, p % 18446744073709551616 = t := ⟨_, rfl⟩
      rw [hhi, hlo] at hm
      have HP := Lib.hid (show p = hi' * 18446744073709551616 + lo' by omega)
      have hlob : lo' < 18446744073709551616 := by omega
      clear hhi hlo
      have hadd := add64_run r v 0 hr0 (by omega) (by omega) (by omega)
      simp only [Int.add_zero] at hadd
      have hq1' : Q < 18446744073709551616 := by omega
      by_cases h1 : (hi' : Int) < r
      · have t2 : decide ((hi' : Int) < r) = true := decide_eq_true h1
        have hfin : (Q : Int) = G := by have := HU.out (by have := HP.out; omega); omega
        have HF := Lib.hid hfin
        clear h1 hfin
        go_wp2_with (go_at_call 64; refine (hm.out _).mono ?_; rintro e w' ⟨rfl, rfl⟩)
        go_ret
        exact ⟨by rw [← HF.out]; rfl, m1, rfl⟩
      · have t2 : decide ((hi' : Int) < r) = false := decide_eq_false h1
        by_cases h2 : (hi' : Int) = r
        · have t3 : ((hi' : Int) == r) = true := beq_iff_eq.2 h2
          by_cases h3 : (lo' : Int) ≤ c
          · have t4 : decide ((lo' : Int) ≤ c) = true := decide_eq_true h3
            have hfin : (Q : Int) = G := by have := HU.out (by have := HP.out; omega); omega
            have HF := Lib.hid hfin
            clear h1 h2 h3 hfin
            go_wp2_with (go_at_call 64; refine (hm.out _).mono ?_; rintro e w' ⟨rfl, rfl⟩)
            go_ret
            exact ⟨by rw [← HF.out]; rfl, m1, rfl⟩
          · have t4 : decide ((lo' : Int) ≤ c) = false := decide_eq_false h3
            have HDN := Lib.hid (HL.out (by have := HP.out; omega))
            clear h1 h2 h3
            have h1q : 1 ≤ Q := by have := HDN.out; omega
            by_cases hov : 18446744073709551616 ≤ r + v
            · have h5 : (r + v) / 18446744073709551616 = 1 := by omega
              have HF := Lib.hid (show (Q : Int) - 1 = G by have := HU2.out hov; have := HDN.out; omega)
              clear hov
              go_wp2_with (go_at_call 64; refine (hm.out _).mono ?_; rintro e w' ⟨rfl, rfl⟩)
              go_ret
              exact ⟨by rw [← HF.out]; rfl, m1, rfl⟩
            · have h5 : (r + v) / 18446744073709551616 = 0 := by omega
              have h6 : (r + v) % 18446744073709551616 = r + v := by omega
              go_wp2_with (go_at_call 64; refine (hm.out _).mono ?_; rintro e w' ⟨rfl, rfl⟩)
              go_roundw
              case rel =>
                have := HDN.out
                exact ⟨(Q : Int) - 1, r + v, rfl, rfl, Lib.hid (by rw [Int.sub_mul, Int.one_mul]; have := hqr.out; omega), by omega, by omega, by omega, by omega, by first | rfl | trivial⟩
              case measure => simp [intOf]; omega
        · have t3 : ((hi' : Int) == r) = false := beq_eq_false_iff_ne.2 h2
          have HDN := Lib.hid (HL.out (by have := HP.out; omega))
          clear h1 h2
          have h1q : 1 ≤ Q := by have := HDN.out; omega
          by_cases hov : 18446744073709551616 ≤ r + v
          · have h5 : (r + v) / 18446744073709551616 = 1 := by omega
            have HF := Lib.hid (show (Q : Int) - 1 = G by have := HU2.out hov; have := HDN.out; omega)
            clear hov
            go_wp2_with (go_at_call 64; refine (hm.out _).mono ?_; rintro e w' ⟨rfl, rfl⟩)
            go_ret
            exact ⟨by rw [← HF.out]; rfl, m1, rfl⟩
          · have h5 : (r + v) / 18446744073709551616 = 0 := by omega
            have h6 : (r + v) % 18446744073709551616 = r + v := by omega
            go_wp2_with (go_at_call 64; refine (hm.out _).mono ?_; rintro e w' ⟨rfl, rfl⟩)
            go_roundw
            case rel =>
              have := HDN.out
              exact ⟨(Q : Int) - 1, r + v, rfl, rfl, Lib.hid (by rw [Int.sub_mul, Int.one_mul]; have := hqr.out; omega), by omega, by omega, by omega, by omega, by first | rfl | trivial⟩
            case measure => simp [intOf]; omega
end Go.Proofs.YtjfkniknmkcdcaaDoor
