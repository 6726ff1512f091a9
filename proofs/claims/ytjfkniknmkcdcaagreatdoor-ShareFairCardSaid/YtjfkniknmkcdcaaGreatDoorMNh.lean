/- Texts of this claim, joined: Ng, Nh. -/
import Derived.Test.YtjfkniknmkcdcaaGreatDoorMNf
namespace Go.Proofs.YtjfkniknmkcdcaaGreatDoor
open Go.RowKit K Nu

theorem mid_get {P S R : List Int} {off i : Nat} (hP : P.length = off) (hi : i < S.length) : (P ++ S ++ R).getD (off + i) 0 = S.getD i 0 := by
  rw [List.append_assoc, List.getD_eq_getElem?_getD, List.getD_eq_getElem?_getD, List.getElem?_append_right (by omega), show off + i - P.length = i by omega, List.getElem?_append_left hi]
theorem mid_set {P S R : List Int} {off i : Nat} (hP : P.length = off) (hi : i < S.length) (x : Int) : (P ++ S ++ R).set (off + i) x = P ++ S.set i x ++ R := by
  rw [List.append_assoc, List.append_assoc, List.set_append_right _ _ (by omega), show off + i - P.length = i by omega, List.set_append_left _ _ hi]
/-- one digit of what is taken off -/
theorem step_less {W V D A d T y x x' carry under carry' under' lo : Int} (h1 : x' - under' * W = x - lo - under) (h2 : carry' * W + lo = d * y + carry) (inv : D = A - d * T + (carry + under) * V) :
    D + (x' - x) * V = A - d * (T + y * V) + (carry' + under') * (V * W) := by
  have e1 : (x' - under' * W) * V = (x - lo - under) * V := by rw [h1]
  have e2 : (carry' * W + lo) * V = (d * y + carry) * V := by rw [h2]
  grind
theorem step_more {W V D A T y x x' c c' : Int} (h1 : x' + c' * W = x + y + c) (inv : D + c * V = A + T) : D + (x' - x) * V + c' * (V * W) = A + (T + y * V) := by
  have e1 : (x' + c' * W) * V = (x + y + c) * V := by rw [h1]
  grind

set_option maxRecDepth 100000 in
set_option maxHeartbeats 2000000 in
theorem more_any (b off cx : Nat) (P S R ly : List Int) (vy : Value) (w : World) (e : TypeId) (hB : Blk w b (vs .u64 (P ++ S ++ R)) e) (hP : P.length = off) (hS : S.length = ly.length + 1) (hdS : Dig W64 S) (hdy : Dig W64 ly)
    (hy : IsInts .u64 w vy ly) (hne : ∀ A n c, vy = .slice (some A) n c → A.block ≠ b) (hm : off + S.length ≤ 9000000000) :
    Calls Tryz.prog 118 #[.slice (some ⟨b, off, none⟩) (ly.length + 1) cx, vy] w fun e' w' => ∃ (S' : List Int) (c : Int), e' = .returned (.bool (c != 0)) ∧ 0 ≤ c ∧ c ≤ 1 ∧ S'.length = S.length ∧ Dig W64 S' ∧ dv W64 S' + c * W64 ^ (ly.length + 1) = dv W64 S + dv W64 ly ∧ Blk w' b (vs .u64 (P ++ S' ++ R)) e ∧ Fr (· = b) w w' := by
  obtain ⟨A2, c2, rfl, hc2, hm2, hr2⟩ := hy
  clear hm2
  go_enter Tryz.func118, Tryz.ntmps118
  go_wp2
  go_loopw [10, 5] (fun iv cv wr => ∃ i : Nat, i ≤ ly.length ∧ iv = .int .i64 i ∧ ∃ (c : Int) (Q : List Int), cv = .int .u64 c ∧ 0 ≤ c ∧ c ≤ 1 ∧ Hid (Q.length = ly.length + 1) ∧ Dig W64 Q ∧ Hid (dv W64 Q + c * W64 ^ i = dv W64 S + dv W64 (ly.take i)) ∧
    Blk wr b (vs .u64 (P ++ Q ++ R)) e ∧ Fr (· = b) w wr) (fun iv _ _ => ly.length - (intOf iv).toNat)
  case atStart => exact ⟨0, by omega, rfl, 0, S, rfl, by omega, by omega, Lib.hid hS, hdS, Lib.hid (by simp [dv]), hB, Fr.refl _ _⟩
  case round =>
    clear hB hdS
    obtain ⟨i, hi, rfl, c, Q, rfl, hc0, hc1, hQ, hdQ, hval, hB, hF⟩ := hrel
    by_cases hlt : i < ly.length
    · obtain ⟨b2, o2, e2, hb2, hcell2⟩ := hr2 (by omega)
      subst e2
      have hne2 : b2 ≠ b := hne _ _ _ rfl
      have x2 := (World.cell?_of_block (w := w) (a := ⟨b2, o2 + i, none⟩) (hF.block b2 hb2 hne2)).trans (hcell2 i hlt)
      have x1 := hB.at (off + i) (by simp; have := hQ.out; omega)
      have xf := hB.frozen (off + i)
      rw [mid_get hP (by have := hQ.out; omega)] at x1
      have hx := hdQ.at (by decide) i
      have hy := hdy.at (by decide) i
      have HY := Lib.hid (dv_take_succ W64 ly i)
      have HS := Lib.hid (fun q => mid_set (S := Q) (R := R) hP (show i < Q.length by have := hQ.out; omega) q)
      have HD := Lib.hid (fun d => dv_set W64 Q i d (by have := hQ.out; omega))
      generalize hxe : Q.getD i 0 = x at *
      generalize hye : ly.getD i 0 = y at *
      unfold W64 at hx hy
      obtain ⟨hx0, hx1⟩ := hx
      obtain ⟨hy0, hy1⟩ := hy
      have hadd := add64_run x y c hx0 hy0 hc0 hc1
      clear hcell2 hxe hye
      go_wp2
      go_roundw
      case rel =>
        refine ⟨i + 1, by omega, by go_num, _, Q.set i ((x + y + c) % 18446744073709551616), rfl, by omega, by omega, Lib.hid (by rw [List.length_set]; exact hQ.out), hdQ.set _ ⟨by omega, by unfold W64; omega⟩, Lib.hid ?_, ?_, hF.set (.inl rfl) _⟩
        · rw [HD.out, HY.out, Int.pow_succ]
          exact step_more (by unfold W64; omega) hval.out
        · have h := hB.set (off + i) (.int .u64 ((x + y + c) % 18446744073709551616))
          rw [vs_set, HS.out] at h
          exact h
      case measure => simp [intOf]; omega
    · obtain rfl : i = ly.length := by omega
      have x1 := hB.at (off + ly.length) (by simp; have := hQ.out; omega)
      have xf := hB.frozen (off + ly.length)
      rw [mid_get hP (by have := hQ.out; omega)] at x1
      have hx := hdQ.at (by decide) ly.length
      have HS := Lib.hid (fun q => mid_set (S := Q) (R := R) hP (show ly.length < Q.length by have := hQ.out; omega) q)
      have HD := Lib.hid (fun d => dv_set W64 Q ly.length d (by have := hQ.out; omega))
      generalize hxe : Q.getD ly.length 0 = x at *
      unfold W64 at hx
      obtain ⟨hx0, hx1⟩ := hx
      have hadd := add64_run x 0 c hx0 (by omega) hc0 hc1
      simp only [Int.add_zero] at hadd
      clear hxe hr2
      go_wp2
      go_ret
      refine ⟨Q.set ly.length ((x + c) % 18446744073709551616), (x + c) / 18446744073709551616, rfl, by omega, by omega, by rw [List.length_set, hQ.out, hS], hdQ.set _ ⟨by omega, by unfold W64; omega⟩, ?_, ?_, hF.set (.inl rfl) _⟩
      · have h := hval.out
        rw [List.take_length] at h
        rw [HD.out, Int.pow_succ]
        have h2 := step_more (W := W64) (V := W64 ^ ly.length) (D := dv W64 Q) (A := dv W64 S) (T := dv W64 ly) (y := 0) (x := x) (c := c) (x' := (x + c) % 18446744073709551616) (c' := (x + c) / 18446744073709551616) (by unfold W64; omega) h
        rw [h2, Int.zero_mul, Int.add_zero]
      · have h := hB.set (off + ly.length) (.int .u64 ((x + c) % 18446744073709551616))
        rw [vs_set, HS.out] at h
        exact h

set_option maxRecDepth 100000 in
set_option maxHeartbeats 2000000 in
theorem less_any (b off cx : Nat) (P S R ly : List Int) (d : Int) (vy : Value) (w : World) (e : TypeId) (hB : Blk w b (vs .u64 (P ++ S ++ R)) e) (hP : P.length = off) (hS : S.length = ly.length + 1) (hdS : Dig W64 S) (hdy : Dig W64 ly)
    (hy : IsInts .u64 w vy ly) (hne : ∀ A n c, vy = .slice (some A) n c → A.block ≠ b) (hm : off + S.length ≤ 9000000000) (hd0 : 0 ≤ d) (hd1 : d < 18446744073709551616) :
    Calls Tryz.prog 117 #[.slice (some ⟨b, off, none⟩) (ly.length + 1) cx, vy, .int .u64 d] w fun e' w' => ∃ (S' : List Int) (c : Int), e' = .returned (.bool (c != 0)) ∧ 0 ≤ c ∧ c ≤ 1 ∧ S'.length = S.length ∧ Dig W64 S' ∧ dv W64 S' = dv W64 S - d * dv W64 ly + c * W64 ^ (ly.length + 1) ∧ Blk w' b (vs .u64 (P ++ S' ++ R)) e ∧ Fr (· = b) w w' := by
  obtain ⟨A2, c2, rfl, hc2, hm2, hr2⟩ := hy
  clear hm2
  obtain ⟨dn, rfl⟩ := Int.eq_ofNat_of_zero_le hd0
  have hdn : dn < 18446744073709551616 := by omega
  go_enter Tryz.func117, Tryz.ntmps117
  go_wp2
  go_loopw [16, 7, 8] (fun iv cv uv wr => ∃ i : Nat, i ≤ ly.length ∧ iv = .int .i64 i ∧ ∃ (c u : Int) (Q : List Int), cv = .int .u64 c ∧ uv = .int .u64 u ∧ 0 ≤ c ∧ c < 18446744073709551616 ∧ 0 ≤ u ∧ u ≤ 1 ∧ Hid (Q.length = ly.length + 1) ∧ Dig W64 Q ∧ Hid (dv W64 Q = dv W64 S - dn * dv W64 (ly.take i) + (c + u) * W64 ^ i) ∧
    Blk wr b (vs .u64 (P ++ Q ++ R)) e ∧ Fr (· = b) w wr) (fun iv _ _ _ => ly.length - (intOf iv).toNat)
  case atStart => exact ⟨0, by omega, rfl, 0, 0, S, rfl, rfl, by omega, by omega, by omega, by omega, Lib.hid hS, hdS, Lib.hid (by simp [dv]), hB, Fr.refl _ _⟩
  case round =>
    clear hB hdS
    obtain ⟨i, hi, rfl, c, u, Q, rfl, rfl, hc0, hc1, hu0, hu1, hQ, hdQ, hval, hB, hF⟩ := hrel
    by_cases hlt : i < ly.length
    · obtain ⟨b2, o2, e2, hb2, hcell2⟩ := hr2 (by omega)
      subst e2
      have hne2 : b2 ≠ b := hne _ _ _ rfl
      have x2 := (World.cell?_of_block (w := w) (a := ⟨b2, o2 + i, none⟩) (hF.block b2 hb2 hne2)).trans (hcell2 i hlt)
      have x1 := hB.at (off + i) (by simp; have := hQ.out; omega)
      have xf := hB.frozen (off + i)
      rw [mid_get hP (by have := hQ.out; omega)] at x1
      have hx := hdQ.at (by decide) i
      have hy := hdy.at (by decide) i
      have HY := Lib.hid (dv_take_succ W64 ly i)
      have HS := Lib.hid (fun q => mid_set (S := Q) (R := R) hP (show i < Q.length by have := hQ.out; omega) q)
      have HD := Lib.hid (fun d => dv_set W64 Q i d (by have := hQ.out; omega))
      generalize hxe : Q.getD i 0 = x at *
      generalize hye : ly.getD i 0 = y at *
      unfold W64 at hx hy
      obtain ⟨hx0, hx1⟩ := hx
      obtain ⟨hy0, hy1⟩ := hy
      obtain ⟨Y, rfl⟩ := Int.eq_ofNat_of_zero_le hy0
      have hprod : (dn : Int) * (Y : Int) = ((dn * Y : Nat) : Int) := (Int.natCast_mul dn Y).symm
      have hYn : Y < 18446744073709551616 := by omega
      have hpb := mul_bound hdn hYn
      have hm := Lib.hid (mul64_any dn Y hdn hYn)
      obtain ⟨p, hp⟩ : ∃ p, dn * Y = p := ⟨_, rfl⟩
      rw [hp] at hm hpb hprod
      obtain ⟨hi', hhi⟩ : ∃ t : Nat, p / 18446744073709551616 = t := ⟨_, rfl⟩
      obtain ⟨lo', hlo⟩ : ∃ t : Nat, p % 18446744073709551616 = t := ⟨_, rfl⟩
      have b1 : hi' ≤ 18446744073709551614 := by omega
      have b2' : lo' < 18446744073709551616 := by omega
      have HPE := Lib.hid (show p = hi' * 18446744073709551616 + lo' by omega)
      have b3 : (hi' : Int) * 18446744073709551616 + lo' ≤ 340282366920938463426481119284349108225 := by omega
      rw [hhi, hlo] at hm
      have HPR := Lib.hid hprod
      clear hp hpb hhi hlo hprod
      have hadd1 := add64_run lo' c 0 (by omega) hc0 (by omega) (by omega)
      simp only [Int.add_zero] at hadd1
      have hsub := sub64_run x (((lo' : Int) + c) % 18446744073709551616) u hx0 (by omega) (by omega) hu0 hu1
      have k1 : 0 ≤ ((lo' : Int) + c) / 18446744073709551616 := by omega
      have k2 : ((lo' : Int) + c) / 18446744073709551616 ≤ 1 := by omega
      clear hcell2 hxe hye
      have hfin : ∀ x' u', x' = (x - ((lo' : Int) + c) % 18446744073709551616 - u) % 18446744073709551616 → u' = (if x < ((lo' : Int) + c) % 18446744073709551616 + u then (1 : Int) else 0) →
          0 ≤ u' ∧ u' ≤ 1 ∧ 0 ≤ x' ∧ x' < W64 ∧ x' - u' * W64 = x - ((lo' : Int) + c) % 18446744073709551616 - u := by
        intro x' u' e1 e2
        unfold W64
        subst e2
        split <;> omega
      obtain ⟨g1, g2, g3, g4, g5⟩ := hfin _ _ rfl rfl
      have G5 := Lib.hid g5
      have G12 := Lib.hid (And.intro g1 g2)
      have G34 := Lib.hid (And.intro g3 g4)
      clear hfin g1 g2 g3 g4 g5
      go_wp2_with (go_at_call 97; refine (hm.out _).mono ?_; rintro e w' ⟨rfl, rfl⟩)
      go_roundw
      case rel =>
        refine ⟨i + 1, by omega, by go_num, _, _, Q.set i ((x - ((lo' : Int) + c) % 18446744073709551616 - u) % 18446744073709551616), rfl, rfl, by omega, by omega, G12.out.1, G12.out.2, Lib.hid (by rw [List.length_set]; exact hQ.out), hdQ.set _ G34.out, Lib.hid ?_, ?_, hF.set (.inl rfl) _⟩
        · rw [HD.out, HY.out, Int.pow_succ]
          exact step_less G5.out (by have := HPR.out; have := HPE.out; unfold W64; omega) hval.out
        · have h := hB.set (off + i) (.int .u64 ((x - ((lo' : Int) + c) % 18446744073709551616 - u) % 18446744073709551616))
          rw [vs_set, HS.out] at h
          exact h
      case measure => simp [intOf]; omega
    · obtain rfl : i = ly.length := by omega
      have x1 := hB.at (off + ly.length) (by simp; have := hQ.out; omega)
      have xf := hB.frozen (off + ly.length)
      rw [mid_get hP (by have := hQ.out; omega)] at x1
      have hx := hdQ.at (by decide) ly.length
      have HS := Lib.hid (fun q => mid_set (S := Q) (R := R) hP (show ly.length < Q.length by have := hQ.out; omega) q)
      have HD := Lib.hid (fun d => dv_set W64 Q ly.length d (by have := hQ.out; omega))
      generalize hxe : Q.getD ly.length 0 = x at *
      unfold W64 at hx
      obtain ⟨hx0, hx1⟩ := hx
      have hsub := sub64_run x c u hx0 hc0 hc1 hu0 hu1
      clear hxe hr2
      have hfin : ∀ x' u', x' = (x - c - u) % 18446744073709551616 → u' = (if x < c + u then (1 : Int) else 0) → 0 ≤ u' ∧ u' ≤ 1 ∧ 0 ≤ x' ∧ x' < W64 ∧ x' - u' * W64 = x - c - u := by
        intro x' u' e1 e2
        unfold W64
        subst e2
        split <;> omega
      obtain ⟨x', hx'⟩ : ∃ x', (x - c - u) % 18446744073709551616 = x' := ⟨_, rfl⟩
      obtain ⟨u', hu'⟩ : ∃ u', (if x < c + u then (1 : Int) else 0) = u' := ⟨_, rfl⟩
      rw [hx', hu'] at hsub
      obtain ⟨f1, f2, f3, f4, f5⟩ := hfin x' u' hx'.symm hu'.symm
      have HF5 := Lib.hid f5
      have HF4 := Lib.hid f4
      clear hfin hx' hu' f5 f4
      go_wp2
      go_ret
      refine ⟨Q.set ly.length x', u', rfl, f1, f2, by rw [List.length_set, hQ.out, hS], hdQ.set _ ⟨f3, HF4.out⟩, ?_, ?_, hF.set (.inl rfl) _⟩
      · have h := hval.out
        rw [List.take_length] at h
        rw [HD.out, Int.pow_succ]
        have h6 : (x' - u' * W64) * W64 ^ ly.length = (x - c - u) * W64 ^ ly.length := by rw [HF5.out]
        grind
      · have h := hB.set (off + ly.length) (.int .u64 x')
        rw [vs_set, HS.out] at h
        exact h
end Go.Proofs.YtjfkniknmkcdcaaGreatDoor

namespace Go.Proofs.YtjfkniknmkcdcaaGreatDoor
open Go.RowKit K Nu

/-- the begin of long division: both moved up by the bits that the divisor's highest word lacks -/
theorem norm_left {v : List Int} {s : Nat} {x : Int} {V : Nat} (hn : IsNum W64 v V) (hv : v ≠ []) (hx : v.getD (v.length - 1) 0 = x) (hxs : x * 2 ^ s < W64) (hs : s ≤ 64) : dv W64 v * 2 ^ s < W64 ^ v.length := by
  rcases snoc_cases v with rfl | ⟨m, t, rfl⟩
  · exact absurd rfl hv
  · have ht : t = x := by rw [← hx]; simp
    subst ht
    rw [dv_snoc]
    have h1 := (dv_bound (B := W64) (by decide) hn.dig.left).2
    have h0 := (hn.dig t (by simp)).1
    have hT : (0 : Int) < 2 ^ s := Int.pow_pos (by decide)
    have hTU : (2 : Int) ^ (64 - s) * 2 ^ s = W64 := by
      have := pow_split (s := s) hs
      have h7 : (2 : Int) ^ (64 - s) * 2 ^ s = ((2 ^ s * 2 ^ (64 - s) : Nat) : Int) := by
        rw [Int.natCast_mul, Int.natCast_pow, Int.natCast_pow, Int.mul_comm]; rfl
      rw [h7, this]; rfl
    have h2 : (t + 1) * 2 ^ s ≤ W64 := by
      rw [← hTU] at hxs ⊢
      have := Int.lt_of_mul_lt_mul_right hxs (Int.le_of_lt hT)
      exact Int.mul_le_mul_of_nonneg_right (by omega) (Int.le_of_lt hT)
    have h3 : (dv W64 m + t * W64 ^ m.length) * 2 ^ s < ((t + 1) * W64 ^ m.length) * 2 ^ s := Int.mul_lt_mul_of_pos_right (by rw [Int.add_mul]; omega) hT
    have h4 : ((t + 1) * 2 ^ s) * W64 ^ m.length ≤ W64 * W64 ^ m.length := Int.mul_le_mul_of_nonneg_right h2 (Int.le_of_lt (pow_pos (by decide) _))
    have h5 : ((t + 1) * W64 ^ m.length) * 2 ^ s = ((t + 1) * 2 ^ s) * W64 ^ m.length := by
      generalize (2 : Int) ^ s = T at *
      grind
    rw [List.length_append, List.length_singleton, Int.pow_succ, Int.mul_comm (W64 ^ m.length)]
    omega

/-- a segment of the digits: below it, in it, above it -/
theorem seg_split {x : List Int} {j n : Nat} (h : j + n ≤ x.length) : ∃ P S R, x = P ++ S ++ R ∧ P.length = j ∧ S.length = n :=
  ⟨x.take j, (x.drop j).take n, (x.drop j).drop n, by rw [List.append_assoc, List.take_append_drop, List.take_append_drop], by rw [List.length_take]; omega, by rw [List.length_take, List.length_drop]; omega⟩
theorem dv_seg (B : Int) (P S R : List Int) : dv B (P ++ S ++ R) = dv B P + B ^ P.length * dv B S + B ^ (P.length + S.length) * dv B R := by
  rw [dv_append, dv_append, List.length_append]
/-- a guess out of the three highest digits of a segment and the two highest ones of the divisor -/
theorem guess_of {S y : List Int} {T : Int} {n : Nat} (hS : S.length = n + 3) (hy : y.length = n + 2) (hdS : Dig W64 S) (hdy : Dig W64 y) (hT0 : 0 ≤ T) (hT : T * dv W64 y ≤ dv W64 S) :
    T * (y.getD (n + 1) 0 * 18446744073709551616 + y.getD n 0) ≤ (S.getD (n + 2) 0 * 18446744073709551616 + S.getD (n + 1) 0) * 18446744073709551616 + S.getD n 0 := by
  have hPp := pow_pos (B := W64) (by decide) n
  have e1 : dv W64 S = dv W64 (S.take n) + W64 ^ n * (S.getD n 0 + W64 * (S.getD (n + 1) 0 + W64 * S.getD (n + 2) 0)) := by
    rw [dv_take_drop W64 S n (by omega), drop_getD (by omega), drop_getD (by omega), drop_getD (by omega), List.drop_eq_nil_of_le (by omega)]
    simp [dv]
  have e2 : dv W64 y = dv W64 (y.take n) + W64 ^ n * (y.getD n 0 + W64 * y.getD (n + 1) 0) := by
    rw [dv_take_drop W64 y n (by omega), drop_getD (by omega), drop_getD (by omega), List.drop_eq_nil_of_le (by omega)]
    simp [dv]
  have h1 := (dv_bound (B := W64) (by decide) (hdS.take n)).2
  rw [List.length_take, Nat.min_eq_left (by omega)] at h1
  have h2 := Int.mul_nonneg hT0 (dv_bound (B := W64) (by decide) (hdy.take n)).1
  rw [e1, e2, Int.mul_add] at hT
  generalize S.getD n 0 = c at *
  generalize S.getD (n + 1) 0 = b at *
  generalize S.getD (n + 2) 0 = a at *
  generalize y.getD n 0 = w at *
  generalize y.getD (n + 1) 0 = v at *
  have h3 : (T * (w + W64 * v)) * W64 ^ n < (c + W64 * (b + W64 * a) + 1) * W64 ^ n := by
    have e3 : T * (W64 ^ n * (w + W64 * v)) = (T * (w + W64 * v)) * W64 ^ n := by
      rw [Int.mul_comm (W64 ^ n), Int.mul_assoc]
    rw [Int.add_mul, Int.one_mul, Int.mul_comm (c + W64 * (b + W64 * a))]
    omega
  have h4 := Int.lt_of_mul_lt_mul_right h3 (Int.le_of_lt hPp)
  have e5 : v * 18446744073709551616 + w = w + W64 * v := by unfold W64; omega
  rw [e5]
  unfold W64 at *
  omega
/-- one digit of the quotient -/
theorem digit_step {W Wj Wj1 X P S Y Q T S1 : Int} (hW : Wj1 = Wj * W) (hj : 0 < Wj) (hX : X = P + Wj * S) (hP : P < Wj) (hS1 : S1 = S - T * Y) (h1 : S1 < Y) :
    Q * Y * Wj1 + X = (T + W * Q) * Y * Wj + (P + Wj * S1) ∧ P + Wj * S1 < Y * Wj := by
  subst hW hX hS1
  refine ⟨by grind, ?_⟩
  have h2 : Wj * (S - T * Y + 1) ≤ Wj * Y := Int.mul_le_mul_of_nonneg_left (by omega) (Int.le_of_lt hj)
  rw [Int.mul_add, Int.mul_one] at h2
  rw [Int.mul_comm Y]
  omega

theorem left_at (v : Value) (u : List Int) (s n : Nat) (N : Int) (w : World) (hN : N = n) (hv : IsInts .u64 w v u) (hd : Dig W64 u) (hs : s < 64) (hn : n ≤ 2147483648) (hu : u.length ≤ n) (hlt : dv W64 u * 2 ^ s < W64 ^ n) :
    Calls Tryz.prog 115 #[v, .int .i64 s, .int .i64 N] w fun e w' => ∃ (o : List Int), e = .returned (.slice (some ⟨w.heap.size, 0, none⟩) n n) ∧ Blk w' w.heap.size (vs .u64 o) 106 ∧ o.length = n ∧ Dig W64 o ∧ dv W64 o = dv W64 u * 2 ^ s ∧ Below w.heap.size w w' := by
  subst hN
  refine (left_any v u s n w hv hd hs hn).mono ?_
  rintro e w' ⟨o, c, he, hB, ho, hdo, hc, hval, hb⟩
  refine ⟨o, he, hB, ho, hdo, ?_, hb⟩
  rw [List.take_of_length_le hu] at hval
  have h0 := (dv_bound (B := W64) (by decide) hdo).1
  have h1 : c < 1 := by
    have h2 : c * W64 ^ n < 1 * W64 ^ n := by omega
    exact Int.lt_of_mul_lt_mul_right h2 (Int.le_of_lt (pow_pos (by decide) n))
  obtain rfl : c = 0 := by omega
  omega

set_option maxRecDepth 100000 in
set_option maxHeartbeats 4000000 in
theorem long_any (A1 A2 : Value) (u v : List Int) (U V : Nat) (w : World) (hu : IsNum W64 u U) (hv : IsNum W64 v V) (h1 : IsInts .u64 w A1 u) (h2 : IsInts .u64 w A2 v) (hn2 : 2 ≤ v.length) (hL : v.length ≤ u.length) (hL2 : u.length ≤ 1073741824) :
    Calls Tryz.prog 110 #[A1, A2] w fun e w' => ∃ (q r : Value) (lq lr : List Int), e = .returned (.tuple #[q, r]) ∧ IsInts .u64 w' q lq ∧ IsInts .u64 w' r lr ∧ Dig W64 lq ∧ Dig W64 lr ∧ dv W64 lq = U / V ∧ dv W64 lr = U % V ∧ Below w.heap.size w w' := by
  have h1' := h1
  have h2' := h2
  obtain ⟨A1, c1, rfl, hc1, hm1, hr1⟩ := h1
  obtain ⟨A2, c2, rfl, hc2, hm2, hr2⟩ := h2
  unfold maxLen at hm1 hm2
  obtain ⟨n, hn⟩ : ∃ n, v.length = n + 2 := ⟨v.length - 2, by omega⟩
  have hvne : v ≠ [] := by intro e; rw [e] at hn; simp at hn
  obtain ⟨t, ht⟩ : ∃ t, v.getD (n + 1) 0 = t := ⟨_, rfl⟩
  have htr := hv.dig.at (by decide) (n + 1)
  have htne : t ≠ 0 := by
    rcases snoc_cases v with rfl | ⟨m, z, rfl⟩
    · exact absurd rfl hvne
    · have := hv.can z (by simp)
      have hz : (m ++ [z]).getD (n + 1) 0 = z := by
        have : m.length = n + 1 := by simpa using hn
        rw [← this]; simp
      rw [← ht, hz]; exact this
  rw [ht] at htr
  unfold W64 at htr
  obtain ⟨b2, o2, e2, hb2, hcell2⟩ := hr2 (by omega)
  subst e2
  have x2 := hcell2 (n + 1) (by omega)
  rw [ht] at x2
  obtain ⟨_, k2, k3, k4⟩ := bitLen_pos (y := t.toNat) (by omega) (by omega)
  obtain ⟨s, hs⟩ : ∃ s : Nat, 64 - Lib.bitLen t.toNat = s := ⟨_, rfl⟩
  have hlz := lz64_any t (by omega) (by omega)
  rw [show (64 : Int) - (Lib.bitLen t.toNat : Int) = (s : Int) by omega] at hlz
  rw [hs] at k3 k4
  have hs2 : s ≤ 63 := by omega
  have hts : t * 2 ^ s < W64 := by
    have := Int.ofNat_lt.2 k4
    rw [Int.natCast_mul, Int.natCast_pow, Int.toNat_of_nonneg (by omega)] at this
    exact this
  have hnl := norm_left (s := s) hv hvne (by rw [hn]; exact ht) hts (by omega)
  have HLZ := Lib.hid hlz
  have HNL := Lib.hid hnl
  obtain ⟨m, hm⟩ : ∃ m, u.length = m + (n + 2) := ⟨u.length - (n + 2), by omega⟩
  have hmi : (u.length : Int) - ((n : Int) + 2) = m := by omega
  have hmk := mk_at (P := Tryz.prog) Tryz.underlying34 Tryz.info106 rfl .i64 .i64 ((m : Int) + 1) (m + 1) (by omega) (by unfold maxLen; omega) (by omega) (vs_replicate (k := .u64) (n := m + 1) (x := 0))
  have HM := Lib.hid hm
  rw [hn] at h2' hL hn2
  clear hlz k2 k3 k4 hs hnl hcell2 hts hr1 hr2 hm
  have hUb : dv W64 u * 2 ^ s < W64 ^ (u.length + 1) := by
    have hT : (0 : Int) < 2 ^ s := Int.pow_pos (by decide)
    have h1 := (dv_bound (B := W64) (by decide) hu.dig).2
    have h2 : (2 : Int) ^ s ≤ 2 ^ 64 := pow_le_pow (by decide) (by omega)
    have h3 : (2 : Int) ^ 64 = W64 := by decide
    have h4 : dv W64 u * 2 ^ s < W64 ^ u.length * 2 ^ s := Int.mul_lt_mul_of_pos_right h1 hT
    have h5 : W64 ^ u.length * 2 ^ s ≤ W64 ^ u.length * W64 := Int.mul_le_mul_of_nonneg_left (by omega) (Int.le_of_lt (pow_pos (by decide) _))
    rw [Int.pow_succ]; omega
  have HUB := Lib.hid hUb
  clear hUb
  go_enter Tryz.func110, Tryz.ntmps110
  go_wp2_with fail
  refine (HLZ.out _).mono ?_
  rintro e w' ⟨rfl, rfl⟩
  go_wp2_with fail
  refine (left_at _ u s (u.length + 1) _ _ rfl h1' hu.dig (by omega) (by omega) (by omega) HUB.out).mono ?_
  rintro e w1 ⟨x, rfl, hBx, hxl, hxd, hxv, hb1⟩
  go_wp2_with fail
  refine (left_at _ v s (n + 2) _ _ rfl (h2'.below hb1 (Nat.le_refl _)) hv.dig (by omega) (by omega) (by omega) (by rw [← hn]; exact HNL.out)).mono ?_
  rintro e w2 ⟨y, rfl, hBy, hyl, hyd, hyv, hb2⟩
  have hBx2 := hBx.below hb2 hBx.lt
  have hbel := hb1.trans (hb2.mono hb1.size)
  have hsz1 := hBx.lt
  have hsz2 := hBy.lt
  obtain ⟨bx, hbx⟩ : ∃ bx, w.heap.size = bx := ⟨_, rfl⟩
  obtain ⟨by_, hby⟩ : ∃ by_, w1.heap.size = by_ := ⟨_, rfl⟩
  have HBX := Lib.hid hbx
  have HBY := Lib.hid hby
  rw [hby] at hBy hsz1 hsz2
  rw [hbx] at hBx2 hsz1
  have HXL := Lib.hid hxl
  have HYL := Lib.hid hyl
  have HXV := Lib.hid hxv
  have HYV := Lib.hid hyv
  clear hb1 hb2 hBx h1' h2' HLZ HUB hxl hyl hxv hyv
  rw [hby, hbx]
  clear hbx hby
  obtain ⟨bq, hbq⟩ : ∃ bq, w2.heap.size = bq := ⟨_, rfl⟩
  have HBQ := Lib.hid hbq
  have hYpos : W64 ^ (n + 1) * 2 ^ s ≤ dv W64 y := by
    have h := hv.low (by decide) hvne
    rw [hn] at h
    rw [HYV.out, hv.val]
    exact Int.mul_le_mul_of_nonneg_right h (Int.le_of_lt (Int.pow_pos (by decide)))
  have hst : dv W64 x < dv W64 y * W64 ^ (m + 1) := by
    have h1 := (dv_bound (B := W64) (by decide) hu.dig).2
    have h2 := hv.low (by decide) hvne
    rw [hn] at h2
    have hT : (0 : Int) < 2 ^ s := Int.pow_pos (by decide)
    rw [HXV.out, HYV.out, hv.val]
    have h3 : dv W64 u * 2 ^ s < W64 ^ u.length * 2 ^ s := Int.mul_lt_mul_of_pos_right h1 hT
    have h4 : W64 ^ (n + 1) * W64 ^ (m + 1) ≤ (V : Int) * W64 ^ (m + 1) := Int.mul_le_mul_of_nonneg_right h2 (Int.le_of_lt (pow_pos (by decide) _))
    have h5 : (W64 ^ (n + 1) * W64 ^ (m + 1)) * 2 ^ s ≤ ((V : Int) * W64 ^ (m + 1)) * 2 ^ s := Int.mul_le_mul_of_nonneg_right h4 (Int.le_of_lt hT)
    rw [HM.out, show m + (n + 2) = (n + 1) + (m + 1) by omega, Int.pow_add] at h3
    have h6 : ((V : Int) * W64 ^ (m + 1)) * 2 ^ s = (V : Int) * 2 ^ s * W64 ^ (m + 1) := by
      generalize (2 : Int) ^ s = T at *
      grind
    omega
  have HST := Lib.hid hst
  have HYP := Lib.hid hYpos
  have hxlen : x.length = m + n + 3 := by rw [HXL.out, HM.out]; omega
  have HXN := Lib.hid hxlen
  clear hst hYpos hxlen
  go_wp2_with fail
  have hloop0 : Blk (w2.alloc (.cells (vs .u64 (List.replicate (m + 1) 0)).toArray 106)) bq (vs .u64 (List.replicate (m + 1) 0 ++ [])) 106 := by
    rw [List.append_nil]; exact Blk.mk _ _ hbq _ _
  rw [hbq] at hsz2
  clear hbq
  go_loopw [11] (fun iv wr => ∃ (i : Int) (k : Nat) (Q X : List Int), iv = .int .i64 i ∧ i = k - 1 ∧ k ≤ m + 1 ∧ Hid (X.length = m + n + 3) ∧ Dig W64 X ∧ Hid (Q.length = m + 1 - k) ∧ Dig W64 Q ∧ Hid (dv W64 Q * dv W64 y * W64 ^ k + dv W64 X = dv W64 x) ∧ Hid (dv W64 X < dv W64 y * W64 ^ k) ∧
    Blk wr bx (vs .u64 X) 106 ∧ Blk wr bq (vs .u64 (List.replicate k 0 ++ Q)) 106 ∧ Blk wr by_ (vs .u64 y) 106 ∧ Below w.heap.size w wr) (fun iv _ => (intOf iv + 1).toNat)
  case atStart => exact ⟨_, m + 1, [], x, rfl, by omega, by omega, HXN, hxd, Lib.hid (by simp), Dig.nil _, Lib.hid (by simp [dv]), HST, hBx2.alloc _, hloop0, hBy.alloc _, hbel.alloc (by have := HBX.out; have := HBQ.out; omega) _⟩
  case round =>
    clear hloop0 hBx2 hBy hbel
    obtain ⟨i, k, Q, X, rfl, hi, hk, hX, hdX, hQ, hdQ, hval, hsm, hBX, hBQ2, hBY2, hbel⟩ := hrel
    rcases k with _ | j
    · have t1 : decide (0 ≤ i) = false := decide_eq_false (by omega)
      clear hi
      have hylt := (dv_bound (B := W64) (by decide) hyd).2
      have hXs : dv W64 (X.take (n + 2)) = dv W64 X := by
        have h1 := dv_take_drop W64 X (n + 2) (by have := hX.out; omega)
        have h2 := (dv_bound (B := W64) (by decide) (hdX.drop (n + 2))).1
        have h3 := hsm.out
        rw [Int.pow_zero, Int.mul_one] at h3
        rw [HYL.out] at hylt
        have h4 := (dv_bound (B := W64) (by decide) (hdX.take (n + 2))).1
        have h5 : W64 ^ (n + 2) * dv W64 (X.drop (n + 2)) < W64 ^ (n + 2) * 1 := by omega
        have h6 := Int.lt_of_mul_lt_mul_left h5 (Int.le_of_lt (pow_pos (by decide) _))
        have h7 : dv W64 (X.drop (n + 2)) = 0 := by omega
        rw [h7, Int.mul_zero, Int.add_zero] at h1
        exact h1.symm
      have hI : IsInts .u64 wr (.slice (some ⟨bx, 0, none⟩) (n + 2) (u.length + 1)) (X.take (n + 2)) := by
        have hl : (X.take (n + 2)).length = n + 2 := by rw [List.length_take]; have := hX.out; omega
        refine ⟨_, u.length + 1, by rw [hl], by have := HM.out; omega, by unfold maxLen; omega, fun _ => ⟨bx, 0, rfl, hBX.lt, fun q hq => ?_⟩⟩
        rw [Nat.zero_add, hBX.at q (by have := hX.out; omega), List.getD_eq_getElem?_getD, List.getD_eq_getElem?_getD, List.getElem?_take_of_lt (by omega)]
      have hR := right_any _ (X.take (n + 2)) s wr hI (hdX.take _) (by omega) (by rw [List.length_take]; omega)
      have HR := Lib.hid hR
      have HXS := Lib.hid hXs
      clear hylt hXs hI hR
      have l1 : (n : Int) + 2 ≤ u.length + 1 := by have := HM.out; omega
      have l2 : n + 2 ≤ u.length + 1 := by have := HM.out; omega
      go_wp2_with fail
      refine HR.out.mono ?_
      rintro e w3 ⟨r, o, rfl, hr, hol, hod, hov, hb3⟩
      go_wp2_with fail
      go_ret2
      have hX0 := (dv_bound (B := W64) (by decide) hdX).1
      have h1 := hval.out
      have h2 := hsm.out
      rw [Int.pow_zero, Int.mul_one] at h1 h2
      rw [HXV.out, HYV.out, hu.val, hv.val] at h1
      rw [HYV.out, hv.val] at h2
      obtain ⟨g1, g2⟩ := divmod_scaled (N := U) (S := 2 ^ s) (Q := dv W64 Q) (y := V) (R := dv W64 X) (Int.pow_pos (by decide)) (by omega) hX0 h2
      rw [HXS.out] at hov
      rw [List.replicate_zero, List.nil_append] at hBQ2
      exact ⟨_, r, Q, o, rfl, (hBQ2.ints (n := m + 1) (by have := hQ.out; omega) (by unfold maxLen; omega)).below hb3 (Nat.le_refl _), hr, hdQ, hod, g1.symm, by rw [hov, g2], hbel.trans (hb3.mono hbel.size)⟩
    · obtain rfl : i = (j : Int) := by omega
      obtain ⟨P, S, R, hXe, hPl, hSl⟩ := seg_split (x := X) (j := j) (n := n + 3) (by have := hX.out; omega)
      have hRl : R.length = m - j := by
        have := hX.out
        rw [hXe, List.length_append, List.length_append] at this; omega
      subst hXe
      have hdP := hdX.left.left
      have hdS := hdX.left.right
      have hdR := hdX.right
      have hylt := (dv_bound (B := W64) (by decide) hyd).2
      rw [HYL.out] at hylt
      have hWj := pow_pos (B := W64) (by decide) j
      have hPb := dv_bound (B := W64) (by decide) hdP
      rw [hPl] at hPb
      have hSb := dv_bound (B := W64) (by decide) hdS
      rw [hSl] at hSb
      have hsplit := dv_seg W64 P S R
      rw [hPl, hSl] at hsplit
      have hY0 : 0 < dv W64 y := Int.lt_of_lt_of_le (Int.mul_pos (pow_pos (by decide) _) (Int.pow_pos (by decide))) HYP.out
      have hR0 : dv W64 R = 0 := by
        have h1 := (dv_bound (B := W64) (by decide) hdR).1
        have h2 := hsm.out
        have h3 : dv W64 y * W64 ^ (j + 1) ≤ W64 ^ (n + 2) * W64 ^ (j + 1) := Int.mul_le_mul_of_nonneg_right (by omega) (Int.le_of_lt (pow_pos (by decide) _))
        rw [← Int.pow_add, show n + 2 + (j + 1) = j + (n + 3) by omega] at h3
        have h4 := Int.mul_nonneg (Int.le_of_lt hWj) hSb.1
        have h5 : W64 ^ (j + (n + 3)) * dv W64 R < W64 ^ (j + (n + 3)) * 1 := by omega
        have := Int.lt_of_mul_lt_mul_left h5 (Int.le_of_lt (pow_pos (by decide) _))
        omega
      rw [hR0, Int.mul_zero, Int.add_zero] at hsplit
      have hSlt : dv W64 S < dv W64 y * W64 := by
        have h2 := hsm.out
        rw [hsplit, Int.pow_succ] at h2
        have h3 : W64 ^ j * dv W64 S < W64 ^ j * (dv W64 y * W64) := by
          have : dv W64 y * (W64 ^ j * W64) = W64 ^ j * (dv W64 y * W64) := by grind
          omega
        exact Int.lt_of_mul_lt_mul_left h3 (Int.le_of_lt hWj)
      obtain ⟨T, hT⟩ : ∃ T, dv W64 S / dv W64 y = T := ⟨_, rfl⟩
      have hT0 : 0 ≤ T := by rw [← hT]; exact Int.ediv_nonneg hSb.1 (by omega)
      have hT1 : T < 18446744073709551616 := by rw [← hT]; exact Int.ediv_lt_of_lt_mul hY0 (by rw [Int.mul_comm]; exact hSlt)
      have hTlo : T * dv W64 y ≤ dv W64 S := by rw [← hT]; exact Int.ediv_mul_le _ (by omega)
      have hThi : dv W64 S < (T + 1) * dv W64 y := by rw [← hT]; exact Int.lt_ediv_add_one_mul_self _ hY0
      have hgu := guess_of (S := S) (y := y) (T := T) (n := n) hSl HYL.out hdS hyd hT0 hTlo
      have HSPLIT := Lib.hid hsplit
      have HTLO := Lib.hid hTlo
      have HTHI := Lib.hid hThi
      have HPB := Lib.hid hPb
      have HY0 := Lib.hid hY0
      have HR0 := Lib.hid hR0
      have HSL := Lib.hid hSl
      clear hT hR0 hSlt hsplit hTlo hThi hylt hPb hSb hWj hY0 hi
      -- the cells that the guess reads
      have hbx' := hBX.lt
      have xa := hBX.at (j + (n + 2)) (by have := hX.out; omega)
      have xb := hBX.at (j + (n + 1)) (by have := hX.out; omega)
      have xc := hBX.at (j + n) (by have := hX.out; omega)
      rw [mid_get hPl (by omega)] at xa xb xc
      have ya := hBY2.at (n + 1) (by rw [HYL.out]; omega)
      have yb := hBY2.at n (by rw [HYL.out]; omega)
      have ra := hdS.at (by decide) (n + 2)
      have rb := hdS.at (by decide) (n + 1)
      have rc := hdS.at (by decide) n
      have sa := hyd.at (by decide) (n + 1)
      have sb := hyd.at (by decide) n
      have hvpos : 0 < y.getD (n + 1) 0 := by
        have h1 := dv_take_drop W64 y (n + 1) (by rw [HYL.out]; omega)
        have h2 := (dv_bound (B := W64) (by decide) (hyd.take (n + 1))).2
        rw [List.length_take, HYL.out, Nat.min_eq_left (by omega), ] at h2
        rw [drop_getD (by rw [HYL.out]; omega), List.drop_eq_nil_of_le (by rw [HYL.out]; omega)] at h1
        have h3 : dv W64 (y.getD (n + 1) 0 :: []) = y.getD (n + 1) 0 := by simp [dv]
        rw [h3] at h1
        apply Classical.byContradiction
        intro hno
        have h4 : y.getD (n + 1) 0 = 0 := by omega
        rw [h4, Int.mul_zero, Int.add_zero] at h1
        have h5 := HYP.out
        have h6 : W64 ^ (n + 1) * 1 ≤ W64 ^ (n + 1) * 2 ^ s := Int.mul_le_mul_of_nonneg_left (by have := pow_pos (B := 2) (by decide) s; omega) (Int.le_of_lt (pow_pos (by decide) _))
        omega
      generalize S.getD (n + 2) 0 = da at *
      generalize S.getD (n + 1) 0 = db at *
      generalize S.getD n 0 = dc at *
      generalize y.getD (n + 1) 0 = ea at *
      generalize y.getD n 0 = eb at *
      unfold W64 at ra rb rc sa sb
      have hG := Lib.hid (fun wd => guess_any da db dc ea eb wd ra.1 rb.1 rb.2 rc.1 rc.2 hvpos sa.2 sb.1 sb.2)
      have HGL := Lib.hid (gv_low hvpos sb.1 hT1 hgu)
      have HGR := Lib.hid (gv_range ra.1 rb.1 rb.2 rc.1 rc.2 hvpos sb.1)
      clear hgu ra rb rc sa sb hvpos
      have i1 : IntKind.i64.wrap ((j : Int) + ((n : Int) + 2)) = j + (n + 2) := by rw [IntKind.wrap_i64]; omega
      have i2 : IntKind.i64.wrap ((j : Int) + ((n : Int) + 2) - 1) = j + (n + 1) := by rw [IntKind.wrap_i64]; omega
      have i3 : IntKind.i64.wrap ((j : Int) + ((n : Int) + 2) - 2) = j + n := by rw [IntKind.wrap_i64]; omega
      have i4 : IntKind.i64.wrap ((n : Int) + 2 - 1) = n + 1 := by rw [IntKind.wrap_i64]; omega
      have i5 : IntKind.i64.wrap ((n : Int) + 2 - 2) = n := by rw [IntKind.wrap_i64]; omega
      have j1 : ((j : Int) + ((n : Int) + 2)).toNat = j + (n + 2) := by omega
      have j2 : ((j : Int) + ((n : Int) + 1)).toNat = j + (n + 1) := by omega
      have j3 : ((j : Int) + (n : Int)).toNat = j + n := by omega
      have j4 : ((n : Int) + 1).toNat = n + 1 := by omega
      have l0 : (u.length : Int) + 1 = m + n + 3 := by have := HM.out; omega
      have l1 : (j : Int) + ((n : Int) + 2) < (u.length : Int) + 1 := by omega
      have l2 : (j : Int) + ((n : Int) + 1) < (u.length : Int) + 1 := by omega
      have l3 : (j : Int) + (n : Int) < (u.length : Int) + 1 := by omega
      have L0 := Lib.hid l0
      clear l0
      go_upto_region 8 with fail
      go_cut [12] (fun dv_ wc => ∃ d : Int, dv_ = .int .u64 d ∧ T ≤ d ∧ d < 18446744073709551616 ∧ Blk wc bx (vs .u64 (P ++ S ++ R)) 106 ∧ Blk wc bq (vs .u64 (List.replicate (j + 1) 0 ++ Q)) 106 ∧ Blk wc by_ (vs .u64 y) 106 ∧ Below w.heap.size w wc)
      case first =>
        go_quiet ((go_at_call 116; exact Calls.quiet_of (hG.out _)))
        go_wp2_with fail
        go_meet
        case rel => exact ⟨_, rfl, HGL.out, HGR.out.2, hBX, hBQ2, hBY2, bdn hbel _⟩
      case rest =>
        clear hBX hBQ2 hBY2 hbel xa xb xc ya yb
        obtain ⟨d, rfl, hTd, hd1, hBX, hBQ2, hBY2, hbel⟩ := hcut
        have hyI := (hBY2.ints (n := n + 2) HYL.out.symm (by unfold maxLen; omega))
        have hne1 : by_ ≠ bx := by omega
        have hless := fun cx => less_any bx j cx P S R y d (.slice (some ⟨by_, 0, none⟩) (n + 2) (n + 2)) wc 106 hBX hPl (by rw [HSL.out, HYL.out]) hdS hyd hyI (fun A n' c e => by cases e; exact hne1) (by omega) (by omega) hd1
        rw [HYL.out] at hless
        have HLESS := Lib.hid hless
        have m1 : (j : Int) + ((n : Int) + 2) + 1 ≤ (u.length : Int) + 1 := by have := L0.out; omega
        have m2 : ((j : Int) + ((n : Int) + 2) + 1).toNat = j + (n + 2) + 1 := by omega
        have m3 : ¬ u.length + 1 = j := by have := L0.out; omega
        have m4 : ((j : Int) + ((n : Int) + 2) + 1 - j) = n + 3 := by omega
        have m5 : j + (n + 2) + 1 - j = n + 3 := by omega
        have m6 : (j : Int) ≤ (j : Int) + ((n : Int) + 2) + 1 := by omega
        clear hless
        go_wp2_with fail
        refine (HLESS.out _).mono ?_
        rintro e w3 ⟨S1, c, rfl, hc0, hc1, hS1l, hdS1, hS1v, hBX1, hF1⟩
        have hBQ3 := hBQ2.fr hF1 (by omega)
        have hBY3 := hBY2.fr hF1 (by omega)
        have hbel3 : Below w.heap.size w w3 := hbel.trans (hF1.below (fun q hq e => by have := HBX.out; omega) hbel.size)
        obtain ⟨bb, hbb⟩ : ∃ bb : Bool, (c != 0) = bb := ⟨_, rfl⟩
        have hcb : c = if bb then 1 else 0 := by
          rw [← hbb]
          rcases (show c = 0 ∨ c = 1 by omega) with rfl | rfl <;> rfl
        rw [hbb]
        have HV1 := Lib.hid (show dv W64 S1 = dv W64 S - d * dv W64 y + (if bb then 1 else 0) * W64 ^ (n + 3) by rw [← hcb]; exact hS1v)
        have HS1L := Lib.hid (show S1.length = n + 3 by rw [hS1l, HSL.out])
        clear hbb hcb hS1v hS1l hc0 hc1 hBX hBQ2 hBY2 hbel hF1 HLESS hyI
        go_wp2_with fail
        go_loopw [12, 14] (fun dv_ uv wr => ∃ (d : Int) (bb : Bool) (S1 : List Int), dv_ = .int .u64 d ∧ uv = .bool bb ∧ T ≤ d ∧ d < 18446744073709551616 ∧ Hid (S1.length = n + 3) ∧ Dig W64 S1 ∧ Hid (dv W64 S1 = dv W64 S - d * dv W64 y + (if bb then 1 else 0) * W64 ^ (n + 3)) ∧
          Blk wr bx (vs .u64 (P ++ S1 ++ R)) 106 ∧ Blk wr bq (vs .u64 (List.replicate (j + 1) 0 ++ Q)) 106 ∧ Blk wr by_ (vs .u64 y) 106 ∧ Below w.heap.size w wr) (fun dv_ _ _ => (intOf dv_).toNat)
        case atStart => exact ⟨d, bb, S1, rfl, rfl, hTd, hd1, HS1L, hdS1, HV1, hBX1, hBQ3, hBY3, hbel3⟩
        case round =>
          clear hTd hd1 HS1L hdS1 HV1 hBX1 hBQ3 hBY3 hbel3
          obtain ⟨d, bb, S1, rfl, rfl, hTd, hd1, hS1l, hdS1, hv1, hBX, hBQ2, hBY2, hbel⟩ := hrel
          cases bb with
          | true =>
            have hS1b := (dv_bound (B := W64) (by decide) hdS1).2
            rw [hS1l.out] at hS1b
            have hv3 : dv W64 S1 = dv W64 S - d * dv W64 y + W64 ^ (n + 3) := by
              have h1 := hv1.out
              rw [if_pos rfl, Int.one_mul] at h1
              exact h1
            have HV3 := Lib.hid hv3
            have hTd2 : T < d := by
              have h1 := hv3
              have h2 : T * dv W64 y < d * dv W64 y := by have := HTLO.out; omega
              exact Int.lt_of_mul_lt_mul_right h2 (Int.le_of_lt HY0.out)
            have hyI := (hBY2.ints (n := n + 2) HYL.out.symm (by unfold maxLen; omega))
            have hmore := fun cx => more_any bx j cx P S1 R y (.slice (some ⟨by_, 0, none⟩) (n + 2) (n + 2)) wr 106 hBX hPl (by rw [hS1l.out, HYL.out]) hdS1 hyd hyI (fun A n' c e => by cases e; exact hne1) (by have := hS1l.out; omega)
            rw [HYL.out] at hmore
            have HMORE := Lib.hid hmore
            clear hmore hyI hS1b hv3 hv1
            go_wp2_with fail
            refine (HMORE.out _).mono ?_
            rintro e w4 ⟨S2, c, rfl, hc0, hc1, hS2l, hdS2, hS2v, hBX2', hF2⟩
            have hBQ4 := hBQ2.fr hF2 (by omega)
            have hBY4 := hBY2.fr hF2 (by omega)
            have hbel4 : Below w.heap.size w w4 := hbel.trans (hF2.below (fun q hq e => by have := HBX.out; omega) hbel.size)
            have hfin : ∀ b2 : Bool, c = (if b2 then 0 else 1) → Hid (dv W64 S2 = dv W64 S - (d - 1) * dv W64 y + (if b2 then 1 else 0) * W64 ^ (n + 3)) := by
              intro b2 hb2
              have h1 := HV3.out
              have h2 : dv W64 S2 + c * W64 ^ (n + 3) = dv W64 S1 + dv W64 y := hS2v
              refine Lib.hid ?_
              rw [Int.sub_mul, Int.one_mul]
              cases b2 with
              | true =>
                have hc : c = 0 := hb2
                rw [hc] at h2
                rw [if_pos rfl]; omega
              | false =>
                have hc : c = 1 := hb2
                rw [hc] at h2
                rw [if_neg (by decide)]; omega
            have HS2 := Lib.hid (show S2.length = n + 3 by rw [hS2l, hS1l.out])
            have h1d : 1 ≤ d := by omega
            clear hS2v hS2l hBX hBQ2 hBY2 hbel hF2 HMORE
            rcases (show c = 0 ∨ c = 1 by omega) with rfl | rfl
            · have hf := hfin true rfl
              clear hfin
              go_wp2_with fail
              go_roundw
              case rel => exact ⟨d - 1, true, S2, rfl, rfl, by omega, by omega, HS2, hdS2, hf, hBX2', hBQ4, hBY4, hbel4⟩
              case measure => simp [intOf]; omega
            · have hf := hfin false rfl
              clear hfin
              go_wp2_with fail
              go_roundw
              case rel => exact ⟨d - 1, false, S2, rfl, rfl, by omega, by omega, HS2, hdS2, hf, hBX2', hBQ4, hBY4, hbel4⟩
              case measure => simp [intOf]; omega
          | false =>
            have hv2 := hv1.out
            rw [if_neg (by decide), Int.zero_mul, Int.add_zero] at hv2
            have hS1b := (dv_bound (B := W64) (by decide) hdS1).1
            have hdT : d = T := by
              have h2 : d * dv W64 y < (T + 1) * dv W64 y := by have := HTHI.out; omega
              have := Int.lt_of_mul_lt_mul_right h2 (Int.le_of_lt HY0.out)
              omega
            subst hdT
            have hstep := digit_step (W := W64) (Wj := W64 ^ j) (Wj1 := W64 ^ (j + 1)) (X := dv W64 (P ++ S ++ R)) (P := dv W64 P) (S := dv W64 S) (Y := dv W64 y) (Q := dv W64 Q) (T := d) (S1 := dv W64 S1) (Int.pow_succ _ _) (pow_pos (by decide) _) HSPLIT.out HPB.out.2 hv2 (by
              have := HTHI.out
              rw [Int.add_mul, Int.one_mul] at this
              omega)
            have hX1 : dv W64 (P ++ S1 ++ R) = dv W64 P + W64 ^ j * dv W64 S1 := by
              rw [dv_seg, HR0.out, hPl, Int.mul_zero, Int.add_zero]
            have HST2 := Lib.hid hstep
            have HX1 := Lib.hid hX1
            have hq1 := hBQ2.at j (by simp; omega)
            have hq2 := hBQ2.frozen j
            clear hv2 hS1b hstep hX1
            go_wp2_with fail
            go_roundw
            case rel =>
              refine ⟨_, j, d :: Q, P ++ S1 ++ R, rfl, rfl, by omega, Lib.hid (by simp; have := hS1l.out; omega), (hdP.append hdS1).append hdR, Lib.hid (by have := hQ.out; simp; omega), Dig.cons ⟨hT0, by unfold W64; omega⟩ hdQ, Lib.hid ?_, Lib.hid ?_, hBX.far (show bx ≠ bq by omega) _, ?_, hBY2.far (show by_ ≠ bq by omega) _, hbel.setCell (show w.heap.size ≤ bq by have := HBX.out; omega) _⟩
              · have h1 := HST2.out.1
                rw [hval.out] at h1
                rw [HX1.out, h1]
                rfl
              · rw [HX1.out]; exact HST2.out.2
              · have h := hBQ2.set j (.int .u64 d)
                rw [vs_set, set_pre] at h
                exact h
            case measure => simp [intOf]
end Go.Proofs.YtjfkniknmkcdcaaGreatDoor
