/- The walks of less and more. -/
import Derived.Test.YtjfkniknmkcdcaaDoorNf
namespace Go.Proofs.YtjfkniknmkcdcaaDoor
open Go.RowKit K Nu

theorem mid_get {P S R : List Int} {off i : Nat} (hP : P.length = off) (hi : i < S.length) : (P ++ S ++ R).getD (off + i) 0 = S.getD i 0 := by
  rw [List.append_assoc, List.getD_eq_getElem?_getD, List.getD_eq_getElem?_getD, List.getElem?_append_right (by omega), show off + i - P.length = i by omega, List.getElem?_append_left hi]
theorem mid_set {P S R : List Int} {off i : Nat} (hP : P.length = off) (hi : i < S.length) (x : Int) : (P ++ S ++ R).set (off + i) x = P ++ S.set i x ++ R := by
  rw [List.append_assoc, List.append_assoc, List.set_append_right _ _ (by omega), show off + i - P.length = i by omega, List.set_append_left _ _ hi]
/-- one digit of what is taken off -/
theorem step_less {W V D A d T y x x' carry under carry' under' lo : Int} (h1 : x' - under' * W = x - lo - under) (h2 : carry' * W + lo = d * y + carry) (inv : D = A - d * T + (carry + under) * V) :
    D + (x' - x) * V = A - d * (T + y * V) + (carry' + under') * (V * W) := by
  have e1 : (x' - under' * W) * V = (x - lo - under) * V := by rw [h1]
  have e2 : (carry' * W + lo) * V = (d * y + carry) * V := by rw [h2]
  grind
theorem step_more {W V D A T y x x' c c' : Int} (h1 : x' + c' * W = x + y + c) (inv : D + c * V = A + T) : D + (x' - x) * V + c' * (V * W) = A + (T + y * V) := by
  have e1 : (x' + c' * W) * V = (x + y + c) * V := by rw [h1]
  grind

set_option maxRecDepth 100000 in
set_option maxHeartbeats 2000000 in
theorem more_any (b off cx : Nat) (P S R ly : List Int) (vy : Value) (w : World) (e : TypeId) (hB : Blk w b (vs .u64 (P ++ S ++ R)) e) (hP : P.length = off) (hS : S.length = ly.length + 1) (hdS : Dig W64 S) (hdy : Dig W64 ly)
    (hy : IsInts .u64 w vy ly) (hne : ∀ A n c, vy = .slice (some A) n c → A.block ≠ b) (hm : off + S.length ≤ 9000000000) :
    Calls Tryd.prog 100 #[.slice (some ⟨b, off, none⟩) (ly.length + 1) cx, vy] w fun e' w' => ∃ (S' : List Int) (c : Int), e' = .returned (.bool (c != 0)) ∧ 0 ≤ c ∧ c ≤ 1 ∧ S'.length = S.length ∧ Dig W64 S' ∧ dv W64 S' + c * W64 ^ (ly.length + 1) = dv W64 S + dv W64 ly ∧ Blk w' b (vs .u64 (P ++ S' ++ R)) e ∧ Fr (· = b) w w' := by
  obtain ⟨A2, c2, rfl, hc2, hm2, hr2⟩ := hy
  clear hm2
  go_enter Tryd.func100, Tryd.ntmps100
  go_wp2
  go_loopw [10, 5] (fun iv cv wr => ∃ i : Nat, i ≤ ly.length ∧ iv = .int .i64 i ∧ ∃ (c : Int) (Q : List Int), cv = .int .u64 c ∧ 0 ≤ c ∧ c ≤ 1 ∧ Hid (Q.length = ly.length + 1) ∧ Dig W64 Q ∧ Hid (dv W64 Q + c * W64 ^ i = dv W64 S + dv W64 (ly.take i)) ∧
    Blk wr b (vs .u64 (P ++ Q ++ R)) e ∧ Fr (· = b) w wr) (fun iv _ _ => ly.length - (intOf iv).toNat)
  case atStart => exact ⟨0, by omega, rfl, 0, S, rfl, by omega, by omega, Lib.hid hS, hdS, Lib.hid (by simp [dv]), hB, Fr.refl _ _⟩
  case round =>
    clear hB hdS
    obtain ⟨i, hi, rfl, c, Q, rfl, hc0, hc1, hQ, hdQ, hval, hB, hF⟩ := hrel
    by_cases hlt : i < ly.length
    · obtain ⟨b2, o2, e2, hb2, hcell2⟩ := hr2 (by omega)
      subst e2
      have hne2 : b2 ≠ b := hne _ _ _ rfl
      have x2 := (World.cell?_of_block (w := w) (a := ⟨b2, o2 + i, none⟩) (hF.block b2 hb2 hne2)).trans (hcell2 i hlt)
      have x1 := hB.at (off + i) (by simp; have := hQ.out; omega)
      have xf := hB.frozen (off + i)
      rw [mid_get hP (by have := hQ.out; omega)] at x1
      have hx := hdQ.at (by decide) i
      have hy := hdy.at (by decide) i
      have HY := Lib.hid (dv_take_succ W64 ly i)
      have HS := Lib.hid (fun q => mid_set (S := Q) (R := R) hP (show i < Q.length by have := hQ.out; omega) q)
      have HD := Lib.hid (fun d => dv_set W64 Q i d (by have := hQ.out; omega))
      generalize hxe : Q.getD i 0 = x at *
      generalize hye : ly.getD i 0 = y at *
      unfold W64 at hx hy
      obtain ⟨hx0, hx1⟩ := hx
      obtain ⟨hy0, hy1⟩ := hy
      have hadd := add64_run x y c hx0 hy0 hc0 hc1
      clear hcell2 hxe hye
      go_wp2
      go_roundw
      case rel =>
        refine ⟨i + 1, by omega, by go_num, _, Q.set i ((x + y + c) % 18446744073709551616), rfl, by omega, by omega, Lib.hid (by rw [List.length_set]; exact hQ.out), hdQ.set _ ⟨by omega, by unfold W64; omega⟩, Lib.hid ?_, ?_, hF.set (.inl rfl) _⟩
        · rw [HD.out, HY.out, Int.pow_succ]
          exact step_more (by unfold W64; omega) hval.out
        · have h := hB.set (off + i) (.int .u64 ((x + y + c) % 18446744073709551616))
          rw [vs_set, HS.out] at h
          exact h
      case measure => simp [intOf]; omega
    · obtain rfl : i = ly.length := by omega
      have x1 := hB.at (off + ly.length) (by simp; have := hQ.out; omega)
      have xf := hB.frozen (off + ly.length)
      rw [mid_get hP (by have := hQ.out; omega)] at x1
      have hx := hdQ.at (by decide) ly.length
      have HS := Lib.hid (fun q => mid_set (S := Q) (R := R) hP (show ly.length < Q.length by have := hQ.out; omega) q)
      have HD := Lib.hid (fun d => dv_set W64 Q ly.length d (by have := hQ.out; omega))
      generalize hxe : Q.getD ly.length 0 = x at *
      unfold W64 at hx
      obtain ⟨hx0, hx1⟩ := hx
      have hadd := add64_run x 0 c hx0 (by omega) hc0 hc1
      simp only [Int.add_zero] at hadd
      clear hxe hr2
      go_wp2
      go_ret
      refine ⟨Q.set ly.length ((x + c) % 18446744073709551616), (x + c) / 18446744073709551616, rfl, by omega, by omega, by rw [List.length_set, hQ.out, hS], hdQ.set _ ⟨by omega, by unfold W64; omega⟩, ?_, ?_, hF.set (.inl rfl) _⟩
      · have h := hval.out
        rw [List.take_length] at h
        rw [HD.out, Int.pow_succ]
        have h2 := step_more (W := W64) (V := W64 ^ ly.length) (D := dv W64 Q) (A := dv W64 S) (T := dv W64 ly) (y := 0) (x := x) (c := c) (x' := (x + c) % 18446744073709551616) (c' := (x + c) / 18446744073709551616) (by unfold W64; omega) h
        rw [h2, Int.zero_mul, Int.add_zero]
      · have h := hB.set (off + ly.length) (.int .u64 ((x + c) % 18446744073709551616))
        rw [vs_set, HS.out] at h
        exact h

set_option maxRecDepth 100000 in
set_option maxHeartbeats 2000000 in
theorem less_any (b off cx : Nat) (P S R ly : List Int) (d : Int) (vy : Value) (w : World) (e : TypeId) (hB : Blk w b (vs .u64 (P ++ S ++ R)) e) (hP : P.length = off) (hS : S.length = ly.length + 1) (hdS : Dig W64 S) (hdy : Dig W64 ly)
    (hy : IsInts .u64 w vy ly) (hne : ∀ A n c, vy = .slice (some A) n c → A.block ≠ b) (hm : off + S.length ≤ 9000000000) (hd0 : 0 ≤ d) (hd1 : d < 18446744073709551616) :
    Calls Tryd.prog 99 #[.slice (some ⟨b, off, none⟩) (ly.length + 1) cx, vy, .int .u64 d] w fun e' w' => ∃ (S' : List Int) (c : Int), e' = .returned (.bool (c != 0)) ∧ 0 ≤ c ∧ c ≤ 1 ∧ S'.length = S.length ∧ Dig W64 S' ∧ dv W64 S' = dv W64 S - d * dv W64 ly + c * W64 ^ (ly.length + 1) ∧ Blk w' b (vs .u64 (P ++ S' ++ R)) e ∧ Fr (· = b) w w' := by
  obtain ⟨A2, c2, rfl, hc2, hm2, hr2⟩ := hy
  clear hm2
  obtain ⟨dn, rfl⟩ := Int.eq_ofNat_of_zero_le hd0
  have hdn : dn < 18446744073709551616 := by omega
  go_enter Tryd.func99, Tryd.ntmps99
  go_wp2
  go_loopw [16, 7, 8] (fun iv cv uv wr => ∃ i : Nat, i ≤ ly.length ∧ iv = .int .i64 i ∧ ∃ (c u : Int) (Q : List Int), cv = .int .u64 c ∧ uv = .int .u64 u ∧ 0 ≤ c ∧ c < 18446744073709551616 ∧ 0 ≤ u ∧ u ≤ 1 ∧ Hid (Q.length = ly.length + 1) ∧ Dig W64 Q ∧ Hid (dv W64 Q = dv W64 S - dn * dv W64 (ly.take i) + (c + u) * W64 ^ i) ∧
    Blk wr b (vs .u64 (P ++ Q ++ R)) e ∧ Fr (· = b) w wr) (fun iv _ _ _ => ly.length - (intOf iv).toNat)
  case atStart => exact ⟨0, by omega, rfl, 0, 0, S, rfl, rfl, by omega, by omega, by omega, by omega, Lib.hid hS, hdS, Lib.hid (by simp [dv]), hB, Fr.refl _ _⟩
  case round =>
    clear hB hdS
    obtain ⟨i, hi, rfl, c, u, Q, rfl, rfl, hc0, hc1, hu0, hu1, hQ, hdQ, hval, hB, hF⟩ := hrel
    by_cases hlt : i < ly.length
    · obtain ⟨b2, o2, e2, hb2, hcell2⟩ := hr2 (by omega)
      subst e2
      have hne2 : b2 ≠ b := hne _ _ _ rfl
      have x2 := (World.cell?_of_block (w := w) (a := ⟨b2, o2 + i, none⟩) (hF.block b2 hb2 hne2)).trans (hcell2 i hlt)
      have x1 := hB.at (off + i) (by simp; have := hQ.out; omega)
      have xf := hB.frozen (off + i)
      rw [mid_get hP (by have := hQ.out; omega)] at x1
      have hx := hdQ.at (by decide) i
      have hy := hdy.at (by decide) i
      have HY := Lib.hid (dv_take_succ W64 ly i)
      have HS := Lib.hid (fun q => mid_set (S := Q) (R := R) hP (show i < Q.length by have := hQ.out; omega) q)
      have HD := Lib.hid (fun d => dv_set W64 Q i d (by have := hQ.out; omega))
      generalize hxe : Q.getD i 0 = x at *
      generalize hye : ly.getD i 0 = y at *
      unfold W64 at hx hy
      obtain ⟨hx0, hx1⟩ := hx
      obtain ⟨hy0, hy1⟩ := hy
      obtain ⟨Y, rfl⟩ := Int.eq_ofNat_of_zero_le hy0
      have hprod : (dn : Int) * (Y : Int) = ((dn * Y : Nat) : Int) := (Int.natCast_mul dn Y).symm
      have hYn : Y < 18446744073709551616 := by omega
      have hpb := mul_bound hdn hYn
      have hm := Lib.hid (mul64_any dn Y hdn hYn)
      obtain ⟨p, hp⟩ : ∃ p, dn * Y = p := ⟨_, rfl⟩
      rw [hp] at hm hpb hprod
      obtain ⟨hi', hhi⟩ : ∃ t : Nat, p / 18446744073709551616 = t := ⟨_, rfl⟩
      obtain ⟨lo', hlo⟩ : ∃ t : Nat, p % 18446744073709551616 = t := ⟨_, rfl⟩
      have b1 : hi' ≤ 18446744073709551614 := by omega
      have b2' : lo' < 18446744073709551616 := by omega
      have HPE := Lib.hid (show p = hi' * 18446744073709551616 + lo' by omega)
      have b3 : (hi' : Int) * 18446744073709551616 + lo' ≤ 340282366920938463426481119284349108225 := by omega
      rw [hhi, hlo] at hm
      have HPR := Lib.hid hprod
      clear hp hpb hhi hlo hprod
      have hadd1 := add64_run lo' c 0 (by omega) hc0 (by omega) (by omega)
      simp only [Int.add_zero] at hadd1
      have hsub := sub64_run x (((lo' : Int) + c) % 18446744073709551616) u hx0 (by omega) (by omega) hu0 hu1
      have k1 : 0 ≤ ((lo' : Int) + c) / 18446744073709551616 := by omega
      have k2 : ((lo' : Int) + c) / 18446744073709551616 ≤ 1 := by omega
      clear hcell2 hxe hye
      have hfin : ∀ x' u', x' = (x - ((lo' : Int) + c) % 18446744073709551616 - u) % 18446744073709551616 → u' = (if x < ((lo' : Int) + c) % 18446744073709551616 + u then (1 : Int) else 0) →
          0 ≤ u' ∧ u' ≤ 1 ∧ 0 ≤ x' ∧ x' < W64 ∧ x' - u' * W64 = x - ((lo' : Int) + c) % 18446744073709551616 - u := by
        intro x' u' e1 e2
        unfold W64
        subst e2
        split <;> omega
      obtain ⟨g1, g2, g3, g4, g5⟩ := hfin _ _ rfl rfl
      have G5 := Lib.hid g5
      have G12 := Lib.hid (And.intro g1 g2)
      have G34 := Lib.hid (And.intro g3 g4)
      clear hfin g1 g2 g3 g4 g5
      go_wp2_with (go_at_call 64; refine (hm.out _).mono ?_; rintro e w' ⟨rfl, rfl⟩)
      go_roundw
      case rel =>
        refine ⟨i + 1, by omega, by go_num, _, _, Q.set i ((x - ((lo' : Int) + c) % 18446744073709551616 - u) % 18446744073709551616), rfl, rfl, by omega, by omega, G12.out.1, G12.out.2, Lib.hid (by rw [List.length_set]; exact hQ.out), hdQ.set _ G34.out, Lib.hid ?_, ?_, hF.set (.inl rfl) _⟩
        · rw [HD.out, HY.out, Int.pow_succ]
          exact step_less G5.out (by have := HPR.out; have := HPE.out; unfold W64; omega) hval.out
        · have h := hB.set (off + i) (.int .u64 ((x - ((lo' : Int) + c) % 18446744073709551616 - u) % 18446744073709551616))
          rw [vs_set, HS.out] at h
          exact h
      case measure => simp [intOf]; omega
    · obtain rfl : i = ly.length := by omega
      have x1 := hB.at (off + ly.length) (by simp; have := hQ.out; omega)
      have xf := hB.frozen (off + ly.length)
      rw [mid_get hP (by have := hQ.out; omega)] at x1
      have hx := hdQ.at (by decide) ly.length
      have HS := Lib.hid (fun q => mid_set (S := Q) (R := R) hP (show ly.length < Q.length by have := hQ.out; omega) q)
      have HD := Lib.hid (fun d => dv_set W64 Q ly.length d (by have := hQ.out; omega))
      generalize hxe : Q.getD ly.length 0 = x at *
      unfold W64 at hx
      obtain ⟨hx0, hx1⟩ := hx
      have hsub := sub64_run x c u hx0 hc0 hc1 hu0 hu1
      clear hxe hr2
      have hfin : ∀ x' u', x' = (x - c - u) % 18446744073709551616 → u' = (if x < c + u then (1 : Int) else 0) → 0 ≤ u' ∧ u' ≤ 1 ∧ 0 ≤ x' ∧ x' < W64 ∧ x' - u' * W64 = x - c - u := by
        intro x' u' e1 e2
        unfold W64
        subst e2
        split <;> omega
      obtain ⟨x', hx'⟩ : ∃ x', (x - c - u) % 18446744073709551616 = x' := ⟨_, rfl⟩
      obtain ⟨u', hu'⟩ : ∃ u', (if x < c + u then (1 : Int) else 0) = u' := ⟨_, rfl⟩
      rw [hx', hu'] at hsub
      obtain ⟨f1, f2, f3, f4, f5⟩ := hfin x' u' hx'.symm hu'.symm
      have HF5 := Lib.hid f5
      have HF4 := Lib.hid f4
      clear hfin hx' hu' f5 f4
      go_wp2
      go_ret
      refine ⟨Q.set ly.length x', u', rfl, f1, f2, by rw [List.length_set, hQ.out, hS], hdQ.set _ ⟨f3, HF4.out⟩, ?_, ?_, hF.set (.inl rfl) _⟩
      · have h := hval.out
        rw [List.take_length] at h
        rw [HD.out, Int.pow_succ]
        have h6 : (x' - u' * W64) * W64 ^ ly.length = (x - c - u) * W64 ^ ly.length := by rw [HF5.out]
        grind
      · have h := hB.set (off + ly.length) (.int .u64 x')
        rw [vs_set, HS.out] at h
        exact h
end Go.Proofs.YtjfkniknmkcdcaaDoor
