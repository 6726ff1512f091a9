/- The walks of left, right. -/
import Derived.Test.YtjfkniknmkcdcaaDoorNc
import Derived.RegionTactic
import Derived.BigRegion
import Derived.StillTailTactics
namespace Go.Proofs.YtjfkniknmkcdcaaDoor
open Go.RowKit K Nu
theorem wrap64u (n : Int) : IntKind.u64.wrap n = n % 18446744073709551616 := by simp [IntKind.wrap, IntKind.bits, IntKind.signed]
theorem or_u64 {a b : Nat} (ha : a < 18446744073709551616) (hb : b < 18446744073709551616) : bits .or .u64 (a : Int) (b : Int) = ((a ||| b : Nat) : Int) :=
  (bits_nat .u64 64 (by decide) (fun n h0 h1 => by rw [wrap64u]; exact Int.emod_eq_of_lt h0 (by simpa using h1)) a b (by simpa using ha) (by simpa using hb)).2
theorem pow_split {s : Nat} (hs : s ≤ 64) : (2 : Nat) ^ s * 2 ^ (64 - s) = 18446744073709551616 := by
  rw [← Nat.pow_add, show s + (64 - s) = 64 by omega]
/-- a word that is moved up by s bits, with s bits below -/
theorem shl_or {x c : Int} {s : Nat} (hs : s ≤ 64) (hx0 : 0 ≤ x) (hx1 : x < 18446744073709551616) (hc0 : 0 ≤ c) (hc1 : c < 2 ^ s) (hc2 : c < 18446744073709551616) :
    bits .or .u64 (IntKind.u64.wrap (x * 2 ^ s)) c = (x % 2 ^ (64 - s)) * 2 ^ s + c ∧ x * 2 ^ s = (x / 2 ^ (64 - s)) * 18446744073709551616 + (x % 2 ^ (64 - s)) * 2 ^ s ∧
      0 ≤ (x % 2 ^ (64 - s)) * 2 ^ s + c ∧ (x % 2 ^ (64 - s)) * 2 ^ s + c < 18446744073709551616 ∧ 0 ≤ x / 2 ^ (64 - s) ∧ x / 2 ^ (64 - s) < 2 ^ s := by
  obtain ⟨X, rfl⟩ := Int.eq_ofNat_of_zero_le hx0
  obtain ⟨C, rfl⟩ := Int.eq_ofNat_of_zero_le hc0
  have hTU := pow_split hs
  have hT : ((2 : Int) ^ s) = ((2 ^ s : Nat) : Int) := by rw [Int.natCast_pow]; rfl
  have hU : ((2 : Int) ^ (64 - s)) = ((2 ^ (64 - s) : Nat) : Int) := by rw [Int.natCast_pow]; rfl
  have hTp : 0 < (2 : Nat) ^ s := Nat.two_pow_pos _
  have hUp : 0 < (2 : Nat) ^ (64 - s) := Nat.two_pow_pos _
  rw [hT] at hc1 ⊢
  rw [hU]
  have hC : C < 2 ^ s := by omega
  have e0 := Nat.div_add_mod X (2 ^ (64 - s))
  have e1 : X * 2 ^ s = (X / 2 ^ (64 - s)) * 18446744073709551616 + (X % 2 ^ (64 - s)) * 2 ^ s := by
    conv => lhs; rw [← e0]
    rw [← hTU]; grind
  have hm : X % 2 ^ (64 - s) < 2 ^ (64 - s) := Nat.mod_lt _ hUp
  have hm2 : X % 2 ^ (64 - s) * 2 ^ s + 2 ^ s ≤ 18446744073709551616 := by
    have h1 : (X % 2 ^ (64 - s) + 1) * 2 ^ s ≤ 2 ^ (64 - s) * 2 ^ s := Nat.mul_le_mul_right _ hm
    rw [Nat.mul_comm (2 ^ (64 - s)), hTU, Nat.add_mul, Nat.one_mul] at h1
    exact h1
  have e2 : X * 2 ^ s % 18446744073709551616 = X % 2 ^ (64 - s) * 2 ^ s := by
    rw [e1, Nat.add_comm, Nat.add_mul_mod_self_right]
    exact Nat.mod_eq_of_lt (by omega)
  have e3 : IntKind.u64.wrap ((X : Int) * ((2 ^ s : Nat) : Int)) = ((X % 2 ^ (64 - s) * 2 ^ s : Nat) : Int) := by
    rw [wrap64u, ← Int.natCast_mul, ← e2]; rfl
  rw [e3, or_u64 (by omega) (by omega)]
  have e4 : X % 2 ^ (64 - s) * 2 ^ s ||| C = X % 2 ^ (64 - s) * 2 ^ s + C := by
    rw [Nat.mul_comm, ← Nat.two_pow_add_eq_or_of_lt hC]
  rw [e4]
  have e5 : X / 2 ^ (64 - s) < 2 ^ s := by
    rw [Nat.div_lt_iff_lt_mul hUp, hTU]; omega
  have e6 : (X : Int) % ((2 ^ (64 - s) : Nat) : Int) * ((2 ^ s : Nat) : Int) = ((X % 2 ^ (64 - s) * 2 ^ s : Nat) : Int) := by
    rw [Int.natCast_mul (X % 2 ^ (64 - s)), Int.natCast_emod]
  have e7 : (X : Int) / ((2 ^ (64 - s) : Nat) : Int) = ((X / 2 ^ (64 - s) : Nat) : Int) := by rw [Int.natCast_ediv]
  rw [e6, e7, ← Int.natCast_mul X, e1]
  generalize X % 2 ^ (64 - s) * 2 ^ s = p at *
  generalize X / 2 ^ (64 - s) = q at *
  generalize (2 : Nat) ^ s = T at *
  refine ⟨by omega, by omega, by omega, by omega, by omega, by omega⟩

set_option maxRecDepth 100000 in
set_option maxHeartbeats 1000000 in
theorem left_any (v : Value) (u : List Int) (s n : Nat) (w : World) (hv : IsInts .u64 w v u) (hd : Dig W64 u) (hs : s < 64) (hn : n ≤ 2147483648) :
    Calls Tryd.prog 97 #[v, .int .i64 s, .int .i64 n] w fun e w' => ∃ (o : List Int) (c : Int), e = .returned (.slice (some ⟨w.heap.size, 0, none⟩) n n) ∧ Blk w' w.heap.size (vs .u64 o) 86 ∧ o.length = n ∧ Dig W64 o ∧ 0 ≤ c ∧ dv W64 o + c * W64 ^ n = dv W64 (u.take n) * 2 ^ s ∧ Below w.heap.size w w' := by
  obtain ⟨A, c0, rfl, hc, hm, hr⟩ := hv
  have hmk := mk_at (P := Tryd.prog) Tryd.underlying37 Tryd.info86 rfl .i64 .i64 (n : Int) n rfl (by unfold maxLen; omega) (by omega) (vs_replicate (k := .u64) (n := n) (x := 0))
  unfold maxLen at hm
  go_enter Tryd.func97, Tryd.ntmps97
  go_wp2
  go_loopw [15, 8] (fun i cv wr => ∃ j : Nat, j ≤ n ∧ i = .int .i64 j ∧ ∃ (c : Int) (o : List Int), cv = .int .u64 c ∧ 0 ≤ c ∧ c < 18446744073709551616 ∧ Hid (c < 2 ^ s) ∧ Hid (o.length = j) ∧ Dig W64 o ∧ Hid (dv W64 o + c * W64 ^ j = dv W64 (u.take j) * 2 ^ s) ∧
    Blk wr w.heap.size (vs .u64 (o ++ List.replicate (n - j) 0)) 86 ∧ Below w.heap.size w wr) (fun i _ _ => n - (intOf i).toNat)
  case atStart => exact ⟨0, by omega, rfl, 0, [], rfl, by omega, by omega, Lib.hid (Int.pow_pos (by decide)), Lib.hid rfl, Dig.nil _, Lib.hid (by simp [dv]), Blk.new _ _ _, (Below.refl _ _).alloc (Nat.le_refl _) _⟩
  case round =>
    obtain ⟨j, hj, rfl, c, o, rfl, hc0, hc1', hcs, ho, hdo, hval, hB, hbel⟩ := hrel
    by_cases hlt : j < n
    · have xc := hB.at j (by simp; have := ho.out; omega)
      have xf := hB.frozen j
      have HX := Lib.hid (dv_take_succ W64 u j)
      have hset : ∀ q : Int, (o ++ List.replicate (n - j) 0).set j q = (o ++ [q]) ++ List.replicate (n - (j + 1)) 0 := by
        intro q
        rw [List.set_append_right _ _ (by rw [ho.out]; exact Nat.le_refl _), ho.out, Nat.sub_self, List.append_assoc]
        congr 1
        rw [show n - j = (n - (j + 1)) + 1 by omega, List.replicate_succ]
        rfl
      have HS := Lib.hid hset
      have hx := hd.at (by decide) j
      have hcase : ∃ x, u.getD j 0 = x ∧ (j < u.length ∨ (¬ j < u.length ∧ x = 0)) := by
        refine ⟨_, rfl, ?_⟩
        by_cases h : j < u.length
        · exact .inl h
        · refine .inr ⟨h, ?_⟩; rw [List.getD_eq_getElem?_getD, List.getElem?_eq_none (by omega)]; rfl
      obtain ⟨x, hxe, hxl⟩ := hcase
      rw [hxe] at hx
      unfold W64 at hx
      obtain ⟨hx0, hx1⟩ := hx
      have HXE := Lib.hid hxe
      have hfin : ∀ q c', q = bits .or .u64 (IntKind.u64.wrap (x * 2 ^ s)) c → c' = x / 2 ^ (64 - s) →
          0 ≤ c' ∧ c' < 18446744073709551616 ∧ Hid (c' < 2 ^ s) ∧ Hid ((o ++ [q]).length = j + 1) ∧ Dig W64 (o ++ [q]) ∧ Hid (dv W64 (o ++ [q]) + c' * W64 ^ (j + 1) = dv W64 (u.take (j + 1)) * 2 ^ s) := by
        rintro q c' rfl rfl
        obtain ⟨h1, h2, h3, h4, h5, h6⟩ := shl_or (show s ≤ 64 by omega) hx0 hx1 hc0 hcs.out hc1'
        rw [h1]
        have h7 : (2 : Int) ^ s ≤ 2 ^ 64 := pow_le_pow (by decide) (by omega)
        have h8 : (2 : Int) ^ 64 = 18446744073709551616 := by decide
        refine ⟨h5, by omega, Lib.hid h6, Lib.hid (by simp [ho.out]), hdo.snoc ⟨h3, h4⟩, Lib.hid ?_⟩
        rw [dv_snoc, ho.out, HX.out, HXE.out, Int.pow_succ]
        have h9 := hval.out
        have h10 : x * 2 ^ s = x / 2 ^ (64 - s) * W64 + x % 2 ^ (64 - s) * 2 ^ s := h2
        generalize x / 2 ^ (64 - s) = a1 at *
        generalize x % 2 ^ (64 - s) * 2 ^ s = a2 at *
        generalize (2 : Int) ^ s = T at *
        have h11 : (x * T) * W64 ^ j = (a1 * W64 + a2) * W64 ^ j := by rw [h10]
        grind
      have HF := Lib.hid hfin
      clear hset hfin hxe
      rcases hxl with hxl | hxl
      · obtain ⟨b1, o1, e1, hb1, hcell1⟩ := hr (by omega)
        subst e1
        have x1 := (hbel.cell (p := ⟨b1, o1 + j, none⟩) hb1).trans (hcell1 j hxl)
        rw [HXE.out] at x1
        clear hcell1
        obtain ⟨f1, f2, f3, f4, f5, f6⟩ := HF.out _ _ rfl rfl
        have HF2 := Lib.hid f2
        clear f2 f1
        go_wp2
        go_roundw
        case rel =>
          refine ⟨j + 1, by omega, by go_num, _, _, rfl, (HF.out _ _ rfl rfl).1, HF2.out, f3, f4, f5, f6, ?_, hbel.setCell (Nat.le_refl _) _⟩
          have h := hB.set j (.int .u64 (bits .or .u64 (IntKind.u64.wrap (x * 2 ^ s)) c))
          rw [vs_set, HS.out] at h
          exact h
        case measure => simp [intOf]; omega
      · obtain ⟨hxl, rfl⟩ := hxl
        go_wp2
        go_roundw
        case rel =>
          obtain ⟨f1, f2, f3, f4, f5, f6⟩ := HF.out (bits .or .u64 0 c) 0 (by rw [Int.zero_mul]; rfl) (Int.zero_ediv _).symm
          refine ⟨j + 1, by omega, by go_num, _, _, rfl, f1, f2, f3, f4, f5, f6, ?_, hbel.setCell (Nat.le_refl _) _⟩
          have h := hB.set j (.int .u64 (bits .or .u64 0 c))
          rw [vs_set, HS.out] at h
          exact h
        case measure => simp [intOf]; omega
    · obtain rfl : j = n := by omega
      go_wp2
      go_ret
      rw [Nat.sub_self, List.replicate_zero, List.append_nil] at hB
      exact ⟨o, c, rfl, hB, ho.out, hdo, hc0, hval.out, hbel⟩

/-- a word that is moved down by s bits, with bits of the next one above -/
theorem shr_or {x y : Int} {s : Nat} (hs : s < 64) (hx0 : 0 ≤ x) (hx1 : x < 18446744073709551616) (hy0 : 0 ≤ y) (hy1 : y < 18446744073709551616) :
    bits .or .u64 (x / 2 ^ s) (IntKind.u64.wrap (y * 2 ^ (64 - s))) = x / 2 ^ s + (y % 2 ^ s) * 2 ^ (64 - s) ∧
      0 ≤ x / 2 ^ s + (y % 2 ^ s) * 2 ^ (64 - s) ∧ x / 2 ^ s + (y % 2 ^ s) * 2 ^ (64 - s) < 18446744073709551616 ∧
      (x / 2 ^ s + (y % 2 ^ s) * 2 ^ (64 - s)) * 2 ^ s = x - x % 2 ^ s + (y % 2 ^ s) * 18446744073709551616 := by
  have h := shl_or (s := 64 - s) (x := y) (c := x / 2 ^ s) (by omega) hy0 hy1 (Int.ediv_nonneg hx0 (Int.le_of_lt (Int.pow_pos (by decide)))) ?_ ?_
  · rw [show 64 - (64 - s) = s by omega] at h
    obtain ⟨h1, h2, h3, h4, h5, h6⟩ := h
    have hcomm : bits .or .u64 (x / 2 ^ s) (IntKind.u64.wrap (y * 2 ^ (64 - s))) = bits .or .u64 (IntKind.u64.wrap (y * 2 ^ (64 - s))) (x / 2 ^ s) := by
      unfold bits; simp only [BitVec.or_comm]
    rw [hcomm, h1, Int.add_comm]
    refine ⟨rfl, by omega, by omega, ?_⟩
    have hTU : (2 : Int) ^ (64 - s) * 2 ^ s = 18446744073709551616 := by
      have := pow_split (s := s) (by omega)
      have h7 : (2 : Int) ^ (64 - s) * 2 ^ s = ((2 ^ s * 2 ^ (64 - s) : Nat) : Int) := by
        rw [Int.natCast_mul, Int.natCast_pow, Int.natCast_pow, Int.mul_comm]; rfl
      rw [h7, this]; rfl
    have h8 := Int.emod_add_mul_ediv x (2 ^ s)
    generalize (2 : Int) ^ (64 - s) = U at *
    generalize (2 : Int) ^ s = T at *
    generalize x / T = a at *
    generalize x % T = b at *
    generalize y % T = e at *
    rw [← hTU]
    grind
  · have hTU : (2 : Int) ^ (64 - s) * 2 ^ s = 18446744073709551616 := by
      have := pow_split (s := s) (by omega)
      have h7 : (2 : Int) ^ (64 - s) * 2 ^ s = ((2 ^ s * 2 ^ (64 - s) : Nat) : Int) := by
        rw [Int.natCast_mul, Int.natCast_pow, Int.natCast_pow, Int.mul_comm]; rfl
      rw [h7, this]; rfl
    exact Int.ediv_lt_of_lt_mul (Int.pow_pos (by decide)) (by rw [hTU]; exact hx1)
  · exact Int.lt_of_le_of_lt (Int.ediv_le_self _ hx0) hx1

set_option maxRecDepth 100000 in
set_option maxHeartbeats 1000000 in
theorem right_any (v : Value) (u : List Int) (s : Nat) (w : World) (hv : IsInts .u64 w v u) (hd : Dig W64 u) (hs : s < 64) (hn : u.length ≤ 2147483648) :
    Calls Tryd.prog 101 #[v, .int .i64 s] w fun e w' => ∃ (r : Value) (o : List Int), e = .returned r ∧ IsInts .u64 w' r o ∧ o.length = u.length ∧ Dig W64 o ∧ dv W64 o = dv W64 u / 2 ^ s ∧ Below w.heap.size w w' := by
  obtain ⟨A, c0, rfl, hc, hm, hr⟩ := hv
  have hmk := mk_at (P := Tryd.prog) Tryd.underlying37 Tryd.info86 rfl .i64 .i64 (u.length : Int) u.length rfl (by unfold maxLen; omega) (by omega) (vs_replicate (k := .u64) (n := u.length) (x := 0))
  unfold maxLen at hm
  go_enter Tryd.func101, Tryd.ntmps101
  go_wp2
  go_loopw [12] (fun i wr => ∃ j : Nat, j ≤ u.length ∧ i = .int .i64 j ∧ ∃ (o : List Int), Hid (o.length = j) ∧ Dig W64 o ∧ Hid (dv W64 o * 2 ^ s + u.getD 0 0 % 2 ^ s = dv W64 (u.take j) + u.getD j 0 % 2 ^ s * W64 ^ j) ∧
    Blk wr w.heap.size (vs .u64 (o ++ List.replicate (u.length - j) 0)) 86 ∧ Below w.heap.size w wr) (fun i _ => u.length - (intOf i).toNat)
  case atStart => exact ⟨0, by omega, rfl, [], Lib.hid rfl, Dig.nil _, Lib.hid (by simp [dv]), Blk.new _ _ _, (Below.refl _ _).alloc (Nat.le_refl _) _⟩
  case round =>
    obtain ⟨j, hj, rfl, o, ho, hdo, hval, hB, hbel⟩ := hrel
    by_cases hlt : j < u.length
    · have xc := hB.at j (by simp; have := ho.out; omega)
      have xf := hB.frozen j
      have HX := Lib.hid (dv_take_succ W64 u j)
      have hset : ∀ q : Int, (o ++ List.replicate (u.length - j) 0).set j q = (o ++ [q]) ++ List.replicate (u.length - (j + 1)) 0 := by
        intro q
        rw [List.set_append_right _ _ (by rw [ho.out]; exact Nat.le_refl _), ho.out, Nat.sub_self, List.append_assoc]
        congr 1
        rw [show u.length - j = (u.length - (j + 1)) + 1 by omega, List.replicate_succ]
        rfl
      have HS := Lib.hid hset
      obtain ⟨b1, o1, e1, hb1, hcell1⟩ := hr (by omega)
      subst e1
      have x1 := (hbel.cell (p := ⟨b1, o1 + j, none⟩) hb1).trans (hcell1 j hlt)
      have hx := hd.at (by decide) j
      have hy := hd.at (by decide) (j + 1)
      have hfin : ∀ q, q = u.getD j 0 / 2 ^ s + (u.getD (j + 1) 0 % 2 ^ s) * 2 ^ (64 - s) →
          Hid ((o ++ [q]).length = j + 1) ∧ Dig W64 (o ++ [q]) ∧ Hid (dv W64 (o ++ [q]) * 2 ^ s + u.getD 0 0 % 2 ^ s = dv W64 (u.take (j + 1)) + u.getD (j + 1) 0 % 2 ^ s * W64 ^ (j + 1)) := by
        rintro q rfl
        unfold W64 at hx hy
        obtain ⟨h1, h2, h3, h4⟩ := shr_or hs hx.1 hx.2 hy.1 hy.2
        refine ⟨Lib.hid (by simp [ho.out]), hdo.snoc ⟨h2, h3⟩, Lib.hid ?_⟩
        rw [dv_snoc, ho.out, HX.out, Int.pow_succ]
        have h5 := hval.out
        have h6 : (u.getD j 0 / 2 ^ s + (u.getD (j + 1) 0 % 2 ^ s) * 2 ^ (64 - s)) * 2 ^ s = u.getD j 0 - u.getD j 0 % 2 ^ s + (u.getD (j + 1) 0 % 2 ^ s) * W64 := h4
        generalize u.getD j 0 / 2 ^ s + (u.getD (j + 1) 0 % 2 ^ s) * 2 ^ (64 - s) = a at *
        generalize u.getD j 0 % 2 ^ s = b at *
        generalize u.getD (j + 1) 0 % 2 ^ s = e at *
        generalize (2 : Int) ^ s = T at *
        generalize u.getD j 0 = x at *
        have h7 : (a * T) * W64 ^ j = (x - b + e * W64) * W64 ^ j := by rw [h6]
        grind
      have HF := Lib.hid hfin
      clear hset hfin
      by_cases hl2 : j + 1 < u.length
      · have x2 := (hbel.cell (p := ⟨b1, o1 + (j + 1), none⟩) hb1).trans (hcell1 (j + 1) hl2)
        clear hcell1
        generalize u.getD j 0 = x at *
        generalize hye : u.getD (j + 1) 0 = y at *
        have HYE := Lib.hid hye
        clear hye
        unfold W64 at hx hy
        have H4 := Lib.hid (shr_or hs hx.1 hx.2 hy.1 hy.2)
        clear hx hy
        have x3 : (wr.setCell ⟨w.heap.size, j, none⟩ (.int .u64 (x / 2 ^ s))).cell? ⟨w.heap.size, j, none⟩ = some (.int .u64 (x / 2 ^ s)) := by
          rw [(hB.set j (.int .u64 (x / 2 ^ s))).cell, List.getElem?_set_self (by rw [vs_length]; simp; have := ho.out; omega)]
        have x4 : (wr.setCell ⟨w.heap.size, j, none⟩ (.int .u64 (x / 2 ^ s))).cell? ⟨b1, o1 + (j + 1), none⟩ = some (.int .u64 y) := ((hbel.setCell (p := ⟨w.heap.size, j, none⟩) (Nat.le_refl _) _).cell (p := ⟨b1, o1 + (j + 1), none⟩) hb1).trans ((hbel.cell (p := ⟨b1, o1 + (j + 1), none⟩) hb1).symm.trans x2)
        have t1 : decide ((j : Int) + 1 < u.length) = true := by simp; omega
        go_wp2
        go_region
        all_goals go_wp2
        go_roundw
        case rel =>
          obtain ⟨f1, f2, f3⟩ := HF.out _ rfl
          have hb2 : Blk ((wr.setCell ⟨w.heap.size, j, none⟩ (.int .u64 (x / 2 ^ s))).setCell ⟨w.heap.size, j, none⟩ (.int .u64 (bits .or .u64 (x / 2 ^ s) (IntKind.u64.wrap (y * 2 ^ (64 - s)))))) w.heap.size (vs .u64 ((o ++ [x / 2 ^ s + (y % 2 ^ s) * 2 ^ (64 - s)]) ++ List.replicate (u.length - (j + 1)) 0)) 86 := by
            have h := (hB.set j (.int .u64 (x / 2 ^ s))).set j (.int .u64 (bits .or .u64 (x / 2 ^ s) (IntKind.u64.wrap (y * 2 ^ (64 - s)))))
            rw [List.set_set, vs_set] at h
            rw [← HS.out]
            rw [← H4.out.1]
            exact h
          exact ⟨j + 1, by omega, by go_num, _, f1, f2, Lib.hid (by rw [HYE.out]; exact f3.out), hb2, by first | exact (hbel.setCell (Nat.le_refl _) _).setCell (Nat.le_refl _) _ | exact ((hbel.setCell (Nat.le_refl _) _).setCell (Nat.le_refl _) _).drew⟩
        case measure => simp [intOf]; omega
      · have hy0 : u.getD (j + 1) 0 = 0 := by rw [List.getD_eq_getElem?_getD, List.getElem?_eq_none (by omega)]; rfl
        rw [hy0] at HF hy
        have HY0 := Lib.hid hy0
        clear hcell1 hy0
        generalize u.getD j 0 = x at *
        clear hx hy
        have t1 : decide ((j : Int) + 1 < u.length) = false := by simp; omega
        go_wp2
        go_roundw
        case rel =>
          obtain ⟨f1, f2, f3⟩ := HF.out (x / 2 ^ s) (by rw [Int.zero_emod, Int.zero_mul, Int.add_zero])
          refine ⟨j + 1, by omega, by go_num, _, f1, f2, Lib.hid ?_, ?_, hbel.setCell (Nat.le_refl _) _⟩
          · rw [HY0.out]; exact f3.out
          · have h := hB.set j (.int .u64 (x / 2 ^ s))
            rw [vs_set, HS.out] at h
            exact h
        case measure => simp [intOf]; omega
    · obtain rfl : j = u.length := by omega
      go_wp2
      go_ret
      rw [Nat.sub_self, List.replicate_zero, List.append_nil] at hB
      refine ⟨_, o, rfl, hB.ints ho.out.symm (by unfold maxLen; omega), ho.out, hdo, ?_, hbel⟩
      have h := hval.out
      have h0 : u.getD u.length 0 = 0 := by rw [List.getD_eq_getElem?_getD, List.getElem?_eq_none (by omega)]; rfl
      rw [List.take_length, h0, Int.zero_emod, Int.zero_mul, Int.add_zero] at h
      have hT : (0 : Int) < 2 ^ s := Int.pow_pos (by decide)
      have h1 := Int.emod_nonneg (u.getD 0 0) (show (2 : Int) ^ s ≠ 0 by omega)
      have h2 := Int.emod_lt_of_pos (u.getD 0 0) hT
      rw [← h]
      rw [Int.add_comm, Int.add_mul_ediv_right _ _ (by omega), Int.ediv_eq_zero_of_lt h1 h2, Int.zero_add]
end Go.Proofs.YtjfkniknmkcdcaaDoor
