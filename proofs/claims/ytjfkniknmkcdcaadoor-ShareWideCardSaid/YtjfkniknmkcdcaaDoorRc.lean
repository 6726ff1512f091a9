/- The walks of the document's NatBits, NatBytes (short numbers). -/
import Derived.Test.YtjfkniknmkcdcaaDoorRa
import Derived.Test.YtjfkniknmkcdcaaDoorNk
import Derived.Laws.Shifts
namespace Go.Proofs.YtjfkniknmkcdcaaDoor
open Go.RowKit K Nu

set_option maxRecDepth 100000 in
set_option maxHeartbeats 2000000 in
theorem natBits_any (v : Value) (n : Nat) (w : World) (h : RN w v n) (hn : n < 4294967296) :
    Calls Tryd.prog 92 #[v] w fun e w' => e = .returned (.int .i64 (bl n : Int)) ∧ Below w.heap.size w w' := by
  rcases h.cases hn with ⟨rfl, A, c, rfl⟩ | ⟨hn0, b2, o2, c2, rfl, hc2, hb2, x2⟩
  · go_enter Tryd.func92, Tryd.ntmps92
    go_wp2_with fail
    go_ret
    exact ⟨rfl, Below.refl _ _⟩
  · go_enter Tryd.func92, Tryd.ntmps92
    go_wp2_with fail
    go_loopw [3, 4] (fun k x wr => ∃ i m : Nat, k = .int .i64 i ∧ x = .int .u32 m ∧ Hid (i + bl m = bl n) ∧ i ≤ 32 ∧ m < 4294967296 ∧ wr = w) (fun _ x _ => (intOf x).toNat)
    case atStart => exact ⟨0, n, rfl, rfl, Lib.hid (by omega), by omega, hn, rfl⟩
    case round =>
      obtain ⟨i, m, rfl, rfl, him, hi, hm, rfl⟩ := hrel
      by_cases hm0 : m = 0
      · subst hm0
        go_wp2_with fail
        go_ret
        have := him.out
        rw [bl_zero, Nat.add_zero] at this
        rw [this]
        exact ⟨rfl, Below.refl _ _⟩
      · have hbm : bl m = bl (m / 2) + 1 := by
          have h1 : ∀ k, bl k = if k = 0 then 0 else k.log2 + 1 := fun _ => rfl
          rw [h1 m, if_neg hm0, h1 (m / 2)]
          by_cases h2 : m / 2 = 0
          · rw [if_pos h2]
            obtain rfl : m = 1 := by omega
            decide
          · rw [if_neg h2, Nat.log2_def m, if_pos (by omega)]
        have hbl : bl m ≤ 32 := bl_le (by omega)
        have hil : i + 1 ≤ 32 := by
          have := him.out
          have h3 : bl n ≤ 32 := bl_le (by omega)
          omega
        have HB := Lib.hid hbm
        have hi1 : IntKind.i64.wrap ((i : Int) + 1) = i + 1 := by rw [IntKind.wrap_i64]; omega
        clear hbm
        go_wp2_with fail
        go_roundw
        case rel => exact ⟨i + 1, m / 2, by go_num, by first | rfl | rw [Int.natCast_ediv]; rfl, Lib.hid (by have := HB.out; have := him.out; omega), hil, by omega, by first | trivial | rfl⟩
        case measure => simp [intOf]; omega

theorem bl_pow {n : Nat} (hn : n < 4294967296) : bl n ≤ 32 := bl_le (by omega)
set_option maxRecDepth 100000 in
set_option maxHeartbeats 2000000 in
theorem natBytes_any (v : Value) (n : Nat) (w : World) (h : RN w v n) (hn : n < 4294967296) :
    Calls Tryd.prog 80 #[v] w fun e w' => ∃ r, e = .returned r ∧ BytesV w' r n ∧ Below w.heap.size w w' := by
  obtain ⟨L, hL⟩ : ∃ L : Nat, (bl n + 7) / 8 = L := ⟨_, rfl⟩
  have hbl := bl_pow hn
  have hL4 : L ≤ 4 := by omega
  have hmk := mk_at (P := Tryd.prog) Tryd.underlying124 Tryd.info5 rfl .i64 .i64 (((bl n : Int) + 7) / 8) L (by omega) (by unfold maxLen; omega) (by omega) (vs_replicate (k := .u8) (n := L) (x := 0))
  have hB0 := Lib.hid (natBits_any v n w h hn)
  have h' := Lib.hid h
  have hw7 : IntKind.i64.wrap ((bl n : Int) + 7) = bl n + 7 := by rw [IntKind.wrap_i64]; omega
  have HBL := Lib.hid (And.intro hL hbl)
  go_enter Tryd.func80, Tryd.ntmps80
  go_wp2_with fail
  refine hB0.out.mono ?_
  rintro e w1 ⟨rfl, hb1⟩
  have hbel := Lib.hid hb1
  clear hb1 h
  go_wp2_with fail
  have hsz := hbel.out.size
  go_loopw [5] (fun iv wr => ∃ i : Nat, i ≤ L ∧ iv = .int .i64 i ∧ ∃ D : List Int, Hid (D.length = i) ∧ Hid (Dig 256 D) ∧ Hid (dv 256 D = ((n % 256 ^ i : Nat) : Int)) ∧ Blk wr w1.heap.size (vs .u8 (List.replicate (L - i) 0 ++ D.reverse)) 5 ∧ Hid (Below w.heap.size w wr)) (fun iv _ => L - (intOf iv).toNat)
  case atStart => exact ⟨0, by omega, rfl, [], Lib.hid rfl, Lib.hid (Dig.nil _), Lib.hid (by simp [dv, Nat.mod_one]), by rw [List.reverse_nil, List.append_nil]; exact Blk.new _ _ _, Lib.hid (hbel.out.alloc hbel.out.size _)⟩
  case round =>
    obtain ⟨i, hi, rfl, D, hD, hdD, hval, hB, hbel⟩ := hrel
    by_cases hlt : i < L
    · have hn0 : n ≠ 0 := by
        rintro rfl
        have := HBL.out.1
        rw [bl_zero] at this
        omega
      rcases h'.out.cases hn with ⟨rfl, -⟩ | ⟨-, b2, o2, c2, rfl, hc2, hb2, x2⟩
      · exact absurd rfl hn0
      have x1 := (hbel.out.cell (p := ⟨b2, o2, none⟩) hb2).trans x2
      obtain ⟨k, hkk⟩ : ∃ k, L - 1 - i = k := ⟨_, rfl⟩
      have hk : L = k + 1 + i := by omega
      have hk2 : L - i = k + 1 := by omega
      have hkL : k < L := by omega
      rw [hk2] at hB
      have xc := hB.at k (by simp; omega)
      have xf := hB.frozen k
      have hi4 : (i : Int) / 4 = 0 := by omega
      have him : (i : Int) % 4 = i := by omega
      have hsh : (n : Int) / 2 ^ (8 * i) = ((n / 256 ^ i : Nat) : Int) := by
        rw [show 8 * i = i * 8 by omega, Int.natCast_ediv, ← By.two_256, Int.natCast_pow]; rfl
      have hbyte : ((n / 256 ^ i : Nat) : Int) % 256 = ((n / 256 ^ i % 256 : Nat) : Int) := by rw [Int.natCast_emod]; rfl
      obtain ⟨q0, hq0⟩ : ∃ q, n / 256 ^ i = q := ⟨_, rfl⟩
      rw [hq0] at hsh hbyte
      obtain ⟨q, hq⟩ : ∃ q, q0 % 256 = q := ⟨_, rfl⟩
      have hq1 : q < 256 := by rw [← hq]; exact Nat.mod_lt _ (by decide)
      rw [hq] at hbyte
      have HQ := Lib.hid (show n / 256 ^ i % 256 = q by rw [hq0]; exact hq)
      have HK := Lib.hid hk
      rw [← hkk] at xc xf hkL hB
      have HKK := Lib.hid hkk
      clear hq hq0 hk hk2 x2 hkk
      go_wp2_with fail
      go_roundw
      case rel =>
        refine ⟨i + 1, by omega, by go_num, D ++ [(q : Int)], Lib.hid (by simp [hD.out]), Lib.hid (hdD.out.snoc (by omega)), Lib.hid ?_, ?_, Lib.hid (hbel.out.setCell hsz _)⟩
        · have h1 := By.mod_step n i
          rw [HQ.out] at h1
          rw [dv_snoc, hD.out, hval.out, ← h1, Int.natCast_add, Int.natCast_mul, Int.natCast_pow]
          rfl
        · rw [HKK.out] at hB ⊢
          have h := hB.set k (.int .u8 (q : Int))
          rw [vs_set, set_pre] at h
          rw [List.reverse_append, show L - (i + 1) = k by have := HK.out; omega]
          exact h
      case measure => simp [intOf]; omega
    · obtain rfl : i = L := by omega
      go_wp2_with fail
      go_ret
      rw [Nat.sub_self, List.replicate_zero, List.nil_append] at hB
      refine ⟨_, rfl, ⟨D.reverse, ⟨fun x hx => hdD.out x (by simpa using hx), ?_⟩, ⟨by rw [List.length_reverse, hD.out]; omega, fun _ => by rw [List.length_reverse, hD.out]; omega⟩, hB.ints (n := i) (by rw [List.length_reverse, hD.out]) (by unfold maxLen; omega)⟩, hbel.out⟩
      rw [List.reverse_reverse, hval.out, Nat.mod_eq_of_lt]
      have h1 := lt_bl n
      have h2 : (2 : Nat) ^ bl n ≤ 2 ^ (8 * i) := Nat.pow_le_pow_right (by decide) (by have := HBL.out.1; omega)
      rw [Nat.pow_mul] at h2
      exact Nat.lt_of_lt_of_le h1 h2
end Go.Proofs.YtjfkniknmkcdcaaDoor
