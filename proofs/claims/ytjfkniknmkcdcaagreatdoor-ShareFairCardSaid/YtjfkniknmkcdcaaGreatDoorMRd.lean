/- Texts of this claim, joined: By, Nk, Rc, Rd. -/
import Derived.Test.YtjfkniknmkcdcaaGreatDoorMNb
import Derived.Test.YtjfkniknmkcdcaaGreatDoorMNj
import Derived.Test.YtjfkniknmkcdcaaGreatDoorMRa
import Derived.Laws.Shifts
namespace Go.Proofs.YtjfkniknmkcdcaaGreatDoor.By
open Nu

theorem natCast_pow' (a b : Nat) : ((a ^ b : Nat) : Int) = (a : Int) ^ b := Int.natCast_pow a b
/-- a digit, out of the number -/
theorem digit_at {B : Nat} (hB : 0 < B) {l : List Int} {n : Nat} (h : IsNum (B : Int) l n) (i : Nat) : l.getD i 0 = ((n / B ^ i % B : Nat) : Int) := by
  have hB' : (0 : Int) < (B : Int) := by omega
  by_cases hi : i < l.length
  · have h1 := dv_take_drop (B : Int) l i (by omega)
    rw [h.val, drop_getD hi] at h1
    have h2 := dv_bound hB' (h.dig.take i)
    rw [List.length_take, Nat.min_eq_left (by omega)] at h2
    have h3 := h.dig.at hB' i
    have h4 := dv_nonneg hB' (h.dig.drop (i + 1))
    have e : dv (B : Int) (l.getD i 0 :: l.drop (i + 1)) = l.getD i 0 + B * dv B (l.drop (i + 1)) := rfl
    rw [e] at h1
    generalize l.getD i 0 = x at *
    obtain ⟨X, rfl⟩ := Int.eq_ofNat_of_zero_le h3.1
    obtain ⟨M, hM⟩ := Int.eq_ofNat_of_zero_le h2.1
    obtain ⟨D, hD⟩ := Int.eq_ofNat_of_zero_le h4
    rw [hM, hD, ← natCast_pow'] at h1
    rw [hM, ← natCast_pow'] at h2
    have h5 : n = M + B ^ i * (X + B * D) := by
      have : ((M + B ^ i * (X + B * D) : Nat) : Int) = n := by
        rw [Int.natCast_add, Int.natCast_mul, Int.natCast_add, Int.natCast_mul]; exact h1.symm
      omega
    have h6 : n / B ^ i = X + B * D := by
      rw [h5, Nat.add_mul_div_left _ _ (Nat.pow_pos hB), Nat.div_eq_of_lt (by omega), Nat.zero_add]
    rw [h6, Nat.add_mul_mod_self_left, Nat.mod_eq_of_lt (by omega)]
  · have h0 : l.getD i 0 = 0 := by rw [List.getD_eq_getElem?_getD, List.getElem?_eq_none (by omega)]; rfl
    have h1 := h.high hB'
    have h2 : ((B ^ l.length : Nat) : Int) ≤ ((B ^ i : Nat) : Int) := Int.ofNat_le.2 (Nat.pow_le_pow_right hB (by omega))
    rw [← natCast_pow'] at h1
    rw [h0, Nat.div_eq_of_lt (by omega)]
    simp
/-- a byte out of a word -/
theorem byte_of (n k i : Nat) (hk : 0 < k) : (n / (256 ^ k) ^ (i / k) % 256 ^ k) / 256 ^ (i % k) % 256 = n / 256 ^ i % 256 := by
  have hr : i % k < k := Nat.mod_lt _ hk
  have e : 256 ^ k = 256 ^ (i % k) * 256 ^ (k - i % k) := by rw [← Nat.pow_add]; congr 1; omega
  generalize hx : n / (256 ^ k) ^ (i / k) = x
  have h1 : x % 256 ^ k / 256 ^ (i % k) = x / 256 ^ (i % k) % 256 ^ (k - i % k) := by
    rw [e, Nat.mod_mul_right_div_self]
  rw [h1, Nat.mod_mod_of_dvd]
  · rw [← hx, ← Nat.pow_mul, Nat.div_div_eq_div_mul, ← Nat.pow_add]
    congr 3
    exact Nat.div_add_mod i k
  · obtain ⟨j, hj⟩ : ∃ j, k - i % k = j + 1 := ⟨k - i % k - 1, by omega⟩
    rw [hj, Nat.pow_succ]
    exact Nat.dvd_mul_left _ _
theorem mod_step (n i : Nat) : n % 256 ^ i + n / 256 ^ i % 256 * 256 ^ i = n % 256 ^ (i + 1) := by
  rw [Nat.pow_succ, Nat.mod_mul]
  rw [Nat.mul_comm (256 ^ i)]
theorem two_256 (r : Nat) : (2 : Nat) ^ (r * 8) = 256 ^ r := by
  rw [Nat.mul_comm, Nat.pow_mul]
theorem word_pow (k i : Nat) : (256 ^ k) ^ (i / k) * 256 ^ (i % k) = 256 ^ i := by
  rw [← Nat.pow_mul, ← Nat.pow_add, Nat.div_add_mod]
/-- bytes that make up a number, the highest first -/
def IsBytes (bs : List Int) (n : Nat) : Prop := Dig 256 bs ∧ dv 256 bs.reverse = n
theorem div_succ (i k : Nat) (hk : 0 < k) (h : (i + 1) % k ≠ 0) : (i + 1) / k = i / k ∧ (i + 1) % k = i % k + 1 := by
  have h1 := Nat.div_add_mod i k
  have h2 := Nat.div_add_mod (i + 1) k
  have h3 := Nat.mod_lt i hk
  have h4 := Nat.mod_lt (i + 1) hk
  have h5 : i % k + 1 < k ∨ i % k + 1 = k := by omega
  rcases h5 with h5 | h5
  · have : (i + 1) / k = i / k := by
      have e : i + 1 = (i % k + 1) + k * (i / k) := by omega
      rw [e, Nat.add_mul_div_left _ _ hk, Nat.div_eq_of_lt h5, Nat.zero_add]
    exact ⟨this, by rw [this] at h2; omega⟩
  · exfalso
    apply h
    have e : i + 1 = k * (i / k + 1) := by rw [Nat.mul_add]; omega
    rw [e, Nat.mul_mod_right]
theorem div_wrap (i k : Nat) (hk : 0 < k) (h : (i + 1) % k = 0) : (i + 1) / k = i / k + 1 := by
  have h1 := Nat.div_add_mod i k
  have h2 := Nat.div_add_mod (i + 1) k
  have h3 := Nat.mod_lt i hk
  rw [h] at h2
  have h4 : k * ((i + 1) / k) = k * (i / k) + (i % k + 1) := by omega
  have h5 : i % k + 1 = k := by
    have h6 : k ∣ k * (i / k) + (i % k + 1) := by rw [← h4]; exact Nat.dvd_mul_right _ _
    have h7 : k ∣ i % k + 1 := (Nat.dvd_add_iff_right (Nat.dvd_mul_right k (i / k))).2 h6
    have := Nat.le_of_dvd (by omega) h7
    omega
  rw [h5] at h4
  have h8 : k * ((i + 1) / k) = k * (i / k + 1) := by rw [Nat.mul_add, Nat.mul_one]; exact h4
  exact Nat.eq_of_mul_eq_mul_left hk h8
end Go.Proofs.YtjfkniknmkcdcaaGreatDoor.By

namespace Go.Proofs.YtjfkniknmkcdcaaGreatDoor
open Go.RowKit K Nu

theorem Tryz.info5 : (Tryz.prog.info? 5).map (fun i => (i.zero, i.size, i.bytes)) = some (some (.int .u8 0), 1, 1) := by kernel_rfl

/-- bytes in memory that make up a number -/
def BytesV (w : World) (v : Value) (n : Nat) : Prop := ∃ l, By.IsBytes l n ∧ (l.length ≤ 4294967296 ∧ (n < 4294967296 → l.length ≤ 4)) ∧ IsInts .u8 w v l

theorem bl_le_len {l : List Int} {n : Nat} (h : IsNum W64 l n) : bl n ≤ 64 * l.length := by
  rcases snoc_cases l with rfl | ⟨m, x, rfl⟩
  · rw [(h.zero_iff (by decide)).2 rfl]; simp [bl_zero]
  · obtain ⟨e1, e2, e3⟩ := bl_num h
    have : bl x.toNat ≤ 64 := bl_le (by omega)
    rw [e1, List.length_append, List.length_singleton]; omega
theorem wrap_u8 (n : Int) : IntKind.u8.wrap n = n % 256 := by simp [IntKind.wrap, IntKind.bits, IntKind.signed]

set_option maxRecDepth 100000 in
set_option maxHeartbeats 1000000 in
theorem bytes_any (v : Value) (n : Nat) (w : World) (h : NatV w v n) (hsz : bl n ≤ 4294967296) :
    Calls Tryz.prog 102 #[.agg #[v]] w fun e w' => ∃ r, e = .returned r ∧ BytesV w' r n ∧ Below w.heap.size w w' := by
  have h' := h
  obtain ⟨l, hl, A, c, rfl, hc, hm, hr⟩ := h
  obtain ⟨L, hL⟩ : ∃ L : Nat, (bl n + 7) / 8 = L := ⟨_, rfl⟩
  have hmk := mk_at (P := Tryz.prog) Tryz.underlying113 Tryz.info5 rfl .i64 .i64 (((bl n : Int) + 7) / 8) L (by omega) (by unfold maxLen; omega) (by omega) (vs_replicate (k := .u8) (n := L) (x := 0))
  have hlen : l.length ≤ bl n := hl.len' (by decide)
  go_enter Tryz.func102, Tryz.ntmps102
  go_wp2_with fail
  have hW : Below w.heap.size w (w.alloc (.cells #[.slice A l.length c] 36)) := (Below.refl _ _).alloc (Nat.le_refl _) _
  refine (bits_any _ n _ (h'.below hW (Nat.le_refl _)) (by omega)).mono ?_
  rintro e w1 ⟨rfl, hb1⟩
  have hbel := hW.trans (hb1.mono (by simp <;> omega))
  have hB1 : Blk w1 w.heap.size [.slice A l.length c] 36 := (Blk.mk w _ rfl [.slice A l.length c] _).below hb1 (by simp)
  clear hb1 hW h'
  go_wp2_with fail
  have hll := bl_le_len hl
  have hw1 := hB1.lt
  go_loopw [12] (fun iv wr => ∃ i : Nat, i ≤ L ∧ iv = .int .i64 i ∧ ∃ D : List Int, Hid (D.length = i) ∧ Dig 256 D ∧ Hid (dv 256 D = ((n % 256 ^ i : Nat) : Int)) ∧ Blk wr w1.heap.size (vs .u8 (List.replicate (L - i) 0 ++ D.reverse)) 5 ∧ Blk wr w.heap.size [.slice A l.length c] 36 ∧ Below w.heap.size w wr) (fun iv _ => L - (intOf iv).toNat)
  case atStart => exact ⟨0, by omega, rfl, [], Lib.hid rfl, Dig.nil _, Lib.hid (by simp [dv, Nat.mod_one]), by rw [List.reverse_nil, List.append_nil]; exact Blk.new _ _ _, hB1.alloc _, hbel.alloc hbel.size _⟩
  case round =>
    clear hB1 hbel
    obtain ⟨i, hi, rfl, D, hD, hdD, hval, hB, hB1, hbel⟩ := hrel
    have x0 := hB1.one
    have l1 := hB1.lt
    by_cases hlt : i < L
    · have hi8 : i / 8 < l.length := by omega
      obtain ⟨b, o, e1, hb, hcell⟩ := hr (by omega)
      subst e1
      have x1 := (hbel.cell (p := ⟨b, o + i / 8, none⟩) hb).trans (hcell (i / 8) hi8)
      have hd := By.digit_at (B := 18446744073709551616) (by decide) hl (i / 8)
      have hx := hl.dig.at (by decide) (i / 8)
      obtain ⟨k, hk⟩ : ∃ k, L = k + 1 + i := ⟨L - 1 - i, by omega⟩
      have hk1 : (L : Int) - 1 - i = k := by omega
      have hk2 : L - i = k + 1 := by omega
      have hkL : k < L := by omega
      rw [hk2] at hB
      have xc := hB.at k (by simp; omega)
      have xf := hB.frozen k
      rw [hd] at x1
      have hby := By.byte_of n 8 i (by decide)
      have e256 : (256 : Nat) ^ 8 = 18446744073709551616 := by decide
      rw [e256] at hby
      obtain ⟨X, hX⟩ : ∃ X, n / 18446744073709551616 ^ (i / 8) % 18446744073709551616 = X := ⟨_, rfl⟩
      have hXlt : X < 18446744073709551616 := by rw [← hX]; exact Nat.mod_lt _ (by decide)
      rw [hX] at x1 hby
      have hp : (2 : Int) ^ (i % 8 * 8) = ((256 ^ (i % 8) : Nat) : Int) := by rw [← By.two_256, Int.natCast_pow]; rfl
      have hbyte : IntKind.u8.wrap ((X : Int) / 2 ^ (i % 8 * 8)) = ((n / 256 ^ i % 256 : Nat) : Int) := by
        rw [wrap_u8, hp, ← hby, Int.natCast_emod, Int.natCast_ediv]; rfl
      have hm8 : i % 8 * 8 ≤ 56 := by omega
      obtain ⟨q, hq⟩ : ∃ q, n / 256 ^ i % 256 = q := ⟨_, rfl⟩
      have hq1 : q < 256 := by rw [← hq]; exact Nat.mod_lt _ (by decide)
      rw [hq] at hbyte
      have HQ := Lib.hid hq
      have HK := Lib.hid hk
      obtain ⟨i8, hi8e⟩ : ∃ i8, i / 8 = i8 := ⟨_, rfl⟩
      obtain ⟨m8, hm8e⟩ : ∃ m8, i % 8 = m8 := ⟨_, rfl⟩
      rw [hi8e] at x1 hi8
      rw [hm8e] at hbyte hm8
      have hi8i : (i : Int) / 8 = i8 := by omega
      have hm8i : (i : Int) % 8 = m8 := by omega
      have hst : (2 : Int) ^ (m8 * 8) = 2 ^ (m8 * 8) := rfl
      clear hcell hd hx hby e256 hX hp hq hk hk2 hi8e hm8e hst hr
      go_wp2_with fail
      go_roundw
      case rel =>
        refine ⟨i + 1, by omega, by go_num, D ++ [(q : Int)], Lib.hid (by simp [hD.out]), hdD.snoc (by omega), Lib.hid ?_, ?_, hB1.far (show w.heap.size ≠ w1.heap.size by omega) _, hbel.setCell (show w.heap.size ≤ w1.heap.size by omega) _⟩
        · have h1 := By.mod_step n i
          rw [HQ.out] at h1
          rw [dv_snoc, hD.out, hval.out, ← h1, Int.natCast_add, Int.natCast_mul, Int.natCast_pow]
          rfl
        · have h := hB.set k (.int .u8 (q : Int))
          rw [vs_set, set_pre] at h
          rw [List.reverse_append, show L - (i + 1) = k by have := HK.out; omega]
          exact h
      case measure => simp [intOf]; omega
    · obtain rfl : i = L := by omega
      go_wp2_with fail
      go_ret
      rw [Nat.sub_self, List.replicate_zero, List.nil_append] at hB
      refine ⟨_, rfl, ⟨D.reverse, ⟨fun x hx => hdD x (by simpa using hx), ?_⟩, ⟨by rw [List.length_reverse, hD.out]; omega, fun hn => by rw [List.length_reverse, hD.out]; have : bl n ≤ 32 := bl_le (by omega); omega⟩, hB.ints (n := i) (by rw [List.length_reverse, hD.out]) (by unfold maxLen; omega)⟩, hbel⟩
      rw [List.reverse_reverse, hval.out, Nat.mod_eq_of_lt]
      have h1 := lt_bl n
      have h2 : (2 : Nat) ^ bl n ≤ 2 ^ (8 * i) := Nat.pow_le_pow_right (by decide) (by omega)
      rw [Nat.pow_mul] at h2
      exact Nat.lt_of_lt_of_le h1 h2

set_option maxRecDepth 100000 in
set_option maxHeartbeats 2000000 in
theorem fromBytes_any (v : Value) (n : Nat) (w : World) (h : BytesV w v n) :
    Calls Tryz.prog 79 #[v] w fun e w' => ∃ r, e = .returned (.agg #[r]) ∧ NatV w' r n ∧ Below w.heap.size w w' := by
  obtain ⟨bs, ⟨hdb, hvb⟩, ⟨hlb, -⟩, A, c, rfl, hc, hm, hr⟩ := h
  obtain ⟨L, hL⟩ : ∃ L, bs.length = L := ⟨_, rfl⟩
  rw [hL] at hlb hc hm hr ⊢
  have hmk := mk_at (P := Tryz.prog) Tryz.underlying34 Tryz.info106 rfl .i64 .i64 ((L : Int) / 8 + 1) (L / 8 + 1) (by omega) (by unfold maxLen; omega) (by omega) (vs_replicate (k := .u64) (n := L / 8 + 1) (x := 0))
  unfold maxLen at hm
  have hdr : Dig 256 bs.reverse := fun x hx => hdb x (by simpa using hx)
  have hlr : bs.reverse.length = L := by rw [List.length_reverse, hL]
  have HLR := Lib.hid hlr
  have HLB := Lib.hid hL
  clear hL hlr
  go_enter Tryz.func79, Tryz.ntmps79
  go_wp2_with fail
  go_loopw [12] (fun iv wr => ∃ i : Nat, i ≤ L ∧ iv = .int .i64 i ∧ ∃ Wd : List Int, Hid (Wd.length = L / 8 + 1) ∧ Dig W64 Wd ∧ Hid (dv W64 Wd = dv 256 (bs.reverse.take i)) ∧ Hid (Wd.getD (i / 8) 0 < 256 ^ (i % 8)) ∧ Hid (∀ t, i / 8 < t → Wd.getD t 0 = 0) ∧
    Blk wr (w.heap.size + 1) (vs .u64 Wd) 106 ∧ Blk wr w.heap.size [.slice none 0 0] 36 ∧ Below w.heap.size w wr) (fun iv _ => L - (intOf iv).toNat)
  case atStart =>
    have hz : ∀ t, (List.replicate (L / 8 + 1) (0 : Int)).getD t 0 = 0 := fun t => by
      rw [List.getD_eq_getElem?_getD, List.getElem?_replicate]; split <;> rfl
    exact ⟨0, by omega, rfl, List.replicate (L / 8 + 1) 0, Lib.hid (by simp), fun x hx => by rw [List.eq_of_mem_replicate hx]; decide, Lib.hid (by rw [dv_zeros]; simp [dv]), Lib.hid (by rw [hz]; decide), Lib.hid (fun t _ => hz t), Blk.mk _ _ (by simp) _ _, (Blk.mk w _ rfl [.slice none 0 0] _).alloc _, box2⟩
  case round =>
    obtain ⟨i, hi, rfl, Wd, hWl, hdW, hval, hsm, hz, hB, hR, hbel⟩ := hrel
    by_cases hlt : i < L
    · obtain ⟨b, o, e1, hb, hcell⟩ := hr (by omega)
      subst e1
      obtain ⟨k, hk⟩ : ∃ k, L = k + 1 + i := ⟨L - 1 - i, by omega⟩
      have hk1 : (L : Int) - 1 - i = k := by omega
      have x1 := (hbel.cell (p := ⟨b, o + k, none⟩) hb).trans (hcell k (by omega))
      have hrev : bs.reverse.getD i 0 = bs.getD k 0 := by
        rw [List.getD_eq_getElem?_getD, List.getD_eq_getElem?_getD, List.getElem?_reverse (by rw [HLB.out]; omega), HLB.out, show L - 1 - i = k by omega]
      have hX := dv_take_succ 256 bs.reverse i
      rw [hrev] at hX
      have hbr := hdb.at (by decide) k
      obtain ⟨y, hy⟩ : ∃ y : Nat, bs.getD k 0 = (y : Int) := Int.eq_ofNat_of_zero_le hbr.1
      rw [hy] at x1 hX hbr
      have hy1 : y < 256 := by omega
      have HX := Lib.hid hX
      obtain ⟨i8, hi8⟩ : ∃ i8, i / 8 = i8 := ⟨_, rfl⟩
      obtain ⟨m8, hm8⟩ : ∃ m8, i % 8 = m8 := ⟨_, rfl⟩
      have hm8l : m8 < 8 := by omega
      have hi8l : i8 < L / 8 + 1 := by omega
      have hi8i : (i : Int) / 8 = i8 := by omega
      have hm8i : (i : Int) % 8 = m8 := by omega
      rw [hi8] at hz
      rw [hi8, hm8] at hsm
      have xc := hB.at i8 (by rw [hWl.out]; omega)
      have xf := hB.frozen i8
      have hwd := hdW.at (by decide) i8
      obtain ⟨z, hze⟩ : ∃ z, Wd.getD i8 0 = z := ⟨_, rfl⟩
      rw [hze] at xc hwd hsm
      have hp : (2 : Int) ^ (m8 * 8) = ((256 ^ m8 : Nat) : Int) := by rw [← By.two_256, Int.natCast_pow]; rfl
      have hp2 : ((256 ^ m8 : Nat) : Int) = (256 : Int) ^ m8 := Int.natCast_pow _ _
      have hor : bits .or .u64 z (IntKind.u64.wrap ((y : Int) * 2 ^ (m8 * 8))) = z + y * 256 ^ m8 ∧ z + y * 256 ^ m8 < 256 ^ (m8 + 1) ∧ (256 : Int) ^ (m8 + 1) ≤ 18446744073709551616 := by
        have h1 := shl_or (s := m8 * 8) (x := (y : Int)) (c := z) (by omega) (by omega) (by omega) hwd.1 (by rw [hp, hp2]; exact hsm.out) hwd.2
        have h2 : ((y : Int) % 2 ^ (64 - m8 * 8)) = y := by
          apply Int.emod_eq_of_lt (by omega)
          have h3 : (2 : Int) ^ 8 ≤ 2 ^ (64 - m8 * 8) := pow_le_pow (by decide) (by omega)
          have h4 : (2 : Int) ^ 8 = 256 := by decide
          omega
        have hcomm : bits .or .u64 z (IntKind.u64.wrap ((y : Int) * 2 ^ (m8 * 8))) = bits .or .u64 (IntKind.u64.wrap ((y : Int) * 2 ^ (m8 * 8))) z := by
          unfold bits; simp only [BitVec.or_comm]
        rw [hcomm, h1.1, h2, hp, hp2, Int.add_comm]
        have h5 : (y : Int) * 256 ^ m8 ≤ 255 * 256 ^ m8 := Int.mul_le_mul_of_nonneg_right (by omega) (Int.le_of_lt (pow_pos (by decide) _))
        have h6 : (256 : Int) ^ (m8 + 1) ≤ 256 ^ 8 := pow_le_pow (by decide) (by omega)
        have h7 : (256 : Int) ^ 8 = 18446744073709551616 := by decide
        refine ⟨rfl, ?_, by omega⟩
        rw [Int.pow_succ]
        have := hsm.out
        omega
      obtain ⟨hor1, hor2, hor3⟩ := hor
      have hz0 : 0 ≤ z + y * 256 ^ m8 := by
        have := Int.mul_nonneg (show (0 : Int) ≤ y by omega) (Int.le_of_lt (pow_pos (B := 256) (by decide) m8))
        omega
      obtain ⟨z', hz'⟩ : ∃ z', z + y * 256 ^ m8 = z' := ⟨_, rfl⟩
      rw [hz'] at hor1 hor2 hz0
      have HZE := Lib.hid hze
      have HZ' := Lib.hid hz'
      have HI8 := Lib.hid hi8
      have HM8 := Lib.hid hm8
      have HO2 := Lib.hid hor2
      have HO3 := Lib.hid hor3
      have HYE := Lib.hid hy
      have hwrap8 : IntKind.i64.wrap ((m8 : Int) * 8) = m8 * 8 := by rw [IntKind.wrap_i64]; omega
      have hwrapL : IntKind.i64.wrap ((L : Int) - 1) = L - 1 := by rw [IntKind.wrap_i64]; omega
      have hwrapk : IntKind.i64.wrap ((L : Int) - 1 - i) = k := by rw [IntKind.wrap_i64]; omega
      have hwrapk2 : IntKind.i64.wrap (k : Int) = k := by rw [IntKind.wrap_i64]; omega
      have hkl : k < L := by omega
      have hwrapy : IntKind.u64.wrap (y : Int) = y := by rw [wrap64u]; omega
      clear hcell hr hrev hX hbr hi8 hm8 hk hze hz' hor2 hor3 hp hp2 hsm hwd hy
      go_upto_region 5 with fail
      go_region
      all_goals go_wp2
      go_roundw
      case rel =>
        have hne : ∀ t, t ≠ i8 → (Wd.set i8 z').getD t 0 = Wd.getD t 0 := fun t ht => by
          rw [List.getD_eq_getElem?_getD, List.getD_eq_getElem?_getD, List.getElem?_set_ne (by omega)]
        have heq : (Wd.set i8 z').getD i8 0 = z' := by
          rw [List.getD_eq_getElem?_getD, List.getElem?_set_self (by rw [hWl.out]; omega)]; rfl
        have hb2 := (hB.set i8 (.int .u64 z')).drew
        rw [vs_set] at hb2
        refine ⟨i + 1, by omega, by go_num, Wd.set i8 z', Lib.hid (by rw [List.length_set]; exact hWl.out), hdW.set _ ⟨hz0, by have := HO2.out; have := HO3.out; unfold W64; omega⟩, Lib.hid ?_, Lib.hid ?_, Lib.hid ?_, hb2, (hR.far (show w.heap.size ≠ w.heap.size + 1 by omega) _).drew, (hbel.setCell (show w.heap.size ≤ w.heap.size + 1 by omega) _).drew⟩
        · rw [dv_set _ _ _ _ (by rw [hWl.out]; omega), HZE.out, HX.out, hval.out, ← HZ'.out]
          have h1 := By.word_pow 8 i
          rw [HI8.out, HM8.out] at h1
          have h2 : W64 ^ i8 * 256 ^ m8 = (256 : Int) ^ i := by
            have h3 : (((256 ^ 8) ^ i8 * 256 ^ m8 : Nat) : Int) = ((256 ^ i : Nat) : Int) := by rw [h1]
            rw [Int.natCast_mul, Int.natCast_pow, Int.natCast_pow, Int.natCast_pow] at h3
            exact h3
          rw [← h2]
          grind
        · by_cases h8 : (i + 1) % 8 = 0
          · rw [By.div_wrap i 8 (by decide) h8, h8, HI8.out, hne _ (by omega), hz.out _ (by omega)]; decide
          · obtain ⟨g1, g2⟩ := By.div_succ i 8 (by decide) h8
            rw [g1, g2, HI8.out, HM8.out, heq]; exact HO2.out
        · intro t ht
          have h9 : i8 < t := by have := HI8.out; omega
          rw [hne t (by omega)]; exact hz.out t h9
      case measure => simp [intOf]; omega
    · obtain rfl : i = L := by omega
      have hv2 : dv W64 Wd = n := by
        rw [hval.out, List.take_of_length_le (by rw [HLR.out]; omega)]; exact hvb
      have hT := Lib.hid (trim_num (hB.ints (n := i / 8 + 1) hWl.out.symm (by unfold maxLen; omega)) hdW hv2)
      clear hv2
      go_wp2_with fail
      refine hT.out.mono ?_
      rintro e w2 ⟨r, rfl, hrr, hb1⟩
      have hR3 := hR.below hb1 hR.lt
      have hc := hR3.one
      have hf := hR3.frozen 0
      have hb2 := hbel.trans (hb1.mono hbel.size)
      obtain ⟨A2, k2, cc, rfl⟩ := hrr.slice
      clear hb1 hR hB hbel hT
      go_wp2_with fail
      refine bodyPost_ret (v := .agg #[.slice A2 k2 cc]) (by simp [results, Tryz.results79, go_sem, hc]) rfl ?_
      exact ⟨_, rfl, hrr.box hR3 (by simp) _ _, hb2.setCell (by simp <;> omega) _⟩
end Go.Proofs.YtjfkniknmkcdcaaGreatDoor

namespace Go.Proofs.YtjfkniknmkcdcaaGreatDoor
open Go.RowKit K Nu

set_option maxRecDepth 100000 in
set_option maxHeartbeats 2000000 in
theorem natBits_any (v : Value) (n : Nat) (w : World) (h : RN w v n) (hn : n < 4294967296) :
    Calls Tryz.prog 104 #[v] w fun e w' => e = .returned (.int .i64 (bl n : Int)) ∧ Below w.heap.size w w' := by
  rcases h.cases hn with ⟨rfl, A, c, rfl⟩ | ⟨hn0, b2, o2, c2, rfl, hc2, hb2, x2⟩
  · go_enter Tryz.func104, Tryz.ntmps104
    go_wp2_with fail
    go_ret
    exact ⟨rfl, Below.refl _ _⟩
  · go_enter Tryz.func104, Tryz.ntmps104
    go_wp2_with fail
    go_loopw [3, 4] (fun k x wr => ∃ i m : Nat, k = .int .i64 i ∧ x = .int .u32 m ∧ Hid (i + bl m = bl n) ∧ i ≤ 32 ∧ m < 4294967296 ∧ wr = w) (fun _ x _ => (intOf x).toNat)
    case atStart => exact ⟨0, n, rfl, rfl, Lib.hid (by omega), by omega, hn, rfl⟩
    case round =>
      obtain ⟨i, m, rfl, rfl, him, hi, hm, rfl⟩ := hrel
      by_cases hm0 : m = 0
      · subst hm0
        go_wp2_with fail
        go_ret
        have := him.out
        rw [bl_zero, Nat.add_zero] at this
        rw [this]
        exact ⟨rfl, Below.refl _ _⟩
      · have hbm : bl m = bl (m / 2) + 1 := by
          have h1 : ∀ k, bl k = if k = 0 then 0 else k.log2 + 1 := fun _ => rfl
          rw [h1 m, if_neg hm0, h1 (m / 2)]
          by_cases h2 : m / 2 = 0
          · rw [if_pos h2]
            obtain rfl : m = 1 := by omega
            decide
          · rw [if_neg h2, Nat.log2_def m, if_pos (by omega)]
        have hbl : bl m ≤ 32 := bl_le (by omega)
        have hil : i + 1 ≤ 32 := by
          have := him.out
          have h3 : bl n ≤ 32 := bl_le (by omega)
          omega
        have HB := Lib.hid hbm
        have hi1 : IntKind.i64.wrap ((i : Int) + 1) = i + 1 := by rw [IntKind.wrap_i64]; omega
        clear hbm
        go_wp2_with fail
        go_roundw
        case rel => exact ⟨i + 1, m / 2, by go_num, by first | rfl | rw [Int.natCast_ediv]; rfl, Lib.hid (by have := HB.out; have := him.out; omega), hil, by omega, by first | trivial | rfl⟩
        case measure => simp [intOf]; omega

theorem bl_pow {n : Nat} (hn : n < 4294967296) : bl n ≤ 32 := bl_le (by omega)
set_option maxRecDepth 100000 in
set_option maxHeartbeats 2000000 in
theorem natBytes_any (v : Value) (n : Nat) (w : World) (h : RN w v n) (hn : n < 4294967296) :
    Calls Tryz.prog 80 #[v] w fun e w' => ∃ r, e = .returned r ∧ BytesV w' r n ∧ Below w.heap.size w w' := by
  obtain ⟨L, hL⟩ : ∃ L : Nat, (bl n + 7) / 8 = L := ⟨_, rfl⟩
  have hbl := bl_pow hn
  have hL4 : L ≤ 4 := by omega
  have hmk := mk_at (P := Tryz.prog) Tryz.underlying113 Tryz.info5 rfl .i64 .i64 (((bl n : Int) + 7) / 8) L (by omega) (by unfold maxLen; omega) (by omega) (vs_replicate (k := .u8) (n := L) (x := 0))
  have hB0 := Lib.hid (natBits_any v n w h hn)
  have h' := Lib.hid h
  have hw7 : IntKind.i64.wrap ((bl n : Int) + 7) = bl n + 7 := by rw [IntKind.wrap_i64]; omega
  have HBL := Lib.hid (And.intro hL hbl)
  go_enter Tryz.func80, Tryz.ntmps80
  go_wp2_with fail
  refine hB0.out.mono ?_
  rintro e w1 ⟨rfl, hb1⟩
  have hbel := Lib.hid hb1
  clear hb1 h
  go_wp2_with fail
  have hsz := hbel.out.size
  go_loopw [5] (fun iv wr => ∃ i : Nat, i ≤ L ∧ iv = .int .i64 i ∧ ∃ D : List Int, Hid (D.length = i) ∧ Hid (Dig 256 D) ∧ Hid (dv 256 D = ((n % 256 ^ i : Nat) : Int)) ∧ Blk wr w1.heap.size (vs .u8 (List.replicate (L - i) 0 ++ D.reverse)) 5 ∧ Hid (Below w.heap.size w wr)) (fun iv _ => L - (intOf iv).toNat)
  case atStart => exact ⟨0, by omega, rfl, [], Lib.hid rfl, Lib.hid (Dig.nil _), Lib.hid (by simp [dv, Nat.mod_one]), by rw [List.reverse_nil, List.append_nil]; exact Blk.new _ _ _, Lib.hid (hbel.out.alloc hbel.out.size _)⟩
  case round =>
    obtain ⟨i, hi, rfl, D, hD, hdD, hval, hB, hbel⟩ := hrel
    by_cases hlt : i < L
    · have hn0 : n ≠ 0 := by
        rintro rfl
        have := HBL.out.1
        rw [bl_zero] at this
        omega
      rcases h'.out.cases hn with ⟨rfl, -⟩ | ⟨-, b2, o2, c2, rfl, hc2, hb2, x2⟩
      · exact absurd rfl hn0
      have x1 := (hbel.out.cell (p := ⟨b2, o2, none⟩) hb2).trans x2
      obtain ⟨k, hkk⟩ : ∃ k, L - 1 - i = k := ⟨_, rfl⟩
      have hk : L = k + 1 + i := by omega
      have hk2 : L - i = k + 1 := by omega
      have hkL : k < L := by omega
      rw [hk2] at hB
      have xc := hB.at k (by simp; omega)
      have xf := hB.frozen k
      have hi4 : (i : Int) / 4 = 0 := by omega
      have him : (i : Int) % 4 = i := by omega
      have hsh : (n : Int) / 2 ^ (8 * i) = ((n / 256 ^ i : Nat) : Int) := by
        rw [show 8 * i = i * 8 by omega, Int.natCast_ediv, ← By.two_256, Int.natCast_pow]; rfl
      have hbyte : ((n / 256 ^ i : Nat) : Int) % 256 = ((n / 256 ^ i % 256 : Nat) : Int) := by rw [Int.natCast_emod]; rfl
      obtain ⟨q0, hq0⟩ : ∃ q, n / 256 ^ i = q := ⟨_, rfl⟩
      rw [hq0] at hsh hbyte
      obtain ⟨q, hq⟩ : ∃ q, q0 % 256 = q := ⟨_, rfl⟩
      have hq1 : q < 256 := by rw [← hq]; exact Nat.mod_lt _ (by decide)
      rw [hq] at hbyte
      have HQ := Lib.hid (show n / 256 ^ i % 256 = q by rw [hq0]; exact hq)
      have HK := Lib.hid hk
      rw [← hkk] at xc xf hkL hB
      have HKK := Lib.hid hkk
      clear hq hq0 hk hk2 x2 hkk
      go_wp2_with fail
      go_roundw
      case rel =>
        refine ⟨i + 1, by omega, by go_num, D ++ [(q : Int)], Lib.hid (by simp [hD.out]), Lib.hid (hdD.out.snoc (by omega)), Lib.hid ?_, ?_, Lib.hid (hbel.out.setCell hsz _)⟩
        · have h1 := By.mod_step n i
          rw [HQ.out] at h1
          rw [dv_snoc, hD.out, hval.out, ← h1, Int.natCast_add, Int.natCast_mul, Int.natCast_pow]
          rfl
        · rw [HKK.out] at hB ⊢
          have h := hB.set k (.int .u8 (q : Int))
          rw [vs_set, set_pre] at h
          rw [List.reverse_append, show L - (i + 1) = k by have := HK.out; omega]
          exact h
      case measure => simp [intOf]; omega
    · obtain rfl : i = L := by omega
      go_wp2_with fail
      go_ret
      rw [Nat.sub_self, List.replicate_zero, List.nil_append] at hB
      refine ⟨_, rfl, ⟨D.reverse, ⟨fun x hx => hdD.out x (by simpa using hx), ?_⟩, ⟨by rw [List.length_reverse, hD.out]; omega, fun _ => by rw [List.length_reverse, hD.out]; omega⟩, hB.ints (n := i) (by rw [List.length_reverse, hD.out]) (by unfold maxLen; omega)⟩, hbel.out⟩
      rw [List.reverse_reverse, hval.out, Nat.mod_eq_of_lt]
      have h1 := lt_bl n
      have h2 : (2 : Nat) ^ bl n ≤ 2 ^ (8 * i) := Nat.pow_le_pow_right (by decide) (by have := HBL.out.1; omega)
      rw [Nat.pow_mul] at h2
      exact Nat.lt_of_lt_of_le h1 h2
end Go.Proofs.YtjfkniknmkcdcaaGreatDoor

namespace Go.Proofs.YtjfkniknmkcdcaaGreatDoor
open Go.RowKit K Nu

theorem or_u32 {a b : Nat} (ha : a < 4294967296) (hb : b < 4294967296) : bits .or .u32 (a : Int) (b : Int) = ((a ||| b : Nat) : Int) :=
  (bits_nat .u32 32 (by decide) (fun n h0 h1 => by rw [wrap32u]; exact Int.emod_eq_of_lt h0 (by simpa using h1)) a b (by simpa using ha) (by simpa using hb)).2
theorem or_byte {Z y k : Nat} (hk : k ≤ 3) (hy : y < 256) (hz : Z * 256 ^ (k + 1) < 4294967296) :
    bits .or .u32 ((Z * 256 ^ (k + 1) : Nat) : Int) ((y : Int) * 2 ^ (8 * k) % 4294967296) = ((Z * 256 ^ (k + 1) + y * 256 ^ k : Nat) : Int) ∧ Z * 256 ^ (k + 1) + y * 256 ^ k < 4294967296 := by
  have h1 : (2 : Int) ^ (8 * k) = ((256 ^ k : Nat) : Int) := by rw [show 8 * k = k * 8 by omega, ← By.two_256, Int.natCast_pow]; rfl
  have h256 : (256 : Nat) ^ (k + 1) = 256 * 256 ^ k := by rw [Nat.pow_succ, Nat.mul_comm]
  have hp : 0 < 256 ^ k := Nat.pow_pos (by decide)
  have hlow : y * 256 ^ k < 256 ^ (k + 1) := by rw [h256]; exact Nat.mul_lt_mul_of_pos_right hy hp
  have hle : 256 ^ (k + 1) ≤ 256 ^ 4 := Nat.pow_le_pow_right (by decide) (by omega)
  have h4 : (256 : Nat) ^ 4 = 4294967296 := by decide
  have h5 : Z * 256 ^ (k + 1) + 256 ^ (k + 1) ≤ 4294967296 := by
    have e : (4294967296 : Nat) = 256 ^ (3 - k) * 256 ^ (k + 1) := by rw [← Nat.pow_add, show 3 - k + (k + 1) = 4 by omega, h4]
    rw [e] at hz ⊢
    have hz2 : Z < 256 ^ (3 - k) := Nat.lt_of_mul_lt_mul_right hz
    calc Z * 256 ^ (k + 1) + 256 ^ (k + 1) = (Z + 1) * 256 ^ (k + 1) := by rw [Nat.add_mul, Nat.one_mul]
      _ ≤ 256 ^ (3 - k) * 256 ^ (k + 1) := Nat.mul_le_mul_right _ hz2
  have h6 : (y : Int) * 2 ^ (8 * k) % 4294967296 = ((y * 256 ^ k : Nat) : Int) := by
    rw [h1, ← Int.natCast_mul]; omega
  rw [h6, or_u32 hz (by omega)]
  have h7 : Z * 256 ^ (k + 1) ||| y * 256 ^ k = Z * 256 ^ (k + 1) + y * 256 ^ k := by
    have e2 : (256 : Nat) ^ (k + 1) = 2 ^ ((k + 1) * 8) := (By.two_256 _).symm
    rw [e2] at hlow ⊢
    rw [Nat.mul_comm Z, ← Nat.two_pow_add_eq_or_of_lt hlow]
  rw [h7]
  exact ⟨rfl, by omega⟩

set_option maxRecDepth 100000 in
set_option maxHeartbeats 2000000 in
theorem natFrom_any (v : Value) (n : Nat) (w : World) (h : BytesV w v n) (hn : n < 4294967296) :
    Calls Tryz.prog 101 #[v] w fun e w' => ∃ r, e = .returned r ∧ RN w' r n ∧ Below w.heap.size w w' := by
  obtain ⟨bs, ⟨hdb, hvb⟩, ⟨-, hlb⟩, A, c, rfl, hc, hm, hr⟩ := h
  obtain ⟨L, hL⟩ : ∃ L, bs.length = L := ⟨_, rfl⟩
  have hl4 := hlb hn
  rw [hL] at hc hr hl4 ⊢
  clear hm hlb
  rcases Nat.eq_zero_or_pos L with rfl | hL0
  · obtain rfl : bs = [] := List.eq_nil_of_length_eq_zero hL
    obtain rfl : n = 0 := by simp [dv] at hvb; omega
    have hmk := mk_at (P := Tryz.prog) Tryz.underlying51 Tryz.info110 rfl .i64 .i64 0 0 rfl (by decide) (by omega) (l := []) rfl
    clear hr hvb hdb hL
    go_enter Tryz.func101, Tryz.ntmps101
    go_wp2_with fail
    go_loopw [4] (fun i wr => i = .int .i64 0 ∧ wr = w.alloc (.cells #[] 110)) (fun _ _ => 0)
    case atStart => exact ⟨rfl, rfl⟩
    case round =>
      obtain ⟨rfl, rfl⟩ := hrel
      go_wp2_with fail
      refine (rtrim_num (n := 0) ((Blk.new w (vs .u32 []) 110).ints (n := 0) rfl (by decide)) (Dig.nil _) rfl).mono ?_
      rintro e w1 ⟨r, rfl, hr, rfl⟩
      go_wp2_with fail
      go_ret
      exact ⟨_, rfl, hr, (Below.refl _ _).alloc (Nat.le_refl _) _⟩
  · obtain ⟨b, o, rfl, hb, hcell⟩ := hr (by omega)
    have hmk := mk_at (P := Tryz.prog) Tryz.underlying51 Tryz.info110 rfl .i64 .i64 (((L : Int) + 3) / 4) 1 (by omega) (by decide) (by omega) (l := [.int .u32 0]) rfl
    have HV := Lib.hid hvb
    have HL := Lib.hid hL
    have HD := Lib.hid hdb
    clear hvb hL hdb hr
    go_enter Tryz.func101, Tryz.ntmps101
    go_wp2_with fail
    go_loopw [4] (fun iv wr => ∃ i Z : Nat, i ≤ L ∧ iv = .int .i64 i ∧ Hid ((Z : Int) = dv 256 (bs.take i).reverse) ∧ Hid (Z * 256 ^ (L - i) < 4294967296) ∧ Blk wr w.heap.size (vs .u32 [((Z * 256 ^ (L - i) : Nat) : Int)]) 110 ∧ Below w.heap.size w wr) (fun iv _ => L - (intOf iv).toNat)
    case atStart => exact ⟨0, 0, by omega, rfl, Lib.hid rfl, Lib.hid (by simp), by rw [Nat.zero_mul]; exact Blk.new _ _ _, (Below.refl _ _).alloc (Nat.le_refl _) _⟩
    case round =>
      obtain ⟨i, Z, hi, rfl, hZ, hZ1, hB, hbel⟩ := hrel
      by_cases hlt : i < L
      · have x1 := (hbel.cell (p := ⟨b, o + i, none⟩) hb).trans (hcell i hlt)
        have hbr := HD.out.at (by decide) i
        have htk := take_snoc (l := bs) (k := i) (by rw [HL.out]; exact hlt)
        obtain ⟨y, hy⟩ : ∃ y : Nat, bs.getD i 0 = (y : Int) := Int.eq_ofNat_of_zero_le hbr.1
        rw [hy] at x1 hbr htk
        have HT := Lib.hid htk
        obtain ⟨k, hk⟩ : ∃ k, L = k + 1 + i := ⟨L - 1 - i, by omega⟩
        have hk1 : (L : Int) - 1 - i = k := by omega
        have hk2 : L - i = k + 1 := by omega
        rw [hk2] at hB hZ1
        have hk3 : k ≤ 3 := by omega
        have hob := or_byte hk3 (y := y) (by omega) hZ1.out
        obtain ⟨hor, hz'⟩ := hob
        obtain ⟨z, hz⟩ : ∃ z, Z * 256 ^ (k + 1) = z := ⟨_, rfl⟩
        obtain ⟨z', hze⟩ : ∃ z', Z * 256 ^ (k + 1) + y * 256 ^ k = z' := ⟨_, rfl⟩
        rw [hze] at hor hz'
        rw [hz] at hor hB
        have xc := hB.at 0 (by simp)
        simp only [List.getD_cons_zero] at xc
        have xf := hB.frozen 0
        have hk4 : (k : Int) / 4 = 0 := by omega
        have hk5 : (k : Int) % 4 = k := by omega
        have HZ := Lib.hid (And.intro hz hze)
        have HK := Lib.hid (And.intro hk (And.intro hk2 hz'))
        clear hk2 hz hze hz' htk hy hk
        go_upto_region 6 with fail
        go_region
        all_goals go_wp2
        go_roundw
        case rel =>
          have e : (Z * 256 + y) * 256 ^ (L - (i + 1)) = z' := by
            rw [show L - (i + 1) = k by have := HK.out.1; omega, Nat.add_mul, Nat.mul_assoc, ← HZ.out.2, Nat.pow_succ, Nat.mul_comm 256]
          refine ⟨i + 1, Z * 256 + y, by omega, by go_num, Lib.hid ?_, Lib.hid (by rw [e]; exact HK.out.2.2), ?_, ?_⟩
          · rw [HT.out, List.reverse_append]
            simp only [List.reverse_singleton, List.singleton_append, dv, ← hZ.out]
            omega
          · rw [e]
            exact (hB.set 0 (.int .u32 z')).drew
          · exact (hbel.setCell (Nat.le_refl _) _).drew
        case measure => simp [intOf]; omega
      · obtain rfl : i = L := by omega
        have hZn : ((Z * 256 ^ (i - i) : Nat) : Int) = n := by
          rw [Nat.sub_self, Nat.pow_zero, Nat.mul_one, hZ.out, ← HV.out, List.take_of_length_le (by rw [HL.out]; omega)]
        rw [hZn] at hB
        have hT := Lib.hid (rtrim_num (hB.ints (n := 1) rfl (by decide)) (Dig.cons (by unfold W32; omega) (Dig.nil _)) (n := n) (by simp [dv]))
        clear hZn hB
        go_wp2_with fail
        refine hT.out.mono ?_
        rintro e w1 ⟨r, rfl, hr, rfl⟩
        go_wp2_with fail
        go_ret
        exact ⟨_, rfl, hr, hbel⟩
end Go.Proofs.YtjfkniknmkcdcaaGreatDoor
