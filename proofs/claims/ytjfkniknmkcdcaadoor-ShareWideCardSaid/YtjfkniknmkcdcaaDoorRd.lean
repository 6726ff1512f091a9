/- The walk of the document's NatFrom (short numbers). -/
import Derived.Test.YtjfkniknmkcdcaaDoorRc
namespace Go.Proofs.YtjfkniknmkcdcaaDoor
open Go.RowKit K Nu

theorem or_u32 {a b : Nat} (ha : a < 4294967296) (hb : b < 4294967296) : bits .or .u32 (a : Int) (b : Int) = ((a ||| b : Nat) : Int) :=
  (bits_nat .u32 32 (by decide) (fun n h0 h1 => by rw [wrap32u]; exact Int.emod_eq_of_lt h0 (by simpa using h1)) a b (by simpa using ha) (by simpa using hb)).2
theorem or_byte {Z y k : Nat} (hk : k ≤ 3) (hy : y < 256) (hz : Z * 256 ^ (k + 1) < 4294967296) :
    bits .or .u32 ((Z * 256 ^ (k + 1) : Nat) : Int) ((y : Int) * 2 ^ (8 * k) % 4294967296) = ((Z * 256 ^ (k + 1) + y * 256 ^ k : Nat) : Int) ∧ Z * 256 ^ (k + 1) + y * 256 ^ k < 4294967296 := by
  have h1 : (2 : Int) ^ (8 * k) = ((256 ^ k : Nat) : Int) := by rw [show 8 * k = k * 8 by omega, ← By.two_256, Int.natCast_pow]; rfl
  have h256 : (256 : Nat) ^ (k + 1) = 256 * 256 ^ k := by rw [Nat.pow_succ, Nat.mul_comm]
  have hp : 0 < 256 ^ k := Nat.pow_pos (by decide)
  have hlow : y * 256 ^ k < 256 ^ (k + 1) := by rw [h256]; exact Nat.mul_lt_mul_of_pos_right hy hp
  have hle : 256 ^ (k + 1) ≤ 256 ^ 4 := Nat.pow_le_pow_right (by decide) (by omega)
  have h4 : (256 : Nat) ^ 4 = 4294967296 := by decide
  have h5 : Z * 256 ^ (k + 1) + 256 ^ (k + 1) ≤ 4294967296 := by
    have e : (4294967296 : Nat) = 256 ^ (3 - k) * 256 ^ (k + 1) := by rw [← Nat.pow_add, show 3 - k + (k + 1) = 4 by omega, h4]
    rw [e] at hz ⊢
    have hz2 : Z < 256 ^ (3 - k) := Nat.lt_of_mul_lt_mul_right hz
    calc Z * 256 ^ (k + 1) + 256 ^ (k + 1) = (Z + 1) * 256 ^ (k + 1) := by rw [Nat.add_mul, Nat.one_mul]
      _ ≤ 256 ^ (3 - k) * 256 ^ (k + 1) := Nat.mul_le_mul_right _ hz2
  have h6 : (y : Int) * 2 ^ (8 * k) % 4294967296 = ((y * 256 ^ k : Nat) : Int) := by
    rw [h1, ← Int.natCast_mul]; omega
  rw [h6, or_u32 hz (by omega)]
  have h7 : Z * 256 ^ (k + 1) ||| y * 256 ^ k = Z * 256 ^ (k + 1) + y * 256 ^ k := by
    have e2 : (256 : Nat) ^ (k + 1) = 2 ^ ((k + 1) * 8) := (By.two_256 _).symm
    rw [e2] at hlow ⊢
    rw [Nat.mul_comm Z, ← Nat.two_pow_add_eq_or_of_lt hlow]
  rw [h7]
  exact ⟨rfl, by omega⟩

set_option maxRecDepth 100000 in
set_option maxHeartbeats 2000000 in
theorem natFrom_any (v : Value) (n : Nat) (w : World) (h : BytesV w v n) (hn : n < 4294967296) :
    Calls Tryd.prog 93 #[v] w fun e w' => ∃ r, e = .returned r ∧ RN w' r n ∧ Below w.heap.size w w' := by
  obtain ⟨bs, ⟨hdb, hvb⟩, ⟨-, hlb⟩, A, c, rfl, hc, hm, hr⟩ := h
  obtain ⟨L, hL⟩ : ∃ L, bs.length = L := ⟨_, rfl⟩
  have hl4 := hlb hn
  rw [hL] at hc hr hl4 ⊢
  clear hm hlb
  rcases Nat.eq_zero_or_pos L with rfl | hL0
  · obtain rfl : bs = [] := List.eq_nil_of_length_eq_zero hL
    obtain rfl : n = 0 := by simp [dv] at hvb; omega
    have hmk := mk_at (P := Tryd.prog) Tryd.underlying54 Tryd.info121 rfl .i64 .i64 0 0 rfl (by decide) (by omega) (l := []) rfl
    clear hr hvb hdb hL
    go_enter Tryd.func93, Tryd.ntmps93
    go_wp2_with fail
    go_loopw [4] (fun i wr => i = .int .i64 0 ∧ wr = w.alloc (.cells #[] 121)) (fun _ _ => 0)
    case atStart => exact ⟨rfl, rfl⟩
    case round =>
      obtain ⟨rfl, rfl⟩ := hrel
      go_wp2_with fail
      refine (rtrim_num (n := 0) ((Blk.new w (vs .u32 []) 121).ints (n := 0) rfl (by decide)) (Dig.nil _) rfl).mono ?_
      rintro e w1 ⟨r, rfl, hr, rfl⟩
      go_wp2_with fail
      go_ret
      exact ⟨_, rfl, hr, (Below.refl _ _).alloc (Nat.le_refl _) _⟩
  · obtain ⟨b, o, rfl, hb, hcell⟩ := hr (by omega)
    have hmk := mk_at (P := Tryd.prog) Tryd.underlying54 Tryd.info121 rfl .i64 .i64 (((L : Int) + 3) / 4) 1 (by omega) (by decide) (by omega) (l := [.int .u32 0]) rfl
    have HV := Lib.hid hvb
    have HL := Lib.hid hL
    have HD := Lib.hid hdb
    clear hvb hL hdb hr
    go_enter Tryd.func93, Tryd.ntmps93
    go_wp2_with fail
    go_loopw [4] (fun iv wr => ∃ i Z : Nat, i ≤ L ∧ iv = .int .i64 i ∧ Hid ((Z : Int) = dv 256 (bs.take i).reverse) ∧ Hid (Z * 256 ^ (L - i) < 4294967296) ∧ Blk wr w.heap.size (vs .u32 [((Z * 256 ^ (L - i) : Nat) : Int)]) 121 ∧ Below w.heap.size w wr) (fun iv _ => L - (intOf iv).toNat)
    case atStart => exact ⟨0, 0, by omega, rfl, Lib.hid rfl, Lib.hid (by simp), by rw [Nat.zero_mul]; exact Blk.new _ _ _, (Below.refl _ _).alloc (Nat.le_refl _) _⟩
    case round =>
      obtain ⟨i, Z, hi, rfl, hZ, hZ1, hB, hbel⟩ := hrel
      by_cases hlt : i < L
      · have x1 := (hbel.cell (p := ⟨b, o + i, none⟩) hb).trans (hcell i hlt)
        have hbr := HD.out.at (by decide) i
        have htk := take_snoc (l := bs) (k := i) (by rw [HL.out]; exact hlt)
        obtain ⟨y, hy⟩ : ∃ y : Nat, bs.getD i 0 = (y : Int) := Int.eq_ofNat_of_zero_le hbr.1
        rw [hy] at x1 hbr htk
        have HT := Lib.hid htk
        obtain ⟨k, hk⟩ : ∃ k, L = k + 1 + i := ⟨L - 1 - i, by omega⟩
        have hk1 : (L : Int) - 1 - i = k := by omega
        have hk2 : L - i = k + 1 := by omega
        rw [hk2] at hB hZ1
        have hk3 : k ≤ 3 := by omega
        have hob := or_byte hk3 (y := y) (by omega) hZ1.out
        obtain ⟨hor, hz'⟩ := hob
        obtain ⟨z, hz⟩ : ∃ z, Z * 256 ^ (k + 1) = z := ⟨_, rfl⟩
        obtain ⟨z', hze⟩ : ∃ z', Z * 256 ^ (k + 1) + y * 256 ^ k = z' := ⟨_, rfl⟩
        rw [hze] at hor hz'
        rw [hz] at hor hB
        have xc := hB.at 0 (by simp)
        simp only [List.getD_cons_zero] at xc
        have xf := hB.frozen 0
        have hk4 : (k : Int) / 4 = 0 := by omega
        have hk5 : (k : Int) % 4 = k := by omega
        have HZ := Lib.hid (And.intro hz hze)
        have HK := Lib.hid (And.intro hk (And.intro hk2 hz'))
        clear hk2 hz hze hz' htk hy hk
        go_upto_region 6 with fail
        go_region
        all_goals go_wp2
        go_roundw
        case rel =>
          have e : (Z * 256 + y) * 256 ^ (L - (i + 1)) = z' := by
            rw [show L - (i + 1) = k by have := HK.out.1; omega, Nat.add_mul, Nat.mul_assoc, ← HZ.out.2, Nat.pow_succ, Nat.mul_comm 256]
          refine ⟨i + 1, Z * 256 + y, by omega, by go_num, Lib.hid ?_, Lib.hid (by rw [e]; exact HK.out.2.2), ?_, ?_⟩
          · rw [HT.out, List.reverse_append]
            simp only [List.reverse_singleton, List.singleton_append, dv, ← hZ.out]
            omega
          · rw [e]
            exact (hB.set 0 (.int .u32 z')).drew
          · exact (hbel.setCell (Nat.le_refl _) _).drew
        case measure => simp [intOf]; omega
      · obtain rfl : i = L := by omega
        have hZn : ((Z * 256 ^ (i - i) : Nat) : Int) = n := by
          rw [Nat.sub_self, Nat.pow_zero, Nat.mul_one, hZ.out, ← HV.out, List.take_of_length_le (by rw [HL.out]; omega)]
        rw [hZn] at hB
        have hT := Lib.hid (rtrim_num (hB.ints (n := 1) rfl (by decide)) (Dig.cons (by unfold W32; omega) (Dig.nil _)) (n := n) (by simp [dv]))
        clear hZn hB
        go_wp2_with fail
        refine hT.out.mono ?_
        rintro e w1 ⟨r, rfl, hr, rfl⟩
        go_wp2_with fail
        go_ret
        exact ⟨_, rfl, hr, hbel⟩
end Go.Proofs.YtjfkniknmkcdcaaDoor
