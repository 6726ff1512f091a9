/- The walks of Bytes and FromBytes. -/
import Derived.Test.YtjfkniknmkcdcaaDoorNj
import Derived.Test.YtjfkniknmkcdcaaDoorBy
namespace Go.Proofs.YtjfkniknmkcdcaaDoor
open Go.RowKit K Nu

theorem Tryd.info5 : (Tryd.prog.info? 5).map (fun i => (i.zero, i.size, i.bytes)) = some (some (.int .u8 0), 1, 1) := by kernel_rfl

/-- bytes in memory that make up a number -/
def BytesV (w : World) (v : Value) (n : Nat) : Prop := ∃ l, By.IsBytes l n ∧ (l.length ≤ 4294967296 ∧ (n < 4294967296 → l.length ≤ 4)) ∧ IsInts .u8 w v l

theorem bl_le_len {l : List Int} {n : Nat} (h : IsNum W64 l n) : bl n ≤ 64 * l.length := by
  rcases snoc_cases l with rfl | ⟨m, x, rfl⟩
  · rw [(h.zero_iff (by decide)).2 rfl]; simp [bl_zero]
  · obtain ⟨e1, e2, e3⟩ := bl_num h
    have : bl x.toNat ≤ 64 := bl_le (by omega)
    rw [e1, List.length_append, List.length_singleton]; omega
theorem wrap_u8 (n : Int) : IntKind.u8.wrap n = n % 256 := by simp [IntKind.wrap, IntKind.bits, IntKind.signed]

set_option maxRecDepth 100000 in
set_option maxHeartbeats 1000000 in
theorem bytes_any (v : Value) (n : Nat) (w : World) (h : NatV w v n) (hsz : bl n ≤ 4294967296) :
    Calls Tryd.prog 94 #[.agg #[v]] w fun e w' => ∃ r, e = .returned r ∧ BytesV w' r n ∧ Below w.heap.size w w' := by
  have h' := h
  obtain ⟨l, hl, A, c, rfl, hc, hm, hr⟩ := h
  obtain ⟨L, hL⟩ : ∃ L : Nat, (bl n + 7) / 8 = L := ⟨_, rfl⟩
  have hmk := mk_at (P := Tryd.prog) Tryd.underlying124 Tryd.info5 rfl .i64 .i64 (((bl n : Int) + 7) / 8) L (by omega) (by unfold maxLen; omega) (by omega) (vs_replicate (k := .u8) (n := L) (x := 0))
  have hlen : l.length ≤ bl n := hl.len' (by decide)
  go_enter Tryd.func94, Tryd.ntmps94
  go_wp2_with fail
  have hW : Below w.heap.size w (w.alloc (.cells #[.slice A l.length c] 39)) := (Below.refl _ _).alloc (Nat.le_refl _) _
  refine (bits_any _ n _ (h'.below hW (Nat.le_refl _)) (by omega)).mono ?_
  rintro e w1 ⟨rfl, hb1⟩
  have hbel := hW.trans (hb1.mono (by simp <;> omega))
  have hB1 : Blk w1 w.heap.size [.slice A l.length c] 39 := (Blk.mk w _ rfl [.slice A l.length c] _).below hb1 (by simp)
  clear hb1 hW h'
  go_wp2_with fail
  have hll := bl_le_len hl
  have hw1 := hB1.lt
  go_loopw [12] (fun iv wr => ∃ i : Nat, i ≤ L ∧ iv = .int .i64 i ∧ ∃ D : List Int, Hid (D.length = i) ∧ Dig 256 D ∧ Hid (dv 256 D = ((n % 256 ^ i : Nat) : Int)) ∧ Blk wr w1.heap.size (vs .u8 (List.replicate (L - i) 0 ++ D.reverse)) 5 ∧ Blk wr w.heap.size [.slice A l.length c] 39 ∧ Below w.heap.size w wr) (fun iv _ => L - (intOf iv).toNat)
  case atStart => exact ⟨0, by omega, rfl, [], Lib.hid rfl, Dig.nil _, Lib.hid (by simp [dv, Nat.mod_one]), by rw [List.reverse_nil, List.append_nil]; exact Blk.new _ _ _, hB1.alloc _, hbel.alloc hbel.size _⟩
  case round =>
    clear hB1 hbel
    obtain ⟨i, hi, rfl, D, hD, hdD, hval, hB, hB1, hbel⟩ := hrel
    have x0 := hB1.one
    have l1 := hB1.lt
    by_cases hlt : i < L
    · have hi8 : i / 8 < l.length := by omega
      obtain ⟨b, o, e1, hb, hcell⟩ := hr (by omega)
      subst e1
      have x1 := (hbel.cell (p := ⟨b, o + i / 8, none⟩) hb).trans (hcell (i / 8) hi8)
      have hd := By.digit_at (B := 18446744073709551616) (by decide) hl (i / 8)
      have hx := hl.dig.at (by decide) (i / 8)
      obtain ⟨k, hk⟩ : ∃ k, L = k + 1 + i := ⟨L - 1 - i, by omega⟩
      have hk1 : (L : Int) - 1 - i = k := by omega
      have hk2 : L - i = k + 1 := by omega
      have hkL : k < L := by omega
      rw [hk2] at hB
      have xc := hB.at k (by simp; omega)
      have xf := hB.frozen k
      rw [hd] at x1
      have hby := By.byte_of n 8 i (by decide)
      have e256 : (256 : Nat) ^ 8 = 18446744073709551616 := by decide
      rw [e256] at hby
      obtain ⟨X, hX⟩ : ∃ X, n / 18446744073709551616 ^ (i / 8) % 18446744073709551616 = X := ⟨_, rfl⟩
      have hXlt : X < 18446744073709551616 := by rw [← hX]; exact Nat.mod_lt _ (by decide)
      rw [hX] at x1 hby
      have hp : (2 : Int) ^ (i % 8 * 8) = ((256 ^ (i % 8) : Nat) : Int) := by rw [← By.two_256, Int.natCast_pow]; rfl
      have hbyte : IntKind.u8.wrap ((X : Int) / 2 ^ (i % 8 * 8)) = ((n / 256 ^ i % 256 : Nat) : Int) := by
        rw [wrap_u8, hp, ← hby, Int.natCast_emod, Int.natCast_ediv]; rfl
      have hm8 : i % 8 * 8 ≤ 56 := by omega
      obtain ⟨q, hq⟩ : ∃ q, n / 256 ^ i % 256 = q := ⟨_, rfl⟩
      have hq1 : q < 256 := by rw [← hq]; exact Nat.mod_lt _ (by decide)
      rw [hq] at hbyte
      have HQ := Lib.hid hq
      have HK := Lib.hid hk
      obtain ⟨i8, hi8e⟩ : ∃ i8, i / 8 = i8 := ⟨_, rfl⟩
      obtain ⟨m8, hm8e⟩ : ∃ m8, i % 8 = m8 := ⟨_, rfl⟩
      rw [hi8e] at x1 hi8
      rw [hm8e] at hbyte hm8
      have hi8i : (i : Int) / 8 = i8 := by omega
      have hm8i : (i : Int) % 8 = m8 := by omega
      have hst : (2 : Int) ^ (m8 * 8) = 2 ^ (m8 * 8) := rfl
      clear hcell hd hx hby e256 hX hp hq hk hk2 hi8e hm8e hst hr
      go_wp2_with fail
      go_roundw
      case rel =>
        refine ⟨i + 1, by omega, by go_num, D ++ [(q : Int)], Lib.hid (by simp [hD.out]), hdD.snoc (by omega), Lib.hid ?_, ?_, hB1.far (show w.heap.size ≠ w1.heap.size by omega) _, hbel.setCell (show w.heap.size ≤ w1.heap.size by omega) _⟩
        · have h1 := By.mod_step n i
          rw [HQ.out] at h1
          rw [dv_snoc, hD.out, hval.out, ← h1, Int.natCast_add, Int.natCast_mul, Int.natCast_pow]
          rfl
        · have h := hB.set k (.int .u8 (q : Int))
          rw [vs_set, set_pre] at h
          rw [List.reverse_append, show L - (i + 1) = k by have := HK.out; omega]
          exact h
      case measure => simp [intOf]; omega
    · obtain rfl : i = L := by omega
      go_wp2_with fail
      go_ret
      rw [Nat.sub_self, List.replicate_zero, List.nil_append] at hB
      refine ⟨_, rfl, ⟨D.reverse, ⟨fun x hx => hdD x (by simpa using hx), ?_⟩, ⟨by rw [List.length_reverse, hD.out]; omega, fun hn => by rw [List.length_reverse, hD.out]; have : bl n ≤ 32 := bl_le (by omega); omega⟩, hB.ints (n := i) (by rw [List.length_reverse, hD.out]) (by unfold maxLen; omega)⟩, hbel⟩
      rw [List.reverse_reverse, hval.out, Nat.mod_eq_of_lt]
      have h1 := lt_bl n
      have h2 : (2 : Nat) ^ bl n ≤ 2 ^ (8 * i) := Nat.pow_le_pow_right (by decide) (by omega)
      rw [Nat.pow_mul] at h2
      exact Nat.lt_of_lt_of_le h1 h2

set_option maxRecDepth 100000 in
set_option maxHeartbeats 2000000 in
theorem fromBytes_any (v : Value) (n : Nat) (w : World) (h : BytesV w v n) :
    Calls Tryd.prog 79 #[v] w fun e w' => ∃ r, e = .returned (.agg #[r]) ∧ NatV w' r n ∧ Below w.heap.size w w' := by
  obtain ⟨bs, ⟨hdb, hvb⟩, ⟨hlb, -⟩, A, c, rfl, hc, hm, hr⟩ := h
  obtain ⟨L, hL⟩ : ∃ L, bs.length = L := ⟨_, rfl⟩
  rw [hL] at hlb hc hm hr ⊢
  have hmk := mk_at (P := Tryd.prog) Tryd.underlying37 Tryd.info86 rfl .i64 .i64 ((L : Int) / 8 + 1) (L / 8 + 1) (by omega) (by unfold maxLen; omega) (by omega) (vs_replicate (k := .u64) (n := L / 8 + 1) (x := 0))
  unfold maxLen at hm
  have hdr : Dig 256 bs.reverse := fun x hx => hdb x (by simpa using hx)
  have hlr : bs.reverse.length = L := by rw [List.length_reverse, hL]
  have HLR := Lib.hid hlr
  have HLB := Lib.hid hL
  clear hL hlr
  go_enter Tryd.func79, Tryd.ntmps79
  go_wp2_with fail
  go_loopw [12] (fun iv wr => ∃ i : Nat, i ≤ L ∧ iv = .int .i64 i ∧ ∃ Wd : List Int, Hid (Wd.length = L / 8 + 1) ∧ Dig W64 Wd ∧ Hid (dv W64 Wd = dv 256 (bs.reverse.take i)) ∧ Hid (Wd.getD (i / 8) 0 < 256 ^ (i % 8)) ∧ Hid (∀ t, i / 8 < t → Wd.getD t 0 = 0) ∧
    Blk wr (w.heap.size + 1) (vs .u64 Wd) 86 ∧ Blk wr w.heap.size [.slice none 0 0] 39 ∧ Below w.heap.size w wr) (fun iv _ => L - (intOf iv).toNat)
  case atStart =>
    have hz : ∀ t, (List.replicate (L / 8 + 1) (0 : Int)).getD t 0 = 0 := fun t => by
      rw [List.getD_eq_getElem?_getD, List.getElem?_replicate]; split <;> rfl
    exact ⟨0, by omega, rfl, List.replicate (L / 8 + 1) 0, Lib.hid (by simp), fun x hx => by rw [List.eq_of_mem_replicate hx]; decide, Lib.hid (by rw [dv_zeros]; simp [dv]), Lib.hid (by rw [hz]; decide), Lib.hid (fun t _ => hz t), Blk.mk _ _ (by simp) _ _, (Blk.mk w _ rfl [.slice none 0 0] _).alloc _, box2⟩
  case round =>
    obtain ⟨i, hi, rfl, Wd, hWl, hdW, hval, hsm, hz, hB, hR, hbel⟩ := hrel
    by_cases hlt : i < L
    · obtain ⟨b, o, e1, hb, hcell⟩ := hr (by omega)
      subst e1
      obtain ⟨k, hk⟩ : ∃ k, L = k + 1 + i := ⟨L - 1 - i, by omega⟩
      have hk1 : (L : Int) - 1 - i = k := by omega
      have x1 := (hbel.cell (p := ⟨b, o + k, none⟩) hb).trans (hcell k (by omega))
      have hrev : bs.reverse.getD i 0 = bs.getD k 0 := by
        rw [List.getD_eq_getElem?_getD, List.getD_eq_getElem?_getD, List.getElem?_reverse (by rw [HLB.out]; omega), HLB.out, show L - 1 - i = k by omega]
      have hX := dv_take_succ 256 bs.reverse i
      rw [hrev] at hX
      have hbr := hdb.at (by decide) k
      obtain ⟨y, hy⟩ : ∃ y : Nat, bs.getD k 0 = (y : Int) := Int.eq_ofNat_of_zero_le hbr.1
      rw [hy] at x1 hX hbr
      have hy1 : y < 256 := by omega
      have HX := Lib.hid hX
      obtain ⟨i8, hi8⟩ : ∃ i8, i / 8 = i8 := ⟨_, rfl⟩
      obtain ⟨m8, hm8⟩ : ∃ m8, i % 8 = m8 := ⟨_, rfl⟩
      have hm8l : m8 < 8 := by omega
      have hi8l : i8 < L / 8 + 1 := by omega
      have hi8i : (i : Int) / 8 = i8 := by omega
      have hm8i : (i : Int) % 8 = m8 := by omega
      rw [hi8] at hz
      rw [hi8, hm8] at hsm
      have xc := hB.at i8 (by rw [hWl.out]; omega)
      have xf := hB.frozen i8
      have hwd := hdW.at (by decide) i8
      obtain ⟨z, hze⟩ : ∃ z, Wd.getD i8 0 = z := ⟨_, rfl⟩
      rw [hze] at xc hwd hsm
      have hp : (2 : Int) ^ (m8 * 8) = ((256 ^ m8 : Nat) : Int) := by rw [← By.two_256, Int.natCast_pow]; rfl
      have hp2 : ((256 ^ m8 : Nat) : Int) = (256 : Int) ^ m8 := Int.natCast_pow _ _
      have hor : bits .or .u64 z (IntKind.u64.wrap ((y : Int) * 2 ^ (m8 * 8))) = z + y * 256 ^ m8 ∧ z + y * 256 ^ m8 < 256 ^ (m8 + 1) ∧ (256 : Int) ^ (m8 + 1) ≤ 18446744073709551616 := by
        have h1 := shl_or (s := m8 * 8) (x := (y : Int)) (c := z) (by omega) (by omega) (by omega) hwd.1 (by rw [hp, hp2]; exact hsm.out) hwd.2
        have h2 : ((y : Int) % 2 ^ (64 - m8 * 8)) = y := by
          apply Int.emod_eq_of_lt (by omega)
          have h3 : (2 : Int) ^ 8 ≤ 2 ^ (64 - m8 * 8) := pow_le_pow (by decide) (by omega)
          have h4 : (2 : Int) ^ 8 = 256 := by decide
          omega
        have hcomm : bits .or .u64 z (IntKind.u64.wrap ((y : Int) * 2 ^ (m8 * 8))) = bits .or .u64 (IntKind.u64.wrap ((y : Int) * 2 ^ (m8 * 8))) z := by
          unfold bits; simp only [BitVec.or_comm]
        rw [hcomm, h1.1, h2, hp, hp2, Int.add_comm]
        have h5 : (y : Int) * 256 ^ m8 ≤ 255 * 256 ^ m8 := Int.mul_le_mul_of_nonneg_right (by omega) (Int.le_of_lt (pow_pos (by decide) _))
        have h6 : (256 : Int) ^ (m8 + 1) ≤ 256 ^ 8 := pow_le_pow (by decide) (by omega)
        have h7 : (256 : Int) ^ 8 = 18446744073709551616 := by decide
        refine ⟨rfl, ?_, by omega⟩
        rw [Int.pow_succ]
        have := hsm.out
        omega
      obtain ⟨hor1, hor2, hor3⟩ := hor
      have hz0 : 0 ≤ z + y * 256 ^ m8 := by
        have := Int.mul_nonneg (show (0 : Int) ≤ y by omega) (Int.le_of_lt (pow_pos (B := 256) (by decide) m8))
        omega
      obtain ⟨z', hz'⟩ : ∃ z', z + y * 256 ^ m8 = z' := ⟨_, rfl⟩
      rw [hz'] at hor1 hor2 hz0
      have HZE := Lib.hid hze
      have HZ' := Lib.hid hz'
      have HI8 := Lib.hid hi8
      have HM8 := Lib.hid hm8
      have HO2 := Lib.hid hor2
      have HO3 := Lib.hid hor3
      have HYE := Lib.hid hy
      have hwrap8 : IntKind.i64.wrap ((m8 : Int) * 8) = m8 * 8 := by rw [IntKind.wrap_i64]; omega
      have hwrapL : IntKind.i64.wrap ((L : Int) - 1) = L - 1 := by rw [IntKind.wrap_i64]; omega
      have hwrapk : IntKind.i64.wrap ((L : Int) - 1 - i) = k := by rw [IntKind.wrap_i64]; omega
      have hwrapk2 : IntKind.i64.wrap (k : Int) = k := by rw [IntKind.wrap_i64]; omega
      have hkl : k < L := by omega
      have hwrapy : IntKind.u64.wrap (y : Int) = y := by rw [wrap64u]; omega
      clear hcell hr hrev hX hbr hi8 hm8 hk hze hz' hor2 hor3 hp hp2 hsm hwd hy
      go_upto_region 5 with fail
      go_region
      all_goals go_wp2
      go_roundw
      case rel =>
        have hne : ∀ t, t ≠ i8 → (Wd.set i8 z').getD t 0 = Wd.getD t 0 := fun t ht => by
          rw [List.getD_eq_getElem?_getD, List.getD_eq_getElem?_getD, List.getElem?_set_ne (by omega)]
        have heq : (Wd.set i8 z').getD i8 0 = z' := by
          rw [List.getD_eq_getElem?_getD, List.getElem?_set_self (by rw [hWl.out]; omega)]; rfl
        have hb2 := (hB.set i8 (.int .u64 z')).drew
        rw [vs_set] at hb2
        refine ⟨i + 1, by omega, by go_num, Wd.set i8 z', Lib.hid (by rw [List.length_set]; exact hWl.out), hdW.set _ ⟨hz0, by have := HO2.out; have := HO3.out; unfold W64; omega⟩, Lib.hid ?_, Lib.hid ?_, Lib.hid ?_, hb2, (hR.far (show w.heap.size ≠ w.heap.size + 1 by omega) _).drew, (hbel.setCell (show w.heap.size ≤ w.heap.size + 1 by omega) _).drew⟩
        · rw [dv_set _ _ _ _ (by rw [hWl.out]; omega), HZE.out, HX.out, hval.out, ← HZ'.out]
          have h1 := By.word_pow 8 i
          rw [HI8.out, HM8.out] at h1
          have h2 : W64 ^ i8 * 256 ^ m8 = (256 : Int) ^ i := by
            have h3 : (((256 ^ 8) ^ i8 * 256 ^ m8 : Nat) : Int) = ((256 ^ i : Nat) : Int) := by rw [h1]
            rw [Int.natCast_mul, Int.natCast_pow, Int.natCast_pow, Int.natCast_pow] at h3
            exact h3
          rw [← h2]
          grind
        · by_cases h8 : (i + 1) % 8 = 0
          · rw [By.div_wrap i 8 (by decide) h8, h8, HI8.out, hne _ (by omega), hz.out _ (by omega)]; decide
          · obtain ⟨g1, g2⟩ := By.div_succ i 8 (by decide) h8
            rw [g1, g2, HI8.out, HM8.out, heq]; exact HO2.out
        · intro t ht
          have h9 : i8 < t := by have := HI8.out; omega
          rw [hne t (by omega)]; exact hz.out t h9
      case measure => simp [intOf]; omega
    · obtain rfl : i = L := by omega
      have hv2 : dv W64 Wd = n := by
        rw [hval.out, List.take_of_length_le (by rw [HLR.out]; omega)]; exact hvb
      have hT := Lib.hid (trim_num (hB.ints (n := i / 8 + 1) hWl.out.symm (by unfold maxLen; omega)) hdW hv2)
      clear hv2
      go_wp2_with fail
      refine hT.out.mono ?_
      rintro e w2 ⟨r, rfl, hrr, hb1⟩
      have hR3 := hR.below hb1 hR.lt
      have hc := hR3.one
      have hf := hR3.frozen 0
      have hb2 := hbel.trans (hb1.mono hbel.size)
      obtain ⟨A2, k2, cc, rfl⟩ := hrr.slice
      clear hb1 hR hB hbel hT
      go_wp2_with fail
      refine bodyPost_ret (v := .agg #[.slice A2 k2 cc]) (by simp [results, Tryd.results79, go_sem, hc]) rfl ?_
      exact ⟨_, rfl, hrr.box hR3 (by simp) _ _, hb2.setCell (by simp <;> omega) _⟩
end Go.Proofs.YtjfkniknmkcdcaaDoor
