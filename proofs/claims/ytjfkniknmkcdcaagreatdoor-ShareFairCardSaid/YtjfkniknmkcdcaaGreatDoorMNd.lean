/- Texts of this claim, joined: Sh, Nc, Nd. -/
import Derived.Test.YtjfkniknmkcdcaaGreatDoorProg
import Derived.Shelf.Bits.Mul64
import Derived.Shelf.Small.Bits
import Derived.Ground.NamesProg
import Derived.Test.YtjfkniknmkcdcaaGreatDoorMNb
import Derived.RegionTactic
import Derived.BigRegion
import Derived.StillTailTactics
namespace Go.Proofs.YtjfkniknmkcdcaaGreatDoor
open Go.Shelf
def Tryz.mul64L_ren : Go.Shelf.Ren := ⟨fun | 264 => 97 | n => n, fun | 53 => 106 | 46 => 28 | n => n, fun | n => n⟩
theorem Tryz.mul64L : Go.Proofs.Lays.n264 Tryz.prog Tryz.mul64L_ren := {
  mixed := by kernel_rfl
  f264 := Tryz.func97.trans (congrArg some (by kernel_rfl))
  t46 := Tryz.underlying28
  a46 := Tryz.isAgg28
  z46 := Tryz.sizeOf28
  v46 := Tryz.zeroValue28
  t53 := Tryz.underlying106
  a53 := Tryz.isAgg106
  z53 := Tryz.sizeOf106
  v53 := Tryz.zeroValue106 }
def Tryz.len64L_ren : Go.Shelf.Ren := ⟨fun | 129 => 86 | n => n, fun | 53 => 106 | 3 => 3 | 4 => 4 | 46 => 28 | 5 => 5 | 9 => 9 | n => n, fun | n => n⟩
theorem Tryz.len64L : Go.Proofs.Lays.n129 Tryz.prog Tryz.len64L_ren := {
  mixed := by kernel_rfl
  f129 := Tryz.func86.trans (congrArg some (by kernel_rfl))
  t3 := Tryz.underlying3
  a3 := Tryz.isAgg3
  z3 := Tryz.sizeOf3
  v3 := Tryz.zeroValue3
  t4 := Tryz.underlying4
  a4 := Tryz.isAgg4
  z4 := Tryz.sizeOf4
  v4 := Tryz.zeroValue4
  t5 := Tryz.underlying5
  a5 := Tryz.isAgg5
  z5 := Tryz.sizeOf5
  v5 := Tryz.zeroValue5
  t9 := Tryz.underlying9
  a9 := Tryz.isAgg9
  z9 := Tryz.sizeOf9
  v9 := Tryz.zeroValue9
  t46 := Tryz.underlying28
  a46 := Tryz.isAgg28
  z46 := Tryz.sizeOf28
  v46 := Tryz.zeroValue28
  t53 := Tryz.underlying106
  a53 := Tryz.isAgg106
  z53 := Tryz.sizeOf106
  v53 := Tryz.zeroValue106 }
def Tryz.lz64L_ren : Go.Shelf.Ren := ⟨fun | 134 => 114 | 129 => 86 | n => n, fun | 53 => 106 | 3 => 3 | 4 => 4 | 46 => 28 | 5 => 5 | 9 => 9 | n => n, fun | n => n⟩
theorem Tryz.lz64L : Go.Proofs.Lays.n134 Tryz.prog Tryz.lz64L_ren := {
  mixed := by kernel_rfl
  f129 := Tryz.func86.trans (congrArg some (by kernel_rfl))
  f134 := Tryz.func114.trans (congrArg some (by kernel_rfl))
  t3 := Tryz.underlying3
  a3 := Tryz.isAgg3
  z3 := Tryz.sizeOf3
  v3 := Tryz.zeroValue3
  t4 := Tryz.underlying4
  a4 := Tryz.isAgg4
  z4 := Tryz.sizeOf4
  v4 := Tryz.zeroValue4
  t5 := Tryz.underlying5
  a5 := Tryz.isAgg5
  z5 := Tryz.sizeOf5
  v5 := Tryz.zeroValue5
  t9 := Tryz.underlying9
  a9 := Tryz.isAgg9
  z9 := Tryz.sizeOf9
  v9 := Tryz.zeroValue9
  t46 := Tryz.underlying28
  a46 := Tryz.isAgg28
  z46 := Tryz.sizeOf28
  v46 := Tryz.zeroValue28
  t53 := Tryz.underlying106
  a53 := Tryz.isAgg106
  z53 := Tryz.sizeOf106
  v53 := Tryz.zeroValue106 }
theorem mul64_any (x y : Nat) (hx : x < 18446744073709551616) (hy : y < 18446744073709551616) (w : World) :
    Calls Tryz.prog 97 #[.int .u64 x, .int .u64 y] w fun e w' => e = .returned (.tuple #[.int .u64 ((x * y / 18446744073709551616 : Nat) : Int), .int .u64 ((x * y % 18446744073709551616 : Nat) : Int)]) ∧ w = w' :=
  (Any.bits_Mul64 Tryz.mul64L x y hx hy w).mono fun _ _ ⟨h1, h2⟩ => ⟨h1, h2.symm⟩
theorem len64_any (x : Int) (h0 : 0 ≤ x) (h1 : x ≤ 18446744073709551615) (w : World) :
    Calls Tryz.prog 86 #[.int .u64 x] w fun e w' => e = .returned (.int .i64 (Lib.bitLen x.toNat)) ∧ w = w' :=
  (Any.bits_Len64 Tryz.len64L x w h0 h1).mono fun _ _ ⟨h1, h2⟩ => ⟨h1, h2.symm⟩
theorem len64_q (x : Int) (h0 : 0 ≤ x) (h1 : x ≤ 18446744073709551615) (w : World) :
    Calls Tryz.prog 86 #[.int .u64 x] w fun e w' => e = .returned (.int .i64 (Lib.bitLen x.toNat)) ∧ w' = w :=
  Any.bits_Len64 Tryz.len64L x w h0 h1
theorem lz64_any (x : Int) (h0 : 0 ≤ x) (h1 : x ≤ 18446744073709551615) (w : World) :
    Calls Tryz.prog 114 #[.int .u64 x] w fun e w' => e = .returned (.int .i64 (64 - (Lib.bitLen x.toNat : Int))) ∧ w = w' :=
  (Any.bits_LeadingZeros64 Tryz.lz64L x w h0 h1).mono fun _ _ ⟨h1, h2⟩ => ⟨h1, h2.symm⟩
end Go.Proofs.YtjfkniknmkcdcaaGreatDoor

namespace Go.Proofs.YtjfkniknmkcdcaaGreatDoor
open Go.RowKit K Nu

theorem mul_bound {x y : Nat} (hx : x < 18446744073709551616) (hy : y < 18446744073709551616) : x * y ≤ 340282366920938463426481119284349108225 := by
  have h : x * y ≤ 18446744073709551615 * 18446744073709551615 := Nat.mul_le_mul (by omega) (by omega)
  exact h

set_option maxRecDepth 100000 in
set_option maxHeartbeats 2000000 in
theorem mul_any (v1 v2 : Value) (a b : Nat) (w : World) (h1 : NatV w v1 a) (h2 : NatV w v2 b) (hsa : bl a ≤ 1073741824) (hsb : bl b ≤ 1073741824) :
    Calls Tryz.prog 59 #[.agg #[v1], .agg #[v2]] w fun e w' => ∃ r, e = .returned (.agg #[r]) ∧ NatV w' r (a * b) ∧ Below w.heap.size w w' := by
  obtain ⟨la, ha, A1, c1, rfl, hc1, hm1, hr1⟩ := h1
  obtain ⟨lb, hb, A2, c2, rfl, hc2, hm2, hr2⟩ := h2
  have hla : la.length ≤ 1073741824 := Nat.le_trans (ha.len' (by decide)) hsa
  have hlb : lb.length ≤ 1073741824 := Nat.le_trans (hb.len' (by decide)) hsb
  have hmk := mk_at (P := Tryz.prog) Tryz.underlying34 Tryz.info106 rfl .i64 .i64 ((la.length : Int) + lb.length) (la.length + lb.length) (by omega) (by unfold maxLen; omega) (by omega) (vs_replicate (k := .u64) (n := la.length + lb.length) (x := 0))
  unfold maxLen at hm1 hm2
  go_enter Tryz.func59, Tryz.ntmps59
  go_wp2
  go_loopw [25] (fun v wr => ∃ i : Nat, i ≤ la.length ∧ v = .int .i64 i ∧ ∃ P : List Int, Hid (P.length = i + lb.length) ∧ Dig W64 P ∧ Hid (dv W64 P = dv W64 (la.take i) * b) ∧
    Blk wr (w.heap.size + 3) (vs .u64 (P ++ List.replicate (la.length - i) 0)) 106 ∧ Blk wr (w.heap.size + 2) [.slice none 0 0] 36 ∧ Blk wr w.heap.size [.slice A1 la.length c1] 36 ∧ Blk wr (w.heap.size + 1) [.slice A2 lb.length c2] 36 ∧ Below w.heap.size w wr) (fun v _ => la.length - (intOf v).toNat)
  case atStart =>
    refine ⟨0, by omega, rfl, List.replicate lb.length 0, Lib.hid (by simp), fun x hx => ?_, Lib.hid (by rw [dv_zeros]; simp [dv]), ?_, ?_, ?_, ?_, ?_⟩
    · rw [List.eq_of_mem_replicate hx]; decide
    · rw [List.replicate_append_replicate, Nat.sub_zero, Nat.add_comm lb.length]; exact Blk.mk _ _ (by simp) _ _
    · exact (Blk.mk _ _ (by simp) [.slice none 0 0] _).alloc _
    · exact (((Blk.mk w _ rfl [.slice A1 la.length c1] _).alloc _).alloc _).alloc _
    · exact ((Blk.mk _ _ (by simp) [.slice A2 lb.length c2] _).alloc _).alloc _
    · exact box3.alloc (by simp <;> omega) _
  case round =>
    obtain ⟨i, hi, rfl, P, hP, hdP, hval, hB, hR, hB1, hB2, hbel⟩ := hrel
    have hx1 := hB1.one
    have hx2 := hB2.one
    have l1 := hB1.lt
    have l2 := hB2.lt
    have l3 := hR.lt
    have l4 := hB.lt
    by_cases hlt : i < la.length
    · obtain ⟨b1, o1, e1, hb1, hcell1⟩ := hr1 (by omega)
      subst e1
      have x1 := (hbel.cell (p := ⟨b1, o1 + i, none⟩) hb1).trans (hcell1 i hlt)
      have hx := ha.dig.at (by decide) i
      have HX := Lib.hid (dv_take_succ W64 la i)
      obtain ⟨x, hxe⟩ : ∃ x : Nat, la.getD i 0 = (x : Int) := Int.eq_ofNat_of_zero_le hx.1
      rw [hxe] at x1 hx
      unfold W64 at hx
      have hxlt : x < 18446744073709551616 := by omega
      have HXE := Lib.hid hxe
      obtain ⟨wo, rfl⟩ : ∃ wo : World, wo = wr := ⟨_, rfl⟩
      clear hcell1 hxe hx
      go_wp2
      go_loopw [33, 8] (fun v cv wr => ∃ j : Nat, j ≤ lb.length ∧ v = .int .i64 j ∧ ∃ (c : Int) (Q : List Int), cv = .int .u64 c ∧ 0 ≤ c ∧ c < 18446744073709551616 ∧ Hid (Q.length = i + lb.length) ∧ Dig W64 Q ∧ Hid (dv W64 Q + c * (W64 ^ i * W64 ^ j) = dv W64 P + x * dv W64 (lb.take j) * W64 ^ i) ∧
        Blk wr (w.heap.size + 3) (vs .u64 (Q ++ List.replicate (la.length - i) 0)) 106 ∧ Blk wr (w.heap.size + 2) [.slice none 0 0] 36 ∧ Blk wr w.heap.size [.slice (some ⟨b1, o1, none⟩) la.length c1] 36 ∧ Blk wr (w.heap.size + 1) [.slice A2 lb.length c2] 36 ∧ Below w.heap.size w wr) (fun v _ _ => lb.length - (intOf v).toNat)
      case atStart => exact ⟨0, by omega, rfl, 0, P, rfl, by omega, by omega, hP, hdP, Lib.hid (by simp [dv]), hB, hR, hB1, hB2, hbel⟩
      case round =>
        clear hB hR hB1 hB2 hbel hx1 hx2 x1 l1 l2 l3 l4
        obtain ⟨j, hj, rfl, c, Q, rfl, hc0, hc1', hQ, hdQ, hv2, hB, hR, hB1, hB2, hbel⟩ := hrel
        have hx1 := hB1.one
        have hx2 := hB2.one
        have l1 := hB1.lt
        have l2 := hB2.lt
        have l3 := hR.lt
        have l4 := hB.lt
        by_cases hlt2 : j < lb.length
        · obtain ⟨b2, o2, e2, hb2, hcell2⟩ := hr2 (by omega)
          subst e2
          have x2 := (hbel.cell (p := ⟨b2, o2 + j, none⟩) hb2).trans (hcell2 j hlt2)
          have hy := hb.dig.at (by decide) j
          have HY := Lib.hid (dv_take_succ W64 lb j)
          obtain ⟨y, hye⟩ : ∃ y : Nat, lb.getD j 0 = (y : Int) := Int.eq_ofNat_of_zero_le hy.1
          rw [hye] at x2 hy
          unfold W64 at hy
          have hylt : y < 18446744073709551616 := by omega
          have HYE := Lib.hid hye
          clear hcell2 hye hy
          have hpb := mul_bound hxlt hylt
          have xc := hB.at (i + j) (by simp; have := hQ.out; omega)
          have xf := hB.frozen (i + j)
          have hq := hdQ.at (by decide) (i + j)
          rw [getD_left (by have := hQ.out; omega)] at xc
          obtain ⟨q, hqe⟩ : ∃ q, Q.getD (i + j) 0 = q := ⟨_, rfl⟩
          rw [hqe] at xc hq
          unfold W64 at hq
          obtain ⟨hq0, hq1⟩ := hq
          have HQE := Lib.hid hqe
          clear hqe
          have hm := mul64_any x y hxlt hylt
          have HM := Lib.hid hm
          clear hm
          obtain ⟨p, hp⟩ : ∃ p, x * y = p := ⟨_, rfl⟩
          have HP := Lib.hid hp
          rw [hp] at hpb
          rw [hp] at HM
          clear hp
          obtain ⟨hi', hhi⟩ : ∃ t : Nat, p / 18446744073709551616 = t := ⟨_, rfl⟩
          obtain ⟨lo', hlo⟩ : ∃ t : Nat, p % 18446744073709551616 = t := ⟨_, rfl⟩
          have b1 : hi' ≤ 18446744073709551614 := by omega
          have b2 : lo' < 18446744073709551616 := by omega
          have hpe : p = hi' * 18446744073709551616 + lo' := by omega
          have b3 : (hi' : Int) * 18446744073709551616 + lo' ≤ 340282366920938463426481119284349108225 := by omega
          rw [hhi, hlo] at HM
          have HPE := Lib.hid hpe
          clear hhi hlo hpe hpb
          have hadd1 := add64_run lo' c 0 (by omega) hc0 (by omega) (by omega)
          have hadd2 := add64_run q (((lo' : Int) + c) % 18446744073709551616) 0 hq0 (by omega) (by omega) (by omega)
          simp only [Int.add_zero] at hadd1 hadd2
          have k1 : 0 ≤ ((lo' : Int) + c) / 18446744073709551616 := by omega
          have k2 : ((lo' : Int) + c) / 18446744073709551616 ≤ 1 := by omega
          go_wp2_with (go_at_call 97; refine (HM.out _).mono ?_; rintro e w' ⟨rfl, rfl⟩)
          go_roundw
          case rel =>
            have hc2 : 0 ≤ (hi' : Int) + ((lo' : Int) + c) / 18446744073709551616 + (q + ((lo' : Int) + c) % 18446744073709551616) / 18446744073709551616 := by omega
            have hc3 : (hi' : Int) + ((lo' : Int) + c) / 18446744073709551616 + (q + ((lo' : Int) + c) % 18446744073709551616) / 18446744073709551616 < 18446744073709551616 := by omega
            have hstep : (q + ((lo' : Int) + c)) % 18446744073709551616 + ((hi' : Int) + ((lo' : Int) + c) / 18446744073709551616 + (q + ((lo' : Int) + c) % 18446744073709551616) / 18446744073709551616) * W64 = q + x * y + c := by
              have h1 : (x : Int) * y = (p : Int) := by rw [← HP.out]; exact (Int.natCast_mul x y).symm
              rw [h1, HPE.out]
              unfold W64
              omega
            refine ⟨j + 1, by omega, by go_num, _, Q.set (i + j) ((q + ((lo' : Int) + c)) % 18446744073709551616), rfl, hc2, hc3, Lib.hid (by rw [List.length_set]; exact hQ.out), hdQ.set _ ⟨by omega, by unfold W64; omega⟩, Lib.hid ?_, ?_, hR.far (by simp) _, hB1.far (by simp <;> omega) _, hB2.far (by simp <;> omega) _, hbel.setCell (by simp <;> omega) _⟩
            · rw [dv_set _ _ _ _ (by have := hQ.out; omega), HQE.out, HY.out, HYE.out, Int.pow_succ, Int.pow_add, ← Int.mul_assoc (W64 ^ i)]
              exact carry_mul hstep hv2.out
            · have h := hB.set (i + j) (.int .u64 ((q + ((lo' : Int) + c)) % 18446744073709551616))
              rw [vs_set, List.set_append_left _ _ (by have := hQ.out; omega)] at h
              exact h
          case measure => simp [intOf]; omega
        · obtain rfl : j = lb.length := by omega
          have hset : (Q ++ List.replicate (la.length - i) 0).set (i + lb.length) c = (Q ++ [c]) ++ List.replicate (la.length - (i + 1)) 0 := by
            rw [List.set_append_right _ _ (by have := hQ.out; omega), hQ.out, Nat.sub_self, List.append_assoc]
            congr 1
            rw [show la.length - i = (la.length - (i + 1)) + 1 by omega, List.replicate_succ]
            rfl
          have HS := Lib.hid hset
          have xc := hB.at (i + lb.length) (by simp; have := hQ.out; omega)
          have xf := hB.frozen (i + lb.length)
          clear hset
          go_wp2
          go_roundw
          case rel =>
            refine ⟨i + 1, by omega, by go_num, Q ++ [c], Lib.hid (by simp; have := hQ.out; omega), hdQ.snoc (by unfold W64; omega), Lib.hid ?_, ?_, hR.far (by simp) _, hB1.far (by simp <;> omega) _, hB2.far (by simp <;> omega) _, hbel.setCell (by simp <;> omega) _⟩
            · have h := hv2.out
              rw [List.take_length, hb.val, hval.out] at h
              rw [dv_snoc, hQ.out, HX.out, HXE.out, Int.pow_add, h]
              grind
            · have h := hB.set (i + lb.length) (.int .u64 c)
              rw [vs_set, HS.out] at h
              exact h
          case measure => simp [intOf]; omega
    · obtain rfl : i = la.length := by omega
      have hval2 : dv W64 P = ((a * b : Nat) : Int) := by
        rw [hval.out, List.take_length, ha.val]; exact (Int.natCast_mul a b).symm
      rw [Nat.sub_self, List.replicate_zero, List.append_nil] at hB
      have hT := trim_num (hB.ints (n := la.length + lb.length) hP.out.symm (by unfold maxLen; omega)) hdP hval2
      have HT := Lib.hid hT
      clear hval2 hT
      go_wp2_with fail
      refine HT.out.mono ?_
      rintro e w2 ⟨r, rfl, hr, hb1⟩
      have hR3 := hR.below hb1 hR.lt
      have hc := hR3.one
      have hf := hR3.frozen 0
      have hb2 := hbel.trans (hb1.mono hbel.size)
      obtain ⟨A, k, cc, rfl⟩ := hr.slice
      clear hb1 hR hB1 hB2 hbel hx1 hx2
      go_wp2
      refine bodyPost_ret (v := .agg #[.slice A k cc]) (by simp [results, Tryz.results59, go_sem, hc]) rfl ?_
      exact ⟨_, rfl, hr.box hR3 (by simp) _ _, hb2.setCell (by simp <;> omega) _⟩
end Go.Proofs.YtjfkniknmkcdcaaGreatDoor

namespace Go.Proofs.YtjfkniknmkcdcaaGreatDoor
open Go.RowKit K Nu
theorem wrap64u (n : Int) : IntKind.u64.wrap n = n % 18446744073709551616 := by simp [IntKind.wrap, IntKind.bits, IntKind.signed]
theorem or_u64 {a b : Nat} (ha : a < 18446744073709551616) (hb : b < 18446744073709551616) : bits .or .u64 (a : Int) (b : Int) = ((a ||| b : Nat) : Int) :=
  (bits_nat .u64 64 (by decide) (fun n h0 h1 => by rw [wrap64u]; exact Int.emod_eq_of_lt h0 (by simpa using h1)) a b (by simpa using ha) (by simpa using hb)).2
theorem pow_split {s : Nat} (hs : s ≤ 64) : (2 : Nat) ^ s * 2 ^ (64 - s) = 18446744073709551616 := by
  rw [← Nat.pow_add, show s + (64 - s) = 64 by omega]
/-- a word that is moved up by s bits, with s bits below -/
theorem shl_or {x c : Int} {s : Nat} (hs : s ≤ 64) (hx0 : 0 ≤ x) (hx1 : x < 18446744073709551616) (hc0 : 0 ≤ c) (hc1 : c < 2 ^ s) (hc2 : c < 18446744073709551616) :
    bits .or .u64 (IntKind.u64.wrap (x * 2 ^ s)) c = (x % 2 ^ (64 - s)) * 2 ^ s + c ∧ x * 2 ^ s = (x / 2 ^ (64 - s)) * 18446744073709551616 + (x % 2 ^ (64 - s)) * 2 ^ s ∧
      0 ≤ (x % 2 ^ (64 - s)) * 2 ^ s + c ∧ (x % 2 ^ (64 - s)) * 2 ^ s + c < 18446744073709551616 ∧ 0 ≤ x / 2 ^ (64 - s) ∧ x / 2 ^ (64 - s) < 2 ^ s := by
  obtain ⟨X, rfl⟩ := Int.eq_ofNat_of_zero_le hx0
  obtain ⟨C, rfl⟩ := Int.eq_ofNat_of_zero_le hc0
  have hTU := pow_split hs
  have hT : ((2 : Int) ^ s) = ((2 ^ s : Nat) : Int) := by rw [Int.natCast_pow]; rfl
  have hU : ((2 : Int) ^ (64 - s)) = ((2 ^ (64 - s) : Nat) : Int) := by rw [Int.natCast_pow]; rfl
  have hTp : 0 < (2 : Nat) ^ s := Nat.two_pow_pos _
  have hUp : 0 < (2 : Nat) ^ (64 - s) := Nat.two_pow_pos _
  rw [hT] at hc1 ⊢
  rw [hU]
  have hC : C < 2 ^ s := by omega
  have e0 := Nat.div_add_mod X (2 ^ (64 - s))
  have e1 : X * 2 ^ s = (X / 2 ^ (64 - s)) * 18446744073709551616 + (X % 2 ^ (64 - s)) * 2 ^ s := by
    conv => lhs; rw [← e0]
    rw [← hTU]; grind
  have hm : X % 2 ^ (64 - s) < 2 ^ (64 - s) := Nat.mod_lt _ hUp
  have hm2 : X % 2 ^ (64 - s) * 2 ^ s + 2 ^ s ≤ 18446744073709551616 := by
    have h1 : (X % 2 ^ (64 - s) + 1) * 2 ^ s ≤ 2 ^ (64 - s) * 2 ^ s := Nat.mul_le_mul_right _ hm
    rw [Nat.mul_comm (2 ^ (64 - s)), hTU, Nat.add_mul, Nat.one_mul] at h1
    exact h1
  have e2 : X * 2 ^ s % 18446744073709551616 = X % 2 ^ (64 - s) * 2 ^ s := by
    rw [e1, Nat.add_comm, Nat.add_mul_mod_self_right]
    exact Nat.mod_eq_of_lt (by omega)
  have e3 : IntKind.u64.wrap ((X : Int) * ((2 ^ s : Nat) : Int)) = ((X % 2 ^ (64 - s) * 2 ^ s : Nat) : Int) := by
    rw [wrap64u, ← Int.natCast_mul, ← e2]; rfl
  rw [e3, or_u64 (by omega) (by omega)]
  have e4 : X % 2 ^ (64 - s) * 2 ^ s ||| C = X % 2 ^ (64 - s) * 2 ^ s + C := by
    rw [Nat.mul_comm, ← Nat.two_pow_add_eq_or_of_lt hC]
  rw [e4]
  have e5 : X / 2 ^ (64 - s) < 2 ^ s := by
    rw [Nat.div_lt_iff_lt_mul hUp, hTU]; omega
  have e6 : (X : Int) % ((2 ^ (64 - s) : Nat) : Int) * ((2 ^ s : Nat) : Int) = ((X % 2 ^ (64 - s) * 2 ^ s : Nat) : Int) := by
    rw [Int.natCast_mul (X % 2 ^ (64 - s)), Int.natCast_emod]
  have e7 : (X : Int) / ((2 ^ (64 - s) : Nat) : Int) = ((X / 2 ^ (64 - s) : Nat) : Int) := by rw [Int.natCast_ediv]
  rw [e6, e7, ← Int.natCast_mul X, e1]
  generalize X % 2 ^ (64 - s) * 2 ^ s = p at *
  generalize X / 2 ^ (64 - s) = q at *
  generalize (2 : Nat) ^ s = T at *
  refine ⟨by omega, by omega, by omega, by omega, by omega, by omega⟩

set_option maxRecDepth 100000 in
set_option maxHeartbeats 1000000 in
theorem left_any (v : Value) (u : List Int) (s n : Nat) (w : World) (hv : IsInts .u64 w v u) (hd : Dig W64 u) (hs : s < 64) (hn : n ≤ 2147483648) :
    Calls Tryz.prog 115 #[v, .int .i64 s, .int .i64 n] w fun e w' => ∃ (o : List Int) (c : Int), e = .returned (.slice (some ⟨w.heap.size, 0, none⟩) n n) ∧ Blk w' w.heap.size (vs .u64 o) 106 ∧ o.length = n ∧ Dig W64 o ∧ 0 ≤ c ∧ dv W64 o + c * W64 ^ n = dv W64 (u.take n) * 2 ^ s ∧ Below w.heap.size w w' := by
  obtain ⟨A, c0, rfl, hc, hm, hr⟩ := hv
  have hmk := mk_at (P := Tryz.prog) Tryz.underlying34 Tryz.info106 rfl .i64 .i64 (n : Int) n rfl (by unfold maxLen; omega) (by omega) (vs_replicate (k := .u64) (n := n) (x := 0))
  unfold maxLen at hm
  go_enter Tryz.func115, Tryz.ntmps115
  go_wp2
  go_loopw [15, 8] (fun i cv wr => ∃ j : Nat, j ≤ n ∧ i = .int .i64 j ∧ ∃ (c : Int) (o : List Int), cv = .int .u64 c ∧ 0 ≤ c ∧ c < 18446744073709551616 ∧ Hid (c < 2 ^ s) ∧ Hid (o.length = j) ∧ Dig W64 o ∧ Hid (dv W64 o + c * W64 ^ j = dv W64 (u.take j) * 2 ^ s) ∧
    Blk wr w.heap.size (vs .u64 (o ++ List.replicate (n - j) 0)) 106 ∧ Below w.heap.size w wr) (fun i _ _ => n - (intOf i).toNat)
  case atStart => exact ⟨0, by omega, rfl, 0, [], rfl, by omega, by omega, Lib.hid (Int.pow_pos (by decide)), Lib.hid rfl, Dig.nil _, Lib.hid (by simp [dv]), Blk.new _ _ _, (Below.refl _ _).alloc (Nat.le_refl _) _⟩
  case round =>
    obtain ⟨j, hj, rfl, c, o, rfl, hc0, hc1', hcs, ho, hdo, hval, hB, hbel⟩ := hrel
    by_cases hlt : j < n
    · have xc := hB.at j (by simp; have := ho.out; omega)
      have xf := hB.frozen j
      have HX := Lib.hid (dv_take_succ W64 u j)
      have hset : ∀ q : Int, (o ++ List.replicate (n - j) 0).set j q = (o ++ [q]) ++ List.replicate (n - (j + 1)) 0 := by
        intro q
        rw [List.set_append_right _ _ (by rw [ho.out]; exact Nat.le_refl _), ho.out, Nat.sub_self, List.append_assoc]
        congr 1
        rw [show n - j = (n - (j + 1)) + 1 by omega, List.replicate_succ]
        rfl
      have HS := Lib.hid hset
      have hx := hd.at (by decide) j
      have hcase : ∃ x, u.getD j 0 = x ∧ (j < u.length ∨ (¬ j < u.length ∧ x = 0)) := by
        refine ⟨_, rfl, ?_⟩
        by_cases h : j < u.length
        · exact .inl h
        · refine .inr ⟨h, ?_⟩; rw [List.getD_eq_getElem?_getD, List.getElem?_eq_none (by omega)]; rfl
      obtain ⟨x, hxe, hxl⟩ := hcase
      rw [hxe] at hx
      unfold W64 at hx
      obtain ⟨hx0, hx1⟩ := hx
      have HXE := Lib.hid hxe
      have hfin : ∀ q c', q = bits .or .u64 (IntKind.u64.wrap (x * 2 ^ s)) c → c' = x / 2 ^ (64 - s) →
          0 ≤ c' ∧ c' < 18446744073709551616 ∧ Hid (c' < 2 ^ s) ∧ Hid ((o ++ [q]).length = j + 1) ∧ Dig W64 (o ++ [q]) ∧ Hid (dv W64 (o ++ [q]) + c' * W64 ^ (j + 1) = dv W64 (u.take (j + 1)) * 2 ^ s) := by
        rintro q c' rfl rfl
        obtain ⟨h1, h2, h3, h4, h5, h6⟩ := shl_or (show s ≤ 64 by omega) hx0 hx1 hc0 hcs.out hc1'
        rw [h1]
        have h7 : (2 : Int) ^ s ≤ 2 ^ 64 := pow_le_pow (by decide) (by omega)
        have h8 : (2 : Int) ^ 64 = 18446744073709551616 := by decide
        refine ⟨h5, by omega, Lib.hid h6, Lib.hid (by simp [ho.out]), hdo.snoc ⟨h3, h4⟩, Lib.hid ?_⟩
        rw [dv_snoc, ho.out, HX.out, HXE.out, Int.pow_succ]
        have h9 := hval.out
        have h10 : x * 2 ^ s = x / 2 ^ (64 - s) * W64 + x % 2 ^ (64 - s) * 2 ^ s := h2
        generalize x / 2 ^ (64 - s) = a1 at *
        generalize x % 2 ^ (64 - s) * 2 ^ s = a2 at *
        generalize (2 : Int) ^ s = T at *
        have h11 : (x * T) * W64 ^ j = (a1 * W64 + a2) * W64 ^ j := by rw [h10]
        grind
      have HF := Lib.hid hfin
      clear hset hfin hxe
      rcases hxl with hxl | hxl
      · obtain ⟨b1, o1, e1, hb1, hcell1⟩ := hr (by omega)
        subst e1
        have x1 := (hbel.cell (p := ⟨b1, o1 + j, none⟩) hb1).trans (hcell1 j hxl)
        rw [HXE.out] at x1
        clear hcell1
        obtain ⟨f1, f2, f3, f4, f5, f6⟩ := HF.out _ _ rfl rfl
        have HF2 := Lib.hid f2
        clear f2 f1
        go_wp2
        go_roundw
        case rel =>
          refine ⟨j + 1, by omega, by go_num, _, _, rfl, (HF.out _ _ rfl rfl).1, HF2.out, f3, f4, f5, f6, ?_, hbel.setCell (Nat.le_refl _) _⟩
          have h := hB.set j (.int .u64 (bits .or .u64 (IntKind.u64.wrap (x * 2 ^ s)) c))
          rw [vs_set, HS.out] at h
          exact h
        case measure => simp [intOf]; omega
      · obtain ⟨hxl, rfl⟩ := hxl
        go_wp2
        go_roundw
        case rel =>
          obtain ⟨f1, f2, f3, f4, f5, f6⟩ := HF.out (bits .or .u64 0 c) 0 (by rw [Int.zero_mul]; rfl) (Int.zero_ediv _).symm
          refine ⟨j + 1, by omega, by go_num, _, _, rfl, f1, f2, f3, f4, f5, f6, ?_, hbel.setCell (Nat.le_refl _) _⟩
          have h := hB.set j (.int .u64 (bits .or .u64 0 c))
          rw [vs_set, HS.out] at h
          exact h
        case measure => simp [intOf]; omega
    · obtain rfl : j = n := by omega
      go_wp2
      go_ret
      rw [Nat.sub_self, List.replicate_zero, List.append_nil] at hB
      exact ⟨o, c, rfl, hB, ho.out, hdo, hc0, hval.out, hbel⟩

/-- a word that is moved down by s bits, with bits of the next one above -/
theorem shr_or {x y : Int} {s : Nat} (hs : s < 64) (hx0 : 0 ≤ x) (hx1 : x < 18446744073709551616) (hy0 : 0 ≤ y) (hy1 : y < 18446744073709551616) :
    bits .or .u64 (x / 2 ^ s) (IntKind.u64.wrap (y * 2 ^ (64 - s))) = x / 2 ^ s + (y % 2 ^ s) * 2 ^ (64 - s) ∧
      0 ≤ x / 2 ^ s + (y % 2 ^ s) * 2 ^ (64 - s) ∧ x / 2 ^ s + (y % 2 ^ s) * 2 ^ (64 - s) < 18446744073709551616 ∧
      (x / 2 ^ s + (y % 2 ^ s) * 2 ^ (64 - s)) * 2 ^ s = x - x % 2 ^ s + (y % 2 ^ s) * 18446744073709551616 := by
  have h := shl_or (s := 64 - s) (x := y) (c := x / 2 ^ s) (by omega) hy0 hy1 (Int.ediv_nonneg hx0 (Int.le_of_lt (Int.pow_pos (by decide)))) ?_ ?_
  · rw [show 64 - (64 - s) = s by omega] at h
    obtain ⟨h1, h2, h3, h4, h5, h6⟩ := h
    have hcomm : bits .or .u64 (x / 2 ^ s) (IntKind.u64.wrap (y * 2 ^ (64 - s))) = bits .or .u64 (IntKind.u64.wrap (y * 2 ^ (64 - s))) (x / 2 ^ s) := by
      unfold bits; simp only [BitVec.or_comm]
    rw [hcomm, h1, Int.add_comm]
    refine ⟨rfl, by omega, by omega, ?_⟩
    have hTU : (2 : Int) ^ (64 - s) * 2 ^ s = 18446744073709551616 := by
      have := pow_split (s := s) (by omega)
      have h7 : (2 : Int) ^ (64 - s) * 2 ^ s = ((2 ^ s * 2 ^ (64 - s) : Nat) : Int) := by
        rw [Int.natCast_mul, Int.natCast_pow, Int.natCast_pow, Int.mul_comm]; rfl
      rw [h7, this]; rfl
    have h8 := Int.emod_add_mul_ediv x (2 ^ s)
    generalize (2 : Int) ^ (64 - s) = U at *
    generalize (2 : Int) ^ s = T at *
    generalize x / T = a at *
    generalize x % T = b at *
    generalize y % T = e at *
    rw [← hTU]
    grind
  · have hTU : (2 : Int) ^ (64 - s) * 2 ^ s = 18446744073709551616 := by
      have := pow_split (s := s) (by omega)
      have h7 : (2 : Int) ^ (64 - s) * 2 ^ s = ((2 ^ s * 2 ^ (64 - s) : Nat) : Int) := by
        rw [Int.natCast_mul, Int.natCast_pow, Int.natCast_pow, Int.mul_comm]; rfl
      rw [h7, this]; rfl
    exact Int.ediv_lt_of_lt_mul (Int.pow_pos (by decide)) (by rw [hTU]; exact hx1)
  · exact Int.lt_of_le_of_lt (Int.ediv_le_self _ hx0) hx1

set_option maxRecDepth 100000 in
set_option maxHeartbeats 1000000 in
theorem right_any (v : Value) (u : List Int) (s : Nat) (w : World) (hv : IsInts .u64 w v u) (hd : Dig W64 u) (hs : s < 64) (hn : u.length ≤ 2147483648) :
    Calls Tryz.prog 119 #[v, .int .i64 s] w fun e w' => ∃ (r : Value) (o : List Int), e = .returned r ∧ IsInts .u64 w' r o ∧ o.length = u.length ∧ Dig W64 o ∧ dv W64 o = dv W64 u / 2 ^ s ∧ Below w.heap.size w w' := by
  obtain ⟨A, c0, rfl, hc, hm, hr⟩ := hv
  have hmk := mk_at (P := Tryz.prog) Tryz.underlying34 Tryz.info106 rfl .i64 .i64 (u.length : Int) u.length rfl (by unfold maxLen; omega) (by omega) (vs_replicate (k := .u64) (n := u.length) (x := 0))
  unfold maxLen at hm
  go_enter Tryz.func119, Tryz.ntmps119
  go_wp2
  go_loopw [12] (fun i wr => ∃ j : Nat, j ≤ u.length ∧ i = .int .i64 j ∧ ∃ (o : List Int), Hid (o.length = j) ∧ Dig W64 o ∧ Hid (dv W64 o * 2 ^ s + u.getD 0 0 % 2 ^ s = dv W64 (u.take j) + u.getD j 0 % 2 ^ s * W64 ^ j) ∧
    Blk wr w.heap.size (vs .u64 (o ++ List.replicate (u.length - j) 0)) 106 ∧ Below w.heap.size w wr) (fun i _ => u.length - (intOf i).toNat)
  case atStart => exact ⟨0, by omega, rfl, [], Lib.hid rfl, Dig.nil _, Lib.hid (by simp [dv]), Blk.new _ _ _, (Below.refl _ _).alloc (Nat.le_refl _) _⟩
  case round =>
    obtain ⟨j, hj, rfl, o, ho, hdo, hval, hB, hbel⟩ := hrel
    by_cases hlt : j < u.length
    · have xc := hB.at j (by simp; have := ho.out; omega)
      have xf := hB.frozen j
      have HX := Lib.hid (dv_take_succ W64 u j)
      have hset : ∀ q : Int, (o ++ List.replicate (u.length - j) 0).set j q = (o ++ [q]) ++ List.replicate (u.length - (j + 1)) 0 := by
        intro q
        rw [List.set_append_right _ _ (by rw [ho.out]; exact Nat.le_refl _), ho.out, Nat.sub_self, List.append_assoc]
        congr 1
        rw [show u.length - j = (u.length - (j + 1)) + 1 by omega, List.replicate_succ]
        rfl
      have HS := Lib.hid hset
      obtain ⟨b1, o1, e1, hb1, hcell1⟩ := hr (by omega)
      subst e1
      have x1 := (hbel.cell (p := ⟨b1, o1 + j, none⟩) hb1).trans (hcell1 j hlt)
      have hx := hd.at (by decide) j
      have hy := hd.at (by decide) (j + 1)
      have hfin : ∀ q, q = u.getD j 0 / 2 ^ s + (u.getD (j + 1) 0 % 2 ^ s) * 2 ^ (64 - s) →
          Hid ((o ++ [q]).length = j + 1) ∧ Dig W64 (o ++ [q]) ∧ Hid (dv W64 (o ++ [q]) * 2 ^ s + u.getD 0 0 % 2 ^ s = dv W64 (u.take (j + 1)) + u.getD (j + 1) 0 % 2 ^ s * W64 ^ (j + 1)) := by
        rintro q rfl
        unfold W64 at hx hy
        obtain ⟨h1, h2, h3, h4⟩ := shr_or hs hx.1 hx.2 hy.1 hy.2
        refine ⟨Lib.hid (by simp [ho.out]), hdo.snoc ⟨h2, h3⟩, Lib.hid ?_⟩
        rw [dv_snoc, ho.out, HX.out, Int.pow_succ]
        have h5 := hval.out
        have h6 : (u.getD j 0 / 2 ^ s + (u.getD (j + 1) 0 % 2 ^ s) * 2 ^ (64 - s)) * 2 ^ s = u.getD j 0 - u.getD j 0 % 2 ^ s + (u.getD (j + 1) 0 % 2 ^ s) * W64 := h4
        generalize u.getD j 0 / 2 ^ s + (u.getD (j + 1) 0 % 2 ^ s) * 2 ^ (64 - s) = a at *
        generalize u.getD j 0 % 2 ^ s = b at *
        generalize u.getD (j + 1) 0 % 2 ^ s = e at *
        generalize (2 : Int) ^ s = T at *
        generalize u.getD j 0 = x at *
        have h7 : (a * T) * W64 ^ j = (x - b + e * W64) * W64 ^ j := by rw [h6]
        grind
      have HF := Lib.hid hfin
      clear hset hfin
      by_cases hl2 : j + 1 < u.length
      · have x2 := (hbel.cell (p := ⟨b1, o1 + (j + 1), none⟩) hb1).trans (hcell1 (j + 1) hl2)
        clear hcell1
        generalize u.getD j 0 = x at *
        generalize hye : u.getD (j + 1) 0 = y at *
        have HYE := Lib.hid hye
        clear hye
        unfold W64 at hx hy
        have H4 := Lib.hid (shr_or hs hx.1 hx.2 hy.1 hy.2)
        clear hx hy
        have x3 : (wr.setCell ⟨w.heap.size, j, none⟩ (.int .u64 (x / 2 ^ s))).cell? ⟨w.heap.size, j, none⟩ = some (.int .u64 (x / 2 ^ s)) := by
          rw [(hB.set j (.int .u64 (x / 2 ^ s))).cell, List.getElem?_set_self (by rw [vs_length]; simp; have := ho.out; omega)]
        have x4 : (wr.setCell ⟨w.heap.size, j, none⟩ (.int .u64 (x / 2 ^ s))).cell? ⟨b1, o1 + (j + 1), none⟩ = some (.int .u64 y) := ((hbel.setCell (p := ⟨w.heap.size, j, none⟩) (Nat.le_refl _) _).cell (p := ⟨b1, o1 + (j + 1), none⟩) hb1).trans ((hbel.cell (p := ⟨b1, o1 + (j + 1), none⟩) hb1).symm.trans x2)
        have t1 : decide ((j : Int) + 1 < u.length) = true := by simp; omega
        go_wp2
        go_region
        all_goals go_wp2
        go_roundw
        case rel =>
          obtain ⟨f1, f2, f3⟩ := HF.out _ rfl
          have hb2 : Blk ((wr.setCell ⟨w.heap.size, j, none⟩ (.int .u64 (x / 2 ^ s))).setCell ⟨w.heap.size, j, none⟩ (.int .u64 (bits .or .u64 (x / 2 ^ s) (IntKind.u64.wrap (y * 2 ^ (64 - s)))))) w.heap.size (vs .u64 ((o ++ [x / 2 ^ s + (y % 2 ^ s) * 2 ^ (64 - s)]) ++ List.replicate (u.length - (j + 1)) 0)) 106 := by
            have h := (hB.set j (.int .u64 (x / 2 ^ s))).set j (.int .u64 (bits .or .u64 (x / 2 ^ s) (IntKind.u64.wrap (y * 2 ^ (64 - s)))))
            rw [List.set_set, vs_set] at h
            rw [← HS.out]
            rw [← H4.out.1]
            exact h
          exact ⟨j + 1, by omega, by go_num, _, f1, f2, Lib.hid (by rw [HYE.out]; exact f3.out), hb2, by first | exact (hbel.setCell (Nat.le_refl _) _).setCell (Nat.le_refl _) _ | exact ((hbel.setCell (Nat.le_refl _) _).setCell (Nat.le_refl _) _).drew⟩
        case measure => simp [intOf]; omega
      · have hy0 : u.getD (j + 1) 0 = 0 := by rw [List.getD_eq_getElem?_getD, List.getElem?_eq_none (by omega)]; rfl
        rw [hy0] at HF hy
        have HY0 := Lib.hid hy0
        clear hcell1 hy0
        generalize u.getD j 0 = x at *
        clear hx hy
        have t1 : decide ((j : Int) + 1 < u.length) = false := by simp; omega
        go_wp2
        go_roundw
        case rel =>
          obtain ⟨f1, f2, f3⟩ := HF.out (x / 2 ^ s) (by rw [Int.zero_emod, Int.zero_mul, Int.add_zero])
          refine ⟨j + 1, by omega, by go_num, _, f1, f2, Lib.hid ?_, ?_, hbel.setCell (Nat.le_refl _) _⟩
          · rw [HY0.out]; exact f3.out
          · have h := hB.set j (.int .u64 (x / 2 ^ s))
            rw [vs_set, HS.out] at h
            exact h
        case measure => simp [intOf]; omega
    · obtain rfl : j = u.length := by omega
      go_wp2
      go_ret
      rw [Nat.sub_self, List.replicate_zero, List.append_nil] at hB
      refine ⟨_, o, rfl, hB.ints ho.out.symm (by unfold maxLen; omega), ho.out, hdo, ?_, hbel⟩
      have h := hval.out
      have h0 : u.getD u.length 0 = 0 := by rw [List.getD_eq_getElem?_getD, List.getElem?_eq_none (by omega)]; rfl
      rw [List.take_length, h0, Int.zero_emod, Int.zero_mul, Int.add_zero] at h
      have hT : (0 : Int) < 2 ^ s := Int.pow_pos (by decide)
      have h1 := Int.emod_nonneg (u.getD 0 0) (show (2 : Int) ^ s ≠ 0 by omega)
      have h2 := Int.emod_lt_of_pos (u.getD 0 0) hT
      rw [← h]
      rw [Int.add_comm, Int.add_mul_ediv_right _ _ (by omega), Int.ediv_eq_zero_of_lt h1 h2, Int.zero_add]
end Go.Proofs.YtjfkniknmkcdcaaGreatDoor
