/- The walk of Mul. -/
import Derived.Test.YtjfkniknmkcdcaaDoorNb
import Derived.Test.YtjfkniknmkcdcaaDoorSh
namespace Go.Proofs.YtjfkniknmkcdcaaDoor
open Go.RowKit K Nu

theorem mul_bound {x y : Nat} (hx : x < 18446744073709551616) (hy : y < 18446744073709551616) : x * y ≤ 340282366920938463426481119284349108225 := by
  have h : x * y ≤ 18446744073709551615 * 18446744073709551615 := Nat.mul_le_mul (by omega) (by omega)
  exact h

set_option maxRecDepth 100000 in
set_option maxHeartbeats 2000000 in
theorem mul_any (v1 v2 : Value) (a b : Nat) (w : World) (h1 : NatV w v1 a) (h2 : NatV w v2 b) (hsa : bl a ≤ 1073741824) (hsb : bl b ≤ 1073741824) :
    Calls Tryd.prog 36 #[.agg #[v1], .agg #[v2]] w fun e w' => ∃ r, e = .returned (.agg #[r]) ∧ NatV w' r (a * b) ∧ Below w.heap.size w w' := by
  obtain ⟨la, ha, A1, c1, rfl, hc1, hm1, hr1⟩ := h1
  obtain ⟨lb, hb, A2, c2, rfl, hc2, hm2, hr2⟩ := h2
  have hla : la.length ≤ 1073741824 := Nat.le_trans (ha.len' (by decide)) hsa
  have hlb : lb.length ≤ 1073741824 := Nat.le_trans (hb.len' (by decide)) hsb
  have hmk := mk_at (P := Tryd.prog) Tryd.underlying37 Tryd.info86 rfl .i64 .i64 ((la.length : Int) + lb.length) (la.length + lb.length) (by omega) (by unfold maxLen; omega) (by omega) (vs_replicate (k := .u64) (n := la.length + lb.length) (x := 0))
  unfold maxLen at hm1 hm2
  go_enter Tryd.func36, Tryd.ntmps36
  go_wp2
  go_loopw [25] (fun v wr => ∃ i : Nat, i ≤ la.length ∧ v = .int .i64 i ∧ ∃ P : List Int, Hid (P.length = i + lb.length) ∧ Dig W64 P ∧ Hid (dv W64 P = dv W64 (la.take i) * b) ∧
    Blk wr (w.heap.size + 3) (vs .u64 (P ++ List.replicate (la.length - i) 0)) 86 ∧ Blk wr (w.heap.size + 2) [.slice none 0 0] 39 ∧ Blk wr w.heap.size [.slice A1 la.length c1] 39 ∧ Blk wr (w.heap.size + 1) [.slice A2 lb.length c2] 39 ∧ Below w.heap.size w wr) (fun v _ => la.length - (intOf v).toNat)
  case atStart =>
    refine ⟨0, by omega, rfl, List.replicate lb.length 0, Lib.hid (by simp), fun x hx => ?_, Lib.hid (by rw [dv_zeros]; simp [dv]), ?_, ?_, ?_, ?_, ?_⟩
    · rw [List.eq_of_mem_replicate hx]; decide
    · rw [List.replicate_append_replicate, Nat.sub_zero, Nat.add_comm lb.length]; exact Blk.mk _ _ (by simp) _ _
    · exact (Blk.mk _ _ (by simp) [.slice none 0 0] _).alloc _
    · exact (((Blk.mk w _ rfl [.slice A1 la.length c1] _).alloc _).alloc _).alloc _
    · exact ((Blk.mk _ _ (by simp) [.slice A2 lb.length c2] _).alloc _).alloc _
    · exact box3.alloc (by simp <;> omega) _
  case round =>
    obtain ⟨i, hi, rfl, P, hP, hdP, hval, hB, hR, hB1, hB2, hbel⟩ := hrel
    have hx1 := hB1.one
    have hx2 := hB2.one
    have l1 := hB1.lt
    have l2 := hB2.lt
    have l3 := hR.lt
    have l4 := hB.lt
    by_cases hlt : i < la.length
    · obtain ⟨b1, o1, e1, hb1, hcell1⟩ := hr1 (by omega)
      subst e1
      have x1 := (hbel.cell (p := ⟨b1, o1 + i, none⟩) hb1).trans (hcell1 i hlt)
      have hx := ha.dig.at (by decide) i
      have HX := Lib.hid (dv_take_succ W64 la i)
      obtain ⟨x, hxe⟩ : ∃ x : Nat, la.getD i 0 = (x : Int) := Int.eq_ofNat_of_zero_le hx.1
      rw [hxe] at x1 hx
      unfold W64 at hx
      have hxlt : x < 18446744073709551616 := by omega
      have HXE := Lib.hid hxe
      obtain ⟨wo, rfl⟩ : ∃ wo : World, wo = wr := ⟨_, rfl⟩
      clear hcell1 hxe hx
      go_wp2
      go_loopw [33, 8] (fun v cv wr => ∃ j : Nat, j ≤ lb.length ∧ v = .int .i64 j ∧ ∃ (c : Int) (Q : List Int), cv = .int .u64 c ∧ 0 ≤ c ∧ c < 18446744073709551616 ∧ Hid (Q.length = i + lb.length) ∧ Dig W64 Q ∧ Hid (dv W64 Q + c * (W64 ^ i * W64 ^ j) = dv W64 P + x * dv W64 (lb.take j) * W64 ^ i) ∧
        Blk wr (w.heap.size + 3) (vs .u64 (Q ++ List.replicate (la.length - i) 0)) 86 ∧ Blk wr (w.heap.size + 2) [.slice none 0 0] 39 ∧ Blk wr w.heap.size [.slice (some ⟨b1, o1, none⟩) la.length c1] 39 ∧ Blk wr (w.heap.size + 1) [.slice A2 lb.length c2] 39 ∧ Below w.heap.size w wr) (fun v _ _ => lb.length - (intOf v).toNat)
      case atStart => exact ⟨0, by omega, rfl, 0, P, rfl, by omega, by omega, hP, hdP, Lib.hid (by simp [dv]), hB, hR, hB1, hB2, hbel⟩
      case round =>
        clear hB hR hB1 hB2 hbel hx1 hx2 x1 l1 l2 l3 l4
        obtain ⟨j, hj, rfl, c, Q, rfl, hc0, hc1', hQ, hdQ, hv2, hB, hR, hB1, hB2, hbel⟩ := hrel
        have hx1 := hB1.one
        have hx2 := hB2.one
        have l1 := hB1.lt
        have l2 := hB2.lt
        have l3 := hR.lt
        have l4 := hB.lt
        by_cases hlt2 : j < lb.length
        · obtain ⟨b2, o2, e2, hb2, hcell2⟩ := hr2 (by omega)
          subst e2
          have x2 := (hbel.cell (p := ⟨b2, o2 + j, none⟩) hb2).trans (hcell2 j hlt2)
          have hy := hb.dig.at (by decide) j
          have HY := Lib.hid (dv_take_succ W64 lb j)
          obtain ⟨y, hye⟩ : ∃ y : Nat, lb.getD j 0 = (y : Int) := Int.eq_ofNat_of_zero_le hy.1
          rw [hye] at x2 hy
          unfold W64 at hy
          have hylt : y < 18446744073709551616 := by omega
          have HYE := Lib.hid hye
          clear hcell2 hye hy
          have hpb := mul_bound hxlt hylt
          have xc := hB.at (i + j) (by simp; have := hQ.out; omega)
          have xf := hB.frozen (i + j)
          have hq := hdQ.at (by decide) (i + j)
          rw [getD_left (by have := hQ.out; omega)] at xc
          obtain ⟨q, hqe⟩ : ∃ q, Q.getD (i + j) 0 = q := ⟨_, rfl⟩
          rw [hqe] at xc hq
          unfold W64 at hq
          obtain ⟨hq0, hq1⟩ := hq
          have HQE := Lib.hid hqe
          clear hqe
          have hm := mul64_any x y hxlt hylt
          have HM := Lib.hid hm
          clear hm
          obtain ⟨p, hp⟩ : ∃ p, x * y = p := ⟨_, rfl⟩
          have HP := Lib.hid hp
          rw [hp] at hpb
          rw [hp] at HM
          clear hp
          obtain ⟨hi', hhi⟩ : ∃ t : Nat, p / 18446744073709551616 = t := ⟨_, rfl⟩
          obtain ⟨lo', hlo⟩ : ∃ t : Nat, p % 18446744073709551616 = t := ⟨_, rfl⟩
          have b1 : hi' ≤ 18446744073709551614 := by omega
          have b2 : lo' < 18446744073709551616 := by omega
          have hpe : p = hi' * 18446744073709551616 + lo' := by omega
          have b3 : (hi' : Int) * 18446744073709551616 + lo' ≤ 340282366920938463426481119284349108225 := by omega
          rw [hhi, hlo] at HM
          have HPE := Lib.hid hpe
          clear hhi hlo hpe hpb
          have hadd1 := add64_run lo' c 0 (by omega) hc0 (by omega) (by omega)
          have hadd2 := add64_run q (((lo' : Int) + c) % 18446744073709551616) 0 hq0 (by omega) (by omega) (by omega)
          simp only [Int.add_zero] at hadd1 hadd2
          have k1 : 0 ≤ ((lo' : Int) + c) / 18446744073709551616 := by omega
          have k2 : ((lo' : Int) + c) / 18446744073709551616 ≤ 1 := by omega
          go_wp2_with (go_at_call 64; refine (HM.out _).mono ?_; rintro e w' ⟨rfl, rfl⟩)
          go_roundw
          case rel =>
            have hc2 : 0 ≤ (hi' : Int) + ((lo' : Int) + c) / 18446744073709551616 + (q + ((lo' : Int) + c) % 18446744073709551616) / 18446744073709551616 := by omega
            have hc3 : (hi' : Int) + ((lo' : Int) + c) / 18446744073709551616 + (q + ((lo' : Int) + c) % 18446744073709551616) / 18446744073709551616 < 18446744073709551616 := by omega
            have hstep : (q + ((lo' : Int) + c)) % 18446744073709551616 + ((hi' : Int) + ((lo' : Int) + c) / 18446744073709551616 + (q + ((lo' : Int) + c) % 18446744073709551616) / 18446744073709551616) * W64 = q + x * y + c := by
              have h1 : (x : Int) * y = (p : Int) := by rw [← HP.out]; exact (Int.natCast_mul x y).symm
              rw [h1, HPE.out]
              unfold W64
              omega
            refine ⟨j + 1, by omega, by go_num, _, Q.set (i + j) ((q + ((lo' : Int) + c)) % 18446744073709551616), rfl, hc2, hc3, Lib.hid (by rw [List.length_set]; exact hQ.out), hdQ.set _ ⟨by omega, by unfold W64; omega⟩, Lib.hid ?_, ?_, hR.far (by simp) _, hB1.far (by simp <;> omega) _, hB2.far (by simp <;> omega) _, hbel.setCell (by simp <;> omega) _⟩
            · rw [dv_set _ _ _ _ (by have := hQ.out; omega), HQE.out, HY.out, HYE.out, Int.pow_succ, Int.pow_add, ← Int.mul_assoc (W64 ^ i)]
              exact carry_mul hstep hv2.out
            · have h := hB.set (i + j) (.int .u64 ((q + ((lo' : Int) + c)) % 18446744073709551616))
              rw [vs_set, List.set_append_left _ _ (by have := hQ.out; omega)] at h
              exact h
          case measure => simp [intOf]; omega
        · obtain rfl : j = lb.length := by omega
          have hset : (Q ++ List.replicate (la.length - i) 0).set (i + lb.length) c = (Q ++ [c]) ++ List.replicate (la.length - (i + 1)) 0 := by
            rw [List.set_append_right _ _ (by have := hQ.out; omega), hQ.out, Nat.sub_self, List.append_assoc]
            congr 1
            rw [show la.length - i = (la.length - (i + 1)) + 1 by omega, List.replicate_succ]
            rfl
          have HS := Lib.hid hset
          have xc := hB.at (i + lb.length) (by simp; have := hQ.out; omega)
          have xf := hB.frozen (i + lb.length)
          clear hset
          go_wp2
          go_roundw
          case rel =>
            refine ⟨i + 1, by omega, by go_num, Q ++ [c], Lib.hid (by simp; have := hQ.out; omega), hdQ.snoc (by unfold W64; omega), Lib.hid ?_, ?_, hR.far (by simp) _, hB1.far (by simp <;> omega) _, hB2.far (by simp <;> omega) _, hbel.setCell (by simp <;> omega) _⟩
            · have h := hv2.out
              rw [List.take_length, hb.val, hval.out] at h
              rw [dv_snoc, hQ.out, HX.out, HXE.out, Int.pow_add, h]
              grind
            · have h := hB.set (i + lb.length) (.int .u64 c)
              rw [vs_set, HS.out] at h
              exact h
          case measure => simp [intOf]; omega
    · obtain rfl : i = la.length := by omega
      have hval2 : dv W64 P = ((a * b : Nat) : Int) := by
        rw [hval.out, List.take_length, ha.val]; exact (Int.natCast_mul a b).symm
      rw [Nat.sub_self, List.replicate_zero, List.append_nil] at hB
      have hT := trim_num (hB.ints (n := la.length + lb.length) hP.out.symm (by unfold maxLen; omega)) hdP hval2
      have HT := Lib.hid hT
      clear hval2 hT
      go_wp2_with fail
      refine HT.out.mono ?_
      rintro e w2 ⟨r, rfl, hr, hb1⟩
      have hR3 := hR.below hb1 hR.lt
      have hc := hR3.one
      have hf := hR3.frozen 0
      have hb2 := hbel.trans (hb1.mono hbel.size)
      obtain ⟨A, k, cc, rfl⟩ := hr.slice
      clear hb1 hR hB1 hB2 hbel hx1 hx2
      go_wp2
      refine bodyPost_ret (v := .agg #[.slice A k cc]) (by simp [results, Tryd.results36, go_sem, hc]) rfl ?_
      exact ⟨_, rfl, hr.box hR3 (by simp) _ _, hb2.setCell (by simp <;> omega) _⟩
end Go.Proofs.YtjfkniknmkcdcaaDoor
