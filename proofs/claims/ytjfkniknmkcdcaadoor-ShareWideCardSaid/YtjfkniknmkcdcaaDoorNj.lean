/- The walks of Bits and Shift. -/
import Derived.Test.YtjfkniknmkcdcaaDoorNi
namespace Go.Proofs.YtjfkniknmkcdcaaDoor
open Go.RowKit K Nu

theorem bl_top {B m x : Nat} (hx : 0 < x) (hm : m < 2 ^ B) : bl (m + x * 2 ^ B) = B + bl x := by
  have h1 := lt_bl x
  have h2 := two_pow_bl (n := x) (by omega)
  have h3 := bl_pos (n := x) (by omega)
  have hP : 0 < 2 ^ B := Nat.two_pow_pos _
  apply Nat.le_antisymm
  · apply bl_le
    rw [Nat.pow_add]
    have h4 : (x + 1) * 2 ^ B ≤ 2 ^ bl x * 2 ^ B := Nat.mul_le_mul_right _ h1
    rw [Nat.add_mul, Nat.one_mul] at h4
    rw [Nat.mul_comm (2 ^ B)]
    omega
  · have h4 : 2 ^ (B + bl x - 1) ≤ m + x * 2 ^ B := by
      rw [show B + bl x - 1 = (bl x - 1) + B by omega, Nat.pow_add]
      have := Nat.mul_le_mul_right (2 ^ B) h2
      omega
    apply Classical.byContradiction
    intro h5
    have h6 := lt_bl (m + x * 2 ^ B)
    have h7 : (2 : Nat) ^ bl (m + x * 2 ^ B) ≤ 2 ^ (B + bl x - 1) := Nat.pow_le_pow_right (by decide) (by omega)
    omega
theorem bl_num {l : List Int} {x : Int} {n : Nat} (h : IsNum W64 (l ++ [x]) n) : bl n = 64 * l.length + bl x.toNat ∧ 0 < x ∧ x < 18446744073709551616 := by
  have hx := h.dig x (by simp)
  have hx0 := h.can x (by simp)
  have hv := h.val
  rw [dv_snoc] at hv
  have hb := dv_bound (B := W64) (by decide) h.dig.left
  obtain ⟨X, rfl⟩ := Int.eq_ofNat_of_zero_le hx.1
  obtain ⟨M, hM⟩ := Int.eq_ofNat_of_zero_le hb.1
  rw [hM] at hv hb
  have hW : W64 ^ l.length = ((2 ^ (64 * l.length) : Nat) : Int) := by
    rw [Nat.pow_mul, Int.natCast_pow]; rfl
  rw [hW] at hv hb
  have hn : n = M + X * 2 ^ (64 * l.length) := by
    have h1 : ((M + X * 2 ^ (64 * l.length) : Nat) : Int) = n := by rw [Int.natCast_add, Int.natCast_mul]; exact hv
    omega
  unfold W64 at hx
  refine ⟨?_, by omega, hx.2⟩
  rw [hn, bl_top (by omega) (by omega)]
  simp

set_option maxRecDepth 100000 in
set_option maxHeartbeats 1000000 in
theorem bits_any (v : Value) (n : Nat) (w : World) (h : NatV w v n) (hsz : bl n ≤ 4611686018427387904) :
    Calls Tryd.prog 25 #[.agg #[v]] w fun e w' => e = .returned (.int .i64 (bl n)) ∧ Below w.heap.size w w' := by
  obtain ⟨l, hl, A, c, rfl, hc, hm, hr⟩ := h
  rcases snoc_cases l with rfl | ⟨m, x, rfl⟩
  · have h0 := (hl.zero_iff (by decide)).2 rfl
    subst h0
    go_enter Tryd.func25, Tryd.ntmps25
    go_wp2
    go_ret
    exact ⟨rfl, (Below.refl _ _).alloc (Nat.le_refl _) _⟩
  · obtain ⟨e1, e2, e3⟩ := bl_num hl
    have hlen : (m ++ [x]).length = m.length + 1 := by simp
    rw [hlen] at hc hr ⊢
    obtain ⟨b, o, rfl, hb, hcell⟩ := hr (by omega)
    have x0 := hcell m.length (by omega)
    rw [show (m ++ [x]).getD m.length 0 = x by simp] at x0
    have hL := Lib.hid (fun wd => len64_q x (by omega) (by omega) wd)
    have hbit : (Lib.bitLen x.toNat : Int) = bl x.toNat := by rw [bitLen_bl (by omega)]
    rw [hbit] at hL
    obtain ⟨k, hk⟩ : ∃ k, m.length = k := ⟨_, rfl⟩
    rw [hk] at e1 x0 ⊢
    have hbx : bl x.toNat ≤ 64 := bl_le (by omega)
    generalize bl x.toNat = y at *
    have i1 : IntKind.i64.wrap (k : Int) = k := by rw [IntKind.wrap_i64]; omega
    have i2 : IntKind.i64.wrap (64 * (k : Int)) = 64 * k := by rw [IntKind.wrap_i64]; omega
    have i3 : IntKind.i64.wrap (64 * (k : Int) + y) = 64 * k + y := by rw [IntKind.wrap_i64]; omega
    have t1 : ((k : Int) + 1 == 0) = false := beq_eq_false_iff_ne.2 (by omega)
    have E1 := Lib.hid (show (bl n : Int) = 64 * k + y by omega)
    clear hcell hr e1 hk hbit hl
    go_enter Tryd.func25, Tryd.ntmps25
    go_wp2
    go_quiet ((go_at_call 53; exact Calls.quiet_of_same (hL.out _)))
    go_wp2
    go_ret
    rw [E1.out]
    exact ⟨rfl, bdn ((Below.refl _ _).alloc (Nat.le_refl _) _) _⟩
end Go.Proofs.YtjfkniknmkcdcaaDoor
