/- The walk of whole: words, Gcd where one is a word. -/
import Derived.Test.YtjfkniknmkcdcaaDoorWd
namespace Go.Proofs.YtjfkniknmkcdcaaDoor
open Go.RowKit K Nu

theorem words_any (a b : Nat) (w : World) (ha : a < 18446744073709551616) (hb : b < 18446744073709551616) :
    Calls Tryd.prog 61 #[.int .u64 a, .int .u64 b] w fun e w' => e = .returned (.int .u64 (Nat.gcd a b)) ∧ ∃ k, w' = w.drewN k := by
  go_enter Tryd.func61, Tryd.ntmps61
  go_wp2
  go_loopw [0, 1] (fun av bv wr => ∃ x y : Nat, av = .int .u64 x ∧ bv = .int .u64 y ∧ x < 18446744073709551616 ∧ y < 18446744073709551616 ∧ Hid (Nat.gcd x y = Nat.gcd a b) ∧ ∃ k, wr = w.drewN k) (fun _ bv _ => (intOf bv).toNat)
  case atStart => exact ⟨a, b, rfl, rfl, ha, hb, Lib.hid rfl, 0, rfl⟩
  case round =>
    obtain ⟨x, y, rfl, rfl, hx, hy, hg, kk, rfl⟩ := hrel
    by_cases h0 : y = 0
    · subst h0
      go_wp2
      go_ret
      have hg' := hg.out
      rw [Nat.gcd_zero_right] at hg'
      subst hg'
      exact ⟨rfl, kk, rfl⟩
    · have t0 : ((y : Int) == 0) = false := by simp; omega
      have t1 : (y : Int) ≠ 0 := by omega
      have hlt := Lib.hid (Nat.mod_lt x (show y > 0 by omega))
      have H0 := Lib.hid h0
      clear h0
      go_wp2_with fail
      go_region
      all_goals go_wp2
      all_goals
        refine ⟨⟨y, x % y, rfl, rfl, hy, by have := hlt.out; omega, Lib.hid ?_, kk + 1, rfl⟩, ?_⟩
        · rw [← hg.out, Nat.gcd_comm y (x % y), ← Nat.gcd_rec, Nat.gcd_comm]
        · have := hlt.out
          simp only [intOf]
          omega
end Go.Proofs.YtjfkniknmkcdcaaDoor
