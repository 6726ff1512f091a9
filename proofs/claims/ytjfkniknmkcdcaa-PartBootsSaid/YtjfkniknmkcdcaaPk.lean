/- The walk of Pick. -/
import Derived.Test.YtjfkniknmkcdcaaProg
import Derived.Test.YtjfkniknmkcdcaaKit
namespace Go.Proofs.Ytjfkniknmkcdcaa
open Go.RowKit K

theorem pick_any (n m : Int) (w : World) (hm : 1 ≤ m) (hm2 : m ≤ 4611686018427387904) :
    Calls Try.prog 9 #[.int .i64 n, .int .i64 m] w fun e w' => e = .returned (.int .i64 (n % m)) ∧ w = w' := by
  obtain ⟨e, b1, b2⟩ := emod_tmod n m hm
  rw [e]
  clear e
  by_cases hlt : n.tmod m < 0
  · rw [if_pos hlt]
    go_enter Try.func9, Try.ntmps9
    go_wp2
    go_ret
    exact ⟨rfl, rfl⟩
  · rw [if_neg hlt]
    go_enter Try.func9, Try.ntmps9
    go_wp2
    go_ret
    exact ⟨rfl, rfl⟩

end Go.Proofs.Ytjfkniknmkcdcaa
