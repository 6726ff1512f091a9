/- Functions of math/bits, off the shelf. -/
import Derived.Test.YtjfkniknmkcdcaaDoorProg
import Derived.Shelf.Bits.Mul64
import Derived.Shelf.Small.Bits
import Derived.Ground.NamesProg
import Derived.Shelf.Lay
namespace Go.Proofs.YtjfkniknmkcdcaaDoor
open Go.Shelf
shelf_lay Lays.n264 Nm 264 at Tryd as Tryd.mul64L
shelf_lay Lays.n129 Nm 129 at Tryd as Tryd.len64L
shelf_lay Lays.n134 Nm 134 at Tryd as Tryd.lz64L
theorem mul64_any (x y : Nat) (hx : x < 18446744073709551616) (hy : y < 18446744073709551616) (w : World) :
    Calls Tryd.prog 64 #[.int .u64 x, .int .u64 y] w fun e w' => e = .returned (.tuple #[.int .u64 ((x * y / 18446744073709551616 : Nat) : Int), .int .u64 ((x * y % 18446744073709551616 : Nat) : Int)]) ∧ w = w' :=
  (Any.bits_Mul64 Tryd.mul64L x y hx hy w).mono fun _ _ ⟨h1, h2⟩ => ⟨h1, h2.symm⟩
theorem len64_any (x : Int) (h0 : 0 ≤ x) (h1 : x ≤ 18446744073709551615) (w : World) :
    Calls Tryd.prog 53 #[.int .u64 x] w fun e w' => e = .returned (.int .i64 (Lib.bitLen x.toNat)) ∧ w = w' :=
  (Any.bits_Len64 Tryd.len64L x w h0 h1).mono fun _ _ ⟨h1, h2⟩ => ⟨h1, h2.symm⟩
theorem len64_q (x : Int) (h0 : 0 ≤ x) (h1 : x ≤ 18446744073709551615) (w : World) :
    Calls Tryd.prog 53 #[.int .u64 x] w fun e w' => e = .returned (.int .i64 (Lib.bitLen x.toNat)) ∧ w' = w :=
  Any.bits_Len64 Tryd.len64L x w h0 h1
theorem lz64_any (x : Int) (h0 : 0 ≤ x) (h1 : x ≤ 18446744073709551615) (w : World) :
    Calls Tryd.prog 96 #[.int .u64 x] w fun e w' => e = .returned (.int .i64 (64 - (Lib.bitLen x.toNat : Int))) ∧ w = w' :=
  (Any.bits_LeadingZeros64 Tryd.lz64L x w h0 h1).mono fun _ _ ⟨h1, h2⟩ => ⟨h1, h2.symm⟩
end Go.Proofs.YtjfkniknmkcdcaaDoor
