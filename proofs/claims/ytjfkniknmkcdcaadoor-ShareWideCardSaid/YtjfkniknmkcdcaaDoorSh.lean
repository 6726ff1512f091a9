/- Functions of math/bits, off the shelf. -/
import Derived.Test.YtjfkniknmkcdcaaDoorProg
import Derived.Shelf.Bits.Mul64
import Derived.Shelf.Small.Bits
import Derived.Ground.NamesProg
namespace Go.Proofs.YtjfkniknmkcdcaaDoor
open Go.Shelf
def Tryd.mul64L_ren : Go.Shelf.Ren := ⟨fun | 264 => 64 | n => n, fun | 53 => 86 | 46 => 27 | n => n, fun | n => n⟩
theorem Tryd.mul64L : Go.Proofs.Lays.n264 Tryd.prog Tryd.mul64L_ren := {
  mixed := by kernel_rfl
  f264 := Tryd.func64.trans (congrArg some (by kernel_rfl))
  t46 := Tryd.underlying27
  a46 := Tryd.isAgg27
  z46 := Tryd.sizeOf27
  v46 := Tryd.zeroValue27
  t53 := Tryd.underlying86
  a53 := Tryd.isAgg86
  z53 := Tryd.sizeOf86
  v53 := Tryd.zeroValue86 }
def Tryd.len64L_ren : Go.Shelf.Ren := ⟨fun | 129 => 53 | n => n, fun | 53 => 86 | 3 => 3 | 4 => 4 | 46 => 27 | 5 => 5 | 9 => 9 | n => n, fun | n => n⟩
theorem Tryd.len64L : Go.Proofs.Lays.n129 Tryd.prog Tryd.len64L_ren := {
  mixed := by kernel_rfl
  f129 := Tryd.func53.trans (congrArg some (by kernel_rfl))
  t3 := Tryd.underlying3
  a3 := Tryd.isAgg3
  z3 := Tryd.sizeOf3
  v3 := Tryd.zeroValue3
  t4 := Tryd.underlying4
  a4 := Tryd.isAgg4
  z4 := Tryd.sizeOf4
  v4 := Tryd.zeroValue4
  t5 := Tryd.underlying5
  a5 := Tryd.isAgg5
  z5 := Tryd.sizeOf5
  v5 := Tryd.zeroValue5
  t9 := Tryd.underlying9
  a9 := Tryd.isAgg9
  z9 := Tryd.sizeOf9
  v9 := Tryd.zeroValue9
  t46 := Tryd.underlying27
  a46 := Tryd.isAgg27
  z46 := Tryd.sizeOf27
  v46 := Tryd.zeroValue27
  t53 := Tryd.underlying86
  a53 := Tryd.isAgg86
  z53 := Tryd.sizeOf86
  v53 := Tryd.zeroValue86 }
def Tryd.lz64L_ren : Go.Shelf.Ren := ⟨fun | 134 => 96 | 129 => 53 | n => n, fun | 53 => 86 | 3 => 3 | 4 => 4 | 46 => 27 | 5 => 5 | 9 => 9 | n => n, fun | n => n⟩
theorem Tryd.lz64L : Go.Proofs.Lays.n134 Tryd.prog Tryd.lz64L_ren := {
  mixed := by kernel_rfl
  f129 := Tryd.func53.trans (congrArg some (by kernel_rfl))
  f134 := Tryd.func96.trans (congrArg some (by kernel_rfl))
  t3 := Tryd.underlying3
  a3 := Tryd.isAgg3
  z3 := Tryd.sizeOf3
  v3 := Tryd.zeroValue3
  t4 := Tryd.underlying4
  a4 := Tryd.isAgg4
  z4 := Tryd.sizeOf4
  v4 := Tryd.zeroValue4
  t5 := Tryd.underlying5
  a5 := Tryd.isAgg5
  z5 := Tryd.sizeOf5
  v5 := Tryd.zeroValue5
  t9 := Tryd.underlying9
  a9 := Tryd.isAgg9
  z9 := Tryd.sizeOf9
  v9 := Tryd.zeroValue9
  t46 := Tryd.underlying27
  a46 := Tryd.isAgg27
  z46 := Tryd.sizeOf27
  v46 := Tryd.zeroValue27
  t53 := Tryd.underlying86
  a53 := Tryd.isAgg86
  z53 := Tryd.sizeOf86
  v53 := Tryd.zeroValue86 }
theorem mul64_any (x y : Nat) (hx : x < 18446744073709551616) (hy : y < 18446744073709551616) (w : World) :
    Calls Tryd.prog 64 #[.int .u64 x, .int .u64 y] w fun e w' => e = .returned (.tuple #[.int .u64 ((x * y / 18446744073709551616 : Nat) : Int), .int .u64 ((x * y % 18446744073709551616 : Nat) : Int)]) ∧ w = w' :=
  (Any.bits_Mul64 Tryd.mul64L x y hx hy w).mono fun _ _ ⟨h1, h2⟩ => ⟨h1, h2.symm⟩
theorem len64_any (x : Int) (h0 : 0 ≤ x) (h1 : x ≤ 18446744073709551615) (w : World) :
    Calls Tryd.prog 53 #[.int .u64 x] w fun e w' => e = .returned (.int .i64 (Lib.bitLen x.toNat)) ∧ w = w' :=
  (Any.bits_Len64 Tryd.len64L x w h0 h1).mono fun _ _ ⟨h1, h2⟩ => ⟨h1, h2.symm⟩
theorem len64_q (x : Int) (h0 : 0 ≤ x) (h1 : x ≤ 18446744073709551615) (w : World) :
    Calls Tryd.prog 53 #[.int .u64 x] w fun e w' => e = .returned (.int .i64 (Lib.bitLen x.toNat)) ∧ w' = w :=
  Any.bits_Len64 Tryd.len64L x w h0 h1
theorem lz64_any (x : Int) (h0 : 0 ≤ x) (h1 : x ≤ 18446744073709551615) (w : World) :
    Calls Tryd.prog 96 #[.int .u64 x] w fun e w' => e = .returned (.int .i64 (64 - (Lib.bitLen x.toNat : Int))) ∧ w = w' :=
  (Any.bits_LeadingZeros64 Tryd.lz64L x w h0 h1).mono fun _ _ ⟨h1, h2⟩ => ⟨h1, h2.symm⟩
end Go.Proofs.YtjfkniknmkcdcaaDoor
