/- Contracts of Go's library over this seat's translation, laid by the kit's own tool in plain words: slices.Reverse and slices.Clone at []byte. No condition beyond what each states. -/
import Derived.Shelf.SlGeneric
import Derived.Ground.SlgnProg
import Derived.Shelf.SlicesE.Reverse
import Derived.Shelf.SlicesE.Clone
import Derived.Test.YtpjhgokdkgnbdaaProg
namespace Go.Proofs
open Go.Shelf
def Try.lReverse_ren : Go.Shelf.Ren := ⟨fun | 35 => 72 | n => n, fun | 22 => 22 | 23 => 5 | 3 => 3 | 4 => 4 | 0 => 0 | n => n, fun | n => n⟩
theorem Try.lReverse : Go.Proofs.SlLaysE.n35 Try.prog Try.lReverse_ren := {
  mixed := by kernel_rfl
  f35 := ⟨Try.f72.name, by decide, Try.func72.trans (congrArg some (by kernel_rfl))⟩
  t0 := Try.underlying0
  a0 := Try.isAgg0
  z0 := Try.sizeOf0
  v0 := Try.zeroValue0
  t3 := Try.underlying3
  a3 := Try.isAgg3
  z3 := Try.sizeOf3
  v3 := Try.zeroValue3
  t4 := Try.underlying4
  a4 := Try.isAgg4
  z4 := Try.sizeOf4
  v4 := Try.zeroValue4
  t22 := Try.underlying22
  a22 := Try.isAgg22
  z22 := Try.sizeOf22
  v22 := Try.zeroValue22
  a23 := Try.isAgg5
  z23 := Try.sizeOf5 }
def Try.lClone_ren : Go.Shelf.Ren := ⟨fun | 41 => 71 | n => n, fun | 22 => 22 | 23 => 5 | 4 => 4 | n => n, fun | n => n⟩
theorem Try.lClone : Go.Proofs.SlLaysE0.n41 Try.prog Try.lClone_ren := {
  mixed := by kernel_rfl
  f41 := ⟨Try.f71.name, by decide, Try.func71.trans (congrArg some (by kernel_rfl))⟩
  t4 := Try.underlying4
  a4 := Try.isAgg4
  z4 := Try.sizeOf4
  v4 := Try.zeroValue4
  t22 := Try.underlying22
  a22 := Try.isAgg22
  z22 := Try.sizeOf22
  v22 := Try.zeroValue22 }
end Go.Proofs
