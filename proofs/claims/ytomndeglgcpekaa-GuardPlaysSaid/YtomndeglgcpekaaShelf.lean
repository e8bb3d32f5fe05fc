/-
  maps.Clone, by this program's own numbers: which contract of the shelf it is.
-/
import Derived.Shelf.SlMaps.Clone
import Derived.Test.YtomndeglgcpekaaProg
import Derived.KernelRfl
namespace Go.Proofs
open Go.Shelf

def Try.cl_ren : Go.Shelf.Ren := ⟨fun | 5 => 15 | 7 => 17 | n => n, fun | 23 => 55 | 25 => 3 | 3 => 2 | 4 => 4 | 20 => 20 | n => n, fun n => n⟩
theorem Try.cl : SlLaysW.n5 Try.prog Try.cl_ren := {
  mixed := by kernel_rfl
  f5 := ⟨"maps.Clone[map[int]int64,int,int64]", of_decide_eq_true (by kernel_rfl), Try.func15.trans (congrArg some (by kernel_rfl))⟩
  f7 := Try.func17.trans (congrArg some (by kernel_rfl))
  t4 := Try.underlying4
  a4 := Try.isAgg4
  z4 := Try.sizeOf4
  v4 := Try.zeroValue4
  t20 := Try.underlying20
  a20 := Try.isAgg20
  z20 := Try.sizeOf20
  v20 := Try.zeroValue20
  t23 := Try.underlying55
  a23 := Try.isAgg55
  z23 := Try.sizeOf55
  v23 := Try.zeroValue55 }
theorem Try.maps_Clone (b : Nat) (es : Array MapEntry) (clock : Nat) (w : World) (hb : w.heap[b]? = some (.map es clock)) :
    Calls Try.prog 15 #[.map (some b)] w fun e w' => e = .returned (.map (some w.heap.size)) ∧ w' = w.alloc (.map es clock) :=
  AnyW.maps_Clone Try.cl b es clock w hb
end Go.Proofs
