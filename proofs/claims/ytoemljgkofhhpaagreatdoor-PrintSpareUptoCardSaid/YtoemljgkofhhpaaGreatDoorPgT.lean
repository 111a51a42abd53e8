import Derived.Test.YtoemljgkofhhpaaGreatDoorRefT
import Derived.Test.YtoemljgkofhhpaaGreatDoorPgA
namespace Go.Proofs.YtoemljgkofhhpaaGreatDoor
open Go.RowKit

set_option maxRecDepth 100000 in
set_option maxHeartbeats 2000000 in
theorem binaryP_any (x : T) (A : Option Addr) (c : Nat) (w : World) : Calls Tryz.prog 52 #[nv x A c] w fun e w' => e = .returned (.bool (twoB x)) ∧ Below w.heap.size w w' := by
  cases h : (x.kind == 33) with
  | true =>
    go_enter Tryz.func52, Tryz.ntmps52
    go_wp2_with fail
    go_ret
    exact ⟨ret_bool (by rw [Bool.eq_iff_iff]; simp [twoB, h]; try omega), one_below⟩
  | false =>
    go_enter Tryz.func52, Tryz.ntmps52
    go_wp2_with fail
    go_ret
    exact ⟨ret_bool (by simp [twoB, h]), one_below⟩
end Go.Proofs.YtoemljgkofhhpaaGreatDoor
