import Derived.Test.YtoemljgkofhhpaaDoorBinds
namespace Go.Proofs.YtoemljgkofhhpaaDoor
open Go.RowKit

theorem belowW_alloc {w W : World} (h : Below w.heap.size w W) (o : Obj) : Below w.heap.size w (W.alloc o) := h.alloc h.size o
theorem belowW_drew {w W : World} (h : Below w.heap.size w W) : Below w.heap.size w W.drew := h.drew
set_option maxHeartbeats 2000000 in
set_option maxRecDepth 100000 in
theorem expr_31 (w : World) : Calls Tryd.prog 7 #[.agg #[.int .i64 31, .string ⟨#[]⟩, .int .u64 7, .int .i64 0, .slice none 0 0]] w fun e w' => e = .returned (.tuple #[.string ⟨#[55]⟩, .int .i64 0]) ∧ Below w.heap.size w w' := by
  go_enter Tryd.func7, Tryd.ntmps7
  go_wp2
  go_rounds 1
  go_rounds 1
  go_ret2
  exact ⟨rfl, by repeat (first | exact Below.refl _ _ | refine belowW_drew ?_ | refine belowW_alloc ?_ _)⟩

theorem OpsAt.below {w w' : World} {b o c : Nat → Nat} {t : Nat} {fr : Nat × Nat} (h : OpsAt w b o c t fr) (hb : Below w.heap.size w w') : OpsAt w' b o c t fr := by
  have h0 : 0 < w.heap.size := (Array.getElem?_eq_some_iff.1 h.row).1
  exact ⟨by rw [hb.block 0 h0]; exact h.row, fun i j hi hj => (hb.cell (World.block_lt_of_cell? w _ (h.cell i j hi hj))).trans (h.cell i j hi hj)⟩

set_option maxHeartbeats 2000000 in
set_option maxRecDepth 100000 in
theorem answers_any (w : World) (b o c : Nat → Nat) (t : Nat) (fr : Nat × Nat) (h : OpsAt w b o c t fr) :
    Calls Tryd.prog 4 #[] w fun e w' => e = .returned (.bool true) ∧ Below w.heap.size w w' := by
  go_enter Tryd.func4, Tryd.ntmps4
  go_wp2_with (go_at_call 7; refine (expr_31 _).mono ?_; rintro e w1 ⟨rfl, hb⟩)
  have h1 := h.below hb
  have e5 : bindsT ⟨#[42]⟩ = 5 := by decide +kernel
  have H5 := Lib.hid e5
  clear e5
  refine (printBinds_any _ _ b o c t fr h1).mono ?_
  rintro e w2 ⟨rfl, rfl⟩
  rw [H5.out]
  go_wp2
  go_ret
  exact ⟨rfl, hb⟩

set_option maxHeartbeats 2000000 in
theorem law_any (x : ByteArray) (w : World) (b o c : Nat → Nat) (t : Nat) (fr : Nat × Nat) (h : OpsAt w b o c t fr) :
    Calls Tryd.prog 3 #[.string x] w fun e w' => e = .returned (.bool true) ∧ Below w.heap.size w w' := by
  go_enter Tryd.func3, Tryd.ntmps3
  go_wp2_with fail
  refine (answers_any w b o c t fr h).mono ?_
  rintro e w1 ⟨rfl, hb⟩
  have h1 := h.below hb
  go_wp2_with fail
  refine (printBinds_any _ _ b o c t fr h1).mono ?_
  rintro e w2 ⟨rfl, rfl⟩
  go_wp2_with fail
  refine (strength_any _ _).mono ?_
  rintro e w2 ⟨rfl, rfl⟩
  go_wp2_with fail
  go_ret
  exact ⟨rfl, hb⟩
end Go.Proofs.YtoemljgkofhhpaaDoor
