import Derived.Test.YtoemljgkofhhpaaGreatDoorSpec
namespace Go.Proofs.YtoemljgkofhhpaaGreatDoor
open Go.RowKit

set_option maxRecDepth 100000 in
set_option maxHeartbeats 2000000 in
theorem letterR_any (r : Int) (w : World) : Calls Tryz.prog 170 #[.int .i32 r] w fun e w' => e = .returned (.bool (letterB r)) ∧ w = w' := by
  by_cases h95 : r = 95
  · subst h95
    go_enter Tryz.func170, Tryz.ntmps170
    go_wp2
    go_ret
    exact ⟨rfl, rfl⟩
  have h95b : (r == 95) = false := by simpa using h95
  go_enter Tryz.func170, Tryz.ntmps170
  go_wp2
  all_goals go_ret
  all_goals exact ⟨ret_bool (by rw [Bool.eq_iff_iff]; simp [letterB] <;> omega), rfl⟩

set_option maxRecDepth 100000 in
set_option maxHeartbeats 2000000 in
theorem letterP_any (r : Int) (w : World) : Calls Tryz.prog 111 #[.int .i32 r] w fun e w' => e = .returned (.bool (letterB r)) ∧ w = w' := by
  go_enter Tryz.func111, Tryz.ntmps111
  go_wp2
  all_goals go_ret
  all_goals exact ⟨ret_bool (by rw [Bool.eq_iff_iff]; simp [letterB] <;> omega), rfl⟩

set_option maxRecDepth 100000 in
theorem digitP_any (r : Int) (w : World) : Calls Tryz.prog 113 #[.int .i32 r] w fun e w' => e = .returned (.bool (digitB r)) ∧ w = w' := by
  go_enter Tryz.func113, Tryz.ntmps113
  go_wp2
  all_goals go_ret
  all_goals exact ⟨ret_bool (by rw [Bool.eq_iff_iff]; simp [digitB]; omega), rfl⟩
set_option maxRecDepth 100000 in
theorem isExpr_any (k : Int) (w : World) : Calls Tryz.prog 47 #[.int .i64 k] w fun e w' => e = .returned (.bool (isExprB k)) ∧ w = w' := by
  go_enter Tryz.func47, Tryz.ntmps47
  go_wp2
  all_goals go_ret
  all_goals exact ⟨ret_bool (by rw [Bool.eq_iff_iff]; simp [isExprB]; omega), rfl⟩
set_option maxRecDepth 100000 in
theorem isType_any (k : Int) (w : World) : Calls Tryz.prog 48 #[.int .i64 k] w fun e w' => e = .returned (.bool (isTypeB k)) ∧ w = w' := by
  go_enter Tryz.func48, Tryz.ntmps48
  go_wp2
  all_goals go_ret
  all_goals exact ⟨ret_bool (by rw [Bool.eq_iff_iff]; simp [isTypeB]; omega), rfl⟩
set_option maxRecDepth 100000 in
theorem isStmt_any (k : Int) (w : World) : Calls Tryz.prog 46 #[.int .i64 k] w fun e w' => e = .returned (.bool (isStmtB k)) ∧ w = w' := by
  go_enter Tryz.func46, Tryz.ntmps46
  go_wp2
  all_goals go_ret
  all_goals exact ⟨ret_bool (by rw [Bool.eq_iff_iff]; simp [isStmtB]; omega), rfl⟩
end Go.Proofs.YtoemljgkofhhpaaGreatDoor
