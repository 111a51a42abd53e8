import Derived.Test.YtoemljgkofhhpaaGreatDoorGood
namespace Go.Proofs.YtoemljgkofhhpaaGreatDoor
open Go.RowKit

theorem childrenB_mk (k : Int) (t : ByteArray) (n p : Int) (l : List T) : childrenB (T.mk k t n p l) =
  if k = 1 then allB l (fun k => k == 2 || k == 3)
  else if k = 2 ∨ k = 6 then allB l (· == 5) && decide (l.length ≤ 16)
  else if k = 3 then kindsB l [4, 6, 7, 20]
  else if k = 4 then allB l (· == 8) && decide (l.length ≤ 16)
  else if k = 5 ∨ k = 11 ∨ k = 12 ∨ k = 22 then kindsB l [-2]
  else if k = 7 then l.length == 0 || kindsB l [-2]
  else if k = 8 ∨ k = 10 ∨ k = 27 ∨ k = 30 ∨ k = 31 ∨ k = 32 then l.length == 0
  else if k = 13 then allB l isTypeB && (decide (n ≤ l.length) && decide (l.length ≤ 16 + n))
  else if k = 20 then allB l isStmtB
  else if k = 21 ∨ k = 35 ∨ k = 39 then kindsB l [-1]
  else if k = 23 then kindsB l [-1, -1] && [30, 35, 36].contains (l.headD (.mk 0 ⟨#[]⟩ 0 0 [])).kind
  else if k = 24 then kindsB l [34] || kindsB l [39]
  else if k = 25 then kindsB l [-1, 20] || (kindsB l [-1, 20, 20] || kindsB l [-1, 20, 25])
  else if k = 26 ∨ k = 43 then kindsB l [-1, 20]
  else if k = 28 then l.length == 0 || kindsB l [-1]
  else if k = 29 then kindsB l [34]
  else if k = 33 then kindsB l [-1] || kindsB l [-1, -1]
  else if k = 34 then decide (1 ≤ l.length) && (decide (l.length ≤ 17) && allB l isExprB)
  else if k = 36 then decide (2 ≤ l.length) && (decide (l.length ≤ 17) && (isExprB (l.headD (.mk 0 ⟨#[]⟩ 0 0 [])).kind && allB l.tail (fun k => isExprB k || (k == 11 || k == 12))))
  else if k = 37 then allB l isExprB && decide (l.length ≤ 16)
  else if k = 38 then kindsB l [6, 7, 20]
  else if k = 40 then kindsB l [-2, -1]
  else if k = 41 then kindsB l [-1, -1]
  else if k = 42 then decide ((l.filter fun y => y.kind == 45).length ≤ 1) && allB l (fun k => decide (43 ≤ k) && decide (k ≤ 45))
  else if k = 44 then kindsB l [-1, -1, 20]
  else if k = 45 then kindsB l [20]
  else false := rfl
theorem runR_expr {l : List T} : (l.all fun x => sortC x.kind == 101) = allB l isExprB := by simp only [sortC_101, allB]
theorem runR_type {l : List T} : (l.all fun x => sortC x.kind == 116) = allB l isTypeB := by simp only [sortC_116, allB]
theorem runR_stmt {l : List T} : (l.all fun x => sortC x.kind == 115) = allB l isStmtB := by simp only [sortC_115, allB]

set_option maxRecDepth 100000 in
set_option maxHeartbeats 2000000 in
theorem childR_3 (t : ByteArray) (n p : Int) (l : List T) (A : Option Addr) (c : Nat) (w : World) (hl : l.length ≤ 1048576) (hR : Rd w l A c) :
    Calls Tryz.prog 70 #[nv (T.mk 3 t n p l) A c] w fun e w' => e = .returned (.bool (childrenB (T.mk 3 t n p l))) ∧ Below w.heap.size w w' := by
  have HL := Lib.hid hl
  have HR := Lib.hid hR
  clear hl hR
  go_enter Tryz.func70, Tryz.ntmps70
  go_wp2_with fail
  refine (listR_any l A c [103, 112, 113, 98] _ HL.out (by decide) (by simp [isLetter]) (HR.out.keep ((Below.refl _ _).alloc (Nat.le_refl _) _))).mono ?_
  rintro e w1 ⟨rfl, hb⟩
  have hB := box_after hb
  have HB1 := Lib.hid hB
  clear hB hb
  have e1 : [103, 112, 113, 98].map codeOf = [4, 6, 7, 20] := by decide
  rw [e1]
  clear e1
  go_wp2_with fail
  go_ret
  exact ⟨ret_bool (by simp [childrenB_mk]), box_below HB1.out⟩


set_option maxRecDepth 100000 in
set_option maxHeartbeats 2000000 in
theorem childR_5 (t : ByteArray) (n p : Int) (l : List T) (A : Option Addr) (c : Nat) (w : World) (hl : l.length ≤ 1048576) (hR : Rd w l A c) :
    Calls Tryz.prog 70 #[nv (T.mk 5 t n p l) A c] w fun e w' => e = .returned (.bool (childrenB (T.mk 5 t n p l))) ∧ Below w.heap.size w w' := by
  have HL := Lib.hid hl
  have HR := Lib.hid hR
  clear hl hR
  go_enter Tryz.func70, Tryz.ntmps70
  go_wp2_with fail
  refine (listR_any l A c [116] _ HL.out (by decide) (by simp [isLetter]) (HR.out.keep ((Below.refl _ _).alloc (Nat.le_refl _) _))).mono ?_
  rintro e w1 ⟨rfl, hb⟩
  have hB := box_after hb
  have HB1 := Lib.hid hB
  clear hB hb
  have e1 : [116].map codeOf = [-2] := by decide
  rw [e1]
  clear e1
  go_wp2_with fail
  go_ret
  exact ⟨ret_bool (by simp [childrenB_mk]), box_below HB1.out⟩


set_option maxRecDepth 100000 in
set_option maxHeartbeats 2000000 in
theorem childR_11 (t : ByteArray) (n p : Int) (l : List T) (A : Option Addr) (c : Nat) (w : World) (hl : l.length ≤ 1048576) (hR : Rd w l A c) :
    Calls Tryz.prog 70 #[nv (T.mk 11 t n p l) A c] w fun e w' => e = .returned (.bool (childrenB (T.mk 11 t n p l))) ∧ Below w.heap.size w w' := by
  have HL := Lib.hid hl
  have HR := Lib.hid hR
  clear hl hR
  go_enter Tryz.func70, Tryz.ntmps70
  go_wp2_with fail
  refine (listR_any l A c [116] _ HL.out (by decide) (by simp [isLetter]) (HR.out.keep ((Below.refl _ _).alloc (Nat.le_refl _) _))).mono ?_
  rintro e w1 ⟨rfl, hb⟩
  have hB := box_after hb
  have HB1 := Lib.hid hB
  clear hB hb
  have e1 : [116].map codeOf = [-2] := by decide
  rw [e1]
  clear e1
  go_wp2_with fail
  go_ret
  exact ⟨ret_bool (by simp [childrenB_mk]), box_below HB1.out⟩


set_option maxRecDepth 100000 in
set_option maxHeartbeats 2000000 in
theorem childR_12 (t : ByteArray) (n p : Int) (l : List T) (A : Option Addr) (c : Nat) (w : World) (hl : l.length ≤ 1048576) (hR : Rd w l A c) :
    Calls Tryz.prog 70 #[nv (T.mk 12 t n p l) A c] w fun e w' => e = .returned (.bool (childrenB (T.mk 12 t n p l))) ∧ Below w.heap.size w w' := by
  have HL := Lib.hid hl
  have HR := Lib.hid hR
  clear hl hR
  go_enter Tryz.func70, Tryz.ntmps70
  go_wp2_with fail
  refine (listR_any l A c [116] _ HL.out (by decide) (by simp [isLetter]) (HR.out.keep ((Below.refl _ _).alloc (Nat.le_refl _) _))).mono ?_
  rintro e w1 ⟨rfl, hb⟩
  have hB := box_after hb
  have HB1 := Lib.hid hB
  clear hB hb
  have e1 : [116].map codeOf = [-2] := by decide
  rw [e1]
  clear e1
  go_wp2_with fail
  go_ret
  exact ⟨ret_bool (by simp [childrenB_mk]), box_below HB1.out⟩


set_option maxRecDepth 100000 in
set_option maxHeartbeats 2000000 in
theorem childR_22 (t : ByteArray) (n p : Int) (l : List T) (A : Option Addr) (c : Nat) (w : World) (hl : l.length ≤ 1048576) (hR : Rd w l A c) :
    Calls Tryz.prog 70 #[nv (T.mk 22 t n p l) A c] w fun e w' => e = .returned (.bool (childrenB (T.mk 22 t n p l))) ∧ Below w.heap.size w w' := by
  have HL := Lib.hid hl
  have HR := Lib.hid hR
  clear hl hR
  go_enter Tryz.func70, Tryz.ntmps70
  go_wp2_with fail
  refine (listR_any l A c [116] _ HL.out (by decide) (by simp [isLetter]) (HR.out.keep ((Below.refl _ _).alloc (Nat.le_refl _) _))).mono ?_
  rintro e w1 ⟨rfl, hb⟩
  have hB := box_after hb
  have HB1 := Lib.hid hB
  clear hB hb
  have e1 : [116].map codeOf = [-2] := by decide
  rw [e1]
  clear e1
  go_wp2_with fail
  go_ret
  exact ⟨ret_bool (by simp [childrenB_mk]), box_below HB1.out⟩


set_option maxRecDepth 100000 in
set_option maxHeartbeats 2000000 in
theorem childR_21 (t : ByteArray) (n p : Int) (l : List T) (A : Option Addr) (c : Nat) (w : World) (hl : l.length ≤ 1048576) (hR : Rd w l A c) :
    Calls Tryz.prog 70 #[nv (T.mk 21 t n p l) A c] w fun e w' => e = .returned (.bool (childrenB (T.mk 21 t n p l))) ∧ Below w.heap.size w w' := by
  have HL := Lib.hid hl
  have HR := Lib.hid hR
  clear hl hR
  go_enter Tryz.func70, Tryz.ntmps70
  go_wp2_with fail
  refine (listR_any l A c [101] _ HL.out (by decide) (by simp [isLetter]) (HR.out.keep ((Below.refl _ _).alloc (Nat.le_refl _) _))).mono ?_
  rintro e w1 ⟨rfl, hb⟩
  have hB := box_after hb
  have HB1 := Lib.hid hB
  clear hB hb
  have e1 : [101].map codeOf = [-1] := by decide
  rw [e1]
  clear e1
  go_wp2_with fail
  go_ret
  exact ⟨ret_bool (by simp [childrenB_mk]), box_below HB1.out⟩


set_option maxRecDepth 100000 in
set_option maxHeartbeats 2000000 in
theorem childR_35 (t : ByteArray) (n p : Int) (l : List T) (A : Option Addr) (c : Nat) (w : World) (hl : l.length ≤ 1048576) (hR : Rd w l A c) :
    Calls Tryz.prog 70 #[nv (T.mk 35 t n p l) A c] w fun e w' => e = .returned (.bool (childrenB (T.mk 35 t n p l))) ∧ Below w.heap.size w w' := by
  have HL := Lib.hid hl
  have HR := Lib.hid hR
  clear hl hR
  go_enter Tryz.func70, Tryz.ntmps70
  go_wp2_with fail
  refine (listR_any l A c [101] _ HL.out (by decide) (by simp [isLetter]) (HR.out.keep ((Below.refl _ _).alloc (Nat.le_refl _) _))).mono ?_
  rintro e w1 ⟨rfl, hb⟩
  have hB := box_after hb
  have HB1 := Lib.hid hB
  clear hB hb
  have e1 : [101].map codeOf = [-1] := by decide
  rw [e1]
  clear e1
  go_wp2_with fail
  go_ret
  exact ⟨ret_bool (by simp [childrenB_mk]), box_below HB1.out⟩


set_option maxRecDepth 100000 in
set_option maxHeartbeats 2000000 in
theorem childR_39 (t : ByteArray) (n p : Int) (l : List T) (A : Option Addr) (c : Nat) (w : World) (hl : l.length ≤ 1048576) (hR : Rd w l A c) :
    Calls Tryz.prog 70 #[nv (T.mk 39 t n p l) A c] w fun e w' => e = .returned (.bool (childrenB (T.mk 39 t n p l))) ∧ Below w.heap.size w w' := by
  have HL := Lib.hid hl
  have HR := Lib.hid hR
  clear hl hR
  go_enter Tryz.func70, Tryz.ntmps70
  go_wp2_with fail
  refine (listR_any l A c [101] _ HL.out (by decide) (by simp [isLetter]) (HR.out.keep ((Below.refl _ _).alloc (Nat.le_refl _) _))).mono ?_
  rintro e w1 ⟨rfl, hb⟩
  have hB := box_after hb
  have HB1 := Lib.hid hB
  clear hB hb
  have e1 : [101].map codeOf = [-1] := by decide
  rw [e1]
  clear e1
  go_wp2_with fail
  go_ret
  exact ⟨ret_bool (by simp [childrenB_mk]), box_below HB1.out⟩


set_option maxRecDepth 100000 in
set_option maxHeartbeats 2000000 in
theorem childR_24 (t : ByteArray) (n p : Int) (l : List T) (A : Option Addr) (c : Nat) (w : World) (hl : l.length ≤ 1048576) (hR : Rd w l A c) :
    Calls Tryz.prog 70 #[nv (T.mk 24 t n p l) A c] w fun e w' => e = .returned (.bool (childrenB (T.mk 24 t n p l))) ∧ Below w.heap.size w w' := by
  have HL := Lib.hid hl
  have HR := Lib.hid hR
  clear hl hR
  go_enter Tryz.func70, Tryz.ntmps70
  go_wp2_with fail
  refine (listR_any l A c [99] _ HL.out (by decide) (by simp [isLetter]) (HR.out.keep ((Below.refl _ _).alloc (Nat.le_refl _) _))).mono ?_
  rintro e w1 ⟨rfl, hb⟩
  have hB := box_after hb
  have HB1 := Lib.hid hB
  clear hB hb
  have e1 : [99].map codeOf = [34] := by decide
  rw [e1]
  clear e1
  cases hk1 : kindsB l [34] with
  | true =>
    have HK1 := Lib.hid hk1
    clear hk1
    go_wp2_with fail
    go_ret
    exact ⟨ret_bool (by simp [childrenB_mk, HK1.out]), box_below HB1.out⟩
  | false =>
    have HK1 := Lib.hid hk1
    clear hk1
    go_wp2_with fail
    refine (listR_any l A c [114] _ HL.out (by decide) (by simp [isLetter]) (HR.out.keep (box_below HB1.out))).mono ?_
    rintro e w2 ⟨rfl, hb⟩
    have hB := below_then HB1.out (box_size HB1.out) hb
    have HB2 := Lib.hid hB
    clear hB hb
    have e2 : [114].map codeOf = [39] := by decide
    rw [e2]
    clear e2
    go_wp2_with fail
    go_ret
    exact ⟨ret_bool (by simp [childrenB_mk, HK1.out]), box_below HB2.out⟩


set_option maxRecDepth 100000 in
set_option maxHeartbeats 2000000 in
theorem childR_25 (t : ByteArray) (n p : Int) (l : List T) (A : Option Addr) (c : Nat) (w : World) (hl : l.length ≤ 1048576) (hR : Rd w l A c) :
    Calls Tryz.prog 70 #[nv (T.mk 25 t n p l) A c] w fun e w' => e = .returned (.bool (childrenB (T.mk 25 t n p l))) ∧ Below w.heap.size w w' := by
  have HL := Lib.hid hl
  have HR := Lib.hid hR
  clear hl hR
  go_enter Tryz.func70, Tryz.ntmps70
  go_wp2_with fail
  refine (listR_any l A c [101, 98] _ HL.out (by decide) (by simp [isLetter]) (HR.out.keep ((Below.refl _ _).alloc (Nat.le_refl _) _))).mono ?_
  rintro e w1 ⟨rfl, hb⟩
  have hB := box_after hb
  have HB1 := Lib.hid hB
  clear hB hb
  have e1 : [101, 98].map codeOf = [-1, 20] := by decide
  rw [e1]
  clear e1
  cases hk1 : kindsB l [-1, 20] with
  | true =>
    have HK1 := Lib.hid hk1
    clear hk1
    go_wp2_with fail
    go_ret
    exact ⟨ret_bool (by simp [childrenB_mk, HK1.out]), box_below HB1.out⟩
  | false =>
    have HK1 := Lib.hid hk1
    clear hk1
    go_wp2_with fail
    refine (listR_any l A c [101, 98, 98] _ HL.out (by decide) (by simp [isLetter]) (HR.out.keep (box_below HB1.out))).mono ?_
    rintro e w2 ⟨rfl, hb⟩
    have hB := below_then HB1.out (box_size HB1.out) hb
    have HB2 := Lib.hid hB
    clear hB hb
    have e2 : [101, 98, 98].map codeOf = [-1, 20, 20] := by decide
    rw [e2]
    clear e2
    cases hk2 : kindsB l [-1, 20, 20] with
    | true =>
      have HK2 := Lib.hid hk2
      clear hk2
      go_wp2_with fail
      go_ret
      exact ⟨ret_bool (by simp [childrenB_mk, HK2.out, HK1.out]), box_below HB2.out⟩
    | false =>
      have HK2 := Lib.hid hk2
      clear hk2
      go_wp2_with fail
      refine (listR_any l A c [101, 98, 105] _ HL.out (by decide) (by simp [isLetter]) (HR.out.keep (box_below HB2.out))).mono ?_
      rintro e w3 ⟨rfl, hb⟩
      have hB := below_then HB2.out (box_size HB2.out) hb
      have HB3 := Lib.hid hB
      clear hB hb
      have e3 : [101, 98, 105].map codeOf = [-1, 20, 25] := by decide
      rw [e3]
      clear e3
      go_wp2_with fail
      go_ret
      exact ⟨ret_bool (by simp [childrenB_mk, HK1.out, HK2.out]), box_below HB3.out⟩


set_option maxRecDepth 100000 in
set_option maxHeartbeats 2000000 in
theorem childR_26 (t : ByteArray) (n p : Int) (l : List T) (A : Option Addr) (c : Nat) (w : World) (hl : l.length ≤ 1048576) (hR : Rd w l A c) :
    Calls Tryz.prog 70 #[nv (T.mk 26 t n p l) A c] w fun e w' => e = .returned (.bool (childrenB (T.mk 26 t n p l))) ∧ Below w.heap.size w w' := by
  have HL := Lib.hid hl
  have HR := Lib.hid hR
  clear hl hR
  go_enter Tryz.func70, Tryz.ntmps70
  go_wp2_with fail
  refine (listR_any l A c [101, 98] _ HL.out (by decide) (by simp [isLetter]) (HR.out.keep ((Below.refl _ _).alloc (Nat.le_refl _) _))).mono ?_
  rintro e w1 ⟨rfl, hb⟩
  have hB := box_after hb
  have HB1 := Lib.hid hB
  clear hB hb
  have e1 : [101, 98].map codeOf = [-1, 20] := by decide
  rw [e1]
  clear e1
  go_wp2_with fail
  go_ret
  exact ⟨ret_bool (by simp [childrenB_mk]), box_below HB1.out⟩


set_option maxRecDepth 100000 in
set_option maxHeartbeats 2000000 in
theorem childR_43 (t : ByteArray) (n p : Int) (l : List T) (A : Option Addr) (c : Nat) (w : World) (hl : l.length ≤ 1048576) (hR : Rd w l A c) :
    Calls Tryz.prog 70 #[nv (T.mk 43 t n p l) A c] w fun e w' => e = .returned (.bool (childrenB (T.mk 43 t n p l))) ∧ Below w.heap.size w w' := by
  have HL := Lib.hid hl
  have HR := Lib.hid hR
  clear hl hR
  go_enter Tryz.func70, Tryz.ntmps70
  go_wp2_with fail
  refine (listR_any l A c [101, 98] _ HL.out (by decide) (by simp [isLetter]) (HR.out.keep ((Below.refl _ _).alloc (Nat.le_refl _) _))).mono ?_
  rintro e w1 ⟨rfl, hb⟩
  have hB := box_after hb
  have HB1 := Lib.hid hB
  clear hB hb
  have e1 : [101, 98].map codeOf = [-1, 20] := by decide
  rw [e1]
  clear e1
  go_wp2_with fail
  go_ret
  exact ⟨ret_bool (by simp [childrenB_mk]), box_below HB1.out⟩


set_option maxRecDepth 100000 in
set_option maxHeartbeats 2000000 in
theorem childR_29 (t : ByteArray) (n p : Int) (l : List T) (A : Option Addr) (c : Nat) (w : World) (hl : l.length ≤ 1048576) (hR : Rd w l A c) :
    Calls Tryz.prog 70 #[nv (T.mk 29 t n p l) A c] w fun e w' => e = .returned (.bool (childrenB (T.mk 29 t n p l))) ∧ Below w.heap.size w w' := by
  have HL := Lib.hid hl
  have HR := Lib.hid hR
  clear hl hR
  go_enter Tryz.func70, Tryz.ntmps70
  go_wp2_with fail
  refine (listR_any l A c [99] _ HL.out (by decide) (by simp [isLetter]) (HR.out.keep ((Below.refl _ _).alloc (Nat.le_refl _) _))).mono ?_
  rintro e w1 ⟨rfl, hb⟩
  have hB := box_after hb
  have HB1 := Lib.hid hB
  clear hB hb
  have e1 : [99].map codeOf = [34] := by decide
  rw [e1]
  clear e1
  go_wp2_with fail
  go_ret
  exact ⟨ret_bool (by simp [childrenB_mk]), box_below HB1.out⟩


set_option maxRecDepth 100000 in
set_option maxHeartbeats 2000000 in
theorem childR_33 (t : ByteArray) (n p : Int) (l : List T) (A : Option Addr) (c : Nat) (w : World) (hl : l.length ≤ 1048576) (hR : Rd w l A c) :
    Calls Tryz.prog 70 #[nv (T.mk 33 t n p l) A c] w fun e w' => e = .returned (.bool (childrenB (T.mk 33 t n p l))) ∧ Below w.heap.size w w' := by
  have HL := Lib.hid hl
  have HR := Lib.hid hR
  clear hl hR
  go_enter Tryz.func70, Tryz.ntmps70
  go_wp2_with fail
  refine (listR_any l A c [101] _ HL.out (by decide) (by simp [isLetter]) (HR.out.keep ((Below.refl _ _).alloc (Nat.le_refl _) _))).mono ?_
  rintro e w1 ⟨rfl, hb⟩
  have hB := box_after hb
  have HB1 := Lib.hid hB
  clear hB hb
  have e1 : [101].map codeOf = [-1] := by decide
  rw [e1]
  clear e1
  cases hk1 : kindsB l [-1] with
  | true =>
    have HK1 := Lib.hid hk1
    clear hk1
    go_wp2_with fail
    go_ret
    exact ⟨ret_bool (by simp [childrenB_mk, HK1.out]), box_below HB1.out⟩
  | false =>
    have HK1 := Lib.hid hk1
    clear hk1
    go_wp2_with fail
    refine (listR_any l A c [101, 101] _ HL.out (by decide) (by simp [isLetter]) (HR.out.keep (box_below HB1.out))).mono ?_
    rintro e w2 ⟨rfl, hb⟩
    have hB := below_then HB1.out (box_size HB1.out) hb
    have HB2 := Lib.hid hB
    clear hB hb
    have e2 : [101, 101].map codeOf = [-1, -1] := by decide
    rw [e2]
    clear e2
    go_wp2_with fail
    go_ret
    exact ⟨ret_bool (by simp [childrenB_mk, HK1.out]), box_below HB2.out⟩


set_option maxRecDepth 100000 in
set_option maxHeartbeats 2000000 in
theorem childR_38 (t : ByteArray) (n p : Int) (l : List T) (A : Option Addr) (c : Nat) (w : World) (hl : l.length ≤ 1048576) (hR : Rd w l A c) :
    Calls Tryz.prog 70 #[nv (T.mk 38 t n p l) A c] w fun e w' => e = .returned (.bool (childrenB (T.mk 38 t n p l))) ∧ Below w.heap.size w w' := by
  have HL := Lib.hid hl
  have HR := Lib.hid hR
  clear hl hR
  go_enter Tryz.func70, Tryz.ntmps70
  go_wp2_with fail
  refine (listR_any l A c [112, 113, 98] _ HL.out (by decide) (by simp [isLetter]) (HR.out.keep ((Below.refl _ _).alloc (Nat.le_refl _) _))).mono ?_
  rintro e w1 ⟨rfl, hb⟩
  have hB := box_after hb
  have HB1 := Lib.hid hB
  clear hB hb
  have e1 : [112, 113, 98].map codeOf = [6, 7, 20] := by decide
  rw [e1]
  clear e1
  go_wp2_with fail
  go_ret
  exact ⟨ret_bool (by simp [childrenB_mk]), box_below HB1.out⟩


set_option maxRecDepth 100000 in
set_option maxHeartbeats 2000000 in
theorem childR_40 (t : ByteArray) (n p : Int) (l : List T) (A : Option Addr) (c : Nat) (w : World) (hl : l.length ≤ 1048576) (hR : Rd w l A c) :
    Calls Tryz.prog 70 #[nv (T.mk 40 t n p l) A c] w fun e w' => e = .returned (.bool (childrenB (T.mk 40 t n p l))) ∧ Below w.heap.size w w' := by
  have HL := Lib.hid hl
  have HR := Lib.hid hR
  clear hl hR
  go_enter Tryz.func70, Tryz.ntmps70
  go_wp2_with fail
  refine (listR_any l A c [116, 101] _ HL.out (by decide) (by simp [isLetter]) (HR.out.keep ((Below.refl _ _).alloc (Nat.le_refl _) _))).mono ?_
  rintro e w1 ⟨rfl, hb⟩
  have hB := box_after hb
  have HB1 := Lib.hid hB
  clear hB hb
  have e1 : [116, 101].map codeOf = [-2, -1] := by decide
  rw [e1]
  clear e1
  go_wp2_with fail
  go_ret
  exact ⟨ret_bool (by simp [childrenB_mk]), box_below HB1.out⟩


set_option maxRecDepth 100000 in
set_option maxHeartbeats 2000000 in
theorem childR_41 (t : ByteArray) (n p : Int) (l : List T) (A : Option Addr) (c : Nat) (w : World) (hl : l.length ≤ 1048576) (hR : Rd w l A c) :
    Calls Tryz.prog 70 #[nv (T.mk 41 t n p l) A c] w fun e w' => e = .returned (.bool (childrenB (T.mk 41 t n p l))) ∧ Below w.heap.size w w' := by
  have HL := Lib.hid hl
  have HR := Lib.hid hR
  clear hl hR
  go_enter Tryz.func70, Tryz.ntmps70
  go_wp2_with fail
  refine (listR_any l A c [101, 101] _ HL.out (by decide) (by simp [isLetter]) (HR.out.keep ((Below.refl _ _).alloc (Nat.le_refl _) _))).mono ?_
  rintro e w1 ⟨rfl, hb⟩
  have hB := box_after hb
  have HB1 := Lib.hid hB
  clear hB hb
  have e1 : [101, 101].map codeOf = [-1, -1] := by decide
  rw [e1]
  clear e1
  go_wp2_with fail
  go_ret
  exact ⟨ret_bool (by simp [childrenB_mk]), box_below HB1.out⟩


set_option maxRecDepth 100000 in
set_option maxHeartbeats 2000000 in
theorem childR_44 (t : ByteArray) (n p : Int) (l : List T) (A : Option Addr) (c : Nat) (w : World) (hl : l.length ≤ 1048576) (hR : Rd w l A c) :
    Calls Tryz.prog 70 #[nv (T.mk 44 t n p l) A c] w fun e w' => e = .returned (.bool (childrenB (T.mk 44 t n p l))) ∧ Below w.heap.size w w' := by
  have HL := Lib.hid hl
  have HR := Lib.hid hR
  clear hl hR
  go_enter Tryz.func70, Tryz.ntmps70
  go_wp2_with fail
  refine (listR_any l A c [101, 101, 98] _ HL.out (by decide) (by simp [isLetter]) (HR.out.keep ((Below.refl _ _).alloc (Nat.le_refl _) _))).mono ?_
  rintro e w1 ⟨rfl, hb⟩
  have hB := box_after hb
  have HB1 := Lib.hid hB
  clear hB hb
  have e1 : [101, 101, 98].map codeOf = [-1, -1, 20] := by decide
  rw [e1]
  clear e1
  go_wp2_with fail
  go_ret
  exact ⟨ret_bool (by simp [childrenB_mk]), box_below HB1.out⟩


set_option maxRecDepth 100000 in
set_option maxHeartbeats 2000000 in
theorem childR_45 (t : ByteArray) (n p : Int) (l : List T) (A : Option Addr) (c : Nat) (w : World) (hl : l.length ≤ 1048576) (hR : Rd w l A c) :
    Calls Tryz.prog 70 #[nv (T.mk 45 t n p l) A c] w fun e w' => e = .returned (.bool (childrenB (T.mk 45 t n p l))) ∧ Below w.heap.size w w' := by
  have HL := Lib.hid hl
  have HR := Lib.hid hR
  clear hl hR
  go_enter Tryz.func70, Tryz.ntmps70
  go_wp2_with fail
  refine (listR_any l A c [98] _ HL.out (by decide) (by simp [isLetter]) (HR.out.keep ((Below.refl _ _).alloc (Nat.le_refl _) _))).mono ?_
  rintro e w1 ⟨rfl, hb⟩
  have hB := box_after hb
  have HB1 := Lib.hid hB
  clear hB hb
  have e1 : [98].map codeOf = [20] := by decide
  rw [e1]
  clear e1
  go_wp2_with fail
  go_ret
  exact ⟨ret_bool (by simp [childrenB_mk]), box_below HB1.out⟩


set_option maxRecDepth 100000 in
set_option maxHeartbeats 2000000 in
theorem childR_7 (t : ByteArray) (n p : Int) (l : List T) (A : Option Addr) (c : Nat) (w : World) (hl : l.length ≤ 1048576) (hR : Rd w l A c) :
    Calls Tryz.prog 70 #[nv (T.mk 7 t n p l) A c] w fun e w' => e = .returned (.bool (childrenB (T.mk 7 t n p l))) ∧ Below w.heap.size w w' := by
  have HL := Lib.hid hl
  have HR := Lib.hid hR
  clear hl hR
  by_cases hz : l.length = 0
  · have hz1 : ((l.length : Int) == 0) = true := by rw [hz]; rfl
    go_enter Tryz.func70, Tryz.ntmps70
    go_wp2_with fail
    go_ret
    exact ⟨ret_bool (by simp [childrenB_mk, hz]), box_below (Below.refl _ _)⟩
  · have hz1 : ((l.length : Int) == 0) = false := beq_eq_false_iff_ne.2 (by omega)
    have HZ := Lib.hid hz
    clear hz
    go_enter Tryz.func70, Tryz.ntmps70
    go_wp2_with fail
    refine (listR_any l A c [116] _ HL.out (by decide) (by simp [isLetter]) (HR.out.keep ((Below.refl _ _).alloc (Nat.le_refl _) _))).mono ?_
    rintro e w1 ⟨rfl, hb⟩
    have hB := box_after hb
    have HB1 := Lib.hid hB
    clear hB hb
    have e1 : [116].map codeOf = [-2] := by decide
    rw [e1]
    clear e1
    go_wp2_with fail
    go_ret
    exact ⟨ret_bool (by simp [childrenB_mk, HZ.out]), box_below HB1.out⟩


set_option maxRecDepth 100000 in
set_option maxHeartbeats 2000000 in
theorem childR_28 (t : ByteArray) (n p : Int) (l : List T) (A : Option Addr) (c : Nat) (w : World) (hl : l.length ≤ 1048576) (hR : Rd w l A c) :
    Calls Tryz.prog 70 #[nv (T.mk 28 t n p l) A c] w fun e w' => e = .returned (.bool (childrenB (T.mk 28 t n p l))) ∧ Below w.heap.size w w' := by
  have HL := Lib.hid hl
  have HR := Lib.hid hR
  clear hl hR
  by_cases hz : l.length = 0
  · have hz1 : ((l.length : Int) == 0) = true := by rw [hz]; rfl
    go_enter Tryz.func70, Tryz.ntmps70
    go_wp2_with fail
    go_ret
    exact ⟨ret_bool (by simp [childrenB_mk, hz]), box_below (Below.refl _ _)⟩
  · have hz1 : ((l.length : Int) == 0) = false := beq_eq_false_iff_ne.2 (by omega)
    have HZ := Lib.hid hz
    clear hz
    go_enter Tryz.func70, Tryz.ntmps70
    go_wp2_with fail
    refine (listR_any l A c [101] _ HL.out (by decide) (by simp [isLetter]) (HR.out.keep ((Below.refl _ _).alloc (Nat.le_refl _) _))).mono ?_
    rintro e w1 ⟨rfl, hb⟩
    have hB := box_after hb
    have HB1 := Lib.hid hB
    clear hB hb
    have e1 : [101].map codeOf = [-1] := by decide
    rw [e1]
    clear e1
    go_wp2_with fail
    go_ret
    exact ⟨ret_bool (by simp [childrenB_mk, HZ.out]), box_below HB1.out⟩


set_option maxRecDepth 100000 in
set_option maxHeartbeats 2000000 in
theorem childR_8 (t : ByteArray) (n p : Int) (l : List T) (A : Option Addr) (c : Nat) (w : World) (hl : l.length ≤ 1048576) (hR : Rd w l A c) :
    Calls Tryz.prog 70 #[nv (T.mk 8 t n p l) A c] w fun e w' => e = .returned (.bool (childrenB (T.mk 8 t n p l))) ∧ Below w.heap.size w w' := by
  have HL := Lib.hid hl
  have HR := Lib.hid hR
  clear hl hR
  go_enter Tryz.func70, Tryz.ntmps70
  go_wp2_with fail
  go_ret
  exact ⟨ret_bool (by rw [Bool.eq_iff_iff]; simp [childrenB_mk]; try omega), box_below (Below.refl _ _)⟩


set_option maxRecDepth 100000 in
set_option maxHeartbeats 2000000 in
theorem childR_10 (t : ByteArray) (n p : Int) (l : List T) (A : Option Addr) (c : Nat) (w : World) (hl : l.length ≤ 1048576) (hR : Rd w l A c) :
    Calls Tryz.prog 70 #[nv (T.mk 10 t n p l) A c] w fun e w' => e = .returned (.bool (childrenB (T.mk 10 t n p l))) ∧ Below w.heap.size w w' := by
  have HL := Lib.hid hl
  have HR := Lib.hid hR
  clear hl hR
  go_enter Tryz.func70, Tryz.ntmps70
  go_wp2_with fail
  go_ret
  exact ⟨ret_bool (by rw [Bool.eq_iff_iff]; simp [childrenB_mk]; try omega), box_below (Below.refl _ _)⟩


set_option maxRecDepth 100000 in
set_option maxHeartbeats 2000000 in
theorem childR_27 (t : ByteArray) (n p : Int) (l : List T) (A : Option Addr) (c : Nat) (w : World) (hl : l.length ≤ 1048576) (hR : Rd w l A c) :
    Calls Tryz.prog 70 #[nv (T.mk 27 t n p l) A c] w fun e w' => e = .returned (.bool (childrenB (T.mk 27 t n p l))) ∧ Below w.heap.size w w' := by
  have HL := Lib.hid hl
  have HR := Lib.hid hR
  clear hl hR
  go_enter Tryz.func70, Tryz.ntmps70
  go_wp2_with fail
  go_ret
  exact ⟨ret_bool (by rw [Bool.eq_iff_iff]; simp [childrenB_mk]; try omega), box_below (Below.refl _ _)⟩


set_option maxRecDepth 100000 in
set_option maxHeartbeats 2000000 in
theorem childR_30 (t : ByteArray) (n p : Int) (l : List T) (A : Option Addr) (c : Nat) (w : World) (hl : l.length ≤ 1048576) (hR : Rd w l A c) :
    Calls Tryz.prog 70 #[nv (T.mk 30 t n p l) A c] w fun e w' => e = .returned (.bool (childrenB (T.mk 30 t n p l))) ∧ Below w.heap.size w w' := by
  have HL := Lib.hid hl
  have HR := Lib.hid hR
  clear hl hR
  go_enter Tryz.func70, Tryz.ntmps70
  go_wp2_with fail
  go_ret
  exact ⟨ret_bool (by rw [Bool.eq_iff_iff]; simp [childrenB_mk]; try omega), box_below (Below.refl _ _)⟩


set_option maxRecDepth 100000 in
set_option maxHeartbeats 2000000 in
theorem childR_31 (t : ByteArray) (n p : Int) (l : List T) (A : Option Addr) (c : Nat) (w : World) (hl : l.length ≤ 1048576) (hR : Rd w l A c) :
    Calls Tryz.prog 70 #[nv (T.mk 31 t n p l) A c] w fun e w' => e = .returned (.bool (childrenB (T.mk 31 t n p l))) ∧ Below w.heap.size w w' := by
  have HL := Lib.hid hl
  have HR := Lib.hid hR
  clear hl hR
  go_enter Tryz.func70, Tryz.ntmps70
  go_wp2_with fail
  go_ret
  exact ⟨ret_bool (by rw [Bool.eq_iff_iff]; simp [childrenB_mk]; try omega), box_below (Below.refl _ _)⟩


set_option maxRecDepth 100000 in
set_option maxHeartbeats 2000000 in
theorem childR_32 (t : ByteArray) (n p : Int) (l : List T) (A : Option Addr) (c : Nat) (w : World) (hl : l.length ≤ 1048576) (hR : Rd w l A c) :
    Calls Tryz.prog 70 #[nv (T.mk 32 t n p l) A c] w fun e w' => e = .returned (.bool (childrenB (T.mk 32 t n p l))) ∧ Below w.heap.size w w' := by
  have HL := Lib.hid hl
  have HR := Lib.hid hR
  clear hl hR
  go_enter Tryz.func70, Tryz.ntmps70
  go_wp2_with fail
  go_ret
  exact ⟨ret_bool (by rw [Bool.eq_iff_iff]; simp [childrenB_mk]; try omega), box_below (Below.refl _ _)⟩


set_option maxRecDepth 100000 in
set_option maxHeartbeats 2000000 in
theorem childR_2 (t : ByteArray) (n p : Int) (l : List T) (A : Option Addr) (c : Nat) (w : World) (hl : l.length ≤ 1048576) (hR : Rd w l A c) :
    Calls Tryz.prog 70 #[nv (T.mk 2 t n p l) A c] w fun e w' => e = .returned (.bool (childrenB (T.mk 2 t n p l))) ∧ Below w.heap.size w w' := by
  have HL := Lib.hid hl
  have HR := Lib.hid hR
  clear hl hR
  go_enter Tryz.func70, Tryz.ntmps70
  go_wp2_with fail
  refine (sameR_any l A c 5 _ HL.out (HR.out.keep ((Below.refl _ _).alloc (Nat.le_refl _) _))).mono ?_
  rintro e w1 ⟨rfl, rfl⟩
  cases hk : (l.all fun x => x.kind == 5) with
  | true =>
    have hk2 : allB l (· == 5) = true := hk
    have HK := Lib.hid hk2
    clear hk hk2
    go_wp2_with fail
    go_ret
    exact ⟨ret_bool (by rw [Bool.eq_iff_iff]; simp [childrenB_mk, HK.out]; try omega), box_below (Below.refl _ _)⟩
  | false =>
    have hk2 : allB l (· == 5) = false := hk
    have HK := Lib.hid hk2
    clear hk hk2
    go_wp2_with fail
    go_ret
    exact ⟨ret_bool (by rw [Bool.eq_iff_iff]; simp [childrenB_mk, HK.out]), box_below (Below.refl _ _)⟩


set_option maxRecDepth 100000 in
set_option maxHeartbeats 2000000 in
theorem childR_6 (t : ByteArray) (n p : Int) (l : List T) (A : Option Addr) (c : Nat) (w : World) (hl : l.length ≤ 1048576) (hR : Rd w l A c) :
    Calls Tryz.prog 70 #[nv (T.mk 6 t n p l) A c] w fun e w' => e = .returned (.bool (childrenB (T.mk 6 t n p l))) ∧ Below w.heap.size w w' := by
  have HL := Lib.hid hl
  have HR := Lib.hid hR
  clear hl hR
  go_enter Tryz.func70, Tryz.ntmps70
  go_wp2_with fail
  refine (sameR_any l A c 5 _ HL.out (HR.out.keep ((Below.refl _ _).alloc (Nat.le_refl _) _))).mono ?_
  rintro e w1 ⟨rfl, rfl⟩
  cases hk : (l.all fun x => x.kind == 5) with
  | true =>
    have hk2 : allB l (· == 5) = true := hk
    have HK := Lib.hid hk2
    clear hk hk2
    go_wp2_with fail
    go_ret
    exact ⟨ret_bool (by rw [Bool.eq_iff_iff]; simp [childrenB_mk, HK.out]; try omega), box_below (Below.refl _ _)⟩
  | false =>
    have hk2 : allB l (· == 5) = false := hk
    have HK := Lib.hid hk2
    clear hk hk2
    go_wp2_with fail
    go_ret
    exact ⟨ret_bool (by rw [Bool.eq_iff_iff]; simp [childrenB_mk, HK.out]), box_below (Below.refl _ _)⟩


set_option maxRecDepth 100000 in
set_option maxHeartbeats 2000000 in
theorem childR_4 (t : ByteArray) (n p : Int) (l : List T) (A : Option Addr) (c : Nat) (w : World) (hl : l.length ≤ 1048576) (hR : Rd w l A c) :
    Calls Tryz.prog 70 #[nv (T.mk 4 t n p l) A c] w fun e w' => e = .returned (.bool (childrenB (T.mk 4 t n p l))) ∧ Below w.heap.size w w' := by
  have HL := Lib.hid hl
  have HR := Lib.hid hR
  clear hl hR
  go_enter Tryz.func70, Tryz.ntmps70
  go_wp2_with fail
  refine (sameR_any l A c 8 _ HL.out (HR.out.keep ((Below.refl _ _).alloc (Nat.le_refl _) _))).mono ?_
  rintro e w1 ⟨rfl, rfl⟩
  cases hk : (l.all fun x => x.kind == 8) with
  | true =>
    have hk2 : allB l (· == 8) = true := hk
    have HK := Lib.hid hk2
    clear hk hk2
    go_wp2_with fail
    go_ret
    exact ⟨ret_bool (by rw [Bool.eq_iff_iff]; simp [childrenB_mk, HK.out]; try omega), box_below (Below.refl _ _)⟩
  | false =>
    have hk2 : allB l (· == 8) = false := hk
    have HK := Lib.hid hk2
    clear hk hk2
    go_wp2_with fail
    go_ret
    exact ⟨ret_bool (by rw [Bool.eq_iff_iff]; simp [childrenB_mk, HK.out]), box_below (Below.refl _ _)⟩


set_option maxRecDepth 100000 in
set_option maxHeartbeats 2000000 in
theorem childR_20 (t : ByteArray) (n p : Int) (l : List T) (A : Option Addr) (c : Nat) (w : World) (hl : l.length ≤ 1048576) (hR : Rd w l A c) :
    Calls Tryz.prog 70 #[nv (T.mk 20 t n p l) A c] w fun e w' => e = .returned (.bool (childrenB (T.mk 20 t n p l))) ∧ Below w.heap.size w w' := by
  have HL := Lib.hid hl
  have HR := Lib.hid hR
  clear hl hR
  go_enter Tryz.func70, Tryz.ntmps70
  go_wp2_with fail
  refine (runR_any l A c 115 _ HL.out (HR.out.keep ((Below.refl _ _).alloc (Nat.le_refl _) _))).mono ?_
  rintro e w1 ⟨rfl, rfl⟩
  rw [runR_stmt]
  go_wp2_with fail
  go_ret
  exact ⟨ret_bool (by simp [childrenB_mk]), box_below (Below.refl _ _)⟩


set_option maxRecDepth 100000 in
set_option maxHeartbeats 2000000 in
theorem childR_37 (t : ByteArray) (n p : Int) (l : List T) (A : Option Addr) (c : Nat) (w : World) (hl : l.length ≤ 1048576) (hR : Rd w l A c) :
    Calls Tryz.prog 70 #[nv (T.mk 37 t n p l) A c] w fun e w' => e = .returned (.bool (childrenB (T.mk 37 t n p l))) ∧ Below w.heap.size w w' := by
  have HL := Lib.hid hl
  have HR := Lib.hid hR
  clear hl hR
  go_enter Tryz.func70, Tryz.ntmps70
  go_wp2_with fail
  refine (runR_any l A c 101 _ HL.out (HR.out.keep ((Below.refl _ _).alloc (Nat.le_refl _) _))).mono ?_
  rintro e w1 ⟨rfl, rfl⟩
  rw [runR_expr]
  cases hk : allB l isExprB with
  | true =>
    have HK := Lib.hid hk
    clear hk
    go_wp2_with fail
    go_ret
    exact ⟨ret_bool (by rw [Bool.eq_iff_iff]; simp [childrenB_mk, HK.out]; try omega), box_below (Below.refl _ _)⟩
  | false =>
    have HK := Lib.hid hk
    clear hk
    go_wp2_with fail
    go_ret
    exact ⟨ret_bool (by rw [Bool.eq_iff_iff]; simp [childrenB_mk, HK.out]), box_below (Below.refl _ _)⟩


set_option maxRecDepth 100000 in
set_option maxHeartbeats 2000000 in
theorem childR_34 (t : ByteArray) (n p : Int) (l : List T) (A : Option Addr) (c : Nat) (w : World) (hl : l.length ≤ 1048576) (hR : Rd w l A c) :
    Calls Tryz.prog 70 #[nv (T.mk 34 t n p l) A c] w fun e w' => e = .returned (.bool (childrenB (T.mk 34 t n p l))) ∧ Below w.heap.size w w' := by
  have HL := Lib.hid hl
  have HR := Lib.hid hR
  clear hl hR
  by_cases h1 : 1 ≤ l.length
  · by_cases h17 : l.length ≤ 17
    · go_enter Tryz.func70, Tryz.ntmps70
      go_wp2_with fail
      refine (runR_any l A c 101 _ HL.out (HR.out.keep ((Below.refl _ _).alloc (Nat.le_refl _) _))).mono ?_
      rintro e w1 ⟨rfl, rfl⟩
      rw [runR_expr]
      go_wp2_with fail
      go_ret
      exact ⟨ret_bool (by simp [childrenB_mk, h1, h17]), box_below (Below.refl _ _)⟩
    · go_enter Tryz.func70, Tryz.ntmps70
      go_wp2_with fail
      go_ret
      exact ⟨ret_bool (by simp [childrenB_mk]; omega), box_below (Below.refl _ _)⟩
  · go_enter Tryz.func70, Tryz.ntmps70
    go_wp2_with fail
    go_ret
    exact ⟨ret_bool (by simp [childrenB_mk]; omega), box_below (Below.refl _ _)⟩


set_option maxRecDepth 100000 in
set_option maxHeartbeats 2000000 in
theorem childR_13 (t : ByteArray) (n p : Int) (l : List T) (A : Option Addr) (c : Nat) (w : World) (hl : l.length ≤ 1048576) (hR : Rd w l A c) (hn : n = 0 ∨ n = 1) :
    Calls Tryz.prog 70 #[nv (T.mk 13 t n p l) A c] w fun e w' => e = .returned (.bool (childrenB (T.mk 13 t n p l))) ∧ Below w.heap.size w w' := by
  have HL := Lib.hid hl
  have HR := Lib.hid hR
  clear hl hR
  have hle : (l.length : Int) ≤ 1048576 := by have := HL.out; omega
  rcases hn with rfl | rfl
  · go_enter Tryz.func70, Tryz.ntmps70
    go_wp2_with fail
    refine (runR_any l A c 116 _ HL.out (HR.out.keep ((Below.refl _ _).alloc (Nat.le_refl _) _))).mono ?_
    rintro e w1 ⟨rfl, rfl⟩
    rw [runR_type]
    cases hk : allB l isTypeB with
    | true =>
      have HK := Lib.hid hk
      clear hk
      go_wp2_with fail
      all_goals (go_ret; exact ⟨ret_bool (by rw [Bool.eq_iff_iff]; simp [childrenB_mk, HK.out]; try omega), box_below (Below.refl _ _)⟩)
    | false =>
      have HK := Lib.hid hk
      clear hk
      go_wp2_with fail
      all_goals (go_ret; exact ⟨ret_bool (by rw [Bool.eq_iff_iff]; simp [childrenB_mk, HK.out]), box_below (Below.refl _ _)⟩)
  · go_enter Tryz.func70, Tryz.ntmps70
    go_wp2_with fail
    refine (runR_any l A c 116 _ HL.out (HR.out.keep ((Below.refl _ _).alloc (Nat.le_refl _) _))).mono ?_
    rintro e w1 ⟨rfl, rfl⟩
    rw [runR_type]
    cases hk : allB l isTypeB with
    | true =>
      have HK := Lib.hid hk
      clear hk
      go_wp2_with fail
      all_goals (go_ret; exact ⟨ret_bool (by rw [Bool.eq_iff_iff]; simp [childrenB_mk, HK.out]; try omega), box_below (Below.refl _ _)⟩)
    | false =>
      have HK := Lib.hid hk
      clear hk
      go_wp2_with fail
      all_goals (go_ret; exact ⟨ret_bool (by rw [Bool.eq_iff_iff]; simp [childrenB_mk, HK.out]), box_below (Below.refl _ _)⟩)


set_option maxRecDepth 100000 in
set_option maxHeartbeats 2000000 in
theorem childR_1 (t : ByteArray) (n p : Int) (l : List T) (A : Option Addr) (c : Nat) (w : World) (hl : l.length ≤ 1048576) (hR : Rd w l A c) :
    Calls Tryz.prog 70 #[nv (T.mk 1 t n p l) A c] w fun e w' => e = .returned (.bool (childrenB (T.mk 1 t n p l))) ∧ Below w.heap.size w w' := by
  have HL := Lib.hid hl
  have HR := Lib.hid hR
  clear hl hR
  go_enter Tryz.func70, Tryz.ntmps70
  go_wp2_with fail
  go_loopw [5] (fun i wr => ∃ j : Nat, j ≤ l.length ∧ i = .int .i64 j ∧ Hid ((l.take j).all (fun x => x.kind == 2 || x.kind == 3) = true) ∧ Below (w.heap.size + 1) (w.alloc (nbox (T.mk 1 t n p l) A c)) wr) (fun i _ => l.length - (intOf i).toNat)
  case atStart => exact ⟨0, Nat.zero_le _, rfl, rfl, Below.refl _ _⟩
  case round =>
    obtain ⟨j, hj, rfl, HI, hB⟩ := hrel
    have HB := Lib.hid hB
    clear hB
    have hle := HL.out
    by_cases hlt : j < l.length
    · obtain ⟨y, hy⟩ : ∃ y, l[j]? = some y := ⟨l[j], by simp [hlt]⟩
      obtain ⟨b, o, A', c', rfl, hc, hr⟩ := HR.out.at_ hy
      have hc := hc.below (box_below HB.out)
      have h0 := hc.c0
      by_cases hk2 : y.kind = 2
      · have hn : (l.take (j + 1)).all (fun x => x.kind == 2 || x.kind == 3) = true := by rw [all_take hy, HI.out, hk2]; rfl
        have HN := Lib.hid hn
        rw [hk2] at h0
        clear hn hc hr hy hk2
        go_wp2_with fail
        go_roundw
        case rel => exact ⟨j + 1, by omega, by go_num, HN.out, HB.out⟩
        case measure => simp [intOf]; omega
      · by_cases hk3 : y.kind = 3
        · have hn : (l.take (j + 1)).all (fun x => x.kind == 2 || x.kind == 3) = true := by rw [all_take hy, HI.out, hk3]; rfl
          have HN := Lib.hid hn
          rw [hk3] at h0
          clear hn hc hr hy hk3
          go_wp2_with fail
          go_roundw
          case rel => exact ⟨j + 1, by omega, by go_num, HN.out, HB.out⟩
          case measure => simp [intOf]; omega
        · have hn : l.all (fun x => x.kind == 2 || x.kind == 3) = false := all_miss hy (by simp [hk2, hk3])
          have HN := Lib.hid hn
          have q2 : (y.kind != 2) = true := by simpa [bne] using hk2
          have q3 : (y.kind != 3) = true := by simpa [bne] using hk3
          clear hn hc hr hy hk2 hk3
          go_wp2_with fail
          go_ret
          exact ⟨ret_bool (by have := HN.out; simpa [childrenB_mk, allB] using this), box_below HB.out⟩
    · go_wp2_with fail
      go_ret
      exact ⟨ret_bool (by have : j = l.length := by omega
                          subst this; have := HI.out; rw [List.take_length] at this; simpa [childrenB_mk, allB] using this), box_below HB.out⟩


set_option maxRecDepth 100000 in
set_option maxHeartbeats 2000000 in
theorem childR_42 (t : ByteArray) (n p : Int) (l : List T) (A : Option Addr) (c : Nat) (w : World) (hl : l.length ≤ 1048576) (hR : Rd w l A c) :
    Calls Tryz.prog 70 #[nv (T.mk 42 t n p l) A c] w fun e w' => e = .returned (.bool (childrenB (T.mk 42 t n p l))) ∧ Below w.heap.size w w' := by
  have HL := Lib.hid hl
  have HR := Lib.hid hR
  clear hl hR
  go_enter Tryz.func70, Tryz.ntmps70
  go_wp2_with fail
  go_loopw [7, 8] (fun q i wr => ∃ j : Nat, j ≤ l.length ∧ i = .int .i64 j ∧ q = .int .i64 (((l.take j).filter fun y => y.kind == 45).length : Nat) ∧ Hid ((l.take j).all (fun x => decide (43 ≤ x.kind) && decide (x.kind ≤ 45)) = true) ∧ Below (w.heap.size + 1) (w.alloc (nbox (T.mk 42 t n p l) A c)) wr) (fun _ i _ => l.length - (intOf i).toNat)
  case atStart => exact ⟨0, Nat.zero_le _, rfl, rfl, rfl, Below.refl _ _⟩
  case round =>
    obtain ⟨j, hj, rfl, rfl, HI, hB⟩ := hrel
    have HB := Lib.hid hB
    clear hB
    have hle := HL.out
    have hcnt : ((l.take j).filter fun y => y.kind == 45).length ≤ j := Nat.le_trans (List.length_filter_le _ _) (by rw [List.length_take]; omega)
    by_cases hlt : j < l.length
    · obtain ⟨y, hy⟩ : ∃ y, l[j]? = some y := ⟨l[j], by simp [hlt]⟩
      obtain ⟨b, o, A', c', rfl, hc, hr⟩ := HR.out.at_ hy
      have hc := hc.below (box_below HB.out)
      have h0 := hc.c0
      by_cases hin : 43 ≤ y.kind ∧ y.kind ≤ 45
      · have hn : (l.take (j + 1)).all (fun x => decide (43 ≤ x.kind) && decide (x.kind ≤ 45)) = true := by rw [all_take hy, HI.out]; simp [hin.1, hin.2]
        have HN := Lib.hid hn
        have hf : ((l.take (j + 1)).filter fun y => y.kind == 45).length = ((l.take j).filter fun y => y.kind == 45).length + (if y.kind = 45 then 1 else 0) := by
          rw [List.take_add_one, hy, List.filter_append]
          by_cases h : y.kind = 45 <;> simp [h]
        have HF := Lib.hid hf
        by_cases h45 : y.kind = 45
        · rw [h45] at h0
          rw [if_pos h45] at hf
          have HF := Lib.hid hf
          clear hn hc hr hy hf h45 hin
          go_wp2_with fail
          go_roundw
          case rel => exact ⟨j + 1, by omega, by go_num, by rw [HF.out]; go_num, HN.out, HB.out⟩
          case measure => simp [intOf]; omega
        · rw [if_neg h45] at hf
          have HF := Lib.hid hf
          obtain ⟨i1, i2⟩ := hin
          have q3 : (y.kind == 45) = false := by simpa using h45
          clear hn hc hr hy hf h45
          go_wp2_with fail
          go_roundw
          case rel => exact ⟨j + 1, by omega, by go_num, by rw [HF.out]; rfl, HN.out, HB.out⟩
          case measure => simp [intOf]; omega
      · have hn : l.all (fun x => decide (43 ≤ x.kind) && decide (x.kind ≤ 45)) = false := all_miss hy (by simp; omega)
        have HN := Lib.hid hn
        have q3 : (y.kind == 45) = false := by simp; omega
        clear hn hc hr hy
        by_cases i1 : y.kind < 43
        · go_wp2_with fail
          go_ret
          exact ⟨ret_bool (by have := HN.out; simp only [childrenB_mk, allB, this]; simp), box_below HB.out⟩
        · have i2 : 45 < y.kind := by omega
          clear hin
          go_wp2_with fail
          go_ret
          exact ⟨ret_bool (by have := HN.out; simp only [childrenB_mk, allB, this]; simp), box_below HB.out⟩
    · go_wp2_with fail
      go_ret
      exact ⟨ret_bool (by have : j = l.length := by omega
                          subst this; have h2 := HI.out; rw [List.take_length] at h2 ⊢; rw [Bool.eq_iff_iff]; simp [childrenB_mk, allB, h2]; try omega), box_below HB.out⟩


theorem headD_at {l : List T} {y : T} (h : l[0]? = some y) : l.headD (.mk 0 ⟨#[]⟩ 0 0 []) = y := by
  cases l with
  | nil => simp at h
  | cons z l => simpa using h
theorem tail_take {p : T → Bool} {l : List T} {j : Nat} {y : T} (h1 : 1 ≤ j) (h : l[j]? = some y) : (l.take (j + 1)).tail.all p = ((l.take j).tail.all p && p y) := by
  cases l with
  | nil => simp at h
  | cons z l =>
    cases j with
    | zero => omega
    | succ j => simp only [List.take_succ_cons, List.tail_cons]; exact all_take (by simpa using h)
theorem tail_miss {p : T → Bool} {l : List T} {j : Nat} {y : T} (h1 : 1 ≤ j) (h : l[j]? = some y) (hp : p y = false) : l.tail.all p = false := by
  cases l with
  | nil => simp at h
  | cons z l =>
    cases j with
    | zero => omega
    | succ j => simp only [List.tail_cons]; exact all_miss (by simpa using h) hp

set_option maxRecDepth 100000 in
set_option maxHeartbeats 2000000 in
theorem childR_23 (t : ByteArray) (n p : Int) (l : List T) (A : Option Addr) (c : Nat) (w : World) (hl : l.length ≤ 1048576) (hR : Rd w l A c) :
    Calls Tryz.prog 70 #[nv (T.mk 23 t n p l) A c] w fun e w' => e = .returned (.bool (childrenB (T.mk 23 t n p l))) ∧ Below w.heap.size w w' := by
  have HL := Lib.hid hl
  have HR := Lib.hid hR
  clear hl hR
  go_enter Tryz.func70, Tryz.ntmps70
  go_wp2_with fail
  refine (listR_any l A c [101, 101] _ HL.out (by decide) (by simp [isLetter]) (HR.out.keep ((Below.refl _ _).alloc (Nat.le_refl _) _))).mono ?_
  rintro e w1 ⟨rfl, hb⟩
  have hB := box_after hb
  have HB1 := Lib.hid hB
  clear hB hb
  have e1 : [101, 101].map codeOf = [-1, -1] := by decide
  rw [e1]
  clear e1
  cases hk1 : kindsB l [-1, -1] with
  | false =>
    have HK := Lib.hid hk1
    clear hk1
    go_wp2_with fail
    go_ret
    exact ⟨ret_bool (by simp [childrenB_mk, HK.out]), box_below HB1.out⟩
  | true =>
    have hlen : l.length = 2 := by
      by_cases h : l.length = 2
      · exact h
      · have := kindsB_len (ws := [-1, -1]) (by simpa using h); rw [this] at hk1; cases hk1
    obtain ⟨y, hy⟩ : ∃ y, l[0]? = some y := ⟨l[0]'(by omega), by simp⟩
    have hd := headD_at hy
    obtain ⟨b, o, A', c', rfl, hc, hr⟩ := HR.out.at_ hy
    have h0 := (hc.below (box_below HB1.out)).c0
    simp only [Nat.zero_mul, Nat.add_zero] at h0
    have HK := Lib.hid hk1
    have HD := Lib.hid hd
    clear hk1 hd hy hc hr
    by_cases k1 : y.kind = 30
    · rw [k1] at h0
      have K1 := Lib.hid k1
      clear k1
      go_wp2_with fail
      go_ret
      exact ⟨ret_bool (by simp [childrenB_mk, HK.out, HD.out, K1.out, -List.headD_eq_head?_getD]), box_below HB1.out⟩
    · by_cases k2 : y.kind = 35
      · rw [k2] at h0
        have K1 := Lib.hid k2
        clear k1 k2
        go_wp2_with fail
        go_ret
        exact ⟨ret_bool (by simp [childrenB_mk, HK.out, HD.out, K1.out, -List.headD_eq_head?_getD]), box_below HB1.out⟩
      · have q1 : (y.kind == 30) = false := by simpa using k1
        have q2 : (y.kind == 35) = false := by simpa using k2
        go_wp2_with fail
        go_ret
        exact ⟨ret_bool (by rw [Bool.eq_iff_iff]; simp [childrenB_mk, HK.out, HD.out, k1, k2, -List.headD_eq_head?_getD]), box_below HB1.out⟩


set_option maxRecDepth 100000 in
set_option maxHeartbeats 2000000 in
theorem childR_36 (t : ByteArray) (n p : Int) (l : List T) (A : Option Addr) (c : Nat) (w : World) (hl : l.length ≤ 1048576) (hR : Rd w l A c) :
    Calls Tryz.prog 70 #[nv (T.mk 36 t n p l) A c] w fun e w' => e = .returned (.bool (childrenB (T.mk 36 t n p l))) ∧ Below w.heap.size w w' := by
  have HL := Lib.hid hl
  have HR := Lib.hid hR
  clear hl hR
  go_enter Tryz.func70, Tryz.ntmps70
  go_wp2_with fail
  go_loopw [6] (fun i wr => ∃ j : Nat, 1 ≤ j ∧ (j ≤ l.length ∨ j = 1) ∧ i = .int .i64 j ∧ Hid ((l.take j).tail.all (fun x => isExprB x.kind || (x.kind == 11 || x.kind == 12)) = true) ∧ Below (w.heap.size + 1) (w.alloc (nbox (T.mk 36 t n p l) A c)) wr) (fun i _ => l.length - (intOf i).toNat)
  case atStart => exact ⟨1, Nat.le_refl _, .inr rfl, rfl, (by cases l <;> rfl : _ = _), Below.refl _ _⟩
  case round =>
    obtain ⟨j, h1, hj, rfl, HI, hB⟩ := hrel
    have HB := Lib.hid hB
    clear hB
    have hle := HL.out
    by_cases hlt : j < l.length
    · obtain ⟨y, hy⟩ : ∃ y, l[j]? = some y := ⟨l[j], by simp [hlt]⟩
      obtain ⟨b, o, A', c', rfl, hc, hr⟩ := HR.out.at_ hy
      have hc := hc.below (box_below HB.out)
      have h0 := hc.c0
      cases hk : isExprB y.kind with
      | true =>
        have hs : (sortC y.kind != 101) = false := by rw [bne, sortC_101, hk]; rfl
        have hn : (l.take (j + 1)).tail.all (fun x => isExprB x.kind || (x.kind == 11 || x.kind == 12)) = true := by rw [tail_take h1 hy, HI.out]; simp [hk]
        have HN := Lib.hid hn
        clear hn hc hr hy
        go_wp2_with (go_at_call 37; refine (sortR_any _ _).mono ?_; rintro e w' ⟨rfl, rfl⟩)
        go_roundw
        case rel => exact ⟨j + 1, by omega, by omega, by go_num, HN.out, HB.out⟩
        case measure => simp [intOf]; omega

      | false =>
        have hs : (sortC y.kind != 101) = true := by rw [bne, sortC_101, hk]; rfl
        by_cases k11 : y.kind = 11
        · have q1 : (y.kind != 11) = false := by simp [k11]
          have hn : (l.take (j + 1)).tail.all (fun x => isExprB x.kind || (x.kind == 11 || x.kind == 12)) = true := by rw [tail_take h1 hy, HI.out]; simp [k11]
          have HN := Lib.hid hn
          clear hn hc hr hy
          go_wp2_with (go_at_call 37; refine (sortR_any _ _).mono ?_; rintro e w' ⟨rfl, rfl⟩)
          go_roundw
          case rel => exact ⟨j + 1, by omega, by omega, by go_num, HN.out, HB.out⟩
          case measure => simp [intOf]; omega

        · have q1 : (y.kind != 11) = true := by simpa [bne] using k11
          by_cases k12 : y.kind = 12
          · have q2 : (y.kind != 12) = false := by simp [k12]
            have hn : (l.take (j + 1)).tail.all (fun x => isExprB x.kind || (x.kind == 11 || x.kind == 12)) = true := by rw [tail_take h1 hy, HI.out]; simp [k12]
            have HN := Lib.hid hn
            clear hn hc hr hy
            go_wp2_with (go_at_call 37; refine (sortR_any _ _).mono ?_; rintro e w' ⟨rfl, rfl⟩)
            go_roundw
            case rel => exact ⟨j + 1, by omega, by omega, by go_num, HN.out, HB.out⟩
            case measure => simp [intOf]; omega

          · have q2 : (y.kind != 12) = true := by simpa [bne] using k12
            have hn : l.tail.all (fun x => isExprB x.kind || (x.kind == 11 || x.kind == 12)) = false := tail_miss h1 hy (by simp [hk, k11, k12])
            have HN := Lib.hid hn
            clear hn hc hr hy
            go_wp2_with (go_at_call 37; refine (sortR_any _ _).mono ?_; rintro e w' ⟨rfl, rfl⟩)
            go_ret
            exact ⟨ret_bool (by have := HN.out; simp [childrenB_mk, allB, this]), box_below HB.out⟩
    · have hI : allB l.tail (fun k => isExprB k || (k == 11 || k == 12)) = true := by
        have := HI.out
        rcases hj with h | h
        · have : j = l.length := by omega
          subst this
          rwa [List.take_length] at this
        · subst h
          have : l.tail = [] := by
            cases l with
            | nil => rfl
            | cons z l => cases l with
              | nil => rfl
              | cons z2 l => simp at hlt
          rw [this]; rfl
      have HI2 := Lib.hid hI
      clear hI
      by_cases h2 : 2 ≤ l.length
      · by_cases h17 : l.length ≤ 17
        · obtain ⟨y, hy⟩ : ∃ y, l[0]? = some y := ⟨l[0]'(by omega), by simp⟩
          have hd := headD_at hy
          obtain ⟨b, o, A', c', rfl, hc, hr⟩ := HR.out.at_ hy
          have h0 := (hc.below (box_below HB.out)).c0
          simp only [Nat.zero_mul, Nat.add_zero] at h0
          have HD := Lib.hid hd
          clear hd hy hc hr
          go_wp2_with (go_at_call 37; refine (sortR_any _ _).mono ?_; rintro e w' ⟨rfl, rfl⟩)
          go_ret
          exact ⟨ret_bool (by rw [sortC_101]; simp [childrenB_mk, h2, h17, HI2.out, HD.out, -List.headD_eq_head?_getD]), box_below HB.out⟩
        · go_wp2_with fail
          go_ret
          exact ⟨ret_bool (by simp [childrenB_mk, h17]), box_below HB.out⟩
      · go_wp2_with fail
        go_ret
        exact ⟨ret_bool (by simp [childrenB_mk, h2]), box_below HB.out⟩


theorem childrenB_other (k : Int) (t : ByteArray) (n p : Int) (l : List T) (k1 : ¬ k = 1) (k2 : ¬ k = 2) (k6 : ¬ k = 6) (k3 : ¬ k = 3) (k4 : ¬ k = 4) (k5 : ¬ k = 5) (k11 : ¬ k = 11) (k12 : ¬ k = 12) (k22 : ¬ k = 22) (k7 : ¬ k = 7) (k8 : ¬ k = 8) (k10 : ¬ k = 10) (k27 : ¬ k = 27) (k30 : ¬ k = 30) (k31 : ¬ k = 31) (k32 : ¬ k = 32) (k13 : ¬ k = 13) (k20 : ¬ k = 20) (k21 : ¬ k = 21) (k35 : ¬ k = 35) (k39 : ¬ k = 39) (k23 : ¬ k = 23) (k24 : ¬ k = 24) (k25 : ¬ k = 25) (k26 : ¬ k = 26) (k43 : ¬ k = 43) (k28 : ¬ k = 28) (k29 : ¬ k = 29) (k33 : ¬ k = 33) (k34 : ¬ k = 34) (k36 : ¬ k = 36) (k37 : ¬ k = 37) (k38 : ¬ k = 38) (k40 : ¬ k = 40) (k41 : ¬ k = 41) (k42 : ¬ k = 42) (k44 : ¬ k = 44) (k45 : ¬ k = 45) : childrenB (T.mk k t n p l) = false := by
  simp only [childrenB_mk, k1, k2, k6, k3, k4, k5, k11, k12, k22, k7, k8, k10, k27, k30, k31, k32, k13, k20, k21, k35, k39, k23, k24, k25, k26, k43, k28, k29, k33, k34, k36, k37, k38, k40, k41, k42, k44, k45, if_false, or_false]
set_option maxRecDepth 100000 in
set_option maxHeartbeats 2000000 in
theorem childR_other (k : Int) (t : ByteArray) (n p : Int) (l : List T) (A : Option Addr) (c : Nat) (w : World) (k1 : ¬ k = 1) (k2 : ¬ k = 2) (k6 : ¬ k = 6) (k3 : ¬ k = 3) (k4 : ¬ k = 4) (k5 : ¬ k = 5) (k11 : ¬ k = 11) (k12 : ¬ k = 12) (k22 : ¬ k = 22) (k7 : ¬ k = 7) (k8 : ¬ k = 8) (k10 : ¬ k = 10) (k27 : ¬ k = 27) (k30 : ¬ k = 30) (k31 : ¬ k = 31) (k32 : ¬ k = 32) (k13 : ¬ k = 13) (k20 : ¬ k = 20) (k21 : ¬ k = 21) (k35 : ¬ k = 35) (k39 : ¬ k = 39) (k23 : ¬ k = 23) (k24 : ¬ k = 24) (k25 : ¬ k = 25) (k26 : ¬ k = 26) (k43 : ¬ k = 43) (k28 : ¬ k = 28) (k29 : ¬ k = 29) (k33 : ¬ k = 33) (k34 : ¬ k = 34) (k36 : ¬ k = 36) (k37 : ¬ k = 37) (k38 : ¬ k = 38) (k40 : ¬ k = 40) (k41 : ¬ k = 41) (k42 : ¬ k = 42) (k44 : ¬ k = 44) (k45 : ¬ k = 45) :
    Calls Tryz.prog 70 #[nv (T.mk k t n p l) A c] w fun e w' => e = .returned (.bool (childrenB (T.mk k t n p l))) ∧ Below w.heap.size w w' := by
  rw [childrenB_other k t n p l k1 k2 k6 k3 k4 k5 k11 k12 k22 k7 k8 k10 k27 k30 k31 k32 k13 k20 k21 k35 k39 k23 k24 k25 k26 k43 k28 k29 k33 k34 k36 k37 k38 k40 k41 k42 k44 k45]

  replace k1 : (k == 1) = false := by simpa using k1
  replace k2 : (k == 2) = false := by simpa using k2
  replace k6 : (k == 6) = false := by simpa using k6
  replace k3 : (k == 3) = false := by simpa using k3
  replace k4 : (k == 4) = false := by simpa using k4
  replace k5 : (k == 5) = false := by simpa using k5
  replace k11 : (k == 11) = false := by simpa using k11
  replace k12 : (k == 12) = false := by simpa using k12
  replace k22 : (k == 22) = false := by simpa using k22
  replace k7 : (k == 7) = false := by simpa using k7
  replace k8 : (k == 8) = false := by simpa using k8
  replace k10 : (k == 10) = false := by simpa using k10
  replace k27 : (k == 27) = false := by simpa using k27
  replace k30 : (k == 30) = false := by simpa using k30
  replace k31 : (k == 31) = false := by simpa using k31
  replace k32 : (k == 32) = false := by simpa using k32
  replace k13 : (k == 13) = false := by simpa using k13
  replace k20 : (k == 20) = false := by simpa using k20
  replace k21 : (k == 21) = false := by simpa using k21
  replace k35 : (k == 35) = false := by simpa using k35
  replace k39 : (k == 39) = false := by simpa using k39
  replace k23 : (k == 23) = false := by simpa using k23
  replace k24 : (k == 24) = false := by simpa using k24
  replace k25 : (k == 25) = false := by simpa using k25
  replace k26 : (k == 26) = false := by simpa using k26
  replace k43 : (k == 43) = false := by simpa using k43
  replace k28 : (k == 28) = false := by simpa using k28
  replace k29 : (k == 29) = false := by simpa using k29
  replace k33 : (k == 33) = false := by simpa using k33
  replace k34 : (k == 34) = false := by simpa using k34
  replace k36 : (k == 36) = false := by simpa using k36
  replace k37 : (k == 37) = false := by simpa using k37
  replace k38 : (k == 38) = false := by simpa using k38
  replace k40 : (k == 40) = false := by simpa using k40
  replace k41 : (k == 41) = false := by simpa using k41
  replace k42 : (k == 42) = false := by simpa using k42
  replace k44 : (k == 44) = false := by simpa using k44
  replace k45 : (k == 45) = false := by simpa using k45
  go_enter Tryz.func70, Tryz.ntmps70
  go_wp2_with fail
  go_ret
  exact ⟨rfl, box_below (Below.refl _ _)⟩
theorem childR_any (x : T) (A : Option Addr) (c : Nat) (w : World) (hl : x.list.length ≤ 1048576) (hn : 0 ≤ x.num) (hlab : labelB x = true) (hR : Rd w x.list A c) :
    Calls Tryz.prog 70 #[nv x A c] w fun e w' => e = .returned (.bool (childrenB x)) ∧ Below w.heap.size w w' := by
  cases x with
  | mk k t n p l =>
    by_cases k1 : k = 1
    · subst k1
      exact childR_1 t n p l A c w hl hR
    by_cases k2 : k = 2
    · subst k2
      exact childR_2 t n p l A c w hl hR
    by_cases k6 : k = 6
    · subst k6
      exact childR_6 t n p l A c w hl hR
    by_cases k3 : k = 3
    · subst k3
      exact childR_3 t n p l A c w hl hR
    by_cases k4 : k = 4
    · subst k4
      exact childR_4 t n p l A c w hl hR
    by_cases k5 : k = 5
    · subst k5
      exact childR_5 t n p l A c w hl hR
    by_cases k11 : k = 11
    · subst k11
      exact childR_11 t n p l A c w hl hR
    by_cases k12 : k = 12
    · subst k12
      exact childR_12 t n p l A c w hl hR
    by_cases k22 : k = 22
    · subst k22
      exact childR_22 t n p l A c w hl hR
    by_cases k7 : k = 7
    · subst k7
      exact childR_7 t n p l A c w hl hR
    by_cases k8 : k = 8
    · subst k8
      exact childR_8 t n p l A c w hl hR
    by_cases k10 : k = 10
    · subst k10
      exact childR_10 t n p l A c w hl hR
    by_cases k27 : k = 27
    · subst k27
      exact childR_27 t n p l A c w hl hR
    by_cases k30 : k = 30
    · subst k30
      exact childR_30 t n p l A c w hl hR
    by_cases k31 : k = 31
    · subst k31
      exact childR_31 t n p l A c w hl hR
    by_cases k32 : k = 32
    · subst k32
      exact childR_32 t n p l A c w hl hR
    by_cases k13 : k = 13
    · subst k13
      have h1 : n ≤ 1 := by
        simp only [labelB, numB_mk, Bool.and_eq_true] at hlab
        simpa using hlab.2
      exact childR_13 t n p l A c w hl hR (by have : 0 ≤ n := hn; omega)
    by_cases k20 : k = 20
    · subst k20
      exact childR_20 t n p l A c w hl hR
    by_cases k21 : k = 21
    · subst k21
      exact childR_21 t n p l A c w hl hR
    by_cases k35 : k = 35
    · subst k35
      exact childR_35 t n p l A c w hl hR
    by_cases k39 : k = 39
    · subst k39
      exact childR_39 t n p l A c w hl hR
    by_cases k23 : k = 23
    · subst k23
      exact childR_23 t n p l A c w hl hR
    by_cases k24 : k = 24
    · subst k24
      exact childR_24 t n p l A c w hl hR
    by_cases k25 : k = 25
    · subst k25
      exact childR_25 t n p l A c w hl hR
    by_cases k26 : k = 26
    · subst k26
      exact childR_26 t n p l A c w hl hR
    by_cases k43 : k = 43
    · subst k43
      exact childR_43 t n p l A c w hl hR
    by_cases k28 : k = 28
    · subst k28
      exact childR_28 t n p l A c w hl hR
    by_cases k29 : k = 29
    · subst k29
      exact childR_29 t n p l A c w hl hR
    by_cases k33 : k = 33
    · subst k33
      exact childR_33 t n p l A c w hl hR
    by_cases k34 : k = 34
    · subst k34
      exact childR_34 t n p l A c w hl hR
    by_cases k36 : k = 36
    · subst k36
      exact childR_36 t n p l A c w hl hR
    by_cases k37 : k = 37
    · subst k37
      exact childR_37 t n p l A c w hl hR
    by_cases k38 : k = 38
    · subst k38
      exact childR_38 t n p l A c w hl hR
    by_cases k40 : k = 40
    · subst k40
      exact childR_40 t n p l A c w hl hR
    by_cases k41 : k = 41
    · subst k41
      exact childR_41 t n p l A c w hl hR
    by_cases k42 : k = 42
    · subst k42
      exact childR_42 t n p l A c w hl hR
    by_cases k44 : k = 44
    · subst k44
      exact childR_44 t n p l A c w hl hR
    by_cases k45 : k = 45
    · subst k45
      exact childR_45 t n p l A c w hl hR
    exact childR_other k t n p l A c w k1 k2 k6 k3 k4 k5 k11 k12 k22 k7 k8 k10 k27 k30 k31 k32 k13 k20 k21 k35 k39 k23 k24 k25 k26 k43 k28 k29 k33 k34 k36 k37 k38 k40 k41 k42 k44 k45

end Go.Proofs.YtoemljgkofhhpaaGreatDoor
