import Derived.Test.YtoemljgkofhhpaaGreatDoorPgB
namespace Go.Proofs.YtoemljgkofhhpaaGreatDoor
open Go.RowKit

theorem lit_at {ws : List Int} {cs : Array Value} (h : cs = (ws.map (Value.int .i64)).toArray) {j : Nat} {v : Int} (hj : ws[j]? = some v) : cs[j]? = some (.int .i64 v) := by
  subst h; simp [hj]
theorem lit_two {w : World} {o1 : Obj} {ws : List Int} {cs : Array Value} {n : Nat} (h : cs = (ws.map (Value.int .i64)).toArray) (j : Nat) (v : Int) (hj : ws[j]? = some v) :
    ((w.alloc o1).alloc (.cells cs n)).cell? ⟨w.heap.size + 1, j, none⟩ = some (.int .i64 v) := (two_cell w o1 cs n j).trans (lit_at h hj)
theorem lit_one {w : World} {ws : List Int} {cs : Array Value} {n : Nat} (h : cs = (ws.map (Value.int .i64)).toArray) (j : Nat) (v : Int) (hj : ws[j]? = some v) :
    (w.alloc (.cells cs n)).cell? ⟨w.heap.size, j, none⟩ = some (.int .i64 v) := (cell_of_row _ w.heap.size j cs n (0, 0) (heap_alloc_new _ _)).trans (lit_at h hj)
theorem kinds_one {l : List T} (h : l.length = 1) : kindsB l [-1] = allB l isExprB := by
  cases l with
  | nil => cases h
  | cons x l => cases l with
    | nil => simp [kindsB, allB, okKind]
    | cons y l => simp at h
theorem kinds_two {l : List T} (h : l.length = 2) : kindsB l [-1, -1] = allB l isExprB := by
  cases l with
  | nil => cases h
  | cons x l => cases l with
    | nil => simp at h
    | cons y l => cases l with
      | nil => simp [kindsB, allB, okKind]
      | cons z l => simp at h

set_option maxRecDepth 100000 in
set_option maxHeartbeats 2000000 in
theorem listP_3 (t : ByteArray) (n p : Int) (l : List T) (A : Option Addr) (c : Nat) (w : World) (hl : l.length ≤ 1048576) (hR : Rd w l A c) :
    Calls Tryz.prog 86 #[nv (T.mk 3 t n p l) A c] w fun e w' => e = .returned (.bool (childrenB (T.mk 3 t n p l))) ∧ Below w.heap.size w w' := by
  have HL := Lib.hid hl
  have HR := Lib.hid hR
  clear hR
  go_enter Tryz.func86, Tryz.ntmps86
  go_wp2_with fail
  refine (kinds_any l A c [4, 6, 7, 20] _ 4 4 _ HL.out rfl (HR.out.keep two_below) (lit_two rfl)).mono ?_
  rintro e w1 ⟨rfl, hb⟩
  have HB1 := Lib.hid (below_then two_below (by rw [size_alloc, size_alloc]; omega) hb)
  clear hb
  go_wp2_with fail
  go_ret
  exact ⟨ret_bool (by simp [childrenB_mk]), HB1.out⟩

set_option maxRecDepth 100000 in
set_option maxHeartbeats 2000000 in
theorem listP_5 (t : ByteArray) (n p : Int) (l : List T) (A : Option Addr) (c : Nat) (w : World) (hl : l.length ≤ 1048576) (hR : Rd w l A c) :
    Calls Tryz.prog 86 #[nv (T.mk 5 t n p l) A c] w fun e w' => e = .returned (.bool (childrenB (T.mk 5 t n p l))) ∧ Below w.heap.size w w' := by
  have HL := Lib.hid hl
  have HR := Lib.hid hR
  clear hR
  go_enter Tryz.func86, Tryz.ntmps86
  go_wp2_with fail
  refine (kinds_any l A c [-2] _ 1 1 _ HL.out rfl (HR.out.keep two_below) (lit_two rfl)).mono ?_
  rintro e w1 ⟨rfl, hb⟩
  have HB1 := Lib.hid (below_then two_below (by rw [size_alloc, size_alloc]; omega) hb)
  clear hb
  go_wp2_with fail
  go_ret
  exact ⟨ret_bool (by simp [childrenB_mk]), HB1.out⟩

set_option maxRecDepth 100000 in
set_option maxHeartbeats 2000000 in
theorem listP_22 (t : ByteArray) (n p : Int) (l : List T) (A : Option Addr) (c : Nat) (w : World) (hl : l.length ≤ 1048576) (hR : Rd w l A c) :
    Calls Tryz.prog 86 #[nv (T.mk 22 t n p l) A c] w fun e w' => e = .returned (.bool (childrenB (T.mk 22 t n p l))) ∧ Below w.heap.size w w' := by
  have HL := Lib.hid hl
  have HR := Lib.hid hR
  clear hR
  go_enter Tryz.func86, Tryz.ntmps86
  go_wp2_with fail
  refine (kinds_any l A c [-2] _ 1 1 _ HL.out rfl (HR.out.keep two_below) (lit_two rfl)).mono ?_
  rintro e w1 ⟨rfl, hb⟩
  have HB1 := Lib.hid (below_then two_below (by rw [size_alloc, size_alloc]; omega) hb)
  clear hb
  go_wp2_with fail
  go_ret
  exact ⟨ret_bool (by simp [childrenB_mk]), HB1.out⟩

set_option maxRecDepth 100000 in
set_option maxHeartbeats 2000000 in
theorem listP_11 (t : ByteArray) (n p : Int) (l : List T) (A : Option Addr) (c : Nat) (w : World) (hl : l.length ≤ 1048576) (hR : Rd w l A c) :
    Calls Tryz.prog 86 #[nv (T.mk 11 t n p l) A c] w fun e w' => e = .returned (.bool (childrenB (T.mk 11 t n p l))) ∧ Below w.heap.size w w' := by
  have HL := Lib.hid hl
  have HR := Lib.hid hR
  clear hR
  go_enter Tryz.func86, Tryz.ntmps86
  go_wp2_with fail
  refine (kinds_any l A c [-2] _ 1 1 _ HL.out rfl (HR.out.keep two_below) (lit_two rfl)).mono ?_
  rintro e w1 ⟨rfl, hb⟩
  have HB1 := Lib.hid (below_then two_below (by rw [size_alloc, size_alloc]; omega) hb)
  clear hb
  go_wp2_with fail
  go_ret
  exact ⟨ret_bool (by simp [childrenB_mk]), HB1.out⟩

set_option maxRecDepth 100000 in
set_option maxHeartbeats 2000000 in
theorem listP_12 (t : ByteArray) (n p : Int) (l : List T) (A : Option Addr) (c : Nat) (w : World) (hl : l.length ≤ 1048576) (hR : Rd w l A c) :
    Calls Tryz.prog 86 #[nv (T.mk 12 t n p l) A c] w fun e w' => e = .returned (.bool (childrenB (T.mk 12 t n p l))) ∧ Below w.heap.size w w' := by
  have HL := Lib.hid hl
  have HR := Lib.hid hR
  clear hR
  go_enter Tryz.func86, Tryz.ntmps86
  go_wp2_with fail
  refine (kinds_any l A c [-2] _ 1 1 _ HL.out rfl (HR.out.keep two_below) (lit_two rfl)).mono ?_
  rintro e w1 ⟨rfl, hb⟩
  have HB1 := Lib.hid (below_then two_below (by rw [size_alloc, size_alloc]; omega) hb)
  clear hb
  go_wp2_with fail
  go_ret
  exact ⟨ret_bool (by simp [childrenB_mk]), HB1.out⟩

set_option maxRecDepth 100000 in
set_option maxHeartbeats 2000000 in
theorem listP_21 (t : ByteArray) (n p : Int) (l : List T) (A : Option Addr) (c : Nat) (w : World) (hl : l.length ≤ 1048576) (hR : Rd w l A c) :
    Calls Tryz.prog 86 #[nv (T.mk 21 t n p l) A c] w fun e w' => e = .returned (.bool (childrenB (T.mk 21 t n p l))) ∧ Below w.heap.size w w' := by
  have HL := Lib.hid hl
  have HR := Lib.hid hR
  clear hR
  go_enter Tryz.func86, Tryz.ntmps86
  go_wp2_with fail
  refine (kinds_any l A c [-1] _ 1 1 _ HL.out rfl (HR.out.keep two_below) (lit_two rfl)).mono ?_
  rintro e w1 ⟨rfl, hb⟩
  have HB1 := Lib.hid (below_then two_below (by rw [size_alloc, size_alloc]; omega) hb)
  clear hb
  go_wp2_with fail
  go_ret
  exact ⟨ret_bool (by simp [childrenB_mk]), HB1.out⟩

set_option maxRecDepth 100000 in
set_option maxHeartbeats 2000000 in
theorem listP_35 (t : ByteArray) (n p : Int) (l : List T) (A : Option Addr) (c : Nat) (w : World) (hl : l.length ≤ 1048576) (hR : Rd w l A c) :
    Calls Tryz.prog 86 #[nv (T.mk 35 t n p l) A c] w fun e w' => e = .returned (.bool (childrenB (T.mk 35 t n p l))) ∧ Below w.heap.size w w' := by
  have HL := Lib.hid hl
  have HR := Lib.hid hR
  clear hR
  go_enter Tryz.func86, Tryz.ntmps86
  go_wp2_with fail
  refine (kinds_any l A c [-1] _ 1 1 _ HL.out rfl (HR.out.keep two_below) (lit_two rfl)).mono ?_
  rintro e w1 ⟨rfl, hb⟩
  have HB1 := Lib.hid (below_then two_below (by rw [size_alloc, size_alloc]; omega) hb)
  clear hb
  go_wp2_with fail
  go_ret
  exact ⟨ret_bool (by simp [childrenB_mk]), HB1.out⟩

set_option maxRecDepth 100000 in
set_option maxHeartbeats 2000000 in
theorem listP_39 (t : ByteArray) (n p : Int) (l : List T) (A : Option Addr) (c : Nat) (w : World) (hl : l.length ≤ 1048576) (hR : Rd w l A c) :
    Calls Tryz.prog 86 #[nv (T.mk 39 t n p l) A c] w fun e w' => e = .returned (.bool (childrenB (T.mk 39 t n p l))) ∧ Below w.heap.size w w' := by
  have HL := Lib.hid hl
  have HR := Lib.hid hR
  clear hR
  go_enter Tryz.func86, Tryz.ntmps86
  go_wp2_with fail
  refine (kinds_any l A c [-1] _ 1 1 _ HL.out rfl (HR.out.keep two_below) (lit_two rfl)).mono ?_
  rintro e w1 ⟨rfl, hb⟩
  have HB1 := Lib.hid (below_then two_below (by rw [size_alloc, size_alloc]; omega) hb)
  clear hb
  go_wp2_with fail
  go_ret
  exact ⟨ret_bool (by simp [childrenB_mk]), HB1.out⟩

set_option maxRecDepth 100000 in
set_option maxHeartbeats 2000000 in
theorem listP_24 (t : ByteArray) (n p : Int) (l : List T) (A : Option Addr) (c : Nat) (w : World) (hl : l.length ≤ 1048576) (hR : Rd w l A c) :
    Calls Tryz.prog 86 #[nv (T.mk 24 t n p l) A c] w fun e w' => e = .returned (.bool (childrenB (T.mk 24 t n p l))) ∧ Below w.heap.size w w' := by
  have HL := Lib.hid hl
  have HR := Lib.hid hR
  clear hR
  go_enter Tryz.func86, Tryz.ntmps86
  go_wp2_with fail
  refine (kinds_any l A c [34] _ 1 1 _ HL.out rfl (HR.out.keep two_below) (lit_two rfl)).mono ?_
  rintro e w1 ⟨rfl, hb⟩
  have HB1 := Lib.hid (below_then two_below (by rw [size_alloc, size_alloc]; omega) hb)
  clear hb
  cases hk1 : kindsB l [34] with
  | true =>
    have HK1 := Lib.hid hk1
    clear hk1
    go_wp2_with fail
    go_ret
    exact ⟨ret_bool (by simp [childrenB_mk, HK1.out]), HB1.out⟩
  | false =>
    have HK1 := Lib.hid hk1
    clear hk1
    go_wp2_with fail
    refine (kinds_any l A c [39] _ 1 1 _ HL.out rfl (HR.out.keep (HB1.out.alloc HB1.out.size _)) (lit_one rfl)).mono ?_
    rintro e w2 ⟨rfl, hb⟩
    have HB2 := Lib.hid (below_push HB1.out HB1.out.size hb)
    clear hb
    go_wp2_with fail
    go_ret
    exact ⟨ret_bool (by simp [childrenB_mk, HK1.out]), HB2.out⟩

set_option maxRecDepth 100000 in
set_option maxHeartbeats 2000000 in
theorem listP_25 (t : ByteArray) (n p : Int) (l : List T) (A : Option Addr) (c : Nat) (w : World) (hl : l.length ≤ 1048576) (hR : Rd w l A c) :
    Calls Tryz.prog 86 #[nv (T.mk 25 t n p l) A c] w fun e w' => e = .returned (.bool (childrenB (T.mk 25 t n p l))) ∧ Below w.heap.size w w' := by
  have HL := Lib.hid hl
  have HR := Lib.hid hR
  clear hR
  go_enter Tryz.func86, Tryz.ntmps86
  go_wp2_with fail
  refine (kinds_any l A c [-1, 20] _ 2 2 _ HL.out rfl (HR.out.keep two_below) (lit_two rfl)).mono ?_
  rintro e w1 ⟨rfl, hb⟩
  have HB1 := Lib.hid (below_then two_below (by rw [size_alloc, size_alloc]; omega) hb)
  clear hb
  cases hk1 : kindsB l [-1, 20] with
  | true =>
    have HK1 := Lib.hid hk1
    clear hk1
    go_wp2_with fail
    go_ret
    exact ⟨ret_bool (by simp [childrenB_mk, HK1.out]), HB1.out⟩
  | false =>
    have HK1 := Lib.hid hk1
    clear hk1
    go_wp2_with fail
    refine (kinds_any l A c [-1, 20, 20] _ 3 3 _ HL.out rfl (HR.out.keep (HB1.out.alloc HB1.out.size _)) (lit_one rfl)).mono ?_
    rintro e w2 ⟨rfl, hb⟩
    have HB2 := Lib.hid (below_push HB1.out HB1.out.size hb)
    clear hb
    cases hk2 : kindsB l [-1, 20, 20] with
    | true =>
      have HK2 := Lib.hid hk2
      clear hk2
      go_wp2_with fail
      go_ret
      exact ⟨ret_bool (by simp [childrenB_mk, HK2.out, HK1.out]), HB2.out⟩
    | false =>
      have HK2 := Lib.hid hk2
      clear hk2
      go_wp2_with fail
      refine (kinds_any l A c [-1, 20, 25] _ 3 3 _ HL.out rfl (HR.out.keep (HB2.out.alloc HB2.out.size _)) (lit_one rfl)).mono ?_
      rintro e w3 ⟨rfl, hb⟩
      have HB3 := Lib.hid (below_push HB2.out HB2.out.size hb)
      clear hb
      go_wp2_with fail
      go_ret
      exact ⟨ret_bool (by simp [childrenB_mk, HK1.out, HK2.out]), HB3.out⟩

set_option maxRecDepth 100000 in
set_option maxHeartbeats 2000000 in
theorem listP_26 (t : ByteArray) (n p : Int) (l : List T) (A : Option Addr) (c : Nat) (w : World) (hl : l.length ≤ 1048576) (hR : Rd w l A c) :
    Calls Tryz.prog 86 #[nv (T.mk 26 t n p l) A c] w fun e w' => e = .returned (.bool (childrenB (T.mk 26 t n p l))) ∧ Below w.heap.size w w' := by
  have HL := Lib.hid hl
  have HR := Lib.hid hR
  clear hR
  go_enter Tryz.func86, Tryz.ntmps86
  go_wp2_with fail
  refine (kinds_any l A c [-1, 20] _ 2 2 _ HL.out rfl (HR.out.keep two_below) (lit_two rfl)).mono ?_
  rintro e w1 ⟨rfl, hb⟩
  have HB1 := Lib.hid (below_then two_below (by rw [size_alloc, size_alloc]; omega) hb)
  clear hb
  go_wp2_with fail
  go_ret
  exact ⟨ret_bool (by simp [childrenB_mk]), HB1.out⟩

set_option maxRecDepth 100000 in
set_option maxHeartbeats 2000000 in
theorem listP_43 (t : ByteArray) (n p : Int) (l : List T) (A : Option Addr) (c : Nat) (w : World) (hl : l.length ≤ 1048576) (hR : Rd w l A c) :
    Calls Tryz.prog 86 #[nv (T.mk 43 t n p l) A c] w fun e w' => e = .returned (.bool (childrenB (T.mk 43 t n p l))) ∧ Below w.heap.size w w' := by
  have HL := Lib.hid hl
  have HR := Lib.hid hR
  clear hR
  go_enter Tryz.func86, Tryz.ntmps86
  go_wp2_with fail
  refine (kinds_any l A c [-1, 20] _ 2 2 _ HL.out rfl (HR.out.keep two_below) (lit_two rfl)).mono ?_
  rintro e w1 ⟨rfl, hb⟩
  have HB1 := Lib.hid (below_then two_below (by rw [size_alloc, size_alloc]; omega) hb)
  clear hb
  go_wp2_with fail
  go_ret
  exact ⟨ret_bool (by simp [childrenB_mk]), HB1.out⟩

set_option maxRecDepth 100000 in
set_option maxHeartbeats 2000000 in
theorem listP_29 (t : ByteArray) (n p : Int) (l : List T) (A : Option Addr) (c : Nat) (w : World) (hl : l.length ≤ 1048576) (hR : Rd w l A c) :
    Calls Tryz.prog 86 #[nv (T.mk 29 t n p l) A c] w fun e w' => e = .returned (.bool (childrenB (T.mk 29 t n p l))) ∧ Below w.heap.size w w' := by
  have HL := Lib.hid hl
  have HR := Lib.hid hR
  clear hR
  go_enter Tryz.func86, Tryz.ntmps86
  go_wp2_with fail
  refine (kinds_any l A c [34] _ 1 1 _ HL.out rfl (HR.out.keep two_below) (lit_two rfl)).mono ?_
  rintro e w1 ⟨rfl, hb⟩
  have HB1 := Lib.hid (below_then two_below (by rw [size_alloc, size_alloc]; omega) hb)
  clear hb
  go_wp2_with fail
  go_ret
  exact ⟨ret_bool (by simp [childrenB_mk]), HB1.out⟩

set_option maxRecDepth 100000 in
set_option maxHeartbeats 2000000 in
theorem listP_38 (t : ByteArray) (n p : Int) (l : List T) (A : Option Addr) (c : Nat) (w : World) (hl : l.length ≤ 1048576) (hR : Rd w l A c) :
    Calls Tryz.prog 86 #[nv (T.mk 38 t n p l) A c] w fun e w' => e = .returned (.bool (childrenB (T.mk 38 t n p l))) ∧ Below w.heap.size w w' := by
  have HL := Lib.hid hl
  have HR := Lib.hid hR
  clear hR
  go_enter Tryz.func86, Tryz.ntmps86
  go_wp2_with fail
  refine (kinds_any l A c [6, 7, 20] _ 3 3 _ HL.out rfl (HR.out.keep two_below) (lit_two rfl)).mono ?_
  rintro e w1 ⟨rfl, hb⟩
  have HB1 := Lib.hid (below_then two_below (by rw [size_alloc, size_alloc]; omega) hb)
  clear hb
  go_wp2_with fail
  go_ret
  exact ⟨ret_bool (by simp [childrenB_mk]), HB1.out⟩

set_option maxRecDepth 100000 in
set_option maxHeartbeats 2000000 in
theorem listP_40 (t : ByteArray) (n p : Int) (l : List T) (A : Option Addr) (c : Nat) (w : World) (hl : l.length ≤ 1048576) (hR : Rd w l A c) :
    Calls Tryz.prog 86 #[nv (T.mk 40 t n p l) A c] w fun e w' => e = .returned (.bool (childrenB (T.mk 40 t n p l))) ∧ Below w.heap.size w w' := by
  have HL := Lib.hid hl
  have HR := Lib.hid hR
  clear hR
  go_enter Tryz.func86, Tryz.ntmps86
  go_wp2_with fail
  refine (kinds_any l A c [-2, -1] _ 2 2 _ HL.out rfl (HR.out.keep two_below) (lit_two rfl)).mono ?_
  rintro e w1 ⟨rfl, hb⟩
  have HB1 := Lib.hid (below_then two_below (by rw [size_alloc, size_alloc]; omega) hb)
  clear hb
  go_wp2_with fail
  go_ret
  exact ⟨ret_bool (by simp [childrenB_mk]), HB1.out⟩

set_option maxRecDepth 100000 in
set_option maxHeartbeats 2000000 in
theorem listP_41 (t : ByteArray) (n p : Int) (l : List T) (A : Option Addr) (c : Nat) (w : World) (hl : l.length ≤ 1048576) (hR : Rd w l A c) :
    Calls Tryz.prog 86 #[nv (T.mk 41 t n p l) A c] w fun e w' => e = .returned (.bool (childrenB (T.mk 41 t n p l))) ∧ Below w.heap.size w w' := by
  have HL := Lib.hid hl
  have HR := Lib.hid hR
  clear hR
  go_enter Tryz.func86, Tryz.ntmps86
  go_wp2_with fail
  refine (kinds_any l A c [-1, -1] _ 2 2 _ HL.out rfl (HR.out.keep two_below) (lit_two rfl)).mono ?_
  rintro e w1 ⟨rfl, hb⟩
  have HB1 := Lib.hid (below_then two_below (by rw [size_alloc, size_alloc]; omega) hb)
  clear hb
  go_wp2_with fail
  go_ret
  exact ⟨ret_bool (by simp [childrenB_mk]), HB1.out⟩

set_option maxRecDepth 100000 in
set_option maxHeartbeats 2000000 in
theorem listP_44 (t : ByteArray) (n p : Int) (l : List T) (A : Option Addr) (c : Nat) (w : World) (hl : l.length ≤ 1048576) (hR : Rd w l A c) :
    Calls Tryz.prog 86 #[nv (T.mk 44 t n p l) A c] w fun e w' => e = .returned (.bool (childrenB (T.mk 44 t n p l))) ∧ Below w.heap.size w w' := by
  have HL := Lib.hid hl
  have HR := Lib.hid hR
  clear hR
  go_enter Tryz.func86, Tryz.ntmps86
  go_wp2_with fail
  refine (kinds_any l A c [-1, -1, 20] _ 3 3 _ HL.out rfl (HR.out.keep two_below) (lit_two rfl)).mono ?_
  rintro e w1 ⟨rfl, hb⟩
  have HB1 := Lib.hid (below_then two_below (by rw [size_alloc, size_alloc]; omega) hb)
  clear hb
  go_wp2_with fail
  go_ret
  exact ⟨ret_bool (by simp [childrenB_mk]), HB1.out⟩

set_option maxRecDepth 100000 in
set_option maxHeartbeats 2000000 in
theorem listP_45 (t : ByteArray) (n p : Int) (l : List T) (A : Option Addr) (c : Nat) (w : World) (hl : l.length ≤ 1048576) (hR : Rd w l A c) :
    Calls Tryz.prog 86 #[nv (T.mk 45 t n p l) A c] w fun e w' => e = .returned (.bool (childrenB (T.mk 45 t n p l))) ∧ Below w.heap.size w w' := by
  have HL := Lib.hid hl
  have HR := Lib.hid hR
  clear hR
  go_enter Tryz.func86, Tryz.ntmps86
  go_wp2_with fail
  refine (kinds_any l A c [20] _ 1 1 _ HL.out rfl (HR.out.keep two_below) (lit_two rfl)).mono ?_
  rintro e w1 ⟨rfl, hb⟩
  have HB1 := Lib.hid (below_then two_below (by rw [size_alloc, size_alloc]; omega) hb)
  clear hb
  go_wp2_with fail
  go_ret
  exact ⟨ret_bool (by simp [childrenB_mk]), HB1.out⟩

set_option maxRecDepth 100000 in
set_option maxHeartbeats 2000000 in
theorem listP_7 (t : ByteArray) (n p : Int) (l : List T) (A : Option Addr) (c : Nat) (w : World) (hl : l.length ≤ 1048576) (hR : Rd w l A c) :
    Calls Tryz.prog 86 #[nv (T.mk 7 t n p l) A c] w fun e w' => e = .returned (.bool (childrenB (T.mk 7 t n p l))) ∧ Below w.heap.size w w' := by
  have HL := Lib.hid hl
  have HR := Lib.hid hR
  clear hR
  by_cases hz : l.length = 0
  · have hz1 : ((l.length : Int) == 0) = true := by rw [hz]; rfl
    go_enter Tryz.func86, Tryz.ntmps86
    go_wp2_with fail
    go_ret
    exact ⟨ret_bool (by simp [childrenB_mk, hz]), one_below⟩
  · have hz1 : ((l.length : Int) == 0) = false := beq_eq_false_iff_ne.2 (by omega)
    have HZ := Lib.hid hz
    clear hz
    go_enter Tryz.func86, Tryz.ntmps86
    go_wp2_with fail
    refine (kinds_any l A c [-2] _ 1 1 _ HL.out rfl (HR.out.keep two_below) (lit_two rfl)).mono ?_
    rintro e w1 ⟨rfl, hb⟩
    have HB1 := Lib.hid (below_then two_below (by rw [size_alloc, size_alloc]; omega) hb)
    clear hb
    go_wp2_with fail
    go_ret
    exact ⟨ret_bool (by simp [childrenB_mk, HZ.out]), HB1.out⟩

set_option maxRecDepth 100000 in
set_option maxHeartbeats 2000000 in
theorem listP_28 (t : ByteArray) (n p : Int) (l : List T) (A : Option Addr) (c : Nat) (w : World) (hl : l.length ≤ 1048576) (hR : Rd w l A c) :
    Calls Tryz.prog 86 #[nv (T.mk 28 t n p l) A c] w fun e w' => e = .returned (.bool (childrenB (T.mk 28 t n p l))) ∧ Below w.heap.size w w' := by
  have HL := Lib.hid hl
  have HR := Lib.hid hR
  clear hR
  by_cases hz : l.length = 0
  · have hz1 : ((l.length : Int) == 0) = true := by rw [hz]; rfl
    go_enter Tryz.func86, Tryz.ntmps86
    go_wp2_with fail
    go_ret
    exact ⟨ret_bool (by simp [childrenB_mk, hz]), one_below⟩
  · have hz1 : ((l.length : Int) == 0) = false := beq_eq_false_iff_ne.2 (by omega)
    have HZ := Lib.hid hz
    clear hz
    go_enter Tryz.func86, Tryz.ntmps86
    go_wp2_with fail
    refine (kinds_any l A c [-1] _ 1 1 _ HL.out rfl (HR.out.keep two_below) (lit_two rfl)).mono ?_
    rintro e w1 ⟨rfl, hb⟩
    have HB1 := Lib.hid (below_then two_below (by rw [size_alloc, size_alloc]; omega) hb)
    clear hb
    go_wp2_with fail
    go_ret
    exact ⟨ret_bool (by simp [childrenB_mk, HZ.out]), HB1.out⟩

set_option maxRecDepth 100000 in
set_option maxHeartbeats 2000000 in
theorem listP_8 (t : ByteArray) (n p : Int) (l : List T) (A : Option Addr) (c : Nat) (w : World) (hl : l.length ≤ 1048576) (hR : Rd w l A c) :
    Calls Tryz.prog 86 #[nv (T.mk 8 t n p l) A c] w fun e w' => e = .returned (.bool (childrenB (T.mk 8 t n p l))) ∧ Below w.heap.size w w' := by
  have HL := Lib.hid hl
  have HR := Lib.hid hR
  clear hR
  go_enter Tryz.func86, Tryz.ntmps86
  go_wp2_with fail
  go_ret
  exact ⟨ret_bool (by rw [Bool.eq_iff_iff]; simp [childrenB_mk]; try omega), one_below⟩

set_option maxRecDepth 100000 in
set_option maxHeartbeats 2000000 in
theorem listP_10 (t : ByteArray) (n p : Int) (l : List T) (A : Option Addr) (c : Nat) (w : World) (hl : l.length ≤ 1048576) (hR : Rd w l A c) :
    Calls Tryz.prog 86 #[nv (T.mk 10 t n p l) A c] w fun e w' => e = .returned (.bool (childrenB (T.mk 10 t n p l))) ∧ Below w.heap.size w w' := by
  have HL := Lib.hid hl
  have HR := Lib.hid hR
  clear hR
  go_enter Tryz.func86, Tryz.ntmps86
  go_wp2_with fail
  go_ret
  exact ⟨ret_bool (by rw [Bool.eq_iff_iff]; simp [childrenB_mk]; try omega), one_below⟩

set_option maxRecDepth 100000 in
set_option maxHeartbeats 2000000 in
theorem listP_27 (t : ByteArray) (n p : Int) (l : List T) (A : Option Addr) (c : Nat) (w : World) (hl : l.length ≤ 1048576) (hR : Rd w l A c) :
    Calls Tryz.prog 86 #[nv (T.mk 27 t n p l) A c] w fun e w' => e = .returned (.bool (childrenB (T.mk 27 t n p l))) ∧ Below w.heap.size w w' := by
  have HL := Lib.hid hl
  have HR := Lib.hid hR
  clear hR
  go_enter Tryz.func86, Tryz.ntmps86
  go_wp2_with fail
  go_ret
  exact ⟨ret_bool (by rw [Bool.eq_iff_iff]; simp [childrenB_mk]; try omega), one_below⟩

set_option maxRecDepth 100000 in
set_option maxHeartbeats 2000000 in
theorem listP_30 (t : ByteArray) (n p : Int) (l : List T) (A : Option Addr) (c : Nat) (w : World) (hl : l.length ≤ 1048576) (hR : Rd w l A c) :
    Calls Tryz.prog 86 #[nv (T.mk 30 t n p l) A c] w fun e w' => e = .returned (.bool (childrenB (T.mk 30 t n p l))) ∧ Below w.heap.size w w' := by
  have HL := Lib.hid hl
  have HR := Lib.hid hR
  clear hR
  go_enter Tryz.func86, Tryz.ntmps86
  go_wp2_with fail
  go_ret
  exact ⟨ret_bool (by rw [Bool.eq_iff_iff]; simp [childrenB_mk]; try omega), one_below⟩

set_option maxRecDepth 100000 in
set_option maxHeartbeats 2000000 in
theorem listP_31 (t : ByteArray) (n p : Int) (l : List T) (A : Option Addr) (c : Nat) (w : World) (hl : l.length ≤ 1048576) (hR : Rd w l A c) :
    Calls Tryz.prog 86 #[nv (T.mk 31 t n p l) A c] w fun e w' => e = .returned (.bool (childrenB (T.mk 31 t n p l))) ∧ Below w.heap.size w w' := by
  have HL := Lib.hid hl
  have HR := Lib.hid hR
  clear hR
  go_enter Tryz.func86, Tryz.ntmps86
  go_wp2_with fail
  go_ret
  exact ⟨ret_bool (by rw [Bool.eq_iff_iff]; simp [childrenB_mk]; try omega), one_below⟩

set_option maxRecDepth 100000 in
set_option maxHeartbeats 2000000 in
theorem listP_32 (t : ByteArray) (n p : Int) (l : List T) (A : Option Addr) (c : Nat) (w : World) (hl : l.length ≤ 1048576) (hR : Rd w l A c) :
    Calls Tryz.prog 86 #[nv (T.mk 32 t n p l) A c] w fun e w' => e = .returned (.bool (childrenB (T.mk 32 t n p l))) ∧ Below w.heap.size w w' := by
  have HL := Lib.hid hl
  have HR := Lib.hid hR
  clear hR
  go_enter Tryz.func86, Tryz.ntmps86
  go_wp2_with fail
  go_ret
  exact ⟨ret_bool (by rw [Bool.eq_iff_iff]; simp [childrenB_mk]; try omega), one_below⟩

set_option maxRecDepth 100000 in
set_option maxHeartbeats 2000000 in
theorem listP_1 (t : ByteArray) (n p : Int) (l : List T) (A : Option Addr) (c : Nat) (w : World) (hl : l.length ≤ 1048576) (hR : Rd w l A c) :
    Calls Tryz.prog 86 #[nv (T.mk 1 t n p l) A c] w fun e w' => e = .returned (.bool (childrenB (T.mk 1 t n p l))) ∧ Below w.heap.size w w' := by
  have HL := Lib.hid hl
  have HR := Lib.hid hR
  clear hR
  go_enter Tryz.func86, Tryz.ntmps86
  go_wp2_with fail
  refine (all_p1 l A c _ HL.out (HR.out.keep one_below)).mono ?_
  rintro e w1 ⟨rfl, hb⟩
  have HB1 := Lib.hid (below_then one_below (by rw [size_alloc]; omega) hb)
  clear hb
  go_wp2_with fail
  go_ret
  exact ⟨ret_bool (by simp [childrenB_mk]), HB1.out⟩

set_option maxRecDepth 100000 in
set_option maxHeartbeats 2000000 in
theorem listP_20 (t : ByteArray) (n p : Int) (l : List T) (A : Option Addr) (c : Nat) (w : World) (hl : l.length ≤ 1048576) (hR : Rd w l A c) :
    Calls Tryz.prog 86 #[nv (T.mk 20 t n p l) A c] w fun e w' => e = .returned (.bool (childrenB (T.mk 20 t n p l))) ∧ Below w.heap.size w w' := by
  have HL := Lib.hid hl
  have HR := Lib.hid hR
  clear hR
  go_enter Tryz.func86, Tryz.ntmps86
  go_wp2_with fail
  refine (all_st l A c _ HL.out (HR.out.keep one_below)).mono ?_
  rintro e w1 ⟨rfl, hb⟩
  have HB1 := Lib.hid (below_then one_below (by rw [size_alloc]; omega) hb)
  clear hb
  go_wp2_with fail
  go_ret
  exact ⟨ret_bool (by simp [childrenB_mk]), HB1.out⟩

set_option maxRecDepth 100000 in
set_option maxHeartbeats 2000000 in
theorem listP_33 (t : ByteArray) (n p : Int) (l : List T) (A : Option Addr) (c : Nat) (w : World) (hl : l.length ≤ 1048576) (hR : Rd w l A c) (hT : l.length = 1 ∨ l.length = 2) :
    Calls Tryz.prog 86 #[nv (T.mk 33 t n p l) A c] w fun e w' => e = .returned (.bool (childrenB (T.mk 33 t n p l))) ∧ Below w.heap.size w w' := by
  have HL := Lib.hid hl
  have HR := Lib.hid hR
  have HT := Lib.hid hT
  clear hR hT
  go_enter Tryz.func86, Tryz.ntmps86
  go_wp2_with fail
  refine (all_ex l A c _ HL.out (HR.out.keep one_below)).mono ?_
  rintro e w1 ⟨rfl, hb⟩
  have HB1 := Lib.hid (below_then one_below (by rw [size_alloc]; omega) hb)
  clear hb
  go_wp2_with fail
  go_ret
  refine ⟨ret_bool ?_, HB1.out⟩
  rw [childrenB_mk]
  rcases HT.out with h | h
  · simp [kinds_one h, kindsB_len (l := l) (ws := [-1, -1]) (by rw [h]; decide)]
  · simp [kinds_two h, kindsB_len (l := l) (ws := [-1]) (by rw [h]; decide)]

set_option maxRecDepth 100000 in
set_option maxHeartbeats 2000000 in
theorem listP_2 (t : ByteArray) (n p : Int) (l : List T) (A : Option Addr) (c : Nat) (w : World) (hl : l.length ≤ 1048576) (hR : Rd w l A c) :
    Calls Tryz.prog 86 #[nv (T.mk 2 t n p l) A c] w fun e w' => e = .returned (.bool (childrenB (T.mk 2 t n p l))) ∧ Below w.heap.size w w' := by
  have HL := Lib.hid hl
  have HR := Lib.hid hR
  clear hR
  by_cases h16 : l.length ≤ 16
  · go_enter Tryz.func86, Tryz.ntmps86
    go_wp2_with fail
    refine (only_any _ _).mono ?_
    rintro e w1 ⟨rfl, rfl⟩
    go_wp2_with fail
    refine (all_on l A c _ 5 _ HL.out (HR.out.keep two_below) (by first | exact two_cell _ _ _ _ _ | exact cell_of_row _ _ 0 _ _ (0, 0) (heap_alloc_new _ _))).mono ?_
    rintro e w1 ⟨rfl, hb⟩
    have HB := Lib.hid (below_then two_below (by rw [size_alloc, size_alloc]; omega) hb)
    clear hb
    go_wp2_with fail
    go_ret
    exact ⟨ret_bool (by simp [childrenB_mk, h16]), HB.out⟩
  · go_enter Tryz.func86, Tryz.ntmps86
    go_wp2_with fail
    go_ret
    exact ⟨ret_bool (by simp [childrenB_mk, h16]), one_below⟩

set_option maxRecDepth 100000 in
set_option maxHeartbeats 2000000 in
theorem listP_6 (t : ByteArray) (n p : Int) (l : List T) (A : Option Addr) (c : Nat) (w : World) (hl : l.length ≤ 1048576) (hR : Rd w l A c) :
    Calls Tryz.prog 86 #[nv (T.mk 6 t n p l) A c] w fun e w' => e = .returned (.bool (childrenB (T.mk 6 t n p l))) ∧ Below w.heap.size w w' := by
  have HL := Lib.hid hl
  have HR := Lib.hid hR
  clear hR
  by_cases h16 : l.length ≤ 16
  · go_enter Tryz.func86, Tryz.ntmps86
    go_wp2_with fail
    refine (only_any _ _).mono ?_
    rintro e w1 ⟨rfl, rfl⟩
    go_wp2_with fail
    refine (all_on l A c _ 5 _ HL.out (HR.out.keep two_below) (by first | exact two_cell _ _ _ _ _ | exact cell_of_row _ _ 0 _ _ (0, 0) (heap_alloc_new _ _))).mono ?_
    rintro e w1 ⟨rfl, hb⟩
    have HB := Lib.hid (below_then two_below (by rw [size_alloc, size_alloc]; omega) hb)
    clear hb
    go_wp2_with fail
    go_ret
    exact ⟨ret_bool (by simp [childrenB_mk, h16]), HB.out⟩
  · go_enter Tryz.func86, Tryz.ntmps86
    go_wp2_with fail
    go_ret
    exact ⟨ret_bool (by simp [childrenB_mk, h16]), one_below⟩

set_option maxRecDepth 100000 in
set_option maxHeartbeats 2000000 in
theorem listP_4 (t : ByteArray) (n p : Int) (l : List T) (A : Option Addr) (c : Nat) (w : World) (hl : l.length ≤ 1048576) (hR : Rd w l A c) :
    Calls Tryz.prog 86 #[nv (T.mk 4 t n p l) A c] w fun e w' => e = .returned (.bool (childrenB (T.mk 4 t n p l))) ∧ Below w.heap.size w w' := by
  have HL := Lib.hid hl
  have HR := Lib.hid hR
  clear hR
  by_cases h16 : l.length ≤ 16
  · go_enter Tryz.func86, Tryz.ntmps86
    go_wp2_with fail
    refine (only_any _ _).mono ?_
    rintro e w1 ⟨rfl, rfl⟩
    go_wp2_with fail
    refine (all_on l A c _ 8 _ HL.out (HR.out.keep two_below) (by first | exact two_cell _ _ _ _ _ | exact cell_of_row _ _ 0 _ _ (0, 0) (heap_alloc_new _ _))).mono ?_
    rintro e w1 ⟨rfl, hb⟩
    have HB := Lib.hid (below_then two_below (by rw [size_alloc, size_alloc]; omega) hb)
    clear hb
    go_wp2_with fail
    go_ret
    exact ⟨ret_bool (by simp [childrenB_mk, h16]), HB.out⟩
  · go_enter Tryz.func86, Tryz.ntmps86
    go_wp2_with fail
    go_ret
    exact ⟨ret_bool (by simp [childrenB_mk, h16]), one_below⟩

set_option maxRecDepth 100000 in
set_option maxHeartbeats 2000000 in
theorem listP_37 (t : ByteArray) (n p : Int) (l : List T) (A : Option Addr) (c : Nat) (w : World) (hl : l.length ≤ 1048576) (hR : Rd w l A c) :
    Calls Tryz.prog 86 #[nv (T.mk 37 t n p l) A c] w fun e w' => e = .returned (.bool (childrenB (T.mk 37 t n p l))) ∧ Below w.heap.size w w' := by
  have HL := Lib.hid hl
  have HR := Lib.hid hR
  clear hR
  by_cases h16 : l.length ≤ 16
  · go_enter Tryz.func86, Tryz.ntmps86
    go_wp2_with fail
    refine (all_ex l A c _ HL.out (HR.out.keep one_below)).mono ?_
    rintro e w1 ⟨rfl, hb⟩
    have HB1 := Lib.hid (below_then one_below (by rw [size_alloc]; omega) hb)
    clear hb
    go_wp2_with fail
    go_ret
    exact ⟨ret_bool (by simp [childrenB_mk, h16]), HB1.out⟩
  · go_enter Tryz.func86, Tryz.ntmps86
    go_wp2_with fail
    go_ret
    exact ⟨ret_bool (by simp [childrenB_mk, h16]), one_below⟩

set_option maxRecDepth 100000 in
set_option maxHeartbeats 2000000 in
theorem listP_34 (t : ByteArray) (n p : Int) (l : List T) (A : Option Addr) (c : Nat) (w : World) (hl : l.length ≤ 1048576) (hR : Rd w l A c) :
    Calls Tryz.prog 86 #[nv (T.mk 34 t n p l) A c] w fun e w' => e = .returned (.bool (childrenB (T.mk 34 t n p l))) ∧ Below w.heap.size w w' := by
  have HL := Lib.hid hl
  have HR := Lib.hid hR
  clear hR
  by_cases h1 : 1 ≤ l.length
  · by_cases h17 : l.length ≤ 17
    · go_enter Tryz.func86, Tryz.ntmps86
      go_wp2_with fail
      refine (all_ex l A c _ HL.out (HR.out.keep one_below)).mono ?_
      rintro e w1 ⟨rfl, hb⟩
      have HB1 := Lib.hid (below_then one_below (by rw [size_alloc]; omega) hb)
      clear hb
      go_wp2_with fail
      go_ret
      exact ⟨ret_bool (by simp [childrenB_mk, h1, h17]), HB1.out⟩
    · go_enter Tryz.func86, Tryz.ntmps86
      go_wp2_with fail
      go_ret
      exact ⟨ret_bool (by simp [childrenB_mk, h17]), one_below⟩
  · go_enter Tryz.func86, Tryz.ntmps86
    go_wp2_with fail
    go_ret
    exact ⟨ret_bool (by simp [childrenB_mk, h1]), one_below⟩

set_option maxRecDepth 100000 in
set_option maxHeartbeats 2000000 in
theorem listP_13 (t : ByteArray) (n p : Int) (l : List T) (A : Option Addr) (c : Nat) (w : World) (hl : l.length ≤ 1048576) (hR : Rd w l A c) (hn : n = 0 ∨ n = 1) :
    Calls Tryz.prog 86 #[nv (T.mk 13 t n p l) A c] w fun e w' => e = .returned (.bool (childrenB (T.mk 13 t n p l))) ∧ Below w.heap.size w w' := by
  have HL := Lib.hid hl
  have HR := Lib.hid hR
  clear hR
  have hle : (l.length : Int) ≤ 1048576 := by omega
  rcases hn with rfl | rfl
  · by_cases h1 : 0 ≤ l.length
    · by_cases h17 : l.length ≤ 16
      · go_enter Tryz.func86, Tryz.ntmps86
        go_wp2_with fail
        refine (all_ty l A c _ HL.out (HR.out.keep one_below)).mono ?_
        rintro e w1 ⟨rfl, hb⟩
        have HB1 := Lib.hid (below_then one_below (by rw [size_alloc]; omega) hb)
        clear hb
        go_wp2_with fail
        go_ret
        exact ⟨ret_bool (by simp [childrenB_mk]; try omega), HB1.out⟩
      · go_enter Tryz.func86, Tryz.ntmps86
        go_wp2_with fail
        go_ret
        exact ⟨ret_bool (by simp [childrenB_mk]; try omega), one_below⟩
    · exact absurd (Nat.zero_le _) h1
  · by_cases h1 : 1 ≤ l.length
    · by_cases h17 : l.length ≤ 17
      · go_enter Tryz.func86, Tryz.ntmps86
        go_wp2_with fail
        refine (all_ty l A c _ HL.out (HR.out.keep one_below)).mono ?_
        rintro e w1 ⟨rfl, hb⟩
        have HB1 := Lib.hid (below_then one_below (by rw [size_alloc]; omega) hb)
        clear hb
        go_wp2_with fail
        go_ret
        exact ⟨ret_bool (by simp [childrenB_mk]; try omega), HB1.out⟩
      · go_enter Tryz.func86, Tryz.ntmps86
        go_wp2_with fail
        go_ret
        exact ⟨ret_bool (by simp [childrenB_mk]; try omega), one_below⟩
    · go_enter Tryz.func86, Tryz.ntmps86
      go_wp2_with fail
      go_ret
      exact ⟨ret_bool (by simp [childrenB_mk]; try omega), one_below⟩

set_option maxRecDepth 100000 in
set_option maxHeartbeats 2000000 in
theorem listP_42 (t : ByteArray) (n p : Int) (l : List T) (A : Option Addr) (c : Nat) (w : World) (hl : l.length ≤ 1048576) (hR : Rd w l A c) :
    Calls Tryz.prog 86 #[nv (T.mk 42 t n p l) A c] w fun e w' => e = .returned (.bool (childrenB (T.mk 42 t n p l))) ∧ Below w.heap.size w w' := by
  have HL := Lib.hid hl
  have HR := Lib.hid hR
  clear hR
  go_enter Tryz.func86, Tryz.ntmps86
  go_wp2_with fail
  refine (casesP_any l A c _ HL.out (HR.out.keep one_below)).mono ?_
  rintro e w1 ⟨rfl, hb⟩
  have HB1 := Lib.hid (below_then one_below (by rw [size_alloc]; omega) hb)
  clear hb
  go_wp2_with fail
  go_ret
  exact ⟨ret_bool (by simp [childrenB_mk]), HB1.out⟩

set_option maxRecDepth 100000 in
set_option maxHeartbeats 2000000 in
theorem listP_23 (t : ByteArray) (n p : Int) (l : List T) (A : Option Addr) (c : Nat) (w : World) (hl : l.length ≤ 1048576) (hR : Rd w l A c) :
    Calls Tryz.prog 86 #[nv (T.mk 23 t n p l) A c] w fun e w' => e = .returned (.bool (childrenB (T.mk 23 t n p l))) ∧ Below w.heap.size w w' := by
  have HL := Lib.hid hl
  have HR := Lib.hid hR
  clear hR
  go_enter Tryz.func86, Tryz.ntmps86
  go_wp2_with fail
  refine (kinds_any l A c [-1, -1] _ 2 2 _ HL.out rfl (HR.out.keep two_below) (lit_two rfl)).mono ?_
  rintro e w1 ⟨rfl, hb⟩
  have HB1 := Lib.hid (below_then two_below (by rw [size_alloc, size_alloc]; omega) hb)
  clear hb
  cases hk1 : kindsB l [-1, -1] with
  | false =>
    have HK := Lib.hid hk1
    clear hk1
    go_wp2_with fail
    go_ret
    exact ⟨ret_bool (by simp [childrenB_mk, HK.out]), HB1.out⟩
  | true =>
    have hlen : l.length = 2 := by
      by_cases h : l.length = 2
      · exact h
      · have := kindsB_len (ws := [-1, -1]) (by simpa using h); rw [this] at hk1; cases hk1
    obtain ⟨y, hy⟩ : ∃ y, l[0]? = some y := ⟨l[0]'(by omega), by simp⟩
    have hd := headD_at hy
    obtain ⟨b, o, A', c', rfl, hc, hr⟩ := HR.out.at_ hy
    have h0 := (hc.below (HB1.out.alloc HB1.out.size (.cells #[.int .i64 30, .int .i64 35, .int .i64 36] 3))).c0
    simp only [Nat.zero_mul, Nat.add_zero] at h0
    have HK := Lib.hid hk1
    have HD := Lib.hid hd
    clear hk1 hd hy hc hr
    go_wp2_with fail
    refine (Tryz.slices_Contains_int _ 0 3 3 [30, 35, 36] y.kind _ (by decide) (by decide) ?_).mono ?_
    · intro j hj
      have hj3 : j = 0 ∨ j = 1 ∨ j = 2 := by simp at hj; omega
      rcases hj3 with rfl | rfl | rfl <;> exact lit_one (ws := [30, 35, 36]) rfl _ _ rfl
    rintro e w2 ⟨rfl, rfl⟩
    go_wp2_with fail
    go_ret
    exact ⟨ret_bool (by simp [childrenB_mk, HK.out, HD.out, -List.headD_eq_head?_getD]), HB1.out.alloc HB1.out.size _⟩

theorem Rd.tail {w : World} {l : List T} {b o c : Nat} (h : Rd w l (some ⟨b, o, none⟩) c) (h1 : 1 ≤ l.length) : Rd w l.tail (some ⟨b, o + 5, none⟩) (c - 1) := by
  cases h with
  | mk l A c b' o' f g hc hA hcell hsub =>
    have hA := hA (by omega)
    simp only [Option.some.injEq, Addr.mk.injEq, and_true] at hA
    obtain ⟨rfl, rfl⟩ := hA
    refine .mk l.tail _ _ b (o + 5) (fun i => f (i + 1)) (fun i => g (i + 1)) (by rw [List.length_tail]; omega) (fun _ => rfl) (fun i x hx => ?_) (fun i x hx => ?_)
    · have := hcell (i + 1) x (by rw [← hx]; cases l <;> simp)
      rwa [show o + (i + 1) * 5 = o + 5 + i * 5 by omega] at this
    · exact hsub (i + 1) x (by rw [← hx]; cases l <;> simp)

set_option maxRecDepth 100000 in
set_option maxHeartbeats 2000000 in
theorem listP_36 (t : ByteArray) (n p : Int) (l : List T) (A : Option Addr) (c : Nat) (w : World) (hl : l.length ≤ 1048576) (hR : Rd w l A c) :
    Calls Tryz.prog 86 #[nv (T.mk 36 t n p l) A c] w fun e w' => e = .returned (.bool (childrenB (T.mk 36 t n p l))) ∧ Below w.heap.size w w' := by
  have HL := Lib.hid hl
  have HR := Lib.hid hR
  clear hR
  by_cases h2 : 2 ≤ l.length
  · by_cases h17 : l.length ≤ 17
    · obtain ⟨y, hy⟩ : ∃ y, l[0]? = some y := ⟨l[0]'(by omega), by simp⟩
      have hd := headD_at hy
      obtain ⟨b, o, A', c', rfl, hc, hr⟩ := HR.out.at_ hy
      have h0 := (hc.below (one_below (o1 := nbox (T.mk 36 t n p l) (some ⟨b, o, none⟩) c))).c0
      have h0 := (show (w.alloc (.cells #[.int .i64 36, .string t, .int .u64 n, .int .i64 p, .slice (some ⟨b, o, none⟩) l.length c] 25)).cell? ⟨b, o, none⟩ = some (.int .i64 y.kind) from by rw [Nat.zero_mul, Nat.add_zero] at h0; exact h0)
      have hcap := HR.out.len
      have HD := Lib.hid hd
      clear hd hy hc hr
      cases he : isExprB y.kind with
      | false =>
        have HX := Lib.hid he
        clear he
        go_enter Tryz.func86, Tryz.ntmps86
        go_wp2_with (go_at_call 47; refine (isExpr_any _ _).mono ?_; rintro e w' ⟨rfl, rfl⟩; rw [HX.out])
        go_ret
        exact ⟨ret_bool (by simp [childrenB_mk, HD.out, HX.out, -List.headD_eq_head?_getD]), one_below⟩
      | true =>
        have HX := Lib.hid he
        clear he
        go_enter Tryz.func86, Tryz.ntmps86
        go_wp2_with (go_at_call 47; refine (isExpr_any _ _).mono ?_; rintro e w' ⟨rfl, rfl⟩; rw [HX.out])
        have hall := all_ix l.tail (some ⟨b, o + 5, none⟩) (c - 1) (w.alloc (nbox (T.mk 36 t n p l) (some ⟨b, o, none⟩) c)) (by rw [List.length_tail]; omega) ((HR.out.keep one_below).tail (by omega))
        rw [List.length_tail] at hall
        refine hall.mono ?_
        rintro e w1 ⟨rfl, hb⟩
        have HB1 := Lib.hid (below_then one_below (by rw [size_alloc]; omega) hb)
        clear hb hall
        go_wp2_with fail
        go_ret
        exact ⟨ret_bool (by simp [childrenB_mk, h2, h17, HD.out, HX.out, -List.headD_eq_head?_getD]), HB1.out⟩
    · go_enter Tryz.func86, Tryz.ntmps86
      go_wp2_with fail
      go_ret
      exact ⟨ret_bool (by simp [childrenB_mk, h17]), one_below⟩
  · go_enter Tryz.func86, Tryz.ntmps86
    go_wp2_with fail
    go_ret
    exact ⟨ret_bool (by simp [childrenB_mk, h2]), one_below⟩

set_option maxRecDepth 100000 in
set_option maxHeartbeats 2000000 in
theorem listP_other (k : Int) (t : ByteArray) (n p : Int) (l : List T) (A : Option Addr) (c : Nat) (w : World) (k1 : ¬ k = 1) (k2 : ¬ k = 2) (k6 : ¬ k = 6) (k3 : ¬ k = 3) (k4 : ¬ k = 4) (k5 : ¬ k = 5) (k11 : ¬ k = 11) (k12 : ¬ k = 12) (k22 : ¬ k = 22) (k7 : ¬ k = 7) (k8 : ¬ k = 8) (k10 : ¬ k = 10) (k27 : ¬ k = 27) (k30 : ¬ k = 30) (k31 : ¬ k = 31) (k32 : ¬ k = 32) (k13 : ¬ k = 13) (k20 : ¬ k = 20) (k21 : ¬ k = 21) (k35 : ¬ k = 35) (k39 : ¬ k = 39) (k23 : ¬ k = 23) (k24 : ¬ k = 24) (k25 : ¬ k = 25) (k26 : ¬ k = 26) (k43 : ¬ k = 43) (k28 : ¬ k = 28) (k29 : ¬ k = 29) (k33 : ¬ k = 33) (k34 : ¬ k = 34) (k36 : ¬ k = 36) (k37 : ¬ k = 37) (k38 : ¬ k = 38) (k40 : ¬ k = 40) (k41 : ¬ k = 41) (k42 : ¬ k = 42) (k44 : ¬ k = 44) (k45 : ¬ k = 45) :
    Calls Tryz.prog 86 #[nv (T.mk k t n p l) A c] w fun e w' => e = .returned (.bool (childrenB (T.mk k t n p l))) ∧ Below w.heap.size w w' := by
  rw [childrenB_other k t n p l k1 k2 k6 k3 k4 k5 k11 k12 k22 k7 k8 k10 k27 k30 k31 k32 k13 k20 k21 k35 k39 k23 k24 k25 k26 k43 k28 k29 k33 k34 k36 k37 k38 k40 k41 k42 k44 k45]
  replace k1 : (k == 1) = false := by simpa using k1
  replace k2 : (k == 2) = false := by simpa using k2
  replace k6 : (k == 6) = false := by simpa using k6
  replace k3 : (k == 3) = false := by simpa using k3
  replace k4 : (k == 4) = false := by simpa using k4
  replace k5 : (k == 5) = false := by simpa using k5
  replace k11 : (k == 11) = false := by simpa using k11
  replace k12 : (k == 12) = false := by simpa using k12
  replace k22 : (k == 22) = false := by simpa using k22
  replace k7 : (k == 7) = false := by simpa using k7
  replace k8 : (k == 8) = false := by simpa using k8
  replace k10 : (k == 10) = false := by simpa using k10
  replace k27 : (k == 27) = false := by simpa using k27
  replace k30 : (k == 30) = false := by simpa using k30
  replace k31 : (k == 31) = false := by simpa using k31
  replace k32 : (k == 32) = false := by simpa using k32
  replace k13 : (k == 13) = false := by simpa using k13
  replace k20 : (k == 20) = false := by simpa using k20
  replace k21 : (k == 21) = false := by simpa using k21
  replace k35 : (k == 35) = false := by simpa using k35
  replace k39 : (k == 39) = false := by simpa using k39
  replace k23 : (k == 23) = false := by simpa using k23
  replace k24 : (k == 24) = false := by simpa using k24
  replace k25 : (k == 25) = false := by simpa using k25
  replace k26 : (k == 26) = false := by simpa using k26
  replace k43 : (k == 43) = false := by simpa using k43
  replace k28 : (k == 28) = false := by simpa using k28
  replace k29 : (k == 29) = false := by simpa using k29
  replace k33 : (k == 33) = false := by simpa using k33
  replace k34 : (k == 34) = false := by simpa using k34
  replace k36 : (k == 36) = false := by simpa using k36
  replace k37 : (k == 37) = false := by simpa using k37
  replace k38 : (k == 38) = false := by simpa using k38
  replace k40 : (k == 40) = false := by simpa using k40
  replace k41 : (k == 41) = false := by simpa using k41
  replace k42 : (k == 42) = false := by simpa using k42
  replace k44 : (k == 44) = false := by simpa using k44
  replace k45 : (k == 45) = false := by simpa using k45
  go_enter Tryz.func86, Tryz.ntmps86
  go_wp2_with fail
  all_goals (go_ret; exact ⟨rfl, one_below⟩)
theorem listP_any (x : T) (A : Option Addr) (c : Nat) (w : World) (hl : x.list.length ≤ 1048576) (hn : 0 ≤ x.num) (hlab : labelB x = true) (hR : Rd w x.list A c) :
    Calls Tryz.prog 86 #[nv x A c] w fun e w' => e = .returned (.bool (childrenB x)) ∧ Below w.heap.size w w' := by
  cases x with
  | mk k t n p l =>
    by_cases k1 : k = 1
    · subst k1
      exact listP_1 t n p l A c w hl hR
    by_cases k2 : k = 2
    · subst k2
      exact listP_2 t n p l A c w hl hR
    by_cases k6 : k = 6
    · subst k6
      exact listP_6 t n p l A c w hl hR
    by_cases k3 : k = 3
    · subst k3
      exact listP_3 t n p l A c w hl hR
    by_cases k4 : k = 4
    · subst k4
      exact listP_4 t n p l A c w hl hR
    by_cases k5 : k = 5
    · subst k5
      exact listP_5 t n p l A c w hl hR
    by_cases k11 : k = 11
    · subst k11
      exact listP_11 t n p l A c w hl hR
    by_cases k12 : k = 12
    · subst k12
      exact listP_12 t n p l A c w hl hR
    by_cases k22 : k = 22
    · subst k22
      exact listP_22 t n p l A c w hl hR
    by_cases k7 : k = 7
    · subst k7
      exact listP_7 t n p l A c w hl hR
    by_cases k8 : k = 8
    · subst k8
      exact listP_8 t n p l A c w hl hR
    by_cases k10 : k = 10
    · subst k10
      exact listP_10 t n p l A c w hl hR
    by_cases k27 : k = 27
    · subst k27
      exact listP_27 t n p l A c w hl hR
    by_cases k30 : k = 30
    · subst k30
      exact listP_30 t n p l A c w hl hR
    by_cases k31 : k = 31
    · subst k31
      exact listP_31 t n p l A c w hl hR
    by_cases k32 : k = 32
    · subst k32
      exact listP_32 t n p l A c w hl hR
    by_cases k13 : k = 13
    · subst k13
      have h1 : n ≤ 1 := by
        simp only [labelB, numB_mk, Bool.and_eq_true] at hlab
        simpa using hlab.2
      exact listP_13 t n p l A c w hl hR (by have : 0 ≤ n := hn; omega)
    by_cases k20 : k = 20
    · subst k20
      exact listP_20 t n p l A c w hl hR
    by_cases k21 : k = 21
    · subst k21
      exact listP_21 t n p l A c w hl hR
    by_cases k35 : k = 35
    · subst k35
      exact listP_35 t n p l A c w hl hR
    by_cases k39 : k = 39
    · subst k39
      exact listP_39 t n p l A c w hl hR
    by_cases k23 : k = 23
    · subst k23
      exact listP_23 t n p l A c w hl hR
    by_cases k24 : k = 24
    · subst k24
      exact listP_24 t n p l A c w hl hR
    by_cases k25 : k = 25
    · subst k25
      exact listP_25 t n p l A c w hl hR
    by_cases k26 : k = 26
    · subst k26
      exact listP_26 t n p l A c w hl hR
    by_cases k43 : k = 43
    · subst k43
      exact listP_43 t n p l A c w hl hR
    by_cases k28 : k = 28
    · subst k28
      exact listP_28 t n p l A c w hl hR
    by_cases k29 : k = 29
    · subst k29
      exact listP_29 t n p l A c w hl hR
    by_cases k33 : k = 33
    · subst k33
      have h1 : l.length = 1 ∨ l.length = 2 := by
        simp only [labelB, textB_mk, Bool.and_eq_true] at hlab
        have := hlab.1
        simp at this
        rcases this with h | h
        · exact .inl h.1
        · exact .inr h.1
      exact listP_33 t n p l A c w hl hR h1
    by_cases k34 : k = 34
    · subst k34
      exact listP_34 t n p l A c w hl hR
    by_cases k36 : k = 36
    · subst k36
      exact listP_36 t n p l A c w hl hR
    by_cases k37 : k = 37
    · subst k37
      exact listP_37 t n p l A c w hl hR
    by_cases k38 : k = 38
    · subst k38
      exact listP_38 t n p l A c w hl hR
    by_cases k40 : k = 40
    · subst k40
      exact listP_40 t n p l A c w hl hR
    by_cases k41 : k = 41
    · subst k41
      exact listP_41 t n p l A c w hl hR
    by_cases k42 : k = 42
    · subst k42
      exact listP_42 t n p l A c w hl hR
    by_cases k44 : k = 44
    · subst k44
      exact listP_44 t n p l A c w hl hR
    by_cases k45 : k = 45
    · subst k45
      exact listP_45 t n p l A c w hl hR
    exact listP_other k t n p l A c w k1 k2 k6 k3 k4 k5 k11 k12 k22 k7 k8 k10 k27 k30 k31 k32 k13 k20 k21 k35 k39 k23 k24 k25 k26 k43 k28 k29 k33 k34 k36 k37 k38 k40 k41 k42 k44 k45

end Go.Proofs.YtoemljgkofhhpaaGreatDoor
