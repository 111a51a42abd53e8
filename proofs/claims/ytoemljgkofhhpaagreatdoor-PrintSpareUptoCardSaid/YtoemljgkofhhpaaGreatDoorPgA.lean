import Derived.Test.YtoemljgkofhhpaaGreatDoorRight
namespace Go.Proofs.YtoemljgkofhhpaaGreatDoor
open Go.RowKit

theorem below_push {B : Nat} {w wr w1 : World} {o : Obj} (h : Below B w wr) (hB : B ≤ wr.heap.size) (hb : Below (wr.alloc o).heap.size (wr.alloc o) w1) : Below B w w1 :=
  below_then (h.alloc hB _) (by rw [size_alloc]; omega) hb
theorem size_le_of {B : Nat} {w wr : World} (h : Below B w wr) (hB : B ≤ w.heap.size) : B ≤ wr.heap.size := Nat.le_trans hB h.size

set_option maxRecDepth 100000 in
set_option maxHeartbeats 1000000 in
theorem sizeP_any (N : Nat) : ∀ (x : T) (A : Option Addr) (c : Nat) (w : World), x.size ≤ N → Rd w x.list A c → x.size ≤ 1048576 →
    Calls Tryz.prog 61 #[nv x A c] w fun e w' => e = .returned (.int .i64 x.size) ∧ Below w.heap.size w w' := by
  induction N with
  | zero => intro x A c w h; have := T.size_pos x; omega
  | succ N ih =>
    intro x A c w hN hR hs
    have hse := T.size_eq x
    have hll := T.length_le x.list
    have HSE := Lib.hid hse
    have IH := Lib.hid ih
    have HS := Lib.hid hs
    have HN := Lib.hid hN
    have HR := Lib.hid hR
    have hl8 : x.list.length ≤ 1048576 := by omega
    clear hR hN ih hse
    go_enter Tryz.func61, Tryz.ntmps61
    go_wp2_with fail
    go_loopw [3, 9] (fun k i wr => ∃ j : Nat, j ≤ x.list.length ∧ i = .int .i64 j ∧ k = .int .i64 ((1 + T.sizes (x.list.take j) : Nat) : Int) ∧ Below (w.heap.size + 1) (w.alloc (nbox x A c)) wr) (fun _ i _ => x.list.length - (intOf i).toNat)
    case atStart => exact ⟨0, Nat.zero_le _, rfl, by simp [T.sizes], Below.refl _ _⟩
    case round =>
      obtain ⟨j, hj, rfl, rfl, hB⟩ := hrel
      by_cases hlt : j < x.list.length
      · obtain ⟨y, hy⟩ : ∃ y, x.list[j]? = some y := ⟨x.list[j], by simp [hlt]⟩
        obtain ⟨b, o, A', c', rfl, hc, hr⟩ := HR.out.at_ hy
        have hc := hc.below (box_below hB)
        have h0 := hc.c0
        have h1 := hc.c1
        have h2 := hc.c2
        have h3 := hc.c3
        have h4 := hc.c4
        have hy1 := T.size_le hy
        have ht1 := T.sizes_take hy
        have ht2 := T.sizes_take_le x.list (j + 1)
        have hbnd : T.sizes (x.list.take j) + y.size ≤ 1048576 := by have := HSE.out; omega
        have HT := Lib.hid ht1
        have HR' := Lib.hid hr
        have HB := Lib.hid hB
        have HY := Lib.hid hy
        clear ht1 hr hB hc hy ht2
        go_wp2_with fail
        refine (IH.out y A' c' _ (by have := HSE.out; have := HN.out; omega) (HR'.out.keep ((box_below HB.out).alloc (by have := box_size HB.out; omega) _)) (by have := HSE.out; omega)).mono ?_
        rintro e w1 ⟨rfl, hb1⟩
        have HB1 := Lib.hid (below_push HB.out (box_size HB.out) hb1)
        clear hb1
        go_wp2_with fail
        go_roundw
        case rel => exact ⟨j + 1, by omega, by go_num, by rw [HT.out]; go_num, HB1.out⟩
        case measure => simp [intOf]; omega
      · have HB := Lib.hid hB
        clear hB
        go_wp2_with fail
        go_ret
        exact ⟨ret_int (by have : j = x.list.length := by omega
                           subst this; rw [HSE.out, List.take_length]), box_below HB.out⟩

set_option maxRecDepth 100000 in
set_option maxHeartbeats 2000000 in
theorem numberP_8 (t : ByteArray) (n p : Int) (l : List T) (A : Option Addr) (c : Nat) (w : World) :
    Calls Tryz.prog 85 #[nv (T.mk 8 t n p l) A c] w fun e w' => e = .returned (.bool (numB (T.mk 8 t n p l))) ∧ Below w.heap.size w w' := by
  by_cases h1 : 1 ≤ n
  · by_cases h3 : n ≤ 3
    · go_enter Tryz.func85, Tryz.ntmps85
      go_wp2_with fail
      go_ret
      exact ⟨ret_bool (by simp [numB_mk, h1, h3]), box_below (Below.refl _ _)⟩
    · go_enter Tryz.func85, Tryz.ntmps85
      go_wp2_with fail
      go_ret
      exact ⟨ret_bool (by simp [numB_mk, h1, h3]), box_below (Below.refl _ _)⟩
  · go_enter Tryz.func85, Tryz.ntmps85
    go_wp2_with fail
    go_ret
    exact ⟨ret_bool (by simp [numB_mk]; omega), box_below (Below.refl _ _)⟩

set_option maxRecDepth 100000 in
set_option maxHeartbeats 2000000 in
theorem numberP_13 (t : ByteArray) (n p : Int) (l : List T) (A : Option Addr) (c : Nat) (w : World) :
    Calls Tryz.prog 85 #[nv (T.mk 13 t n p l) A c] w fun e w' => e = .returned (.bool (numB (T.mk 13 t n p l))) ∧ Below w.heap.size w w' := by
  go_enter Tryz.func85, Tryz.ntmps85
  go_wp2_with fail
  go_ret
  exact ⟨ret_bool (by simp [numB_mk]), box_below (Below.refl _ _)⟩

set_option maxRecDepth 100000 in
set_option maxHeartbeats 2000000 in
theorem numberP_27 (t : ByteArray) (n p : Int) (l : List T) (A : Option Addr) (c : Nat) (w : World) :
    Calls Tryz.prog 85 #[nv (T.mk 27 t n p l) A c] w fun e w' => e = .returned (.bool (numB (T.mk 27 t n p l))) ∧ Below w.heap.size w w' := by
  go_enter Tryz.func85, Tryz.ntmps85
  go_wp2_with fail
  go_ret
  exact ⟨ret_bool (by simp [numB_mk]), box_below (Below.refl _ _)⟩

set_option maxRecDepth 100000 in
set_option maxHeartbeats 2000000 in
theorem numberP_29 (t : ByteArray) (n p : Int) (l : List T) (A : Option Addr) (c : Nat) (w : World) :
    Calls Tryz.prog 85 #[nv (T.mk 29 t n p l) A c] w fun e w' => e = .returned (.bool (numB (T.mk 29 t n p l))) ∧ Below w.heap.size w w' := by
  go_enter Tryz.func85, Tryz.ntmps85
  go_wp2_with fail
  go_ret
  exact ⟨ret_bool (by simp [numB_mk]), box_below (Below.refl _ _)⟩

set_option maxRecDepth 100000 in
set_option maxHeartbeats 2000000 in
theorem numberP_32 (t : ByteArray) (n p : Int) (l : List T) (A : Option Addr) (c : Nat) (w : World) :
    Calls Tryz.prog 85 #[nv (T.mk 32 t n p l) A c] w fun e w' => e = .returned (.bool (numB (T.mk 32 t n p l))) ∧ Below w.heap.size w w' := by
  go_enter Tryz.func85, Tryz.ntmps85
  go_wp2_with fail
  go_ret
  exact ⟨ret_bool (by simp [numB_mk]), box_below (Below.refl _ _)⟩

set_option maxRecDepth 100000 in
set_option maxHeartbeats 2000000 in
theorem numberP_31 (t : ByteArray) (n p : Int) (l : List T) (A : Option Addr) (c : Nat) (w : World) :
    Calls Tryz.prog 85 #[nv (T.mk 31 t n p l) A c] w fun e w' => e = .returned (.bool (numB (T.mk 31 t n p l))) ∧ Below w.heap.size w w' := by
  go_enter Tryz.func85, Tryz.ntmps85
  go_wp2_with fail
  go_ret
  exact ⟨ret_bool (by simp [numB_mk]), box_below (Below.refl _ _)⟩

theorem numB_other (k : Int) (t : ByteArray) (n p : Int) (l : List T) (k8 : (k == 8) = false) (k13 : (k == 13) = false) (k27 : (k == 27) = false) (k29 : (k == 29) = false) (k32 : (k == 32) = false) (k31 : (k == 31) = false) : numB (T.mk k t n p l) = (n == 0) := by
  have hc2 : [13, 27, 29, 32].contains k = false := by simp_all
  have a8 : ¬ k = 8 := by simpa using k8
  have a31 : ¬ k = 31 := by simpa using k31
  simp only [numB_mk, hc2, a8, a31, if_false, Bool.false_eq_true]

set_option maxRecDepth 100000 in
set_option maxHeartbeats 2000000 in
theorem numberP_other (k : Int) (t : ByteArray) (n p : Int) (l : List T) (A : Option Addr) (c : Nat) (w : World) (k8 : (k == 8) = false) (k13 : (k == 13) = false) (k27 : (k == 27) = false) (k29 : (k == 29) = false) (k32 : (k == 32) = false) (k31 : (k == 31) = false) :
    Calls Tryz.prog 85 #[nv (T.mk k t n p l) A c] w fun e w' => e = .returned (.bool (numB (T.mk k t n p l))) ∧ Below w.heap.size w w' := by
  have HK := Lib.hid (numB_other k t n p l k8 k13 k27 k29 k32 k31)
  go_enter Tryz.func85, Tryz.ntmps85
  go_wp2_with fail
  go_ret
  exact ⟨ret_bool (by rw [HK.out]), box_below (Below.refl _ _)⟩

theorem numberP_any (x : T) (A : Option Addr) (c : Nat) (w : World) :
    Calls Tryz.prog 85 #[nv x A c] w fun e w' => e = .returned (.bool (numB x)) ∧ Below w.heap.size w w' := by
  cases x with
  | mk k t n p l =>
    by_cases k8 : k = 8
    · subst k8
      exact numberP_8 t n p l A c w
    by_cases k13 : k = 13
    · subst k13
      exact numberP_13 t n p l A c w
    by_cases k27 : k = 27
    · subst k27
      exact numberP_27 t n p l A c w
    by_cases k29 : k = 29
    · subst k29
      exact numberP_29 t n p l A c w
    by_cases k32 : k = 32
    · subst k32
      exact numberP_32 t n p l A c w
    by_cases k31 : k = 31
    · subst k31
      exact numberP_31 t n p l A c w
    exact numberP_other k t n p l A c w (by simpa using k8) (by simpa using k13) (by simpa using k27) (by simpa using k29) (by simpa using k32) (by simpa using k31)


set_option maxRecDepth 100000 in
set_option maxHeartbeats 2000000 in
theorem textP_2 (t : ByteArray) (n p : Int) (l : List T) (A : Option Addr) (c : Nat) (w : World) (ht : t.size ≤ 9223372036854775807) (hE : Env w) :
    Calls Tryz.prog 84 #[nv (T.mk 2 t n p l) A c] w fun e w' => e = .returned (.bool (textB (T.mk 2 t n p l))) ∧ Below w.heap.size w w' := by
  have HT := Lib.hid ht
  have HE := Lib.hid hE
  clear ht hE
  go_enter Tryz.func84, Tryz.ntmps84
  go_wp2_with fail
  refine (nameP_any _ _ HT.out (HE.out.keep ((Below.refl _ _).alloc (Nat.le_refl _) _))).mono ?_
  rintro e w1 ⟨rfl, hb⟩
  have hB := box_after hb
  have HB := Lib.hid (box_below hB)
  clear hB hb
  go_wp2_with fail
  go_ret
  exact ⟨ret_bool (by simp [textB_mk]), HB.out⟩

set_option maxRecDepth 100000 in
set_option maxHeartbeats 2000000 in
theorem textP_3 (t : ByteArray) (n p : Int) (l : List T) (A : Option Addr) (c : Nat) (w : World) (ht : t.size ≤ 9223372036854775807) (hE : Env w) :
    Calls Tryz.prog 84 #[nv (T.mk 3 t n p l) A c] w fun e w' => e = .returned (.bool (textB (T.mk 3 t n p l))) ∧ Below w.heap.size w w' := by
  have HT := Lib.hid ht
  have HE := Lib.hid hE
  clear ht hE
  go_enter Tryz.func84, Tryz.ntmps84
  go_wp2_with fail
  refine (nameP_any _ _ HT.out (HE.out.keep ((Below.refl _ _).alloc (Nat.le_refl _) _))).mono ?_
  rintro e w1 ⟨rfl, hb⟩
  have hB := box_after hb
  have HB := Lib.hid (box_below hB)
  clear hB hb
  go_wp2_with fail
  go_ret
  exact ⟨ret_bool (by simp [textB_mk]), HB.out⟩

set_option maxRecDepth 100000 in
set_option maxHeartbeats 2000000 in
theorem textP_5 (t : ByteArray) (n p : Int) (l : List T) (A : Option Addr) (c : Nat) (w : World) (ht : t.size ≤ 9223372036854775807) (hE : Env w) :
    Calls Tryz.prog 84 #[nv (T.mk 5 t n p l) A c] w fun e w' => e = .returned (.bool (textB (T.mk 5 t n p l))) ∧ Below w.heap.size w w' := by
  have HT := Lib.hid ht
  have HE := Lib.hid hE
  clear ht hE
  go_enter Tryz.func84, Tryz.ntmps84
  go_wp2_with fail
  refine (nameP_any _ _ HT.out (HE.out.keep ((Below.refl _ _).alloc (Nat.le_refl _) _))).mono ?_
  rintro e w1 ⟨rfl, hb⟩
  have hB := box_after hb
  have HB := Lib.hid (box_below hB)
  clear hB hb
  go_wp2_with fail
  go_ret
  exact ⟨ret_bool (by simp [textB_mk]), HB.out⟩

set_option maxRecDepth 100000 in
set_option maxHeartbeats 2000000 in
theorem textP_8 (t : ByteArray) (n p : Int) (l : List T) (A : Option Addr) (c : Nat) (w : World) (ht : t.size ≤ 9223372036854775807) (hE : Env w) :
    Calls Tryz.prog 84 #[nv (T.mk 8 t n p l) A c] w fun e w' => e = .returned (.bool (textB (T.mk 8 t n p l))) ∧ Below w.heap.size w w' := by
  have HT := Lib.hid ht
  have HE := Lib.hid hE
  clear ht hE
  go_enter Tryz.func84, Tryz.ntmps84
  go_wp2_with fail
  refine (nameP_any _ _ HT.out (HE.out.keep ((Below.refl _ _).alloc (Nat.le_refl _) _))).mono ?_
  rintro e w1 ⟨rfl, hb⟩
  have hB := box_after hb
  have HB := Lib.hid (box_below hB)
  clear hB hb
  go_wp2_with fail
  go_ret
  exact ⟨ret_bool (by simp [textB_mk]), HB.out⟩

set_option maxRecDepth 100000 in
set_option maxHeartbeats 2000000 in
theorem textP_10 (t : ByteArray) (n p : Int) (l : List T) (A : Option Addr) (c : Nat) (w : World) (ht : t.size ≤ 9223372036854775807) (hE : Env w) :
    Calls Tryz.prog 84 #[nv (T.mk 10 t n p l) A c] w fun e w' => e = .returned (.bool (textB (T.mk 10 t n p l))) ∧ Below w.heap.size w w' := by
  have HT := Lib.hid ht
  have HE := Lib.hid hE
  clear ht hE
  go_enter Tryz.func84, Tryz.ntmps84
  go_wp2_with fail
  refine (nameP_any _ _ HT.out (HE.out.keep ((Below.refl _ _).alloc (Nat.le_refl _) _))).mono ?_
  rintro e w1 ⟨rfl, hb⟩
  have hB := box_after hb
  have HB := Lib.hid (box_below hB)
  clear hB hb
  go_wp2_with fail
  go_ret
  exact ⟨ret_bool (by simp [textB_mk]), HB.out⟩

set_option maxRecDepth 100000 in
set_option maxHeartbeats 2000000 in
theorem textP_21 (t : ByteArray) (n p : Int) (l : List T) (A : Option Addr) (c : Nat) (w : World) (ht : t.size ≤ 9223372036854775807) (hE : Env w) :
    Calls Tryz.prog 84 #[nv (T.mk 21 t n p l) A c] w fun e w' => e = .returned (.bool (textB (T.mk 21 t n p l))) ∧ Below w.heap.size w w' := by
  have HT := Lib.hid ht
  have HE := Lib.hid hE
  clear ht hE
  go_enter Tryz.func84, Tryz.ntmps84
  go_wp2_with fail
  refine (nameP_any _ _ HT.out (HE.out.keep ((Below.refl _ _).alloc (Nat.le_refl _) _))).mono ?_
  rintro e w1 ⟨rfl, hb⟩
  have hB := box_after hb
  have HB := Lib.hid (box_below hB)
  clear hB hb
  go_wp2_with fail
  go_ret
  exact ⟨ret_bool (by simp [textB_mk]), HB.out⟩

set_option maxRecDepth 100000 in
set_option maxHeartbeats 2000000 in
theorem textP_22 (t : ByteArray) (n p : Int) (l : List T) (A : Option Addr) (c : Nat) (w : World) (ht : t.size ≤ 9223372036854775807) (hE : Env w) :
    Calls Tryz.prog 84 #[nv (T.mk 22 t n p l) A c] w fun e w' => e = .returned (.bool (textB (T.mk 22 t n p l))) ∧ Below w.heap.size w w' := by
  have HT := Lib.hid ht
  have HE := Lib.hid hE
  clear ht hE
  go_enter Tryz.func84, Tryz.ntmps84
  go_wp2_with fail
  refine (nameP_any _ _ HT.out (HE.out.keep ((Below.refl _ _).alloc (Nat.le_refl _) _))).mono ?_
  rintro e w1 ⟨rfl, hb⟩
  have hB := box_after hb
  have HB := Lib.hid (box_below hB)
  clear hB hb
  go_wp2_with fail
  go_ret
  exact ⟨ret_bool (by simp [textB_mk]), HB.out⟩

set_option maxRecDepth 100000 in
set_option maxHeartbeats 2000000 in
theorem textP_30 (t : ByteArray) (n p : Int) (l : List T) (A : Option Addr) (c : Nat) (w : World) (ht : t.size ≤ 9223372036854775807) (hE : Env w) :
    Calls Tryz.prog 84 #[nv (T.mk 30 t n p l) A c] w fun e w' => e = .returned (.bool (textB (T.mk 30 t n p l))) ∧ Below w.heap.size w w' := by
  have HT := Lib.hid ht
  have HE := Lib.hid hE
  clear ht hE
  go_enter Tryz.func84, Tryz.ntmps84
  go_wp2_with fail
  refine (nameP_any _ _ HT.out (HE.out.keep ((Below.refl _ _).alloc (Nat.le_refl _) _))).mono ?_
  rintro e w1 ⟨rfl, hb⟩
  have hB := box_after hb
  have HB := Lib.hid (box_below hB)
  clear hB hb
  go_wp2_with fail
  go_ret
  exact ⟨ret_bool (by simp [textB_mk]), HB.out⟩

set_option maxRecDepth 100000 in
set_option maxHeartbeats 2000000 in
theorem textP_35 (t : ByteArray) (n p : Int) (l : List T) (A : Option Addr) (c : Nat) (w : World) (ht : t.size ≤ 9223372036854775807) (hE : Env w) :
    Calls Tryz.prog 84 #[nv (T.mk 35 t n p l) A c] w fun e w' => e = .returned (.bool (textB (T.mk 35 t n p l))) ∧ Below w.heap.size w w' := by
  have HT := Lib.hid ht
  have HE := Lib.hid hE
  clear ht hE
  go_enter Tryz.func84, Tryz.ntmps84
  go_wp2_with fail
  refine (nameP_any _ _ HT.out (HE.out.keep ((Below.refl _ _).alloc (Nat.le_refl _) _))).mono ?_
  rintro e w1 ⟨rfl, hb⟩
  have hB := box_after hb
  have HB := Lib.hid (box_below hB)
  clear hB hb
  go_wp2_with fail
  go_ret
  exact ⟨ret_bool (by simp [textB_mk]), HB.out⟩

set_option maxRecDepth 100000 in
set_option maxHeartbeats 2000000 in
theorem textP_37 (t : ByteArray) (n p : Int) (l : List T) (A : Option Addr) (c : Nat) (w : World) (ht : t.size ≤ 9223372036854775807) (hE : Env w) :
    Calls Tryz.prog 84 #[nv (T.mk 37 t n p l) A c] w fun e w' => e = .returned (.bool (textB (T.mk 37 t n p l))) ∧ Below w.heap.size w w' := by
  have HT := Lib.hid ht
  have HE := Lib.hid hE
  clear ht hE
  go_enter Tryz.func84, Tryz.ntmps84
  go_wp2_with fail
  refine (nameP_any _ _ HT.out (HE.out.keep ((Below.refl _ _).alloc (Nat.le_refl _) _))).mono ?_
  rintro e w1 ⟨rfl, hb⟩
  have hB := box_after hb
  have HB := Lib.hid (box_below hB)
  clear hB hb
  go_wp2_with fail
  go_ret
  exact ⟨ret_bool (by simp [textB_mk]), HB.out⟩

set_option maxRecDepth 100000 in
set_option maxHeartbeats 2000000 in
theorem textP_43 (t : ByteArray) (n p : Int) (l : List T) (A : Option Addr) (c : Nat) (w : World) (ht : t.size ≤ 9223372036854775807) (hE : Env w) :
    Calls Tryz.prog 84 #[nv (T.mk 43 t n p l) A c] w fun e w' => e = .returned (.bool (textB (T.mk 43 t n p l))) ∧ Below w.heap.size w w' := by
  have HT := Lib.hid ht
  have HE := Lib.hid hE
  clear ht hE
  cases he : emptyB t with
  | true =>
    obtain ⟨e1, e2⟩ := emptyB_true he
    have HM := Lib.hid he
    clear he
    go_enter Tryz.func84, Tryz.ntmps84
    go_wp2_with fail
    go_ret
    exact ⟨ret_bool (by simp [textB_mk, HM.out]), box_below (Below.refl _ _)⟩

  | false =>
    obtain ⟨e1, e2⟩ := emptyB_false he
    have HM := Lib.hid he
    clear he
    go_enter Tryz.func84, Tryz.ntmps84
    go_wp2_with fail
    refine (nameP_any _ _ HT.out (HE.out.keep ((Below.refl _ _).alloc (Nat.le_refl _) _))).mono ?_
    rintro e w1 ⟨rfl, hb⟩
    have hB := box_after hb
    have HB := Lib.hid (box_below hB)
    clear hB hb
    go_wp2_with fail
    go_ret
    exact ⟨ret_bool (by simp [textB_mk, HM.out]), HB.out⟩

theorem contains_unary (t : ByteArray) : Lib.containsS ([⟨#[45]⟩, ⟨#[94]⟩, ⟨#[33]⟩] : List ByteArray) t = unaryB t := by
  rw [Bool.eq_iff_iff, Lib.containsS_iff]
  simp only [List.mem_cons, List.not_mem_nil, or_false, unaryB, Bool.or_eq_true, beq_iff_eq]
  constructor
  · rintro (rfl | rfl | rfl) <;> simp [Lib.toList_data]
  · rintro (h | h | h)
    · exact .inl (ba_eq h)
    · exact .inr (.inl (ba_eq h))
    · exact .inr (.inr (ba_eq h))

theorem two_below {w : World} {o1 o2 : Obj} : Below w.heap.size w ((w.alloc o1).alloc o2) := ((Below.refl _ _).alloc (Nat.le_refl _) _).alloc (by rw [size_alloc]; omega) _

theorem one_below {w : World} {o1 : Obj} : Below w.heap.size w (w.alloc o1) := (Below.refl _ _).alloc (Nat.le_refl _) _
theorem two_cell (w : World) (o1 : Obj) (cs : Array Value) (n j : Nat) : ((w.alloc o1).alloc (.cells cs n)).cell? ⟨w.heap.size + 1, j, none⟩ = cs[j]? := by
  have h := cell_of_row ((w.alloc o1).alloc (.cells cs n)) (w.alloc o1).heap.size j cs n (0, 0) (heap_alloc_new _ _)
  rwa [size_alloc] at h

set_option maxRecDepth 100000 in
set_option maxHeartbeats 2000000 in
theorem textP_33 (t : ByteArray) (n p : Int) (l : List T) (A : Option Addr) (c : Nat) (w : World) (ht : t.size ≤ 9223372036854775807) (hE : Env w) :
    Calls Tryz.prog 84 #[nv (T.mk 33 t n p l) A c] w fun e w' => e = .returned (.bool (textB (T.mk 33 t n p l))) ∧ Below w.heap.size w w' := by
  have HT := Lib.hid ht
  have HE := Lib.hid hE
  clear ht hE
  by_cases hl : l.length = 1
  · have hl3 : ((l.length : Int) == 1) = true := by rw [hl]; rfl
    have hl4 : ((l.length : Int) == 2) = false := by rw [hl]; rfl
    go_enter Tryz.func84, Tryz.ntmps84
    go_wp2_with fail
    refine (Tryz.slices_Contains_string _ 0 3 3 [⟨#[45]⟩, ⟨#[94]⟩, ⟨#[33]⟩] t _ (by decide) (by decide) ?_).mono ?_
    · intro j hj
      have hj3 : j = 0 ∨ j = 1 ∨ j = 2 := by simp at hj; omega
      rcases hj3 with rfl | rfl | rfl <;> exact two_cell _ _ _ _ _
    rintro e w1 ⟨rfl, rfl⟩
    rw [show (List.take 3 [⟨#[45]⟩, ⟨#[94]⟩, ⟨#[33]⟩] : List ByteArray) = [⟨#[45]⟩, ⟨#[94]⟩, ⟨#[33]⟩] from rfl, contains_unary]
    cases hu : unaryB t with
    | true =>
      have HU := Lib.hid hu
      clear hu
      go_wp2_with fail
      go_ret
      exact ⟨ret_bool (by simp [textB_mk, hl, HU.out]), two_below⟩
    | false =>
      have HU := Lib.hid hu
      clear hu
      go_wp2_with fail
      go_ret
      exact ⟨ret_bool (by simp [textB_mk, hl, HU.out]), two_below⟩
  · by_cases ho : l.length = 2
    · have hl3 : ((l.length : Int) == 1) = false := by rw [ho]; rfl
      have hl4 : ((l.length : Int) == 2) = true := by rw [ho]; rfl
      obtain ⟨ob, oo, oc, ot, ofr, hops⟩ := HE.out.ops
      have HO := Lib.hid hops
      clear hops
      go_enter Tryz.func84, Tryz.ntmps84
      go_wp2_with fail
      refine (binds_any t _ ob oo oc ot ofr (HO.out.keep one_below)).mono ?_
      rintro e w1 ⟨rfl, rfl⟩
      go_wp2_with fail
      go_ret
      exact ⟨ret_bool (by simp [textB_mk, ho]), one_below⟩
    · have hl3 : ((l.length : Int) == 1) = false := beq_eq_false_iff_ne.2 (by omega)
      have hl4 : ((l.length : Int) == 2) = false := beq_eq_false_iff_ne.2 (by omega)
      go_enter Tryz.func84, Tryz.ntmps84
      go_wp2_with fail
      go_ret
      exact ⟨ret_bool (by simp [textB_mk, hl, ho]), one_below⟩

theorem textB_other (k : Int) (t : ByteArray) (n p : Int) (l : List T) (k2 : (k == 2) = false) (k3 : (k == 3) = false) (k5 : (k == 5) = false) (k8 : (k == 8) = false) (k10 : (k == 10) = false) (k21 : (k == 21) = false) (k22 : (k == 22) = false) (k30 : (k == 30) = false) (k35 : (k == 35) = false) (k37 : (k == 37) = false) (k43 : (k == 43) = false) (k33 : (k == 33) = false) : textB (T.mk k t n p l) = emptyB t := by
  have hc1 : [2, 3, 5, 8, 10, 21, 22, 30, 35, 37].contains k = false := by simp_all
  have a43 : ¬ k = 43 := by simpa using k43
  have a33 : ¬ k = 33 := by simpa using k33
  simp only [textB_mk, hc1, a43, a33, if_false, Bool.false_eq_true]

set_option maxRecDepth 100000 in
set_option maxHeartbeats 2000000 in
theorem textP_other (k : Int) (t : ByteArray) (n p : Int) (l : List T) (A : Option Addr) (c : Nat) (w : World) (k2 : (k == 2) = false) (k3 : (k == 3) = false) (k5 : (k == 5) = false) (k8 : (k == 8) = false) (k10 : (k == 10) = false) (k21 : (k == 21) = false) (k22 : (k == 22) = false) (k30 : (k == 30) = false) (k35 : (k == 35) = false) (k37 : (k == 37) = false) (k43 : (k == 43) = false) (k33 : (k == 33) = false) :
    Calls Tryz.prog 84 #[nv (T.mk k t n p l) A c] w fun e w' => e = .returned (.bool (textB (T.mk k t n p l))) ∧ Below w.heap.size w w' := by
  have HK := Lib.hid (textB_other k t n p l k2 k3 k5 k8 k10 k21 k22 k30 k35 k37 k43 k33)
  cases he : emptyB t with
  | true =>
    obtain ⟨e1, e2⟩ := emptyB_true he
    have HM := Lib.hid he
    clear he
    go_enter Tryz.func84, Tryz.ntmps84
    go_wp2_with fail
    go_ret
    exact ⟨ret_bool (by rw [HK.out, HM.out]), box_below (Below.refl _ _)⟩

  | false =>
    obtain ⟨e1, e2⟩ := emptyB_false he
    have HM := Lib.hid he
    clear he
    go_enter Tryz.func84, Tryz.ntmps84
    go_wp2_with fail
    go_ret
    exact ⟨ret_bool (by rw [HK.out, HM.out]), box_below (Below.refl _ _)⟩

theorem textP_any (x : T) (A : Option Addr) (c : Nat) (w : World) (ht : x.text.size ≤ 9223372036854775807) (hE : Env w) :
    Calls Tryz.prog 84 #[nv x A c] w fun e w' => e = .returned (.bool (textB x)) ∧ Below w.heap.size w w' := by
  cases x with
  | mk k t n p l =>
    by_cases k2 : k = 2
    · subst k2
      exact textP_2 t n p l A c w ht hE
    by_cases k3 : k = 3
    · subst k3
      exact textP_3 t n p l A c w ht hE
    by_cases k5 : k = 5
    · subst k5
      exact textP_5 t n p l A c w ht hE
    by_cases k8 : k = 8
    · subst k8
      exact textP_8 t n p l A c w ht hE
    by_cases k10 : k = 10
    · subst k10
      exact textP_10 t n p l A c w ht hE
    by_cases k21 : k = 21
    · subst k21
      exact textP_21 t n p l A c w ht hE
    by_cases k22 : k = 22
    · subst k22
      exact textP_22 t n p l A c w ht hE
    by_cases k30 : k = 30
    · subst k30
      exact textP_30 t n p l A c w ht hE
    by_cases k35 : k = 35
    · subst k35
      exact textP_35 t n p l A c w ht hE
    by_cases k37 : k = 37
    · subst k37
      exact textP_37 t n p l A c w ht hE
    by_cases k43 : k = 43
    · subst k43
      exact textP_43 t n p l A c w ht hE
    by_cases k33 : k = 33
    · subst k33
      exact textP_33 t n p l A c w ht hE
    exact textP_other k t n p l A c w (by simpa using k2) (by simpa using k3) (by simpa using k5) (by simpa using k8) (by simpa using k10) (by simpa using k21) (by simpa using k22) (by simpa using k30) (by simpa using k35) (by simpa using k37) (by simpa using k43) (by simpa using k33)

end Go.Proofs.YtoemljgkofhhpaaGreatDoor
