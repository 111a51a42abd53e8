import Derived.Test.YtoemljgkofhhpaaGreatDoorGood
namespace Go.Proofs.YtoemljgkofhhpaaGreatDoor
open Go.RowKit

theorem emptyB_true {t : ByteArray} (h : emptyB t = true) : t.toList.isEmpty = true ∧ t.toList = [] := by
  have : t.toList = [] := by simpa [emptyB] using h
  exact ⟨by rw [this]; rfl, this⟩
theorem emptyB_false {t : ByteArray} (h : emptyB t = false) : t.toList.isEmpty = false ∧ (t.toList == []) = false := by
  have : (t.toList == []) = false := h
  have h2 : t.toList ≠ [] := by simpa using this
  exact ⟨by cases h : t.toList <;> simp_all, this⟩

set_option maxRecDepth 100000 in
set_option maxHeartbeats 2000000 in
theorem labelR_2 (t : ByteArray) (n p : Int) (l : List T) (A : Option Addr) (c : Nat) (w : World) (ht : t.size ≤ 9223372036854775807) :
    Calls Tryz.prog 69 #[nv (T.mk 2 t n p l) A c] w fun e w' => e = .returned (.bool (labelB (T.mk 2 t n p l))) ∧ Below w.heap.size w w' := by
  have HT := Lib.hid ht
  clear ht
  by_cases hz : n = 0
  · subst hz
    cases hn : nameB t with
    | true =>
      have HN := Lib.hid hn
      clear hn
      go_enter Tryz.func69, Tryz.ntmps69
      go_wp2_with fail
      refine (nameR_any _ _ HT.out).mono ?_
      rintro e w1 ⟨rfl, hb⟩
      have hB := box_after hb
      obtain ⟨g0, g1, g2, g3, g4⟩ := box_raw hB
      have HB := Lib.hid (box_below hB)
      clear hB hb g3
      rw [HN.out]
      go_wp2_with fail
      go_ret
      exact ⟨ret_bool (by simp [labelB, textB_mk, numB_mk, HN.out]), HB.out⟩
    | false =>
      have HN := Lib.hid hn
      clear hn
      go_enter Tryz.func69, Tryz.ntmps69
      go_wp2_with fail
      refine (nameR_any _ _ HT.out).mono ?_
      rintro e w1 ⟨rfl, hb⟩
      have hB := box_after hb
      obtain ⟨g0, g1, g2, g3, g4⟩ := box_raw hB
      have HB := Lib.hid (box_below hB)
      clear hB hb g3
      rw [HN.out]
      go_wp2_with fail
      go_ret
      exact ⟨ret_bool (by simp [labelB, textB_mk, numB_mk, HN.out]), HB.out⟩

  · have hz1 : (n == 0) = false := by simpa using hz
    cases hn : nameB t with
    | true =>
      have HN := Lib.hid hn
      clear hn
      go_enter Tryz.func69, Tryz.ntmps69
      go_wp2_with fail
      refine (nameR_any _ _ HT.out).mono ?_
      rintro e w1 ⟨rfl, hb⟩
      have hB := box_after hb
      obtain ⟨g0, g1, g2, g3, g4⟩ := box_raw hB
      have HB := Lib.hid (box_below hB)
      clear hB hb g3
      rw [HN.out]
      go_wp2_with fail
      go_ret
      exact ⟨ret_bool (by simp [labelB, textB_mk, numB_mk, HN.out, hz1]), HB.out⟩
    | false =>
      have HN := Lib.hid hn
      clear hn
      go_enter Tryz.func69, Tryz.ntmps69
      go_wp2_with fail
      refine (nameR_any _ _ HT.out).mono ?_
      rintro e w1 ⟨rfl, hb⟩
      have hB := box_after hb
      obtain ⟨g0, g1, g2, g3, g4⟩ := box_raw hB
      have HB := Lib.hid (box_below hB)
      clear hB hb g3
      rw [HN.out]
      go_wp2_with fail
      go_ret
      exact ⟨ret_bool (by simp [labelB, textB_mk, numB_mk, HN.out, hz1]), HB.out⟩


set_option maxRecDepth 100000 in
set_option maxHeartbeats 2000000 in
theorem labelR_3 (t : ByteArray) (n p : Int) (l : List T) (A : Option Addr) (c : Nat) (w : World) (ht : t.size ≤ 9223372036854775807) :
    Calls Tryz.prog 69 #[nv (T.mk 3 t n p l) A c] w fun e w' => e = .returned (.bool (labelB (T.mk 3 t n p l))) ∧ Below w.heap.size w w' := by
  have HT := Lib.hid ht
  clear ht
  by_cases hz : n = 0
  · subst hz
    cases hn : nameB t with
    | true =>
      have HN := Lib.hid hn
      clear hn
      go_enter Tryz.func69, Tryz.ntmps69
      go_wp2_with fail
      refine (nameR_any _ _ HT.out).mono ?_
      rintro e w1 ⟨rfl, hb⟩
      have hB := box_after hb
      obtain ⟨g0, g1, g2, g3, g4⟩ := box_raw hB
      have HB := Lib.hid (box_below hB)
      clear hB hb g3
      rw [HN.out]
      go_wp2_with fail
      go_ret
      exact ⟨ret_bool (by simp [labelB, textB_mk, numB_mk, HN.out]), HB.out⟩
    | false =>
      have HN := Lib.hid hn
      clear hn
      go_enter Tryz.func69, Tryz.ntmps69
      go_wp2_with fail
      refine (nameR_any _ _ HT.out).mono ?_
      rintro e w1 ⟨rfl, hb⟩
      have hB := box_after hb
      obtain ⟨g0, g1, g2, g3, g4⟩ := box_raw hB
      have HB := Lib.hid (box_below hB)
      clear hB hb g3
      rw [HN.out]
      go_wp2_with fail
      go_ret
      exact ⟨ret_bool (by simp [labelB, textB_mk, numB_mk, HN.out]), HB.out⟩

  · have hz1 : (n == 0) = false := by simpa using hz
    cases hn : nameB t with
    | true =>
      have HN := Lib.hid hn
      clear hn
      go_enter Tryz.func69, Tryz.ntmps69
      go_wp2_with fail
      refine (nameR_any _ _ HT.out).mono ?_
      rintro e w1 ⟨rfl, hb⟩
      have hB := box_after hb
      obtain ⟨g0, g1, g2, g3, g4⟩ := box_raw hB
      have HB := Lib.hid (box_below hB)
      clear hB hb g3
      rw [HN.out]
      go_wp2_with fail
      go_ret
      exact ⟨ret_bool (by simp [labelB, textB_mk, numB_mk, HN.out, hz1]), HB.out⟩
    | false =>
      have HN := Lib.hid hn
      clear hn
      go_enter Tryz.func69, Tryz.ntmps69
      go_wp2_with fail
      refine (nameR_any _ _ HT.out).mono ?_
      rintro e w1 ⟨rfl, hb⟩
      have hB := box_after hb
      obtain ⟨g0, g1, g2, g3, g4⟩ := box_raw hB
      have HB := Lib.hid (box_below hB)
      clear hB hb g3
      rw [HN.out]
      go_wp2_with fail
      go_ret
      exact ⟨ret_bool (by simp [labelB, textB_mk, numB_mk, HN.out, hz1]), HB.out⟩


set_option maxRecDepth 100000 in
set_option maxHeartbeats 2000000 in
theorem labelR_5 (t : ByteArray) (n p : Int) (l : List T) (A : Option Addr) (c : Nat) (w : World) (ht : t.size ≤ 9223372036854775807) :
    Calls Tryz.prog 69 #[nv (T.mk 5 t n p l) A c] w fun e w' => e = .returned (.bool (labelB (T.mk 5 t n p l))) ∧ Below w.heap.size w w' := by
  have HT := Lib.hid ht
  clear ht
  by_cases hz : n = 0
  · subst hz
    cases hn : nameB t with
    | true =>
      have HN := Lib.hid hn
      clear hn
      go_enter Tryz.func69, Tryz.ntmps69
      go_wp2_with fail
      refine (nameR_any _ _ HT.out).mono ?_
      rintro e w1 ⟨rfl, hb⟩
      have hB := box_after hb
      obtain ⟨g0, g1, g2, g3, g4⟩ := box_raw hB
      have HB := Lib.hid (box_below hB)
      clear hB hb g3
      rw [HN.out]
      go_wp2_with fail
      go_ret
      exact ⟨ret_bool (by simp [labelB, textB_mk, numB_mk, HN.out]), HB.out⟩
    | false =>
      have HN := Lib.hid hn
      clear hn
      go_enter Tryz.func69, Tryz.ntmps69
      go_wp2_with fail
      refine (nameR_any _ _ HT.out).mono ?_
      rintro e w1 ⟨rfl, hb⟩
      have hB := box_after hb
      obtain ⟨g0, g1, g2, g3, g4⟩ := box_raw hB
      have HB := Lib.hid (box_below hB)
      clear hB hb g3
      rw [HN.out]
      go_wp2_with fail
      go_ret
      exact ⟨ret_bool (by simp [labelB, textB_mk, numB_mk, HN.out]), HB.out⟩

  · have hz1 : (n == 0) = false := by simpa using hz
    cases hn : nameB t with
    | true =>
      have HN := Lib.hid hn
      clear hn
      go_enter Tryz.func69, Tryz.ntmps69
      go_wp2_with fail
      refine (nameR_any _ _ HT.out).mono ?_
      rintro e w1 ⟨rfl, hb⟩
      have hB := box_after hb
      obtain ⟨g0, g1, g2, g3, g4⟩ := box_raw hB
      have HB := Lib.hid (box_below hB)
      clear hB hb g3
      rw [HN.out]
      go_wp2_with fail
      go_ret
      exact ⟨ret_bool (by simp [labelB, textB_mk, numB_mk, HN.out, hz1]), HB.out⟩
    | false =>
      have HN := Lib.hid hn
      clear hn
      go_enter Tryz.func69, Tryz.ntmps69
      go_wp2_with fail
      refine (nameR_any _ _ HT.out).mono ?_
      rintro e w1 ⟨rfl, hb⟩
      have hB := box_after hb
      obtain ⟨g0, g1, g2, g3, g4⟩ := box_raw hB
      have HB := Lib.hid (box_below hB)
      clear hB hb g3
      rw [HN.out]
      go_wp2_with fail
      go_ret
      exact ⟨ret_bool (by simp [labelB, textB_mk, numB_mk, HN.out, hz1]), HB.out⟩


set_option maxRecDepth 100000 in
set_option maxHeartbeats 2000000 in
theorem labelR_10 (t : ByteArray) (n p : Int) (l : List T) (A : Option Addr) (c : Nat) (w : World) (ht : t.size ≤ 9223372036854775807) :
    Calls Tryz.prog 69 #[nv (T.mk 10 t n p l) A c] w fun e w' => e = .returned (.bool (labelB (T.mk 10 t n p l))) ∧ Below w.heap.size w w' := by
  have HT := Lib.hid ht
  clear ht
  by_cases hz : n = 0
  · subst hz
    cases hn : nameB t with
    | true =>
      have HN := Lib.hid hn
      clear hn
      go_enter Tryz.func69, Tryz.ntmps69
      go_wp2_with fail
      refine (nameR_any _ _ HT.out).mono ?_
      rintro e w1 ⟨rfl, hb⟩
      have hB := box_after hb
      obtain ⟨g0, g1, g2, g3, g4⟩ := box_raw hB
      have HB := Lib.hid (box_below hB)
      clear hB hb g3
      rw [HN.out]
      go_wp2_with fail
      go_ret
      exact ⟨ret_bool (by simp [labelB, textB_mk, numB_mk, HN.out]), HB.out⟩
    | false =>
      have HN := Lib.hid hn
      clear hn
      go_enter Tryz.func69, Tryz.ntmps69
      go_wp2_with fail
      refine (nameR_any _ _ HT.out).mono ?_
      rintro e w1 ⟨rfl, hb⟩
      have hB := box_after hb
      obtain ⟨g0, g1, g2, g3, g4⟩ := box_raw hB
      have HB := Lib.hid (box_below hB)
      clear hB hb g3
      rw [HN.out]
      go_wp2_with fail
      go_ret
      exact ⟨ret_bool (by simp [labelB, textB_mk, numB_mk, HN.out]), HB.out⟩

  · have hz1 : (n == 0) = false := by simpa using hz
    cases hn : nameB t with
    | true =>
      have HN := Lib.hid hn
      clear hn
      go_enter Tryz.func69, Tryz.ntmps69
      go_wp2_with fail
      refine (nameR_any _ _ HT.out).mono ?_
      rintro e w1 ⟨rfl, hb⟩
      have hB := box_after hb
      obtain ⟨g0, g1, g2, g3, g4⟩ := box_raw hB
      have HB := Lib.hid (box_below hB)
      clear hB hb g3
      rw [HN.out]
      go_wp2_with fail
      go_ret
      exact ⟨ret_bool (by simp [labelB, textB_mk, numB_mk, HN.out, hz1]), HB.out⟩
    | false =>
      have HN := Lib.hid hn
      clear hn
      go_enter Tryz.func69, Tryz.ntmps69
      go_wp2_with fail
      refine (nameR_any _ _ HT.out).mono ?_
      rintro e w1 ⟨rfl, hb⟩
      have hB := box_after hb
      obtain ⟨g0, g1, g2, g3, g4⟩ := box_raw hB
      have HB := Lib.hid (box_below hB)
      clear hB hb g3
      rw [HN.out]
      go_wp2_with fail
      go_ret
      exact ⟨ret_bool (by simp [labelB, textB_mk, numB_mk, HN.out, hz1]), HB.out⟩


set_option maxRecDepth 100000 in
set_option maxHeartbeats 2000000 in
theorem labelR_21 (t : ByteArray) (n p : Int) (l : List T) (A : Option Addr) (c : Nat) (w : World) (ht : t.size ≤ 9223372036854775807) :
    Calls Tryz.prog 69 #[nv (T.mk 21 t n p l) A c] w fun e w' => e = .returned (.bool (labelB (T.mk 21 t n p l))) ∧ Below w.heap.size w w' := by
  have HT := Lib.hid ht
  clear ht
  by_cases hz : n = 0
  · subst hz
    cases hn : nameB t with
    | true =>
      have HN := Lib.hid hn
      clear hn
      go_enter Tryz.func69, Tryz.ntmps69
      go_wp2_with fail
      refine (nameR_any _ _ HT.out).mono ?_
      rintro e w1 ⟨rfl, hb⟩
      have hB := box_after hb
      obtain ⟨g0, g1, g2, g3, g4⟩ := box_raw hB
      have HB := Lib.hid (box_below hB)
      clear hB hb g3
      rw [HN.out]
      go_wp2_with fail
      go_ret
      exact ⟨ret_bool (by simp [labelB, textB_mk, numB_mk, HN.out]), HB.out⟩
    | false =>
      have HN := Lib.hid hn
      clear hn
      go_enter Tryz.func69, Tryz.ntmps69
      go_wp2_with fail
      refine (nameR_any _ _ HT.out).mono ?_
      rintro e w1 ⟨rfl, hb⟩
      have hB := box_after hb
      obtain ⟨g0, g1, g2, g3, g4⟩ := box_raw hB
      have HB := Lib.hid (box_below hB)
      clear hB hb g3
      rw [HN.out]
      go_wp2_with fail
      go_ret
      exact ⟨ret_bool (by simp [labelB, textB_mk, numB_mk, HN.out]), HB.out⟩

  · have hz1 : (n == 0) = false := by simpa using hz
    cases hn : nameB t with
    | true =>
      have HN := Lib.hid hn
      clear hn
      go_enter Tryz.func69, Tryz.ntmps69
      go_wp2_with fail
      refine (nameR_any _ _ HT.out).mono ?_
      rintro e w1 ⟨rfl, hb⟩
      have hB := box_after hb
      obtain ⟨g0, g1, g2, g3, g4⟩ := box_raw hB
      have HB := Lib.hid (box_below hB)
      clear hB hb g3
      rw [HN.out]
      go_wp2_with fail
      go_ret
      exact ⟨ret_bool (by simp [labelB, textB_mk, numB_mk, HN.out, hz1]), HB.out⟩
    | false =>
      have HN := Lib.hid hn
      clear hn
      go_enter Tryz.func69, Tryz.ntmps69
      go_wp2_with fail
      refine (nameR_any _ _ HT.out).mono ?_
      rintro e w1 ⟨rfl, hb⟩
      have hB := box_after hb
      obtain ⟨g0, g1, g2, g3, g4⟩ := box_raw hB
      have HB := Lib.hid (box_below hB)
      clear hB hb g3
      rw [HN.out]
      go_wp2_with fail
      go_ret
      exact ⟨ret_bool (by simp [labelB, textB_mk, numB_mk, HN.out, hz1]), HB.out⟩


set_option maxRecDepth 100000 in
set_option maxHeartbeats 2000000 in
theorem labelR_22 (t : ByteArray) (n p : Int) (l : List T) (A : Option Addr) (c : Nat) (w : World) (ht : t.size ≤ 9223372036854775807) :
    Calls Tryz.prog 69 #[nv (T.mk 22 t n p l) A c] w fun e w' => e = .returned (.bool (labelB (T.mk 22 t n p l))) ∧ Below w.heap.size w w' := by
  have HT := Lib.hid ht
  clear ht
  by_cases hz : n = 0
  · subst hz
    cases hn : nameB t with
    | true =>
      have HN := Lib.hid hn
      clear hn
      go_enter Tryz.func69, Tryz.ntmps69
      go_wp2_with fail
      refine (nameR_any _ _ HT.out).mono ?_
      rintro e w1 ⟨rfl, hb⟩
      have hB := box_after hb
      obtain ⟨g0, g1, g2, g3, g4⟩ := box_raw hB
      have HB := Lib.hid (box_below hB)
      clear hB hb g3
      rw [HN.out]
      go_wp2_with fail
      go_ret
      exact ⟨ret_bool (by simp [labelB, textB_mk, numB_mk, HN.out]), HB.out⟩
    | false =>
      have HN := Lib.hid hn
      clear hn
      go_enter Tryz.func69, Tryz.ntmps69
      go_wp2_with fail
      refine (nameR_any _ _ HT.out).mono ?_
      rintro e w1 ⟨rfl, hb⟩
      have hB := box_after hb
      obtain ⟨g0, g1, g2, g3, g4⟩ := box_raw hB
      have HB := Lib.hid (box_below hB)
      clear hB hb g3
      rw [HN.out]
      go_wp2_with fail
      go_ret
      exact ⟨ret_bool (by simp [labelB, textB_mk, numB_mk, HN.out]), HB.out⟩

  · have hz1 : (n == 0) = false := by simpa using hz
    cases hn : nameB t with
    | true =>
      have HN := Lib.hid hn
      clear hn
      go_enter Tryz.func69, Tryz.ntmps69
      go_wp2_with fail
      refine (nameR_any _ _ HT.out).mono ?_
      rintro e w1 ⟨rfl, hb⟩
      have hB := box_after hb
      obtain ⟨g0, g1, g2, g3, g4⟩ := box_raw hB
      have HB := Lib.hid (box_below hB)
      clear hB hb g3
      rw [HN.out]
      go_wp2_with fail
      go_ret
      exact ⟨ret_bool (by simp [labelB, textB_mk, numB_mk, HN.out, hz1]), HB.out⟩
    | false =>
      have HN := Lib.hid hn
      clear hn
      go_enter Tryz.func69, Tryz.ntmps69
      go_wp2_with fail
      refine (nameR_any _ _ HT.out).mono ?_
      rintro e w1 ⟨rfl, hb⟩
      have hB := box_after hb
      obtain ⟨g0, g1, g2, g3, g4⟩ := box_raw hB
      have HB := Lib.hid (box_below hB)
      clear hB hb g3
      rw [HN.out]
      go_wp2_with fail
      go_ret
      exact ⟨ret_bool (by simp [labelB, textB_mk, numB_mk, HN.out, hz1]), HB.out⟩


set_option maxRecDepth 100000 in
set_option maxHeartbeats 2000000 in
theorem labelR_30 (t : ByteArray) (n p : Int) (l : List T) (A : Option Addr) (c : Nat) (w : World) (ht : t.size ≤ 9223372036854775807) :
    Calls Tryz.prog 69 #[nv (T.mk 30 t n p l) A c] w fun e w' => e = .returned (.bool (labelB (T.mk 30 t n p l))) ∧ Below w.heap.size w w' := by
  have HT := Lib.hid ht
  clear ht
  by_cases hz : n = 0
  · subst hz
    cases hn : nameB t with
    | true =>
      have HN := Lib.hid hn
      clear hn
      go_enter Tryz.func69, Tryz.ntmps69
      go_wp2_with fail
      refine (nameR_any _ _ HT.out).mono ?_
      rintro e w1 ⟨rfl, hb⟩
      have hB := box_after hb
      obtain ⟨g0, g1, g2, g3, g4⟩ := box_raw hB
      have HB := Lib.hid (box_below hB)
      clear hB hb g3
      rw [HN.out]
      go_wp2_with fail
      go_ret
      exact ⟨ret_bool (by simp [labelB, textB_mk, numB_mk, HN.out]), HB.out⟩
    | false =>
      have HN := Lib.hid hn
      clear hn
      go_enter Tryz.func69, Tryz.ntmps69
      go_wp2_with fail
      refine (nameR_any _ _ HT.out).mono ?_
      rintro e w1 ⟨rfl, hb⟩
      have hB := box_after hb
      obtain ⟨g0, g1, g2, g3, g4⟩ := box_raw hB
      have HB := Lib.hid (box_below hB)
      clear hB hb g3
      rw [HN.out]
      go_wp2_with fail
      go_ret
      exact ⟨ret_bool (by simp [labelB, textB_mk, numB_mk, HN.out]), HB.out⟩

  · have hz1 : (n == 0) = false := by simpa using hz
    cases hn : nameB t with
    | true =>
      have HN := Lib.hid hn
      clear hn
      go_enter Tryz.func69, Tryz.ntmps69
      go_wp2_with fail
      refine (nameR_any _ _ HT.out).mono ?_
      rintro e w1 ⟨rfl, hb⟩
      have hB := box_after hb
      obtain ⟨g0, g1, g2, g3, g4⟩ := box_raw hB
      have HB := Lib.hid (box_below hB)
      clear hB hb g3
      rw [HN.out]
      go_wp2_with fail
      go_ret
      exact ⟨ret_bool (by simp [labelB, textB_mk, numB_mk, HN.out, hz1]), HB.out⟩
    | false =>
      have HN := Lib.hid hn
      clear hn
      go_enter Tryz.func69, Tryz.ntmps69
      go_wp2_with fail
      refine (nameR_any _ _ HT.out).mono ?_
      rintro e w1 ⟨rfl, hb⟩
      have hB := box_after hb
      obtain ⟨g0, g1, g2, g3, g4⟩ := box_raw hB
      have HB := Lib.hid (box_below hB)
      clear hB hb g3
      rw [HN.out]
      go_wp2_with fail
      go_ret
      exact ⟨ret_bool (by simp [labelB, textB_mk, numB_mk, HN.out, hz1]), HB.out⟩


set_option maxRecDepth 100000 in
set_option maxHeartbeats 2000000 in
theorem labelR_35 (t : ByteArray) (n p : Int) (l : List T) (A : Option Addr) (c : Nat) (w : World) (ht : t.size ≤ 9223372036854775807) :
    Calls Tryz.prog 69 #[nv (T.mk 35 t n p l) A c] w fun e w' => e = .returned (.bool (labelB (T.mk 35 t n p l))) ∧ Below w.heap.size w w' := by
  have HT := Lib.hid ht
  clear ht
  by_cases hz : n = 0
  · subst hz
    cases hn : nameB t with
    | true =>
      have HN := Lib.hid hn
      clear hn
      go_enter Tryz.func69, Tryz.ntmps69
      go_wp2_with fail
      refine (nameR_any _ _ HT.out).mono ?_
      rintro e w1 ⟨rfl, hb⟩
      have hB := box_after hb
      obtain ⟨g0, g1, g2, g3, g4⟩ := box_raw hB
      have HB := Lib.hid (box_below hB)
      clear hB hb g3
      rw [HN.out]
      go_wp2_with fail
      go_ret
      exact ⟨ret_bool (by simp [labelB, textB_mk, numB_mk, HN.out]), HB.out⟩
    | false =>
      have HN := Lib.hid hn
      clear hn
      go_enter Tryz.func69, Tryz.ntmps69
      go_wp2_with fail
      refine (nameR_any _ _ HT.out).mono ?_
      rintro e w1 ⟨rfl, hb⟩
      have hB := box_after hb
      obtain ⟨g0, g1, g2, g3, g4⟩ := box_raw hB
      have HB := Lib.hid (box_below hB)
      clear hB hb g3
      rw [HN.out]
      go_wp2_with fail
      go_ret
      exact ⟨ret_bool (by simp [labelB, textB_mk, numB_mk, HN.out]), HB.out⟩

  · have hz1 : (n == 0) = false := by simpa using hz
    cases hn : nameB t with
    | true =>
      have HN := Lib.hid hn
      clear hn
      go_enter Tryz.func69, Tryz.ntmps69
      go_wp2_with fail
      refine (nameR_any _ _ HT.out).mono ?_
      rintro e w1 ⟨rfl, hb⟩
      have hB := box_after hb
      obtain ⟨g0, g1, g2, g3, g4⟩ := box_raw hB
      have HB := Lib.hid (box_below hB)
      clear hB hb g3
      rw [HN.out]
      go_wp2_with fail
      go_ret
      exact ⟨ret_bool (by simp [labelB, textB_mk, numB_mk, HN.out, hz1]), HB.out⟩
    | false =>
      have HN := Lib.hid hn
      clear hn
      go_enter Tryz.func69, Tryz.ntmps69
      go_wp2_with fail
      refine (nameR_any _ _ HT.out).mono ?_
      rintro e w1 ⟨rfl, hb⟩
      have hB := box_after hb
      obtain ⟨g0, g1, g2, g3, g4⟩ := box_raw hB
      have HB := Lib.hid (box_below hB)
      clear hB hb g3
      rw [HN.out]
      go_wp2_with fail
      go_ret
      exact ⟨ret_bool (by simp [labelB, textB_mk, numB_mk, HN.out, hz1]), HB.out⟩


set_option maxRecDepth 100000 in
set_option maxHeartbeats 2000000 in
theorem labelR_37 (t : ByteArray) (n p : Int) (l : List T) (A : Option Addr) (c : Nat) (w : World) (ht : t.size ≤ 9223372036854775807) :
    Calls Tryz.prog 69 #[nv (T.mk 37 t n p l) A c] w fun e w' => e = .returned (.bool (labelB (T.mk 37 t n p l))) ∧ Below w.heap.size w w' := by
  have HT := Lib.hid ht
  clear ht
  by_cases hz : n = 0
  · subst hz
    cases hn : nameB t with
    | true =>
      have HN := Lib.hid hn
      clear hn
      go_enter Tryz.func69, Tryz.ntmps69
      go_wp2_with fail
      refine (nameR_any _ _ HT.out).mono ?_
      rintro e w1 ⟨rfl, hb⟩
      have hB := box_after hb
      obtain ⟨g0, g1, g2, g3, g4⟩ := box_raw hB
      have HB := Lib.hid (box_below hB)
      clear hB hb g3
      rw [HN.out]
      go_wp2_with fail
      go_ret
      exact ⟨ret_bool (by simp [labelB, textB_mk, numB_mk, HN.out]), HB.out⟩
    | false =>
      have HN := Lib.hid hn
      clear hn
      go_enter Tryz.func69, Tryz.ntmps69
      go_wp2_with fail
      refine (nameR_any _ _ HT.out).mono ?_
      rintro e w1 ⟨rfl, hb⟩
      have hB := box_after hb
      obtain ⟨g0, g1, g2, g3, g4⟩ := box_raw hB
      have HB := Lib.hid (box_below hB)
      clear hB hb g3
      rw [HN.out]
      go_wp2_with fail
      go_ret
      exact ⟨ret_bool (by simp [labelB, textB_mk, numB_mk, HN.out]), HB.out⟩

  · have hz1 : (n == 0) = false := by simpa using hz
    cases hn : nameB t with
    | true =>
      have HN := Lib.hid hn
      clear hn
      go_enter Tryz.func69, Tryz.ntmps69
      go_wp2_with fail
      refine (nameR_any _ _ HT.out).mono ?_
      rintro e w1 ⟨rfl, hb⟩
      have hB := box_after hb
      obtain ⟨g0, g1, g2, g3, g4⟩ := box_raw hB
      have HB := Lib.hid (box_below hB)
      clear hB hb g3
      rw [HN.out]
      go_wp2_with fail
      go_ret
      exact ⟨ret_bool (by simp [labelB, textB_mk, numB_mk, HN.out, hz1]), HB.out⟩
    | false =>
      have HN := Lib.hid hn
      clear hn
      go_enter Tryz.func69, Tryz.ntmps69
      go_wp2_with fail
      refine (nameR_any _ _ HT.out).mono ?_
      rintro e w1 ⟨rfl, hb⟩
      have hB := box_after hb
      obtain ⟨g0, g1, g2, g3, g4⟩ := box_raw hB
      have HB := Lib.hid (box_below hB)
      clear hB hb g3
      rw [HN.out]
      go_wp2_with fail
      go_ret
      exact ⟨ret_bool (by simp [labelB, textB_mk, numB_mk, HN.out, hz1]), HB.out⟩


set_option maxRecDepth 100000 in
set_option maxHeartbeats 2000000 in
theorem labelR_8 (t : ByteArray) (n p : Int) (l : List T) (A : Option Addr) (c : Nat) (w : World) (ht : t.size ≤ 9223372036854775807) :
    Calls Tryz.prog 69 #[nv (T.mk 8 t n p l) A c] w fun e w' => e = .returned (.bool (labelB (T.mk 8 t n p l))) ∧ Below w.heap.size w w' := by
  have HT := Lib.hid ht
  clear ht
  cases hn : nameB t with
  | true =>
    have HN := Lib.hid hn
    clear hn
    by_cases h1 : 1 ≤ n
    · by_cases h3 : n ≤ 3
      · go_enter Tryz.func69, Tryz.ntmps69
        go_wp2_with fail
        refine (nameR_any _ _ HT.out).mono ?_
        rintro e w1 ⟨rfl, hb⟩
        have hB := box_after hb
        obtain ⟨g0, g1, g2, g3, g4⟩ := box_raw hB
        have HB := Lib.hid (box_below hB)
        clear hB hb g3
        rw [HN.out]
        go_wp2_with fail
        go_ret
        exact ⟨ret_bool (by first | (simp [labelB, textB_mk, numB_mk, HN.out]; done) | (rw [Bool.eq_iff_iff]; simp [labelB, textB_mk, numB_mk, HN.out]; try omega)), HB.out⟩
      · go_enter Tryz.func69, Tryz.ntmps69
        go_wp2_with fail
        refine (nameR_any _ _ HT.out).mono ?_
        rintro e w1 ⟨rfl, hb⟩
        have hB := box_after hb
        obtain ⟨g0, g1, g2, g3, g4⟩ := box_raw hB
        have HB := Lib.hid (box_below hB)
        clear hB hb g3
        rw [HN.out]
        go_wp2_with fail
        go_ret
        exact ⟨ret_bool (by first | (simp [labelB, textB_mk, numB_mk, HN.out]; done) | (rw [Bool.eq_iff_iff]; simp [labelB, textB_mk, numB_mk, HN.out]; try omega)), HB.out⟩
    · go_enter Tryz.func69, Tryz.ntmps69
      go_wp2_with fail
      refine (nameR_any _ _ HT.out).mono ?_
      rintro e w1 ⟨rfl, hb⟩
      have hB := box_after hb
      obtain ⟨g0, g1, g2, g3, g4⟩ := box_raw hB
      have HB := Lib.hid (box_below hB)
      clear hB hb g3
      rw [HN.out]
      go_wp2_with fail
      go_ret
      exact ⟨ret_bool (by first | (simp [labelB, textB_mk, numB_mk, HN.out]; done) | (rw [Bool.eq_iff_iff]; simp [labelB, textB_mk, numB_mk, HN.out]; try omega)), HB.out⟩
  | false =>
    have HN := Lib.hid hn
    clear hn
    by_cases h1 : 1 ≤ n
    · by_cases h3 : n ≤ 3
      · go_enter Tryz.func69, Tryz.ntmps69
        go_wp2_with fail
        refine (nameR_any _ _ HT.out).mono ?_
        rintro e w1 ⟨rfl, hb⟩
        have hB := box_after hb
        obtain ⟨g0, g1, g2, g3, g4⟩ := box_raw hB
        have HB := Lib.hid (box_below hB)
        clear hB hb g3
        rw [HN.out]
        go_wp2_with fail
        go_ret
        exact ⟨ret_bool (by first | (simp [labelB, textB_mk, numB_mk, HN.out]; done) | (rw [Bool.eq_iff_iff]; simp [labelB, textB_mk, numB_mk, HN.out]; try omega)), HB.out⟩
      · go_enter Tryz.func69, Tryz.ntmps69
        go_wp2_with fail
        refine (nameR_any _ _ HT.out).mono ?_
        rintro e w1 ⟨rfl, hb⟩
        have hB := box_after hb
        obtain ⟨g0, g1, g2, g3, g4⟩ := box_raw hB
        have HB := Lib.hid (box_below hB)
        clear hB hb g3
        rw [HN.out]
        go_wp2_with fail
        go_ret
        exact ⟨ret_bool (by first | (simp [labelB, textB_mk, numB_mk, HN.out]; done) | (rw [Bool.eq_iff_iff]; simp [labelB, textB_mk, numB_mk, HN.out]; try omega)), HB.out⟩
    · go_enter Tryz.func69, Tryz.ntmps69
      go_wp2_with fail
      refine (nameR_any _ _ HT.out).mono ?_
      rintro e w1 ⟨rfl, hb⟩
      have hB := box_after hb
      obtain ⟨g0, g1, g2, g3, g4⟩ := box_raw hB
      have HB := Lib.hid (box_below hB)
      clear hB hb g3
      rw [HN.out]
      go_wp2_with fail
      go_ret
      exact ⟨ret_bool (by first | (simp [labelB, textB_mk, numB_mk, HN.out]; done) | (rw [Bool.eq_iff_iff]; simp [labelB, textB_mk, numB_mk, HN.out]; try omega)), HB.out⟩


set_option maxRecDepth 100000 in
set_option maxHeartbeats 2000000 in
theorem labelR_43 (t : ByteArray) (n p : Int) (l : List T) (A : Option Addr) (c : Nat) (w : World) (ht : t.size ≤ 9223372036854775807) :
    Calls Tryz.prog 69 #[nv (T.mk 43 t n p l) A c] w fun e w' => e = .returned (.bool (labelB (T.mk 43 t n p l))) ∧ Below w.heap.size w w' := by
  have HT := Lib.hid ht
  clear ht
  by_cases hz : n = 0
  · subst hz
    cases hn : nameB t with
    | true =>
      have HN := Lib.hid hn
      clear hn
      go_enter Tryz.func69, Tryz.ntmps69
      go_wp2_with fail
      refine (nameR_any _ _ HT.out).mono ?_
      rintro e w1 ⟨rfl, hb⟩
      have hB := box_after hb
      obtain ⟨g0, g1, g2, g3, g4⟩ := box_raw hB
      have HB := Lib.hid (box_below hB)
      clear hB hb g3
      rw [HN.out]
      go_wp2_with fail
      go_ret
      exact ⟨ret_bool (by simp [labelB, textB_mk, numB_mk, HN.out]), HB.out⟩
    | false =>
      have HN := Lib.hid hn
      clear hn
      cases he : emptyB t with
      | true =>
        obtain ⟨e1, e2⟩ := emptyB_true he
        have HE := Lib.hid he
        clear he
        go_enter Tryz.func69, Tryz.ntmps69
        go_wp2_with fail
        refine (nameR_any _ _ HT.out).mono ?_
        rintro e w1 ⟨rfl, hb⟩
        have hB := box_after hb
        obtain ⟨g0, g1, g2, g3, g4⟩ := box_raw hB
        have HB := Lib.hid (box_below hB)
        clear hB hb g3
        rw [HN.out]
        go_wp2_with fail
        go_ret
        exact ⟨ret_bool (by simp [labelB, textB_mk, numB_mk, HN.out, HE.out]), HB.out⟩
      | false =>
        obtain ⟨e1, e2⟩ := emptyB_false he
        have HE := Lib.hid he
        clear he
        go_enter Tryz.func69, Tryz.ntmps69
        go_wp2_with fail
        refine (nameR_any _ _ HT.out).mono ?_
        rintro e w1 ⟨rfl, hb⟩
        have hB := box_after hb
        obtain ⟨g0, g1, g2, g3, g4⟩ := box_raw hB
        have HB := Lib.hid (box_below hB)
        clear hB hb g3
        rw [HN.out]
        go_wp2_with fail
        go_ret
        exact ⟨ret_bool (by simp [labelB, textB_mk, numB_mk, HN.out, HE.out]), HB.out⟩
  · have hz1 : (n == 0) = false := by simpa using hz
    cases hn : nameB t with
    | true =>
      have HN := Lib.hid hn
      clear hn
      go_enter Tryz.func69, Tryz.ntmps69
      go_wp2_with fail
      refine (nameR_any _ _ HT.out).mono ?_
      rintro e w1 ⟨rfl, hb⟩
      have hB := box_after hb
      obtain ⟨g0, g1, g2, g3, g4⟩ := box_raw hB
      have HB := Lib.hid (box_below hB)
      clear hB hb g3
      rw [HN.out]
      go_wp2_with fail
      go_ret
      exact ⟨ret_bool (by simp [labelB, textB_mk, numB_mk, HN.out, hz1]), HB.out⟩
    | false =>
      have HN := Lib.hid hn
      clear hn
      cases he : emptyB t with
      | true =>
        obtain ⟨e1, e2⟩ := emptyB_true he
        have HE := Lib.hid he
        clear he
        go_enter Tryz.func69, Tryz.ntmps69
        go_wp2_with fail
        refine (nameR_any _ _ HT.out).mono ?_
        rintro e w1 ⟨rfl, hb⟩
        have hB := box_after hb
        obtain ⟨g0, g1, g2, g3, g4⟩ := box_raw hB
        have HB := Lib.hid (box_below hB)
        clear hB hb g3
        rw [HN.out]
        go_wp2_with fail
        go_ret
        exact ⟨ret_bool (by simp [labelB, textB_mk, numB_mk, HN.out, HE.out, hz1]), HB.out⟩
      | false =>
        obtain ⟨e1, e2⟩ := emptyB_false he
        have HE := Lib.hid he
        clear he
        go_enter Tryz.func69, Tryz.ntmps69
        go_wp2_with fail
        refine (nameR_any _ _ HT.out).mono ?_
        rintro e w1 ⟨rfl, hb⟩
        have hB := box_after hb
        obtain ⟨g0, g1, g2, g3, g4⟩ := box_raw hB
        have HB := Lib.hid (box_below hB)
        clear hB hb g3
        rw [HN.out]
        go_wp2_with fail
        go_ret
        exact ⟨ret_bool (by simp [labelB, textB_mk, numB_mk, HN.out, HE.out, hz1]), HB.out⟩

set_option maxRecDepth 100000 in
set_option maxHeartbeats 2000000 in
theorem labelR_13 (t : ByteArray) (n p : Int) (l : List T) (A : Option Addr) (c : Nat) (w : World) (ht : t.size ≤ 9223372036854775807) :
    Calls Tryz.prog 69 #[nv (T.mk 13 t n p l) A c] w fun e w' => e = .returned (.bool (labelB (T.mk 13 t n p l))) ∧ Below w.heap.size w w' := by
  have HT := Lib.hid ht
  clear ht
  cases he : emptyB t with
  | true =>
    obtain ⟨e1, e2⟩ := emptyB_true he
    have HE := Lib.hid he
    clear he
    by_cases h1 : n ≤ 1
    · go_enter Tryz.func69, Tryz.ntmps69
      go_wp2_with fail
      refine (nameR_any _ _ HT.out).mono ?_
      rintro e w1 ⟨rfl, hb⟩
      have hB := box_after hb
      obtain ⟨g0, g1, g2, g3, g4⟩ := box_raw hB
      have HB := Lib.hid (box_below hB)
      clear hB hb g3
      go_wp2_with fail
      go_ret
      exact ⟨ret_bool (by first | (simp [labelB, textB_mk, numB_mk, HE.out]; done) | (rw [Bool.eq_iff_iff]; simp [labelB, textB_mk, numB_mk, HE.out]; try omega)), HB.out⟩
    · go_enter Tryz.func69, Tryz.ntmps69
      go_wp2_with fail
      refine (nameR_any _ _ HT.out).mono ?_
      rintro e w1 ⟨rfl, hb⟩
      have hB := box_after hb
      obtain ⟨g0, g1, g2, g3, g4⟩ := box_raw hB
      have HB := Lib.hid (box_below hB)
      clear hB hb g3
      go_wp2_with fail
      go_ret
      exact ⟨ret_bool (by first | (simp [labelB, textB_mk, numB_mk, HE.out]; done) | (rw [Bool.eq_iff_iff]; simp [labelB, textB_mk, numB_mk, HE.out]; try omega)), HB.out⟩
  | false =>
    obtain ⟨e1, e2⟩ := emptyB_false he
    have HE := Lib.hid he
    clear he
    by_cases h1 : n ≤ 1
    · go_enter Tryz.func69, Tryz.ntmps69
      go_wp2_with fail
      refine (nameR_any _ _ HT.out).mono ?_
      rintro e w1 ⟨rfl, hb⟩
      have hB := box_after hb
      obtain ⟨g0, g1, g2, g3, g4⟩ := box_raw hB
      have HB := Lib.hid (box_below hB)
      clear hB hb g3
      go_wp2_with fail
      go_ret
      exact ⟨ret_bool (by first | (simp [labelB, textB_mk, numB_mk, HE.out]; done) | (rw [Bool.eq_iff_iff]; simp [labelB, textB_mk, numB_mk, HE.out]; try omega)), HB.out⟩
    · go_enter Tryz.func69, Tryz.ntmps69
      go_wp2_with fail
      refine (nameR_any _ _ HT.out).mono ?_
      rintro e w1 ⟨rfl, hb⟩
      have hB := box_after hb
      obtain ⟨g0, g1, g2, g3, g4⟩ := box_raw hB
      have HB := Lib.hid (box_below hB)
      clear hB hb g3
      go_wp2_with fail
      go_ret
      exact ⟨ret_bool (by first | (simp [labelB, textB_mk, numB_mk, HE.out]; done) | (rw [Bool.eq_iff_iff]; simp [labelB, textB_mk, numB_mk, HE.out]; try omega)), HB.out⟩

set_option maxRecDepth 100000 in
set_option maxHeartbeats 2000000 in
theorem labelR_27 (t : ByteArray) (n p : Int) (l : List T) (A : Option Addr) (c : Nat) (w : World) (ht : t.size ≤ 9223372036854775807) :
    Calls Tryz.prog 69 #[nv (T.mk 27 t n p l) A c] w fun e w' => e = .returned (.bool (labelB (T.mk 27 t n p l))) ∧ Below w.heap.size w w' := by
  have HT := Lib.hid ht
  clear ht
  cases he : emptyB t with
  | true =>
    obtain ⟨e1, e2⟩ := emptyB_true he
    have HE := Lib.hid he
    clear he
    by_cases h1 : n ≤ 1
    · go_enter Tryz.func69, Tryz.ntmps69
      go_wp2_with fail
      refine (nameR_any _ _ HT.out).mono ?_
      rintro e w1 ⟨rfl, hb⟩
      have hB := box_after hb
      obtain ⟨g0, g1, g2, g3, g4⟩ := box_raw hB
      have HB := Lib.hid (box_below hB)
      clear hB hb g3
      go_wp2_with fail
      go_ret
      exact ⟨ret_bool (by first | (simp [labelB, textB_mk, numB_mk, HE.out]; done) | (rw [Bool.eq_iff_iff]; simp [labelB, textB_mk, numB_mk, HE.out]; try omega)), HB.out⟩
    · go_enter Tryz.func69, Tryz.ntmps69
      go_wp2_with fail
      refine (nameR_any _ _ HT.out).mono ?_
      rintro e w1 ⟨rfl, hb⟩
      have hB := box_after hb
      obtain ⟨g0, g1, g2, g3, g4⟩ := box_raw hB
      have HB := Lib.hid (box_below hB)
      clear hB hb g3
      go_wp2_with fail
      go_ret
      exact ⟨ret_bool (by first | (simp [labelB, textB_mk, numB_mk, HE.out]; done) | (rw [Bool.eq_iff_iff]; simp [labelB, textB_mk, numB_mk, HE.out]; try omega)), HB.out⟩
  | false =>
    obtain ⟨e1, e2⟩ := emptyB_false he
    have HE := Lib.hid he
    clear he
    by_cases h1 : n ≤ 1
    · go_enter Tryz.func69, Tryz.ntmps69
      go_wp2_with fail
      refine (nameR_any _ _ HT.out).mono ?_
      rintro e w1 ⟨rfl, hb⟩
      have hB := box_after hb
      obtain ⟨g0, g1, g2, g3, g4⟩ := box_raw hB
      have HB := Lib.hid (box_below hB)
      clear hB hb g3
      go_wp2_with fail
      go_ret
      exact ⟨ret_bool (by first | (simp [labelB, textB_mk, numB_mk, HE.out]; done) | (rw [Bool.eq_iff_iff]; simp [labelB, textB_mk, numB_mk, HE.out]; try omega)), HB.out⟩
    · go_enter Tryz.func69, Tryz.ntmps69
      go_wp2_with fail
      refine (nameR_any _ _ HT.out).mono ?_
      rintro e w1 ⟨rfl, hb⟩
      have hB := box_after hb
      obtain ⟨g0, g1, g2, g3, g4⟩ := box_raw hB
      have HB := Lib.hid (box_below hB)
      clear hB hb g3
      go_wp2_with fail
      go_ret
      exact ⟨ret_bool (by first | (simp [labelB, textB_mk, numB_mk, HE.out]; done) | (rw [Bool.eq_iff_iff]; simp [labelB, textB_mk, numB_mk, HE.out]; try omega)), HB.out⟩

set_option maxRecDepth 100000 in
set_option maxHeartbeats 2000000 in
theorem labelR_29 (t : ByteArray) (n p : Int) (l : List T) (A : Option Addr) (c : Nat) (w : World) (ht : t.size ≤ 9223372036854775807) :
    Calls Tryz.prog 69 #[nv (T.mk 29 t n p l) A c] w fun e w' => e = .returned (.bool (labelB (T.mk 29 t n p l))) ∧ Below w.heap.size w w' := by
  have HT := Lib.hid ht
  clear ht
  cases he : emptyB t with
  | true =>
    obtain ⟨e1, e2⟩ := emptyB_true he
    have HE := Lib.hid he
    clear he
    by_cases h1 : n ≤ 1
    · go_enter Tryz.func69, Tryz.ntmps69
      go_wp2_with fail
      refine (nameR_any _ _ HT.out).mono ?_
      rintro e w1 ⟨rfl, hb⟩
      have hB := box_after hb
      obtain ⟨g0, g1, g2, g3, g4⟩ := box_raw hB
      have HB := Lib.hid (box_below hB)
      clear hB hb g3
      go_wp2_with fail
      go_ret
      exact ⟨ret_bool (by first | (simp [labelB, textB_mk, numB_mk, HE.out]; done) | (rw [Bool.eq_iff_iff]; simp [labelB, textB_mk, numB_mk, HE.out]; try omega)), HB.out⟩
    · go_enter Tryz.func69, Tryz.ntmps69
      go_wp2_with fail
      refine (nameR_any _ _ HT.out).mono ?_
      rintro e w1 ⟨rfl, hb⟩
      have hB := box_after hb
      obtain ⟨g0, g1, g2, g3, g4⟩ := box_raw hB
      have HB := Lib.hid (box_below hB)
      clear hB hb g3
      go_wp2_with fail
      go_ret
      exact ⟨ret_bool (by first | (simp [labelB, textB_mk, numB_mk, HE.out]; done) | (rw [Bool.eq_iff_iff]; simp [labelB, textB_mk, numB_mk, HE.out]; try omega)), HB.out⟩
  | false =>
    obtain ⟨e1, e2⟩ := emptyB_false he
    have HE := Lib.hid he
    clear he
    by_cases h1 : n ≤ 1
    · go_enter Tryz.func69, Tryz.ntmps69
      go_wp2_with fail
      refine (nameR_any _ _ HT.out).mono ?_
      rintro e w1 ⟨rfl, hb⟩
      have hB := box_after hb
      obtain ⟨g0, g1, g2, g3, g4⟩ := box_raw hB
      have HB := Lib.hid (box_below hB)
      clear hB hb g3
      go_wp2_with fail
      go_ret
      exact ⟨ret_bool (by first | (simp [labelB, textB_mk, numB_mk, HE.out]; done) | (rw [Bool.eq_iff_iff]; simp [labelB, textB_mk, numB_mk, HE.out]; try omega)), HB.out⟩
    · go_enter Tryz.func69, Tryz.ntmps69
      go_wp2_with fail
      refine (nameR_any _ _ HT.out).mono ?_
      rintro e w1 ⟨rfl, hb⟩
      have hB := box_after hb
      obtain ⟨g0, g1, g2, g3, g4⟩ := box_raw hB
      have HB := Lib.hid (box_below hB)
      clear hB hb g3
      go_wp2_with fail
      go_ret
      exact ⟨ret_bool (by first | (simp [labelB, textB_mk, numB_mk, HE.out]; done) | (rw [Bool.eq_iff_iff]; simp [labelB, textB_mk, numB_mk, HE.out]; try omega)), HB.out⟩

set_option maxRecDepth 100000 in
set_option maxHeartbeats 2000000 in
theorem labelR_32 (t : ByteArray) (n p : Int) (l : List T) (A : Option Addr) (c : Nat) (w : World) (ht : t.size ≤ 9223372036854775807) :
    Calls Tryz.prog 69 #[nv (T.mk 32 t n p l) A c] w fun e w' => e = .returned (.bool (labelB (T.mk 32 t n p l))) ∧ Below w.heap.size w w' := by
  have HT := Lib.hid ht
  clear ht
  cases he : emptyB t with
  | true =>
    obtain ⟨e1, e2⟩ := emptyB_true he
    have HE := Lib.hid he
    clear he
    by_cases h1 : n ≤ 1
    · go_enter Tryz.func69, Tryz.ntmps69
      go_wp2_with fail
      refine (nameR_any _ _ HT.out).mono ?_
      rintro e w1 ⟨rfl, hb⟩
      have hB := box_after hb
      obtain ⟨g0, g1, g2, g3, g4⟩ := box_raw hB
      have HB := Lib.hid (box_below hB)
      clear hB hb g3
      go_wp2_with fail
      go_ret
      exact ⟨ret_bool (by first | (simp [labelB, textB_mk, numB_mk, HE.out]; done) | (rw [Bool.eq_iff_iff]; simp [labelB, textB_mk, numB_mk, HE.out]; try omega)), HB.out⟩
    · go_enter Tryz.func69, Tryz.ntmps69
      go_wp2_with fail
      refine (nameR_any _ _ HT.out).mono ?_
      rintro e w1 ⟨rfl, hb⟩
      have hB := box_after hb
      obtain ⟨g0, g1, g2, g3, g4⟩ := box_raw hB
      have HB := Lib.hid (box_below hB)
      clear hB hb g3
      go_wp2_with fail
      go_ret
      exact ⟨ret_bool (by first | (simp [labelB, textB_mk, numB_mk, HE.out]; done) | (rw [Bool.eq_iff_iff]; simp [labelB, textB_mk, numB_mk, HE.out]; try omega)), HB.out⟩
  | false =>
    obtain ⟨e1, e2⟩ := emptyB_false he
    have HE := Lib.hid he
    clear he
    by_cases h1 : n ≤ 1
    · go_enter Tryz.func69, Tryz.ntmps69
      go_wp2_with fail
      refine (nameR_any _ _ HT.out).mono ?_
      rintro e w1 ⟨rfl, hb⟩
      have hB := box_after hb
      obtain ⟨g0, g1, g2, g3, g4⟩ := box_raw hB
      have HB := Lib.hid (box_below hB)
      clear hB hb g3
      go_wp2_with fail
      go_ret
      exact ⟨ret_bool (by first | (simp [labelB, textB_mk, numB_mk, HE.out]; done) | (rw [Bool.eq_iff_iff]; simp [labelB, textB_mk, numB_mk, HE.out]; try omega)), HB.out⟩
    · go_enter Tryz.func69, Tryz.ntmps69
      go_wp2_with fail
      refine (nameR_any _ _ HT.out).mono ?_
      rintro e w1 ⟨rfl, hb⟩
      have hB := box_after hb
      obtain ⟨g0, g1, g2, g3, g4⟩ := box_raw hB
      have HB := Lib.hid (box_below hB)
      clear hB hb g3
      go_wp2_with fail
      go_ret
      exact ⟨ret_bool (by first | (simp [labelB, textB_mk, numB_mk, HE.out]; done) | (rw [Bool.eq_iff_iff]; simp [labelB, textB_mk, numB_mk, HE.out]; try omega)), HB.out⟩

set_option maxRecDepth 100000 in
set_option maxHeartbeats 2000000 in
theorem labelR_31 (t : ByteArray) (n p : Int) (l : List T) (A : Option Addr) (c : Nat) (w : World) (ht : t.size ≤ 9223372036854775807) :
    Calls Tryz.prog 69 #[nv (T.mk 31 t n p l) A c] w fun e w' => e = .returned (.bool (labelB (T.mk 31 t n p l))) ∧ Below w.heap.size w w' := by
  have HT := Lib.hid ht
  clear ht
  cases he : emptyB t with
  | true =>
    obtain ⟨e1, e2⟩ := emptyB_true he
    have HE := Lib.hid he
    clear he
    go_enter Tryz.func69, Tryz.ntmps69
    go_wp2_with fail
    refine (nameR_any _ _ HT.out).mono ?_
    rintro e w1 ⟨rfl, hb⟩
    have hB := box_after hb
    obtain ⟨g0, g1, g2, g3, g4⟩ := box_raw hB
    have HB := Lib.hid (box_below hB)
    clear hB hb g3
    go_wp2_with fail
    go_ret
    exact ⟨ret_bool (by first | (simp [labelB, textB_mk, numB_mk, HE.out]; done) | (rw [Bool.eq_iff_iff]; simp [labelB, textB_mk, numB_mk, HE.out]; try omega)), HB.out⟩
  | false =>
    obtain ⟨e1, e2⟩ := emptyB_false he
    have HE := Lib.hid he
    clear he
    go_enter Tryz.func69, Tryz.ntmps69
    go_wp2_with fail
    refine (nameR_any _ _ HT.out).mono ?_
    rintro e w1 ⟨rfl, hb⟩
    have hB := box_after hb
    obtain ⟨g0, g1, g2, g3, g4⟩ := box_raw hB
    have HB := Lib.hid (box_below hB)
    clear hB hb g3
    go_wp2_with fail
    go_ret
    exact ⟨ret_bool (by first | (simp [labelB, textB_mk, numB_mk, HE.out]; done) | (rw [Bool.eq_iff_iff]; simp [labelB, textB_mk, numB_mk, HE.out]; try omega)), HB.out⟩

theorem labelB_other (k : Int) (t : ByteArray) (n p : Int) (l : List T) (k2 : (k == 2) = false) (k3 : (k == 3) = false) (k5 : (k == 5) = false) (k10 : (k == 10) = false) (k21 : (k == 21) = false) (k22 : (k == 22) = false) (k30 : (k == 30) = false) (k35 : (k == 35) = false) (k37 : (k == 37) = false) (k8 : (k == 8) = false) (k43 : (k == 43) = false) (k33 : (k == 33) = false) (k13 : (k == 13) = false) (k27 : (k == 27) = false) (k29 : (k == 29) = false) (k32 : (k == 32) = false) (k31 : (k == 31) = false) : labelB (T.mk k t n p l) = (emptyB t && n == 0) := by
  have hc1 : [2, 3, 5, 8, 10, 21, 22, 30, 35, 37].contains k = false := by simp_all
  have hc2 : [13, 27, 29, 32].contains k = false := by simp_all
  have a43 : ¬ k = 43 := by simpa using k43
  have a33 : ¬ k = 33 := by simpa using k33
  have a8 : ¬ k = 8 := by simpa using k8
  have a31 : ¬ k = 31 := by simpa using k31
  simp only [labelB, textB_mk, numB_mk, hc1, hc2, a43, a33, a8, a31, if_false, Bool.false_eq_true]

set_option maxRecDepth 100000 in
set_option maxHeartbeats 2000000 in
theorem labelR_other (k : Int) (t : ByteArray) (n p : Int) (l : List T) (A : Option Addr) (c : Nat) (w : World) (ht : t.size ≤ 9223372036854775807) (k2 : (k == 2) = false) (k3 : (k == 3) = false) (k5 : (k == 5) = false) (k10 : (k == 10) = false) (k21 : (k == 21) = false) (k22 : (k == 22) = false) (k30 : (k == 30) = false) (k35 : (k == 35) = false) (k37 : (k == 37) = false) (k8 : (k == 8) = false) (k43 : (k == 43) = false) (k33 : (k == 33) = false) (k13 : (k == 13) = false) (k27 : (k == 27) = false) (k29 : (k == 29) = false) (k32 : (k == 32) = false) (k31 : (k == 31) = false) :
    Calls Tryz.prog 69 #[nv (T.mk k t n p l) A c] w fun e w' => e = .returned (.bool (labelB (T.mk k t n p l))) ∧ Below w.heap.size w w' := by
  have HT := Lib.hid ht
  have HL := Lib.hid (labelB_other k t n p l k2 k3 k5 k10 k21 k22 k30 k35 k37 k8 k43 k33 k13 k27 k29 k32 k31)
  clear ht
  cases he : emptyB t with
  | true =>
    obtain ⟨e1, e2⟩ := emptyB_true he
    have HE := Lib.hid he
    clear he
    by_cases hz : n = 0
    · subst hz
      go_enter Tryz.func69, Tryz.ntmps69
      go_wp2_with fail
      refine (nameR_any _ _ HT.out).mono ?_
      rintro e w1 ⟨rfl, hb⟩
      have hB := box_after hb
      obtain ⟨g0, g1, g2, g3, g4⟩ := box_raw hB
      have HB := Lib.hid (box_below hB)
      clear hB hb g3
      go_wp2_with fail
      go_ret
      exact ⟨ret_bool (by rw [HL.out]; simp [HE.out]), HB.out⟩
    · have hz1 : (n == 0) = false := by simpa using hz
      go_enter Tryz.func69, Tryz.ntmps69
      go_wp2_with fail
      refine (nameR_any _ _ HT.out).mono ?_
      rintro e w1 ⟨rfl, hb⟩
      have hB := box_after hb
      obtain ⟨g0, g1, g2, g3, g4⟩ := box_raw hB
      have HB := Lib.hid (box_below hB)
      clear hB hb g3
      go_wp2_with fail
      go_ret
      exact ⟨ret_bool (by rw [HL.out]; simp [HE.out, hz1]), HB.out⟩
  | false =>
    obtain ⟨e1, e2⟩ := emptyB_false he
    have HE := Lib.hid he
    clear he
    by_cases hz : n = 0
    · subst hz
      go_enter Tryz.func69, Tryz.ntmps69
      go_wp2_with fail
      refine (nameR_any _ _ HT.out).mono ?_
      rintro e w1 ⟨rfl, hb⟩
      have hB := box_after hb
      obtain ⟨g0, g1, g2, g3, g4⟩ := box_raw hB
      have HB := Lib.hid (box_below hB)
      clear hB hb g3
      go_wp2_with fail
      go_ret
      exact ⟨ret_bool (by rw [HL.out]; simp [HE.out]), HB.out⟩
    · have hz1 : (n == 0) = false := by simpa using hz
      go_enter Tryz.func69, Tryz.ntmps69
      go_wp2_with fail
      refine (nameR_any _ _ HT.out).mono ?_
      rintro e w1 ⟨rfl, hb⟩
      have hB := box_after hb
      obtain ⟨g0, g1, g2, g3, g4⟩ := box_raw hB
      have HB := Lib.hid (box_below hB)
      clear hB hb g3
      go_wp2_with fail
      go_ret
      exact ⟨ret_bool (by rw [HL.out]; simp [HE.out, hz1]), HB.out⟩

set_option maxRecDepth 100000 in
set_option maxHeartbeats 2000000 in
theorem labelR_33n (t : ByteArray) (n p : Int) (l : List T) (A : Option Addr) (c : Nat) (w : World) (ht : t.size ≤ 9223372036854775807) (hz : (n == 0) = false) :
    Calls Tryz.prog 69 #[nv (T.mk 33 t n p l) A c] w fun e w' => e = .returned (.bool (labelB (T.mk 33 t n p l))) ∧ Below w.heap.size w w' := by
  have HT := Lib.hid ht
  clear ht

  go_enter Tryz.func69, Tryz.ntmps69
  go_wp2_with fail
  refine (nameR_any _ _ HT.out).mono ?_
  rintro e w1 ⟨rfl, hb⟩
  have hB := box_after hb
  obtain ⟨g0, g1, g2, g3, g4⟩ := box_raw hB
  have HB := Lib.hid (box_below hB)
  clear hB hb g3
  go_wp2_with fail
  all_goals (try go_wp2_with fail)
  all_goals (go_ret; exact ⟨ret_bool (by simp [labelB, numB_mk, hz]), HB.out⟩)

set_option maxRecDepth 100000 in
set_option maxHeartbeats 2000000 in
theorem labelR_33o (t : ByteArray) (n p : Int) (l : List T) (A : Option Addr) (c : Nat) (w : World) (ht : t.size ≤ 9223372036854775807) (h1 : (t.toList == [45]) = false) (h2 : (t.toList == [94]) = false) (h3 : (t.toList == [33]) = false) (hn : n = 0) (hl : (l.length == 1) = true) :
    Calls Tryz.prog 69 #[nv (T.mk 33 t n p l) A c] w fun e w' => e = .returned (.bool (labelB (T.mk 33 t n p l))) ∧ Below w.heap.size w w' := by
  have HT := Lib.hid ht
  clear ht
  subst hn
  have hl2 : l.length = 1 := by simpa using hl
  have hl3 : ((l.length : Int) == 1) = true := by rw [hl2]; rfl

  go_enter Tryz.func69, Tryz.ntmps69
  go_wp2_with fail
  refine (nameR_any _ _ HT.out).mono ?_
  rintro e w1 ⟨rfl, hb⟩
  have hB := box_after hb
  obtain ⟨g0, g1, g2, g3, g4⟩ := box_raw hB
  have HB := Lib.hid (box_below hB)
  clear hB hb g3
  go_wp2_with fail
  go_ret
  exact ⟨ret_bool (by simp [labelB, textB_mk, numB_mk, unaryB, hl2, h1, h2, h3]; first | done | exact ⟨fun h => by simp [h] at h1, fun h => by simp [h] at h2, fun h => by simp [h] at h3⟩), HB.out⟩

set_option maxRecDepth 100000 in
set_option maxHeartbeats 2000000 in
theorem labelR_33u0 (p : Int) (l : List T) (A : Option Addr) (c : Nat) (w : World) (hl : (l.length == 1) = true) :
    Calls Tryz.prog 69 #[nv (T.mk 33 ⟨#[45]⟩ 0 p l) A c] w fun e w' => e = .returned (.bool (labelB (T.mk 33 ⟨#[45]⟩ 0 p l))) ∧ Below w.heap.size w w' := by
  have HT := Lib.hid (show (ByteArray.mk #[45]).size ≤ 9223372036854775807 by decide)
  have hl2 : l.length = 1 := by simpa using hl
  have hl3 : ((l.length : Int) == 1) = true := by rw [hl2]; rfl
  go_enter Tryz.func69, Tryz.ntmps69
  go_wp2_with fail
  refine (nameR_any _ _ HT.out).mono ?_
  rintro e w1 ⟨rfl, hb⟩
  have hB := box_after hb
  obtain ⟨g0, g1, g2, g3, g4⟩ := box_raw hB
  have HB := Lib.hid (box_below hB)
  clear hB hb g3
  go_wp2_with fail
  go_ret
  exact ⟨ret_bool (by simp [labelB, textB_mk, numB_mk, unaryB, hl2]), HB.out⟩

set_option maxRecDepth 100000 in
set_option maxHeartbeats 2000000 in
theorem labelR_33u1 (p : Int) (l : List T) (A : Option Addr) (c : Nat) (w : World) (hl : (l.length == 1) = true) :
    Calls Tryz.prog 69 #[nv (T.mk 33 ⟨#[94]⟩ 0 p l) A c] w fun e w' => e = .returned (.bool (labelB (T.mk 33 ⟨#[94]⟩ 0 p l))) ∧ Below w.heap.size w w' := by
  have HT := Lib.hid (show (ByteArray.mk #[94]).size ≤ 9223372036854775807 by decide)
  have hl2 : l.length = 1 := by simpa using hl
  have hl3 : ((l.length : Int) == 1) = true := by rw [hl2]; rfl
  go_enter Tryz.func69, Tryz.ntmps69
  go_wp2_with fail
  refine (nameR_any _ _ HT.out).mono ?_
  rintro e w1 ⟨rfl, hb⟩
  have hB := box_after hb
  obtain ⟨g0, g1, g2, g3, g4⟩ := box_raw hB
  have HB := Lib.hid (box_below hB)
  clear hB hb g3
  go_wp2_with fail
  go_ret
  exact ⟨ret_bool (by simp [labelB, textB_mk, numB_mk, unaryB, hl2]), HB.out⟩

set_option maxRecDepth 100000 in
set_option maxHeartbeats 2000000 in
theorem labelR_33u2 (p : Int) (l : List T) (A : Option Addr) (c : Nat) (w : World) (hl : (l.length == 1) = true) :
    Calls Tryz.prog 69 #[nv (T.mk 33 ⟨#[33]⟩ 0 p l) A c] w fun e w' => e = .returned (.bool (labelB (T.mk 33 ⟨#[33]⟩ 0 p l))) ∧ Below w.heap.size w w' := by
  have HT := Lib.hid (show (ByteArray.mk #[33]).size ≤ 9223372036854775807 by decide)
  have hl2 : l.length = 1 := by simpa using hl
  have hl3 : ((l.length : Int) == 1) = true := by rw [hl2]; rfl
  go_enter Tryz.func69, Tryz.ntmps69
  go_wp2_with fail
  refine (nameR_any _ _ HT.out).mono ?_
  rintro e w1 ⟨rfl, hb⟩
  have hB := box_after hb
  obtain ⟨g0, g1, g2, g3, g4⟩ := box_raw hB
  have HB := Lib.hid (box_below hB)
  clear hB hb g3
  go_wp2_with fail
  go_ret
  exact ⟨ret_bool (by simp [labelB, textB_mk, numB_mk, unaryB, hl2]), HB.out⟩

set_option maxRecDepth 100000 in
set_option maxHeartbeats 2000000 in
theorem labelR_33v0 (p : Int) (l : List T) (A : Option Addr) (c : Nat) (w : World) (ho : (l.length == 2) = true) :
    Calls Tryz.prog 69 #[nv (T.mk 33 ⟨#[45]⟩ 0 p l) A c] w fun e w' => e = .returned (.bool (labelB (T.mk 33 ⟨#[45]⟩ 0 p l))) ∧ Below w.heap.size w w' := by
  have HT := Lib.hid (show (ByteArray.mk #[45]).size ≤ 9223372036854775807 by decide)
  have ho2 : l.length = 2 := by simpa using ho
  have hl3 : ((l.length : Int) == 1) = false := by rw [ho2]; rfl
  have ho3 : ((l.length : Int) == 2) = true := by rw [ho2]; rfl
  go_enter Tryz.func69, Tryz.ntmps69
  go_wp2_with fail
  refine (nameR_any _ _ HT.out).mono ?_
  rintro e w1 ⟨rfl, hb⟩
  have hB := box_after hb
  obtain ⟨g0, g1, g2, g3, g4⟩ := box_raw hB
  have HB := Lib.hid (box_below hB)
  clear hB hb g3
  go_wp2_with fail
  refine (strength_any _ _).mono ?_
  rintro e w2 ⟨rfl, rfl⟩
  go_wp2_with fail
  go_ret
  exact ⟨ret_bool (by simp [labelB, textB_mk, numB_mk, unaryB, ho2]), HB.out⟩

set_option maxRecDepth 100000 in
set_option maxHeartbeats 2000000 in
theorem labelR_33v1 (p : Int) (l : List T) (A : Option Addr) (c : Nat) (w : World) (ho : (l.length == 2) = true) :
    Calls Tryz.prog 69 #[nv (T.mk 33 ⟨#[94]⟩ 0 p l) A c] w fun e w' => e = .returned (.bool (labelB (T.mk 33 ⟨#[94]⟩ 0 p l))) ∧ Below w.heap.size w w' := by
  have HT := Lib.hid (show (ByteArray.mk #[94]).size ≤ 9223372036854775807 by decide)
  have ho2 : l.length = 2 := by simpa using ho
  have hl3 : ((l.length : Int) == 1) = false := by rw [ho2]; rfl
  have ho3 : ((l.length : Int) == 2) = true := by rw [ho2]; rfl
  go_enter Tryz.func69, Tryz.ntmps69
  go_wp2_with fail
  refine (nameR_any _ _ HT.out).mono ?_
  rintro e w1 ⟨rfl, hb⟩
  have hB := box_after hb
  obtain ⟨g0, g1, g2, g3, g4⟩ := box_raw hB
  have HB := Lib.hid (box_below hB)
  clear hB hb g3
  go_wp2_with fail
  refine (strength_any _ _).mono ?_
  rintro e w2 ⟨rfl, rfl⟩
  go_wp2_with fail
  go_ret
  exact ⟨ret_bool (by simp [labelB, textB_mk, numB_mk, unaryB, ho2]), HB.out⟩

set_option maxRecDepth 100000 in
set_option maxHeartbeats 2000000 in
theorem labelR_33v2 (p : Int) (l : List T) (A : Option Addr) (c : Nat) (w : World) (ho : (l.length == 2) = true) :
    Calls Tryz.prog 69 #[nv (T.mk 33 ⟨#[33]⟩ 0 p l) A c] w fun e w' => e = .returned (.bool (labelB (T.mk 33 ⟨#[33]⟩ 0 p l))) ∧ Below w.heap.size w w' := by
  have HT := Lib.hid (show (ByteArray.mk #[33]).size ≤ 9223372036854775807 by decide)
  have ho2 : l.length = 2 := by simpa using ho
  have hl3 : ((l.length : Int) == 1) = false := by rw [ho2]; rfl
  have ho3 : ((l.length : Int) == 2) = true := by rw [ho2]; rfl
  go_enter Tryz.func69, Tryz.ntmps69
  go_wp2_with fail
  refine (nameR_any _ _ HT.out).mono ?_
  rintro e w1 ⟨rfl, hb⟩
  have hB := box_after hb
  obtain ⟨g0, g1, g2, g3, g4⟩ := box_raw hB
  have HB := Lib.hid (box_below hB)
  clear hB hb g3
  go_wp2_with fail
  refine (strength_any _ _).mono ?_
  rintro e w2 ⟨rfl, rfl⟩
  go_wp2_with fail
  go_ret
  exact ⟨ret_bool (by simp [labelB, textB_mk, numB_mk, unaryB, ho2]), HB.out⟩

set_option maxRecDepth 100000 in
set_option maxHeartbeats 2000000 in
theorem labelR_33b (t : ByteArray) (n p : Int) (l : List T) (A : Option Addr) (c : Nat) (w : World) (ht : t.size ≤ 9223372036854775807) (h1 : (t.toList == [45]) = false) (h2 : (t.toList == [94]) = false) (h3 : (t.toList == [33]) = false) (hn : n = 0) (ho : (l.length == 2) = true) :
    Calls Tryz.prog 69 #[nv (T.mk 33 t n p l) A c] w fun e w' => e = .returned (.bool (labelB (T.mk 33 t n p l))) ∧ Below w.heap.size w w' := by
  have HT := Lib.hid ht
  clear ht
  subst hn
  have ho2 : l.length = 2 := by simpa using ho
  have hl3 : ((l.length : Int) == 1) = false := by rw [ho2]; rfl
  have ho3 : ((l.length : Int) == 2) = true := by rw [ho2]; rfl

  go_enter Tryz.func69, Tryz.ntmps69
  go_wp2_with fail
  refine (nameR_any _ _ HT.out).mono ?_
  rintro e w1 ⟨rfl, hb⟩
  have hB := box_after hb
  obtain ⟨g0, g1, g2, g3, g4⟩ := box_raw hB
  have HB := Lib.hid (box_below hB)
  clear hB hb g3
  go_wp2_with fail
  refine (strength_any _ _).mono ?_
  rintro e w2 ⟨rfl, rfl⟩
  go_wp2_with fail
  go_ret
  exact ⟨ret_bool (by simp [labelB, textB_mk, numB_mk, unaryB, ho2]), HB.out⟩

set_option maxRecDepth 100000 in
set_option maxHeartbeats 2000000 in
theorem labelR_33x (t : ByteArray) (n p : Int) (l : List T) (A : Option Addr) (c : Nat) (w : World) (ht : t.size ≤ 9223372036854775807) (hn : n = 0) (hl : (l.length == 1) = false) (ho : (l.length == 2) = false) :
    Calls Tryz.prog 69 #[nv (T.mk 33 t n p l) A c] w fun e w' => e = .returned (.bool (labelB (T.mk 33 t n p l))) ∧ Below w.heap.size w w' := by
  have HT := Lib.hid ht
  clear ht
  subst hn
  have hl2 : ¬ l.length = 1 := by simpa using hl
  have ho2 : ¬ l.length = 2 := by simpa using ho
  have hl3 : ((l.length : Int) == 1) = false := by simp; omega
  have ho3 : ((l.length : Int) == 2) = false := by simp; omega

  go_enter Tryz.func69, Tryz.ntmps69
  go_wp2_with fail
  refine (nameR_any _ _ HT.out).mono ?_
  rintro e w1 ⟨rfl, hb⟩
  have hB := box_after hb
  obtain ⟨g0, g1, g2, g3, g4⟩ := box_raw hB
  have HB := Lib.hid (box_below hB)
  clear hB hb g3
  go_wp2_with fail
  all_goals (try go_wp2_with fail)
  all_goals (go_ret; exact ⟨ret_bool (by simp [labelB, textB_mk, numB_mk, hl2, ho2]), HB.out⟩)

theorem labelR_33 (t : ByteArray) (n p : Int) (l : List T) (A : Option Addr) (c : Nat) (w : World) (ht : t.size ≤ 9223372036854775807) :
    Calls Tryz.prog 69 #[nv (T.mk 33 t n p l) A c] w fun e w' => e = .returned (.bool (labelB (T.mk 33 t n p l))) ∧ Below w.heap.size w w' := by
  by_cases hn : n = 0
  · cases hl : (l.length == 1) with
    | true =>
      by_cases q1 : t.toList = [45]
      · obtain rfl := ba_eq q1
        subst hn
        exact labelR_33u0 p l A c w hl
      · by_cases q2 : t.toList = [94]
        · obtain rfl := ba_eq q2
          subst hn
          exact labelR_33u1 p l A c w hl
        · by_cases q3 : t.toList = [33]
          · obtain rfl := ba_eq q3
            subst hn
            exact labelR_33u2 p l A c w hl
          · exact labelR_33o t n p l A c w ht (by simpa using q1) (by simpa using q2) (by simpa using q3) hn hl
    | false =>
      cases ho : (l.length == 2) with
      | true =>
        by_cases q1 : t.toList = [45]
        · obtain rfl := ba_eq q1
          subst hn
          exact labelR_33v0 p l A c w ho
        · by_cases q2 : t.toList = [94]
          · obtain rfl := ba_eq q2
            subst hn
            exact labelR_33v1 p l A c w ho
          · by_cases q3 : t.toList = [33]
            · obtain rfl := ba_eq q3
              subst hn
              exact labelR_33v2 p l A c w ho
            · exact labelR_33b t n p l A c w ht (by simpa using q1) (by simpa using q2) (by simpa using q3) hn ho
      | false => exact labelR_33x t n p l A c w ht hn hl ho
  · exact labelR_33n t n p l A c w ht (by simpa using hn)

theorem labelR_any (x : T) (A : Option Addr) (c : Nat) (w : World) (ht : x.text.size ≤ 9223372036854775807) :
    Calls Tryz.prog 69 #[nv x A c] w fun e w' => e = .returned (.bool (labelB x)) ∧ Below w.heap.size w w' := by
  cases x with
  | mk k t n p l =>
    by_cases k2 : k = 2
    · subst k2
      exact labelR_2 t n p l A c w ht
    by_cases k3 : k = 3
    · subst k3
      exact labelR_3 t n p l A c w ht
    by_cases k5 : k = 5
    · subst k5
      exact labelR_5 t n p l A c w ht
    by_cases k10 : k = 10
    · subst k10
      exact labelR_10 t n p l A c w ht
    by_cases k21 : k = 21
    · subst k21
      exact labelR_21 t n p l A c w ht
    by_cases k22 : k = 22
    · subst k22
      exact labelR_22 t n p l A c w ht
    by_cases k30 : k = 30
    · subst k30
      exact labelR_30 t n p l A c w ht
    by_cases k35 : k = 35
    · subst k35
      exact labelR_35 t n p l A c w ht
    by_cases k37 : k = 37
    · subst k37
      exact labelR_37 t n p l A c w ht
    by_cases k8 : k = 8
    · subst k8
      exact labelR_8 t n p l A c w ht
    by_cases k43 : k = 43
    · subst k43
      exact labelR_43 t n p l A c w ht
    by_cases k33 : k = 33
    · subst k33
      exact labelR_33 t n p l A c w ht
    by_cases k13 : k = 13
    · subst k13
      exact labelR_13 t n p l A c w ht
    by_cases k27 : k = 27
    · subst k27
      exact labelR_27 t n p l A c w ht
    by_cases k29 : k = 29
    · subst k29
      exact labelR_29 t n p l A c w ht
    by_cases k32 : k = 32
    · subst k32
      exact labelR_32 t n p l A c w ht
    by_cases k31 : k = 31
    · subst k31
      exact labelR_31 t n p l A c w ht
    exact labelR_other k t n p l A c w ht (by simpa using k2) (by simpa using k3) (by simpa using k5) (by simpa using k10) (by simpa using k21) (by simpa using k22) (by simpa using k30) (by simpa using k35) (by simpa using k37) (by simpa using k8) (by simpa using k43) (by simpa using k33) (by simpa using k13) (by simpa using k27) (by simpa using k29) (by simpa using k32) (by simpa using k31)

end Go.Proofs.YtoemljgkofhhpaaGreatDoor
