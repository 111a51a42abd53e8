import Derived.Test.YtoemljgkofhhpaaGreatDoorRefE
namespace Go.Proofs.YtoemljgkofhhpaaGreatDoor
open Go.RowKit

set_option maxRecDepth 100000 in
set_option maxHeartbeats 4000000 in
theorem exprR_31 {d : Nat} (t : ByteArray) (m p : Int) (l : List T) (n : Nat) (A : Option Addr) (c : Nat) (w : World) (hm : 0 ≤ m) (hm2 : m ≤ 18446744073709551615) :
    Calls Tryz.prog 19 #[nv (T.mk 31 t m p l) A c, .int .i64 n] w fun e w' => e = .returned (.string (exprT (d + 1) n (T.mk 31 t m p l))) ∧ Below w.heap.size w w' := by
  obtain ⟨u, rfl⟩ : ∃ u : Nat, m = (u : Int) := ⟨m.toNat, by omega⟩
  have hu : u < 18446744073709551616 := by omega
  have HC := Lib.hid (digitsR_any u hu)
  clear hm hm2
  go_enter Tryz.func19, Tryz.ntmps19
  go_wp2_with fail
  refine (HC.out _).mono ?_
  rintro e w1 ⟨rfl, hb⟩
  have HB := Lib.hid (box_below (box_after hb))
  clear hb
  go_wp2_with fail
  go_ret
  exact ⟨rfl, HB.out⟩

set_option maxRecDepth 100000 in
set_option maxHeartbeats 4000000 in
theorem exprR_32 {d : Nat} (t : ByteArray) (m p : Int) (l : List T) (n : Nat) (A : Option Addr) (c : Nat) (w : World) :
    Calls Tryz.prog 19 #[nv (T.mk 32 t m p l) A c, .int .i64 n] w fun e w' => e = .returned (.string (exprT (d + 1) n (T.mk 32 t m p l))) ∧ Below w.heap.size w w' := by
  have he : exprT (d + 1) n (T.mk 32 t m p l) = cond (m == 1) ⟨#[116, 114, 117, 101]⟩ ⟨#[102, 97, 108, 115, 101]⟩ := rfl
  have HX := Lib.hid he
  clear he
  cases hm : (m == 1) with
  | true =>
    go_enter Tryz.func19, Tryz.ntmps19
    go_wp2_with fail
    go_ret
    exact ⟨by rw [HX.out, hm]; rfl, one_below⟩
  | false =>
    go_enter Tryz.func19, Tryz.ntmps19
    go_wp2_with fail
    go_ret
    exact ⟨by rw [HX.out, hm]; rfl, one_below⟩

set_option maxRecDepth 100000 in
set_option maxHeartbeats 4000000 in
theorem exprR_34 {d : Nat} (hE : ExprAt d) (t : ByteArray) (m p : Int) (l : List T) (n : Nat) (A : Option Addr) (c : Nat) (w : World) (hn : n + (d + 1) ≤ 200) (h1 : 1 ≤ l.length) (h17 : l.length ≤ 17) (hg : goodB (d + 1) (T.mk 34 t m p l) = true) (hF : Fine (T.mk 34 t m p l)) (hR : Rd w l A c) :
    Calls Tryz.prog 19 #[nv (T.mk 34 t m p l) A c, .int .i64 n] w fun e w' => e = .returned (.string (exprT (d + 1) n (T.mk 34 t m p l))) ∧ Below w.heap.size w w' := by
  have hn1 : n + d ≤ 200 := by omega
  obtain ⟨y, hy⟩ : ∃ y, l[0]? = some y := ⟨l[0]'(by omega), by simp⟩
  obtain ⟨b, o, A1, c1, rfl, hc1, hr1⟩ := hR.at0 hy
  have hW : Below w.heap.size w (w.alloc (.cells #[.int .i64 34, .string t, .int .u64 m, .int .i64 p, .slice (some ⟨b, o, none⟩) l.length c] 25)) := one_below
  have hmem := List.mem_of_getElem? hy
  have hgy := goodB_down hg (y := y) hmem
  have hfy := hF.kid (y := y) hmem
  have hys := expr_le (n := n) hgy hfy hn1
  have hws := wrap_le (b := stemB y) hys
  obtain ⟨u0, u1, u2, u3, u4⟩ := hc1.below hW
  have hb0 : T.bulks l ≤ 1048576 := hF.bulks
  have hjs : (joinT (l.tail.map (partT (typT d) (exprT d n)))).size ≤ 1048576000 := by
    have e1 := join_bulk (l := l.tail) (f := partT (typT d) (exprT d n)) (fun z hz => by have := part_short (n := n) (goodB_down hg (List.mem_of_mem_tail hz)) (hF.kid (List.mem_of_mem_tail hz)).wf hn1; omega)
    have e2 : T.bulks l.tail ≤ T.bulks l := by
      cases l with
      | nil => exact Nat.le_refl _
      | cons a l => simp only [List.tail_cons, T.bulks]; omega
    omega
  have he : exprT (d + 1) n (T.mk 34 t m p l) = wrapT (stemB y) (exprT d n y) ++ ⟨#[40]⟩ ++ joinT (l.tail.map (partT (typT d) (exprT d n))) ++ ⟨#[41]⟩ := by
    show exprF (typT d) (exprT d n) (blockT d n) (T.mk 34 t m p l) = _
    rw [← ch_at (f := fun y => wrapT (stemB y) (exprT d n y)) hy]
    rfl
  have C1 := Lib.hid (stemR_any hE y n A1 c1 _ hn1 hgy hfy (hr1.keep hW))
  have C2 := Lib.hid (fun (w' : World) (hb : Below (w.alloc (.cells #[.int .i64 34, .string t, .int .u64 m, .int .i64 p, .slice (some ⟨b, o, none⟩) l.length c] 25)).heap.size (w.alloc (.cells #[.int .i64 34, .string t, .int .u64 m, .int .i64 p, .slice (some ⟨b, o, none⟩) l.length c] 25)) w') => partsR_any hE l 1 n (some ⟨b, o, none⟩) c w' hn1 h1 (by omega) (fun z hz => goodB_down hg hz) (fun z hz => hF.kid hz) hb0 ((hR.keep hW).keep hb))
  generalize hJ : joinT (l.tail.map (partT (typT d) (exprT d n))) = J at hjs he
  have HJ := Lib.hid hJ
  have HX := Lib.hid he
  have HW := Lib.hid hW
  clear he hE hR hg hF hgy hfy hr1 hc1 hb0 hmem hy hW hJ
  go_enter Tryz.func19, Tryz.ntmps19
  go_wp2_with fail
  refine C1.out.mono ?_
  rintro e w1 ⟨rfl, hb⟩
  have HB1 := Lib.hid hb
  clear hb
  go_wp2_with fail
  have hp := C2.out w1 HB1.out
  rw [List.drop_one, HJ.out] at hp
  refine hp.mono ?_
  rintro e w2 ⟨rfl, hb⟩
  have HB2 := Lib.hid (below_then HW.out HW.out.size (below_then HB1.out HB1.out.size hb))
  clear hb hp
  go_wp2_with fail
  go_ret
  exact ⟨by rw [HX.out]; rfl, HB2.out⟩

set_option maxRecDepth 100000 in
set_option maxHeartbeats 4000000 in
theorem exprR_36 {d : Nat} (hE : ExprAt d) (t : ByteArray) (m p : Int) (l : List T) (n : Nat) (A : Option Addr) (c : Nat) (w : World) (hn : n + (d + 1) ≤ 200) (h1 : 1 ≤ l.length) (h17 : l.length ≤ 17) (hg : goodB (d + 1) (T.mk 36 t m p l) = true) (hF : Fine (T.mk 36 t m p l)) (hR : Rd w l A c) :
    Calls Tryz.prog 19 #[nv (T.mk 36 t m p l) A c, .int .i64 n] w fun e w' => e = .returned (.string (exprT (d + 1) n (T.mk 36 t m p l))) ∧ Below w.heap.size w w' := by
  have hn1 : n + d ≤ 200 := by omega
  obtain ⟨y, hy⟩ : ∃ y, l[0]? = some y := ⟨l[0]'(by omega), by simp⟩
  obtain ⟨b, o, A1, c1, rfl, hc1, hr1⟩ := hR.at0 hy
  have hW : Below w.heap.size w (w.alloc (.cells #[.int .i64 36, .string t, .int .u64 m, .int .i64 p, .slice (some ⟨b, o, none⟩) l.length c] 25)) := one_below
  have hmem := List.mem_of_getElem? hy
  have hgy := goodB_down hg (y := y) hmem
  have hfy := hF.kid (y := y) hmem
  have hys := expr_le (n := n) hgy hfy hn1
  have hws := wrap_le (b := stemB y) hys
  obtain ⟨u0, u1, u2, u3, u4⟩ := hc1.below hW
  have hb0 : T.bulks l ≤ 1048576 := hF.bulks
  have hjs : (joinT (l.tail.map (partT (typT d) (exprT d n)))).size ≤ 1048576000 := by
    have e1 := join_bulk (l := l.tail) (f := partT (typT d) (exprT d n)) (fun z hz => by have := part_short (n := n) (goodB_down hg (List.mem_of_mem_tail hz)) (hF.kid (List.mem_of_mem_tail hz)).wf hn1; omega)
    have e2 : T.bulks l.tail ≤ T.bulks l := by
      cases l with
      | nil => exact Nat.le_refl _
      | cons a l => simp only [List.tail_cons, T.bulks]; omega
    omega
  have he : exprT (d + 1) n (T.mk 36 t m p l) = wrapT (stemB y) (exprT d n y) ++ ⟨#[91]⟩ ++ joinT (l.tail.map (partT (typT d) (exprT d n))) ++ ⟨#[93]⟩ := by
    show exprF (typT d) (exprT d n) (blockT d n) (T.mk 36 t m p l) = _
    rw [← ch_at (f := fun y => wrapT (stemB y) (exprT d n y)) hy]
    rfl
  have C1 := Lib.hid (stemR_any hE y n A1 c1 _ hn1 hgy hfy (hr1.keep hW))
  have C2 := Lib.hid (fun (w' : World) (hb : Below (w.alloc (.cells #[.int .i64 36, .string t, .int .u64 m, .int .i64 p, .slice (some ⟨b, o, none⟩) l.length c] 25)).heap.size (w.alloc (.cells #[.int .i64 36, .string t, .int .u64 m, .int .i64 p, .slice (some ⟨b, o, none⟩) l.length c] 25)) w') => partsR_any hE l 1 n (some ⟨b, o, none⟩) c w' hn1 h1 (by omega) (fun z hz => goodB_down hg hz) (fun z hz => hF.kid hz) hb0 ((hR.keep hW).keep hb))
  generalize hJ : joinT (l.tail.map (partT (typT d) (exprT d n))) = J at hjs he
  have HJ := Lib.hid hJ
  have HX := Lib.hid he
  have HW := Lib.hid hW
  clear he hE hR hg hF hgy hfy hr1 hc1 hb0 hmem hy hW hJ
  go_enter Tryz.func19, Tryz.ntmps19
  go_wp2_with fail
  refine C1.out.mono ?_
  rintro e w1 ⟨rfl, hb⟩
  have HB1 := Lib.hid hb
  clear hb
  go_wp2_with fail
  have hp := C2.out w1 HB1.out
  rw [List.drop_one, HJ.out] at hp
  refine hp.mono ?_
  rintro e w2 ⟨rfl, hb⟩
  have HB2 := Lib.hid (below_then HW.out HW.out.size (below_then HB1.out HB1.out.size hb))
  clear hb hp
  go_wp2_with fail
  go_ret
  exact ⟨by rw [HX.out]; rfl, HB2.out⟩

set_option maxRecDepth 100000 in
set_option maxHeartbeats 4000000 in
theorem exprR_37 {d : Nat} (hE : ExprAt d) (t : ByteArray) (m p : Int) (l : List T) (n : Nat) (A : Option Addr) (c : Nat) (w : World) (hn : n + (d + 1) ≤ 200) (h17 : l.length ≤ 17) (hg : goodB (d + 1) (T.mk 37 t m p l) = true) (hF : Fine (T.mk 37 t m p l)) (hR : Rd w l A c) :
    Calls Tryz.prog 19 #[nv (T.mk 37 t m p l) A c, .int .i64 n] w fun e w' => e = .returned (.string (exprT (d + 1) n (T.mk 37 t m p l))) ∧ Below w.heap.size w w' := by
  have hts := hF.text
  rw [T.text_mk] at hts
  have hn1 : n + d ≤ 200 := by omega
  have hW : Below w.heap.size w (w.alloc (.cells #[.int .i64 37, .string t, .int .u64 m, .int .i64 p, .slice A l.length c] 25)) := one_below
  obtain ⟨g0, g1, g2, g3, g4⟩ := box_raw (Below.refl (w.heap.size + 1) (w.alloc (.cells #[.int .i64 37, .string t, .int .u64 m, .int .i64 p, .slice A l.length c] 25)))
  have k1 := Ext.cell g1
  have hjs := join_bulk (l := l) (f := partT (typT d) (exprT d n)) (fun z hz => by have := part_short (n := n) (goodB_down hg hz) (hF.kid hz).wf hn1; omega)
  have hb0 : T.bulks l ≤ 1048576 := hF.bulks
  have he : exprT (d + 1) n (T.mk 37 t m p l) = t ++ ⟨#[123]⟩ ++ joinT (l.map (partT (typT d) (exprT d n))) ++ ⟨#[125]⟩ := rfl
  have hcall := fun k : Ext (w.alloc (.cells #[.int .i64 37, .string t, .int .u64 m, .int .i64 p, .slice A l.length c] 25)) => k.call (partsR_any hE l 0 n A c k.v hn1 (Nat.zero_le _) (by omega) (fun z hz => goodB_down hg hz) (fun z hz => hF.kid hz) hb0 ((hR.keep hW).keep k.b))
  rw [List.drop_zero] at hcall
  generalize hJ : joinT (l.map (partT (typT d) (exprT d n))) = J at hjs he hcall
  have hjs2 : J.size ≤ 1048576000 := by omega
  have C1 := Lib.hid hcall
  have HX := Lib.hid he
  have HW := Lib.hid hW
  clear he hE hR hg hF hb0 hJ hcall hW hjs
  go_enter Tryz.func19, Tryz.ntmps19
  go_wp2_with fail
  have hne := Ext.ne (w.alloc (.cells #[.int .i64 37, .string t, .int .u64 m, .int .i64 p, .slice A l.length c] 25))
  have q0 : ¬ 9223372036854775807 < t.size + 1 := by omega
  have q1 : ¬ 9223372036854775807 < t.size + 1 + J.size := by omega
  have q2 : ¬ 9223372036854775807 < t.size + 1 + J.size + 1 := by omega
  refine wp_region_ext (by kernel_rfl) (by kernel_rfl) ?_
  repeat (quiet_step (exact C1.out _))
  refine wpQuiet_nil ?_
  rintro _ ⟨k, rfl⟩
  go_wp2_with fail
  go_ret
  exact ⟨by rw [HX.out]; rfl, below_then HW.out HW.out.size k.b⟩

set_option maxRecDepth 100000 in
set_option maxHeartbeats 4000000 in
theorem exprR_other {d : Nat} (k : Int) (t : ByteArray) (m p : Int) (l : List T) (n : Nat) (A : Option Addr) (c : Nat) (w : World) (k31 : ¬ k = 31) (k32 : ¬ k = 32) (k33 : ¬ k = 33) (k34 : ¬ k = 34) (k35 : ¬ k = 35) (k36 : ¬ k = 36) (k37 : ¬ k = 37) (k38 : ¬ k = 38) (k39 : ¬ k = 39) (k40 : ¬ k = 40) :
    Calls Tryz.prog 19 #[nv (T.mk k t m p l) A c, .int .i64 n] w fun e w' => e = .returned (.string (exprT (d + 1) n (T.mk k t m p l))) ∧ Below w.heap.size w w' := by
  have he : exprT (d + 1) n (T.mk k t m p l) = t := by
    show exprF (typT d) (exprT d n) (blockT d n) (T.mk k t m p l) = t
    simp only [exprF, T.kind_mk, T.text_mk, k31, k32, k33, k34, k35, k36, k37, k38, k39, k40, if_false]
  rw [he]
  replace k31 : (k == 31) = false := by simpa using k31
  replace k32 : (k == 32) = false := by simpa using k32
  replace k33 : (k == 33) = false := by simpa using k33
  replace k34 : (k == 34) = false := by simpa using k34
  replace k35 : (k == 35) = false := by simpa using k35
  replace k36 : (k == 36) = false := by simpa using k36
  replace k37 : (k == 37) = false := by simpa using k37
  replace k38 : (k == 38) = false := by simpa using k38
  replace k39 : (k == 39) = false := by simpa using k39
  replace k40 : (k == 40) = false := by simpa using k40
  clear he
  go_enter Tryz.func19, Tryz.ntmps19
  go_wp2_with fail
  go_ret
  exact ⟨rfl, one_below⟩

theorem exprR_succ {d : Nat} (hE : ExprAt d) (hB : BlockAt d) : ExprAt (d + 1) := by
  intro x n A c w hn hg hF hR
  have hch := goodB_kids hg
  cases x with
  | mk k t m p l =>
    rw [childrenB_mk] at hch
    by_cases k31 : k = 31
    · subst k31; exact exprR_31 t m p l n A c w hF.num hF.num2
    by_cases k32 : k = 32
    · subst k32; exact exprR_32 t m p l n A c w
    by_cases k33 : k = 33
    · subst k33
      simp only [Int.reduceEq, if_false, if_true, or_false, Bool.or_eq_true] at hch
      rcases hch with h | h
      · obtain ⟨y, rfl, -⟩ := kids_one h
        exact exprR_33a hE t m p y n A c w hn hg hF hR
      · obtain ⟨y, z, rfl, -, -⟩ := kids_two h
        cases e1 : twoB y <;> cases e2 : twoB z
        · exact exprR_33ff hE t m p y z e1 e2 n A c w hn hg hF hR
        · exact exprR_33ft hE t m p y z e1 e2 n A c w hn hg hF hR
        · exact exprR_33tf hE t m p y z e1 e2 n A c w hn hg hF hR
        · exact exprR_33tt hE t m p y z e1 e2 n A c w hn hg hF hR
    by_cases k34 : k = 34
    · subst k34
      simp only [Int.reduceEq, if_false, if_true, or_false, Bool.and_eq_true, decide_eq_true_eq] at hch
      exact exprR_34 hE t m p l n A c w hn hch.1 hch.2.1 hg hF hR
    by_cases k35 : k = 35
    · subst k35
      simp only [Int.reduceEq, if_false, if_true, or_false, or_true] at hch
      obtain ⟨y, rfl, -⟩ := kids_one hch
      exact exprR_35 hE t m p y n A c w hn hg hF hR
    by_cases k36 : k = 36
    · subst k36
      simp only [Int.reduceEq, if_false, if_true, or_false, Bool.and_eq_true, decide_eq_true_eq] at hch
      exact exprR_36 hE t m p l n A c w hn (by omega) hch.2.1 hg hF hR
    by_cases k37 : k = 37
    · subst k37
      simp only [Int.reduceEq, if_false, if_true, or_false, Bool.and_eq_true, decide_eq_true_eq] at hch
      exact exprR_37 hE t m p l n A c w hn (by omega) hg hF hR
    by_cases k38 : k = 38
    · subst k38
      simp only [Int.reduceEq, if_false, if_true, or_false] at hch
      obtain ⟨y, z, q, rfl, h1, h2, h3⟩ := kids_three hch
      exact exprR_38 hB t m p y z q (by simpa [okKind] using h1) (by simpa [okKind] using h2) (by simpa [okKind] using h3) n A c w hn hg hF hR
    by_cases k39 : k = 39
    · subst k39
      simp only [Int.reduceEq, if_false, if_true, or_false, or_true] at hch
      obtain ⟨y, rfl, -⟩ := kids_one hch
      exact exprR_39 hE t m p y n A c w hn hg hF hR
    by_cases k40 : k = 40
    · subst k40
      simp only [Int.reduceEq, if_false, if_true, or_false] at hch
      obtain ⟨y, z, rfl, -, -⟩ := kids_two hch
      exact exprR_40 hE t m p y z n A c w hn hg hF hR
    exact exprR_other k t m p l n A c w k31 k32 k33 k34 k35 k36 k37 k38 k39 k40

end Go.Proofs.YtoemljgkofhhpaaGreatDoor
