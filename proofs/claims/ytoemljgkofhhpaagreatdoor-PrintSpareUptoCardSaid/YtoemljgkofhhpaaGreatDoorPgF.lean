import Derived.Test.YtoemljgkofhhpaaGreatDoorPgE
namespace Go.Proofs.YtoemljgkofhhpaaGreatDoor
open Go.RowKit

set_option maxRecDepth 100000 in
set_option maxHeartbeats 2000000 in
theorem exprP_31 {d : Nat}  (t : ByteArray) (m p : Int) (l : List T) (n : Nat) (A : Option Addr) (c pb : Nat) (w : World) (hm : 0 ≤ m) (hm2 : m ≤ 18446744073709551615) (hP : Pr w pb n) :
    Calls Tryz.prog 22 #[.pointer (some ⟨pb, 0, none⟩), nv (T.mk 31 t m p l) A c] w fun e w' => e = .returned (.string (exprT (d + 1) n (T.mk 31 t m p l))) ∧ Below w.heap.size w w' := by
  obtain ⟨u, rfl⟩ : ∃ u : Nat, m = (u : Int) := ⟨m.toNat, by omega⟩
  have hu : u < 18446744073709551616 := by omega
  have HC := Lib.hid (formatUint_any u hu (w.alloc (.cells #[.int .i64 31, .string t, .int .u64 (u : Int), .int .i64 p, .slice A l.length c] 25)) (hP.env.keep one_below).pow)
  clear hm hm2 hP
  go_enter Tryz.func22, Tryz.ntmps22
  go_wp2_with fail
  refine HC.out.mono ?_
  rintro e w1 ⟨rfl, hb⟩
  have HB := Lib.hid (box_below (box_after hb))
  clear hb
  go_wp2_with fail
  go_ret
  exact ⟨rfl, HB.out⟩

set_option maxRecDepth 100000 in
set_option maxHeartbeats 2000000 in
theorem exprP_32 {d : Nat}  (t : ByteArray) (m p : Int) (l : List T) (n : Nat) (A : Option Addr) (c pb : Nat) (w : World)  :
    Calls Tryz.prog 22 #[.pointer (some ⟨pb, 0, none⟩), nv (T.mk 32 t m p l) A c] w fun e w' => e = .returned (.string (exprT (d + 1) n (T.mk 32 t m p l))) ∧ Below w.heap.size w w' := by
  have he : exprT (d + 1) n (T.mk 32 t m p l) = cond (m == 1) ⟨#[116, 114, 117, 101]⟩ ⟨#[102, 97, 108, 115, 101]⟩ := rfl
  have HX := Lib.hid he
  clear he
  cases hm : (m == 1) with
  | true =>
    go_enter Tryz.func22, Tryz.ntmps22
    go_wp2_with fail
    refine (Tryz.strconv_FormatBool _ _).mono ?_
    rintro e w1 ⟨rfl, rfl⟩
    go_wp2_with fail
    go_ret
    exact ⟨by rw [HX.out, hm]; rfl, one_below⟩
  | false =>
    go_enter Tryz.func22, Tryz.ntmps22
    go_wp2_with fail
    refine (Tryz.strconv_FormatBool _ _).mono ?_
    rintro e w1 ⟨rfl, rfl⟩
    go_wp2_with fail
    go_ret
    exact ⟨by rw [HX.out, hm]; rfl, one_below⟩

theorem parts_exprs {ty ex : T → ByteArray} {l : List T} (h : ∀ y ∈ l, ¬ y.kind < 20) : l.map (partT ty ex) = l.map ex := by
  refine List.map_congr_left (fun y hy => ?_)
  unfold partT; rw [if_neg (h y hy)]
theorem Rd.tails {w : World} {l : List T} {b o c : Nat} (h : Rd w l (some ⟨b, o, none⟩) c) (h1 : 1 ≤ l.length) : Rd w l.tail (if c = 1 then some ⟨b, o, none⟩ else some ⟨b, o + 5, none⟩) (c - 1) := by
  by_cases hc : c = 1
  · have hl : l.tail = [] := by
      have := h.len
      have h2 : l.tail.length = 0 := by rw [List.length_tail]; omega
      exact List.eq_nil_of_length_eq_zero h2
    rw [hl]
    exact .mk [] _ _ b o (fun _ => none) (fun _ => 0) (Nat.zero_le _) (fun h => absurd h (by simp)) (fun i x h => by simp at h) (fun i x h => by simp at h)
  · rw [if_neg hc]; exact h.tail h1
theorem tail_bulk {l : List T} : T.bulks l.tail ≤ T.bulks l := by
  cases l with
  | nil => exact Nat.le_refl _
  | cons a l => simp only [List.tail_cons, T.bulks]; omega

set_option maxRecDepth 100000 in
set_option maxHeartbeats 2000000 in
theorem exprP_34 {d : Nat} (hE : ExprP d) (t : ByteArray) (m p : Int) (l : List T) (n : Nat) (A : Option Addr) (c pb : Nat) (w : World) (hn : n + (d + 1) ≤ 200) (h1 : 1 ≤ l.length) (h17 : l.length ≤ 17) (hk : ∀ y ∈ l.tail, ¬ y.kind < 20) (hg : goodB (d + 1) (T.mk 34 t m p l) = true) (hF : Fine (T.mk 34 t m p l)) (hR : Rd w l A c) (hP : Pr w pb n) :
    Calls Tryz.prog 22 #[.pointer (some ⟨pb, 0, none⟩), nv (T.mk 34 t m p l) A c] w fun e w' => e = .returned (.string (exprT (d + 1) n (T.mk 34 t m p l))) ∧ Below w.heap.size w w' := by
  have hn1 : n + d ≤ 200 := by omega
  obtain ⟨y, hy⟩ : ∃ y, l[0]? = some y := ⟨l[0]'(by omega), by simp⟩
  obtain ⟨b, o, A1, c1, rfl, hc1, hr1⟩ := hR.at0 hy
  have hW : Below w.heap.size w (w.alloc (.cells #[.int .i64 34, .string t, .int .u64 m, .int .i64 p, .slice (some ⟨b, o, none⟩) l.length c] 25)) := one_below
  have hmem := List.mem_of_getElem? hy
  have hgy := goodB_down hg (y := y) hmem
  have hfy := hF.kid (y := y) hmem
  have hys := expr_le (n := n) hgy hfy hn1
  have hws := wrap_le (b := stemB y) hys
  obtain ⟨u0, u1, u2, u3, u4⟩ := Ext.cells (hc1.below hW)
  have hb0 : T.bulks l ≤ 1048576 := hF.bulks
  have hjs : (joinT (l.tail.map (exprT d n))).size ≤ 1048576000 := by
    have e1 := join_bulk (l := l.tail) (f := exprT d n) (fun z hz => by have := (txt_short d z n (goodB_down hg (List.mem_of_mem_tail hz)) (hF.kid (List.mem_of_mem_tail hz)).wf hn1).1; omega)
    have e2 := tail_bulk (l := l)
    omega
  have he : exprT (d + 1) n (T.mk 34 t m p l) = wrapT (stemB y) (exprT d n y) ++ ⟨#[40]⟩ ++ joinT (l.tail.map (exprT d n)) ++ ⟨#[41]⟩ := by
    rw [← parts_exprs (ty := typT d) (ex := exprT d n) hk]
    show exprF (typT d) (exprT d n) (blockT d n) (T.mk 34 t m p l) = _
    rw [← ch_at (f := fun y => wrapT (stemB y) (exprT d n y)) hy]
    rfl
  have hlc : l.length ≤ c := hR.len
  have hl0 : 0 < l.length := by omega
  have hl1 : (1 : Int) ≤ (l.length : Int) := by omega
  have C1 := Lib.hid (fun k : Ext (w.alloc (.cells #[.int .i64 34, .string t, .int .u64 m, .int .i64 p, .slice (some ⟨b, o, none⟩) l.length c] 25)) => k.call (stemP_any hE y n A1 c1 pb k.v hn1 hgy hfy ((hr1.keep hW).keep k.b) ((hP.keep hW).keep k.b)))
  have hC2 := fun k : Ext (w.alloc (.cells #[.int .i64 34, .string t, .int .u64 m, .int .i64 p, .slice (some ⟨b, o, none⟩) l.length c] 25)) => k.call (joinP_any (exprT d n) 22 #[.pointer (some ⟨pb, 0, none⟩)] (enters_of Tryz.func22 (by kernel_rfl) rfl) l.tail (if c = 1 then some ⟨b, o, none⟩ else some ⟨b, o + 5, none⟩) (c - 1) k.v (by rw [List.length_tail]; omega)
    (fun z A' c' w' hz hbw hr => hE z n A' c' pb w' hn1 (goodB_down hg (List.mem_of_mem_tail hz)) (hF.kid (List.mem_of_mem_tail hz)) hr (((hP.keep hW).keep k.b).keep hbw)) hjs (((hR.keep hW).keep k.b).tails h1))
  rw [List.length_tail] at hC2
  generalize hJ : joinT (l.tail.map (exprT d n)) = J at hjs he hC2
  have C2 := Lib.hid hC2
  have HX := Lib.hid he
  have HW := Lib.hid hW
  clear he hE hR hg hF hgy hfy hr1 hc1 hb0 hmem hy hW hJ hC2 hP hk
  go_enter Tryz.func22, Tryz.ntmps22
  go_wp2_with fail
  have hne := Ext.ne (w.alloc (.cells #[.int .i64 34, .string t, .int .u64 m, .int .i64 p, .slice (some ⟨b, o, none⟩) l.length c] 25))
  have q0 : ¬ 9223372036854775807 < (wrapT (stemB y) (exprT d n y)).size + 1 := by omega
  have q1 : ¬ 9223372036854775807 < (wrapT (stemB y) (exprT d n y)).size + 1 + J.size := by omega
  have q2 : ¬ 9223372036854775807 < (wrapT (stemB y) (exprT d n y)).size + 1 + J.size + 1 := by omega
  refine wp_region_ext (by kernel_rfl) (by kernel_rfl) ?_
  iterate 5 (quiet_step (exact C1.out _))
  repeat (quiet_step (exact C2.out _))
  refine wpQuiet_nil ?_
  rintro _ ⟨k, rfl⟩
  go_wp2_with fail
  all_goals go_ret
  all_goals exact ⟨by rw [HX.out]; rfl, below_then HW.out HW.out.size k.b⟩

set_option maxRecDepth 100000 in
set_option maxHeartbeats 2000000 in
theorem exprP_36 {d : Nat} (hE : ExprP d) (t : ByteArray) (m p : Int) (l : List T) (n : Nat) (A : Option Addr) (c pb : Nat) (w : World) (hn : n + (d + 1) ≤ 200) (h1 : 1 ≤ l.length) (h17 : l.length ≤ 17) (hk : ∀ y ∈ l.tail, isTypeB y.kind = decide (y.kind < 20)) (hg : goodB (d + 1) (T.mk 36 t m p l) = true) (hF : Fine (T.mk 36 t m p l)) (hR : Rd w l A c) (hP : Pr w pb n) :
    Calls Tryz.prog 22 #[.pointer (some ⟨pb, 0, none⟩), nv (T.mk 36 t m p l) A c] w fun e w' => e = .returned (.string (exprT (d + 1) n (T.mk 36 t m p l))) ∧ Below w.heap.size w w' := by
  have hn1 : n + d ≤ 200 := by omega
  obtain ⟨y, hy⟩ : ∃ y, l[0]? = some y := ⟨l[0]'(by omega), by simp⟩
  obtain ⟨b, o, A1, c1, rfl, hc1, hr1⟩ := hR.at0 hy
  have hW : Below w.heap.size w (w.alloc (.cells #[.int .i64 36, .string t, .int .u64 m, .int .i64 p, .slice (some ⟨b, o, none⟩) l.length c] 25)) := one_below
  have hmem := List.mem_of_getElem? hy
  have hgy := goodB_down hg (y := y) hmem
  have hfy := hF.kid (y := y) hmem
  have hys := expr_le (n := n) hgy hfy hn1
  have hws := wrap_le (b := stemB y) hys
  obtain ⟨u0, u1, u2, u3, u4⟩ := Ext.cells (hc1.below hW)
  have hb0 : T.bulks l ≤ 1048576 := hF.bulks
  have hjs : (joinT (l.tail.map (partT (typT d) (exprT d n)))).size ≤ 1048576000 := by
    have e1 := join_bulk (l := l.tail) (f := partT (typT d) (exprT d n)) (fun z hz => by have := part_short (n := n) (goodB_down hg (List.mem_of_mem_tail hz)) (hF.kid (List.mem_of_mem_tail hz)).wf hn1; omega)
    have e2 := tail_bulk (l := l)
    omega
  have he : exprT (d + 1) n (T.mk 36 t m p l) = wrapT (stemB y) (exprT d n y) ++ ⟨#[91]⟩ ++ joinT (l.tail.map (partT (typT d) (exprT d n))) ++ ⟨#[93]⟩ := by
    show exprF (typT d) (exprT d n) (blockT d n) (T.mk 36 t m p l) = _
    rw [← ch_at (f := fun y => wrapT (stemB y) (exprT d n y)) hy]
    rfl
  have hlc : l.length ≤ c := hR.len
  have hl0 : 0 < l.length := by omega
  have hl1 : (1 : Int) ≤ (l.length : Int) := by omega
  have C1 := Lib.hid (fun k : Ext (w.alloc (.cells #[.int .i64 36, .string t, .int .u64 m, .int .i64 p, .slice (some ⟨b, o, none⟩) l.length c] 25)) => k.call (stemP_any hE y n A1 c1 pb k.v hn1 hgy hfy ((hr1.keep hW).keep k.b) ((hP.keep hW).keep k.b)))
  have hC2 := fun k : Ext (w.alloc (.cells #[.int .i64 36, .string t, .int .u64 m, .int .i64 p, .slice (some ⟨b, o, none⟩) l.length c] 25)) => k.call (joinP_any (partT (typT d) (exprT d n)) 54 #[.pointer (some ⟨pb, 0, none⟩)] (enters_of Tryz.func54 (by kernel_rfl) rfl) l.tail (if c = 1 then some ⟨b, o, none⟩ else some ⟨b, o + 5, none⟩) (c - 1) k.v (by rw [List.length_tail]; omega)
    (fun z A' c' w' hz hbw hr => partP_any hE z n A' c' pb w' hn1 (hk z hz) (goodB_down hg (List.mem_of_mem_tail hz)) (hF.kid (List.mem_of_mem_tail hz)) hr (((hP.keep hW).keep k.b).keep hbw)) hjs (((hR.keep hW).keep k.b).tails h1))
  rw [List.length_tail] at hC2
  generalize hJ : joinT (l.tail.map (partT (typT d) (exprT d n))) = J at hjs he hC2
  have C2 := Lib.hid hC2
  have HX := Lib.hid he
  have HW := Lib.hid hW
  clear he hE hR hg hF hgy hfy hr1 hc1 hb0 hmem hy hW hJ hC2 hP hk
  go_enter Tryz.func22, Tryz.ntmps22
  go_wp2_with fail
  have hne := Ext.ne (w.alloc (.cells #[.int .i64 36, .string t, .int .u64 m, .int .i64 p, .slice (some ⟨b, o, none⟩) l.length c] 25))
  have q0 : ¬ 9223372036854775807 < (wrapT (stemB y) (exprT d n y)).size + 1 := by omega
  have q1 : ¬ 9223372036854775807 < (wrapT (stemB y) (exprT d n y)).size + 1 + J.size := by omega
  have q2 : ¬ 9223372036854775807 < (wrapT (stemB y) (exprT d n y)).size + 1 + J.size + 1 := by omega
  refine wp_region_ext (by kernel_rfl) (by kernel_rfl) ?_
  iterate 5 (quiet_step (exact C1.out _))
  repeat (quiet_step (exact C2.out _))
  refine wpQuiet_nil ?_
  rintro _ ⟨k, rfl⟩
  go_wp2_with fail
  all_goals go_ret
  all_goals exact ⟨by rw [HX.out]; rfl, below_then HW.out HW.out.size k.b⟩

set_option maxRecDepth 100000 in
set_option maxHeartbeats 2000000 in
theorem exprP_37 {d : Nat} (hE : ExprP d) (t : ByteArray) (m p : Int) (l : List T) (n : Nat) (A : Option Addr) (c pb : Nat) (w : World) (hn : n + (d + 1) ≤ 200) (h17 : l.length ≤ 17) (hk : ∀ y ∈ l, ¬ y.kind < 20) (hg : goodB (d + 1) (T.mk 37 t m p l) = true) (hF : Fine (T.mk 37 t m p l)) (hR : Rd w l A c) (hP : Pr w pb n) :
    Calls Tryz.prog 22 #[.pointer (some ⟨pb, 0, none⟩), nv (T.mk 37 t m p l) A c] w fun e w' => e = .returned (.string (exprT (d + 1) n (T.mk 37 t m p l))) ∧ Below w.heap.size w w' := by
  have hts := hF.text
  rw [T.text_mk] at hts
  have hn1 : n + d ≤ 200 := by omega
  have hW : Below w.heap.size w (w.alloc (.cells #[.int .i64 37, .string t, .int .u64 m, .int .i64 p, .slice A l.length c] 25)) := one_below
  obtain ⟨g0, g1, g2, g3, g4⟩ := box_raw (Below.refl (w.heap.size + 1) (w.alloc (.cells #[.int .i64 37, .string t, .int .u64 m, .int .i64 p, .slice A l.length c] 25)))
  have k1 := Ext.cell g1
  have hb0 : T.bulks l ≤ 1048576 := hF.bulks
  have hjs : (joinT (l.map (exprT d n))).size ≤ 1048576000 := by
    have e1 := join_bulk (l := l) (f := exprT d n) (fun z hz => by have := (txt_short d z n (goodB_down hg hz) (hF.kid hz).wf hn1).1; omega)
    omega
  have he : exprT (d + 1) n (T.mk 37 t m p l) = t ++ ⟨#[123]⟩ ++ joinT (l.map (exprT d n)) ++ ⟨#[125]⟩ := by
    rw [← parts_exprs (ty := typT d) (ex := exprT d n) hk]; rfl
  have hC2 := fun k : Ext (w.alloc (.cells #[.int .i64 37, .string t, .int .u64 m, .int .i64 p, .slice A l.length c] 25)) => k.call (joinP_any (exprT d n) 22 #[.pointer (some ⟨pb, 0, none⟩)] (enters_of Tryz.func22 (by kernel_rfl) rfl) l A c k.v (by omega)
    (fun z A' c' w' hz hbw hr => hE z n A' c' pb w' hn1 (goodB_down hg hz) (hF.kid hz) hr (((hP.keep hW).keep k.b).keep hbw)) hjs ((hR.keep hW).keep k.b))
  generalize hJ : joinT (l.map (exprT d n)) = J at hjs he hC2
  have C2 := Lib.hid hC2
  have HX := Lib.hid he
  have HW := Lib.hid hW
  clear he hE hR hg hF hb0 hW hJ hC2 hP hk
  go_enter Tryz.func22, Tryz.ntmps22
  go_wp2_with fail
  have hne := Ext.ne (w.alloc (.cells #[.int .i64 37, .string t, .int .u64 m, .int .i64 p, .slice A l.length c] 25))
  have q0 : ¬ 9223372036854775807 < t.size + 1 := by omega
  have q1 : ¬ 9223372036854775807 < t.size + 1 + J.size := by omega
  have q2 : ¬ 9223372036854775807 < t.size + 1 + J.size + 1 := by omega
  refine wp_region_ext (by kernel_rfl) (by kernel_rfl) ?_
  repeat (quiet_step (exact C2.out _))
  refine wpQuiet_nil ?_
  rintro _ ⟨k, rfl⟩
  go_wp2_with fail
  go_ret
  exact ⟨by rw [HX.out]; rfl, below_then HW.out HW.out.size k.b⟩

set_option maxRecDepth 100000 in
set_option maxHeartbeats 4000000 in
theorem exprP_other {d : Nat} (k : Int) (t : ByteArray) (m p : Int) (l : List T) (n : Nat) (A : Option Addr) (c pb : Nat) (w : World) (k31 : ¬ k = 31) (k32 : ¬ k = 32) (k33 : ¬ k = 33) (k34 : ¬ k = 34) (k35 : ¬ k = 35) (k36 : ¬ k = 36) (k37 : ¬ k = 37) (k38 : ¬ k = 38) (k39 : ¬ k = 39) (k40 : ¬ k = 40) :
    Calls Tryz.prog 22 #[.pointer (some ⟨pb, 0, none⟩), nv (T.mk k t m p l) A c] w fun e w' => e = .returned (.string (exprT (d + 1) n (T.mk k t m p l))) ∧ Below w.heap.size w w' := by
  have he : exprT (d + 1) n (T.mk k t m p l) = t := by
    show exprF (typT d) (exprT d n) (blockT d n) (T.mk k t m p l) = t
    simp only [exprF, T.kind_mk, T.text_mk, k31, k32, k33, k34, k35, k36, k37, k38, k39, k40, if_false]
  rw [he]
  replace k31 : (k == 31) = false := by simpa using k31
  replace k32 : (k == 32) = false := by simpa using k32
  replace k33 : (k == 33) = false := by simpa using k33
  replace k34 : (k == 34) = false := by simpa using k34
  replace k35 : (k == 35) = false := by simpa using k35
  replace k36 : (k == 36) = false := by simpa using k36
  replace k37 : (k == 37) = false := by simpa using k37
  replace k38 : (k == 38) = false := by simpa using k38
  replace k39 : (k == 39) = false := by simpa using k39
  replace k40 : (k == 40) = false := by simpa using k40
  clear he
  go_enter Tryz.func22, Tryz.ntmps22
  go_wp2_with fail
  go_ret
  exact ⟨rfl, one_below⟩


theorem exprP_succ {d : Nat} (hE : ExprP d) (hB : BlockP d) : ExprP (d + 1) := by
  intro x n A c pb w hn hg hF hR hP
  have hch := goodB_kids hg
  cases x with
  | mk k t m p l =>
    rw [childrenB_mk] at hch
    by_cases k31 : k = 31
    · subst k31; exact exprP_31 t m p l n A c pb w hF.num hF.num2 hP
    by_cases k32 : k = 32
    · subst k32; exact exprP_32 t m p l n A c pb w
    by_cases k33 : k = 33
    · subst k33
      simp only [Int.reduceEq, if_false, if_true, or_false, Bool.or_eq_true] at hch
      rcases hch with h | h
      · obtain ⟨y, rfl, -⟩ := kids_one h
        exact exprP_33a hE t m p y n A c pb w hn hg hF hR hP
      · obtain ⟨y, z, rfl, -, -⟩ := kids_two h
        cases e1 : twoB y <;> cases e2 : twoB z
        · exact exprP_33ff hE t m p y z e1 e2 n A c pb w hn hg hF hR hP
        · exact exprP_33ft hE t m p y z e1 e2 n A c pb w hn hg hF hR hP
        · exact exprP_33tf hE t m p y z e1 e2 n A c pb w hn hg hF hR hP
        · exact exprP_33tt hE t m p y z e1 e2 n A c pb w hn hg hF hR hP
    by_cases k34 : k = 34
    · subst k34
      simp only [Int.reduceEq, if_false, if_true, or_false, Bool.and_eq_true, decide_eq_true_eq] at hch
      exact exprP_34 hE t m p l n A c pb w hn hch.1 hch.2.1 (fun y hy => by have := hch.2.2; simp only [allB, List.all_eq_true] at this; have := this y (List.mem_of_mem_tail hy); simp [isExprB] at this; omega) hg hF hR hP
    by_cases k35 : k = 35
    · subst k35
      simp only [Int.reduceEq, if_false, if_true, or_false, or_true] at hch
      obtain ⟨y, rfl, -⟩ := kids_one hch
      exact exprP_35 hE t m p y n A c pb w hn hg hF hR hP
    by_cases k36 : k = 36
    · subst k36
      simp only [Int.reduceEq, if_false, if_true, or_false, Bool.and_eq_true, decide_eq_true_eq] at hch
      exact exprP_36 hE t m p l n A c pb w hn (by omega) hch.2.1 (fun y hy => by have := hch.2.2.2; simp only [allB, List.all_eq_true] at this; have := this y hy; rw [Bool.eq_iff_iff]; simp [isExprB, isTypeB] at this ⊢; omega) hg hF hR hP
    by_cases k37 : k = 37
    · subst k37
      simp only [Int.reduceEq, if_false, if_true, or_false, Bool.and_eq_true, decide_eq_true_eq] at hch
      exact exprP_37 hE t m p l n A c pb w hn (by omega) (fun y hy => by have := hch.1; simp only [allB, List.all_eq_true] at this; have := this y hy; simp [isExprB] at this; omega) hg hF hR hP
    by_cases k38 : k = 38
    · subst k38
      simp only [Int.reduceEq, if_false, if_true, or_false] at hch
      obtain ⟨y, z, q, rfl, h1, h2, h3⟩ := kids_three hch
      exact exprP_38 hB t m p y z q (by simpa [okKind] using h1) (by simpa [okKind] using h2) (by simpa [okKind] using h3) n A c pb w hn hg hF hR hP
    by_cases k39 : k = 39
    · subst k39
      simp only [Int.reduceEq, if_false, if_true, or_false, or_true] at hch
      obtain ⟨y, rfl, -⟩ := kids_one hch
      exact exprP_39 hE t m p y n A c pb w hn hg hF hR hP
    by_cases k40 : k = 40
    · subst k40
      simp only [Int.reduceEq, if_false, if_true, or_false] at hch
      obtain ⟨y, z, rfl, -, -⟩ := kids_two hch
      exact exprP_40 hE t m p y z n A c pb w hn hg hF hR hP
    exact exprP_other k t m p l n A c pb w k31 k32 k33 k34 k35 k36 k37 k38 k39 k40


end Go.Proofs.YtoemljgkofhhpaaGreatDoor
