import Derived.Test.YtoemljgkofhhpaaGreatDoorPgL
namespace Go.Proofs.YtoemljgkofhhpaaGreatDoor
open Go.RowKit

set_option maxRecDepth 100000 in
set_option maxHeartbeats 2000000 in
theorem blockP_succ {d : Nat} (hS : StmtP d) : BlockP (d + 1) := by
  intro x n A c pb w hn hx hg hF hR hP
  have hch := goodB_kids hg
  have hst : ∀ y ∈ x.list, isStmtB y.kind = true := by
    simp only [childrenB, hx, Int.reduceEq, if_false, if_true, or_false, allB, List.all_eq_true] at hch
    exact hch
  have hgy : ∀ y ∈ x.list, goodB d y = true := fun y hy => goodB_down hg hy
  have hls : (linesF (n + 1) (stmtT d (n + 1)) x.list).size ≤ 1048576000 := by
    have h1 := cat_bulk (l := x.list) (f := fun y => tabsT (n + 1) ++ stmtT d (n + 1) y ++ (⟨#[10]⟩ : ByteArray)) (fun y hy => by
      have := (txt_short d y (n + 1) (hgy y hy) (hF.kid hy).wf (by omega)).2.2
      simp only [ba_size, ba_mk, tabsT_size, List.size_toArray, List.length_cons, List.length_nil]; omega)
    have h2 := hF.bulks
    unfold linesF; omega
  have hn2 : n ≤ 1000 := by omega
  have C1 := Lib.hid (linesP_any hS x.list n A c pb (w.alloc (nbox x A c)) (by omega) hF.len hst hgy (fun y hy => hF.kid hy) hF.bulks (hR.keep one_below) (hP.keep one_below))
  have C2 := Lib.hid (fun w' => tabsP_any n hn2 w')
  have HP := Lib.hid (fun w' hb => ((hP.keep (one_below (o1 := nbox x A c))).keep (w' := w') hb).at_.cell)
  have HNS := Lib.hid (tabsT_size n)
  generalize hL : linesF (n + 1) (stmtT d (n + 1)) x.list = L at *
  have HL := Lib.hid hL
  clear hS hch hst hgy hg hF hR hL hx hP
  go_enter Tryz.func33, Tryz.ntmps33
  go_wp2_with fail
  refine C1.out.mono ?_
  rintro e w1 ⟨rfl, hb⟩
  have hpc := HP.out _ hb
  have HB := Lib.hid (box_below (box_after hb))
  clear hb
  go_wp2_with fail
  refine (C2.out _).mono ?_
  rintro e w2 ⟨rfl, hb⟩
  have HB2 := Lib.hid (below_then HB.out HB.out.size hb)
  have hns := HNS.out
  clear hb
  go_wp2_with fail
  go_ret
  exact ⟨by rw [← HL.out]; rfl, HB2.out⟩

set_option maxRecDepth 100000 in
set_option maxHeartbeats 2000000 in
theorem stmtP_20 {d : Nat} (hS : StmtP d) (t : ByteArray) (m p : Int) (l : List T) (n : Nat) (A : Option Addr) (c pb : Nat) (w : World) (hn : n + (d + 1) ≤ 200) (hg : goodB (d + 1) (T.mk 20 t m p l) = true) (hF : Fine (T.mk 20 t m p l)) (hR : Rd w l A c) (hP : Pr w pb n) :
    Calls Tryz.prog 91 #[.pointer (some ⟨pb, 0, none⟩), nv (T.mk 20 t m p l) A c] w fun e w' => e = .returned (.string (stmtT (d + 1) n (T.mk 20 t m p l))) ∧ Below w.heap.size w w' := by
  have C1 := Lib.hid (blockP_succ hS (T.mk 20 t m p l) n A c pb (w.alloc (nbox (T.mk 20 t m p l) A c)) hn rfl hg hF (hR.keep one_below) (hP.keep one_below))
  clear hS hg hF hR hP
  go_enter Tryz.func91, Tryz.ntmps91
  go_wp2_with fail
  refine C1.out.mono ?_
  rintro e w1 ⟨rfl, hb⟩
  have HB := Lib.hid (box_below (box_after hb))
  clear hb
  go_wp2_with fail
  go_ret
  exact ⟨rfl, HB.out⟩

set_option maxRecDepth 100000 in
set_option maxHeartbeats 2000000 in
theorem stmtP_21 {d : Nat} (hE : ExprP d) (t : ByteArray) (m p : Int) (y : T) (n : Nat) (A : Option Addr) (c pb : Nat) (w : World) (hn : n + (d + 1) ≤ 200) (hg : goodB (d + 1) (T.mk 21 t m p [y]) = true) (hF : Fine (T.mk 21 t m p [y])) (hR : Rd w [y] A c) (hP : Pr w pb n) :
    Calls Tryz.prog 91 #[.pointer (some ⟨pb, 0, none⟩), nv (T.mk 21 t m p [y]) A c] w fun e w' => e = .returned (.string (stmtT (d + 1) n (T.mk 21 t m p [y]))) ∧ Below w.heap.size w w' := by
  have hts := hF.text
  rw [T.text_mk] at hts
  have hn1 : n + d ≤ 200 := by omega
  obtain ⟨b, o, A1, c1, rfl, hc1, hr1⟩ := hR.at0 (x := y) rfl
  have hW : Below w.heap.size w (w.alloc (.cells #[.int .i64 21, .string t, .int .u64 m, .int .i64 p, .slice (some ⟨b, o, none⟩) 1 c] 25)) := one_below
  have hgy := goodB_down hg (y := y) (by simp)
  have hfy := hF.kid (y := y) (by simp)
  have hys := expr_le (n := n) hgy hfy hn1
  obtain ⟨u0, u1, u2, u3, u4⟩ := Ext.cells (hc1.below hW)
  obtain ⟨g0, g1, g2, g3, g4⟩ := box_raw (Below.refl (w.heap.size + 1) (w.alloc (.cells #[.int .i64 21, .string t, .int .u64 m, .int .i64 p, .slice (some ⟨b, o, none⟩) 1 c] 25)))
  have k1 := Ext.cell g1
  have C1 := Lib.hid (fun k : Ext (w.alloc (.cells #[.int .i64 21, .string t, .int .u64 m, .int .i64 p, .slice (some ⟨b, o, none⟩) 1 c] 25)) => k.call (hE y n A1 c1 pb k.v hn1 hgy hfy ((hr1.keep hW).keep k.b) ((hP.keep hW).keep k.b)))
  clear hE
  clear hR hg hF hgy hfy hr1 hc1 hP
  go_enter Tryz.func91, Tryz.ntmps91
  go_wp2_with fail
  have hne := Ext.ne (w.alloc (.cells #[.int .i64 21, .string t, .int .u64 m, .int .i64 p, .slice (some ⟨b, o, none⟩) 1 c] 25))
  have q0 : ¬ 9223372036854775807 < t.size + 4 := by omega
  have q1 : ¬ 9223372036854775807 < t.size + 4 + (exprT d n y).size := by omega
  refine wp_region_ext (by kernel_rfl) (by kernel_rfl) ?_
  repeat (quiet_step (first | exact C1.out _))
  refine wpQuiet_nil ?_
  rintro _ ⟨k, rfl⟩
  go_wp2_with fail
  go_ret
  exact ⟨rfl, below_then hW hW.size k.b⟩

set_option maxRecDepth 100000 in
set_option maxHeartbeats 2000000 in
theorem stmtP_22 {d : Nat}  (t : ByteArray) (m p : Int) (y : T) (n : Nat) (A : Option Addr) (c pb : Nat) (w : World) (_hn : n + (d + 1) ≤ 200) (hg : goodB (d + 1) (T.mk 22 t m p [y]) = true) (hF : Fine (T.mk 22 t m p [y])) (hR : Rd w [y] A c) (_hP : Pr w pb n) :
    Calls Tryz.prog 91 #[.pointer (some ⟨pb, 0, none⟩), nv (T.mk 22 t m p [y]) A c] w fun e w' => e = .returned (.string (stmtT (d + 1) n (T.mk 22 t m p [y]))) ∧ Below w.heap.size w w' := by
  clear _hn _hP
  have hfs := field_le (d := d) hF
  have C1 := Lib.hid (paramP_any (T.mk 22 t m p [y]) y A c (w.alloc (nbox (T.mk 22 t m p [y]) A c)) rfl (goodB_down hg (by simp)) hF (hR.keep one_below))
  have HX := Lib.hid (show stmtT (d + 1) n (T.mk 22 t m p [y]) = ⟨#[118, 97, 114, 32]⟩ ++ fieldT (typT d) (T.mk 22 t m p [y]) from by simp only [fieldT, ← ba_assoc]; rfl)
  generalize fieldT (typT d) (T.mk 22 t m p [y]) = F at *
  clear hg hF hR
  go_enter Tryz.func91, Tryz.ntmps91
  go_wp2_with fail
  refine C1.out.mono ?_
  rintro e w1 ⟨rfl, hb⟩
  have HB := Lib.hid (box_below (box_after hb))
  clear hb
  go_wp2_with fail
  go_ret
  exact ⟨by rw [HX.out]; rfl, HB.out⟩

set_option maxRecDepth 100000 in
set_option maxHeartbeats 2000000 in
theorem stmtP_23 {d : Nat} (hE : ExprP d) (t : ByteArray) (m p : Int) (y z : T) (n : Nat) (A : Option Addr) (c pb : Nat) (w : World) (hn : n + (d + 1) ≤ 200) (hg : goodB (d + 1) (T.mk 23 t m p [y, z]) = true) (hF : Fine (T.mk 23 t m p [y, z])) (hR : Rd w [y, z] A c) (hP : Pr w pb n) :
    Calls Tryz.prog 91 #[.pointer (some ⟨pb, 0, none⟩), nv (T.mk 23 t m p [y, z]) A c] w fun e w' => e = .returned (.string (stmtT (d + 1) n (T.mk 23 t m p [y, z]))) ∧ Below w.heap.size w w' := by
  have hn1 : n + d ≤ 200 := by omega
  obtain ⟨b, o, A1, c1, rfl, hc1, hr1⟩ := hR.at0 (x := y) rfl
  have hW : Below w.heap.size w (w.alloc (.cells #[.int .i64 23, .string t, .int .u64 m, .int .i64 p, .slice (some ⟨b, o, none⟩) 2 c] 25)) := one_below
  have hgy := goodB_down hg (y := y) (by simp)
  have hfy := hF.kid (y := y) (by simp)
  have hys := expr_le (n := n) hgy hfy hn1
  obtain ⟨u0, u1, u2, u3, u4⟩ := Ext.cells (hc1.below hW)
  obtain ⟨g0, g1, g2, g3, g4⟩ := box_raw (Below.refl (w.heap.size + 1) (w.alloc (.cells #[.int .i64 23, .string t, .int .u64 m, .int .i64 p, .slice (some ⟨b, o, none⟩) 2 c] 25)))
  obtain ⟨A2, c2, hc2, hr2⟩ := hR.at1
  have hgz := goodB_down hg (y := z) (by simp)
  have hfz := hF.kid (y := z) (by simp)
  have hzs := expr_le (n := n) hgz hfz hn1
  obtain ⟨v0, v1, v2, v3, v4⟩ := Ext.cells (hc2.below hW)
  have C1 := Lib.hid (fun k : Ext (w.alloc (.cells #[.int .i64 23, .string t, .int .u64 m, .int .i64 p, .slice (some ⟨b, o, none⟩) 2 c] 25)) => k.call (hE y n A1 c1 pb k.v hn1 hgy hfy ((hr1.keep hW).keep k.b) ((hP.keep hW).keep k.b)))
  have C2 := Lib.hid (fun k : Ext (w.alloc (.cells #[.int .i64 23, .string t, .int .u64 m, .int .i64 p, .slice (some ⟨b, o, none⟩) 2 c] 25)) => k.call (hE z n A2 c2 pb k.v hn1 hgz hfz ((hr2.keep hW).keep k.b) ((hP.keep hW).keep k.b)))
  clear hgz hfz hr2 hc2 hE
  clear hR hg hF hgy hfy hr1 hc1 hP
  go_enter Tryz.func91, Tryz.ntmps91
  go_wp2_with fail
  have hne := Ext.ne (w.alloc (.cells #[.int .i64 23, .string t, .int .u64 m, .int .i64 p, .slice (some ⟨b, o, none⟩) 2 c] 25))
  have q0 : ¬ 9223372036854775807 < (exprT d n y).size + 3 := by omega
  have q1 : ¬ 9223372036854775807 < (exprT d n y).size + 3 + (exprT d n z).size := by omega
  refine wp_region_ext (by kernel_rfl) (by kernel_rfl) ?_
  iterate 6 (quiet_step (exact C1.out _))
  repeat (quiet_step (exact C2.out _))
  refine wpQuiet_nil ?_
  rintro _ ⟨k, rfl⟩
  go_wp2_with fail
  go_ret
  exact ⟨rfl, below_then hW hW.size k.b⟩

set_option maxRecDepth 100000 in
set_option maxHeartbeats 2000000 in
theorem stmtP_41 {d : Nat} (hE : ExprP d) (t : ByteArray) (m p : Int) (y z : T) (n : Nat) (A : Option Addr) (c pb : Nat) (w : World) (hn : n + (d + 1) ≤ 200) (hg : goodB (d + 1) (T.mk 41 t m p [y, z]) = true) (hF : Fine (T.mk 41 t m p [y, z])) (hR : Rd w [y, z] A c) (hP : Pr w pb n) :
    Calls Tryz.prog 91 #[.pointer (some ⟨pb, 0, none⟩), nv (T.mk 41 t m p [y, z]) A c] w fun e w' => e = .returned (.string (stmtT (d + 1) n (T.mk 41 t m p [y, z]))) ∧ Below w.heap.size w w' := by
  have hn1 : n + d ≤ 200 := by omega
  obtain ⟨b, o, A1, c1, rfl, hc1, hr1⟩ := hR.at0 (x := y) rfl
  have hW : Below w.heap.size w (w.alloc (.cells #[.int .i64 41, .string t, .int .u64 m, .int .i64 p, .slice (some ⟨b, o, none⟩) 2 c] 25)) := one_below
  have hgy := goodB_down hg (y := y) (by simp)
  have hfy := hF.kid (y := y) (by simp)
  have hys := expr_le (n := n) hgy hfy hn1
  obtain ⟨u0, u1, u2, u3, u4⟩ := Ext.cells (hc1.below hW)
  obtain ⟨g0, g1, g2, g3, g4⟩ := box_raw (Below.refl (w.heap.size + 1) (w.alloc (.cells #[.int .i64 41, .string t, .int .u64 m, .int .i64 p, .slice (some ⟨b, o, none⟩) 2 c] 25)))
  obtain ⟨A2, c2, hc2, hr2⟩ := hR.at1
  have hgz := goodB_down hg (y := z) (by simp)
  have hfz := hF.kid (y := z) (by simp)
  have hzs := expr_le (n := n) hgz hfz hn1
  obtain ⟨v0, v1, v2, v3, v4⟩ := Ext.cells (hc2.below hW)
  have C1 := Lib.hid (fun k : Ext (w.alloc (.cells #[.int .i64 41, .string t, .int .u64 m, .int .i64 p, .slice (some ⟨b, o, none⟩) 2 c] 25)) => k.call (hE y n A1 c1 pb k.v hn1 hgy hfy ((hr1.keep hW).keep k.b) ((hP.keep hW).keep k.b)))
  have C2 := Lib.hid (fun k : Ext (w.alloc (.cells #[.int .i64 41, .string t, .int .u64 m, .int .i64 p, .slice (some ⟨b, o, none⟩) 2 c] 25)) => k.call (hE z n A2 c2 pb k.v hn1 hgz hfz ((hr2.keep hW).keep k.b) ((hP.keep hW).keep k.b)))
  clear hgz hfz hr2 hc2 hE
  clear hR hg hF hgy hfy hr1 hc1 hP
  go_enter Tryz.func91, Tryz.ntmps91
  go_wp2_with fail
  have hne := Ext.ne (w.alloc (.cells #[.int .i64 41, .string t, .int .u64 m, .int .i64 p, .slice (some ⟨b, o, none⟩) 2 c] 25))
  have q0 : ¬ 9223372036854775807 < (exprT d n y).size + 4 := by omega
  have q1 : ¬ 9223372036854775807 < (exprT d n y).size + 4 + (exprT d n z).size := by omega
  refine wp_region_ext (by kernel_rfl) (by kernel_rfl) ?_
  iterate 6 (quiet_step (exact C1.out _))
  repeat (quiet_step (exact C2.out _))
  refine wpQuiet_nil ?_
  rintro _ ⟨k, rfl⟩
  go_wp2_with fail
  go_ret
  exact ⟨rfl, below_then hW hW.size k.b⟩

set_option maxRecDepth 100000 in
set_option maxHeartbeats 2000000 in
theorem stmtP_24 {d : Nat} (hE : ExprP d) (t : ByteArray) (m p : Int) (y : T) (n : Nat) (A : Option Addr) (c pb : Nat) (w : World) (hn : n + (d + 1) ≤ 200) (hg : goodB (d + 1) (T.mk 24 t m p [y]) = true) (hF : Fine (T.mk 24 t m p [y])) (hR : Rd w [y] A c) (hP : Pr w pb n) :
    Calls Tryz.prog 91 #[.pointer (some ⟨pb, 0, none⟩), nv (T.mk 24 t m p [y]) A c] w fun e w' => e = .returned (.string (stmtT (d + 1) n (T.mk 24 t m p [y]))) ∧ Below w.heap.size w w' := by
  have hn1 : n + d ≤ 200 := by omega
  obtain ⟨b, o, A1, c1, rfl, hc1, hr1⟩ := hR.at0 (x := y) rfl
  have hW : Below w.heap.size w (w.alloc (.cells #[.int .i64 24, .string t, .int .u64 m, .int .i64 p, .slice (some ⟨b, o, none⟩) 1 c] 25)) := one_below
  have hgy := goodB_down hg (y := y) (by simp)
  have hfy := hF.kid (y := y) (by simp)
  obtain ⟨u0, u1, u2, u3, u4⟩ := hc1.below hW
  have C1 := Lib.hid (hE y n A1 c1 pb (w.alloc (.cells #[.int .i64 24, .string t, .int .u64 m, .int .i64 p, .slice (some ⟨b, o, none⟩) 1 c] 25)) hn1 hgy hfy (hr1.keep hW) (hP.keep hW))
  have HW := Lib.hid hW
  clear hE hW
  clear hR hg hF hgy hfy hr1 hc1 hP
  go_enter Tryz.func91, Tryz.ntmps91
  go_wp2_with fail
  refine C1.out.mono ?_
  rintro e w1 ⟨rfl, hb⟩
  have HB := Lib.hid (below_then HW.out HW.out.size hb)
  clear hb
  go_wp2_with fail
  go_ret
  exact ⟨rfl, HB.out⟩

set_option maxRecDepth 100000 in
set_option maxHeartbeats 2000000 in
theorem stmtP_28 {d : Nat} (hE : ExprP d) (t : ByteArray) (m p : Int) (y : T) (n : Nat) (A : Option Addr) (c pb : Nat) (w : World) (hn : n + (d + 1) ≤ 200) (hg : goodB (d + 1) (T.mk 28 t m p [y]) = true) (hF : Fine (T.mk 28 t m p [y])) (hR : Rd w [y] A c) (hP : Pr w pb n) :
    Calls Tryz.prog 91 #[.pointer (some ⟨pb, 0, none⟩), nv (T.mk 28 t m p [y]) A c] w fun e w' => e = .returned (.string (stmtT (d + 1) n (T.mk 28 t m p [y]))) ∧ Below w.heap.size w w' := by
  have hn1 : n + d ≤ 200 := by omega
  obtain ⟨b, o, A1, c1, rfl, hc1, hr1⟩ := hR.at0 (x := y) rfl
  have hW : Below w.heap.size w (w.alloc (.cells #[.int .i64 28, .string t, .int .u64 m, .int .i64 p, .slice (some ⟨b, o, none⟩) 1 c] 25)) := one_below
  have hgy := goodB_down hg (y := y) (by simp)
  have hfy := hF.kid (y := y) (by simp)
  have hys := expr_le (n := n) hgy hfy hn1
  obtain ⟨u0, u1, u2, u3, u4⟩ := hc1.below hW
  have C1 := Lib.hid (hE y n A1 c1 pb (w.alloc (.cells #[.int .i64 28, .string t, .int .u64 m, .int .i64 p, .slice (some ⟨b, o, none⟩) 1 c] 25)) hn1 hgy hfy (hr1.keep hW) (hP.keep hW))
  have HW := Lib.hid hW
  clear hE hW
  clear hR hg hF hgy hfy hr1 hc1 hP
  go_enter Tryz.func91, Tryz.ntmps91
  go_wp2_with fail
  refine C1.out.mono ?_
  rintro e w1 ⟨rfl, hb⟩
  have HB := Lib.hid (below_then HW.out HW.out.size hb)
  clear hb
  go_wp2_with fail
  go_ret
  exact ⟨rfl, HB.out⟩

set_option maxRecDepth 100000 in
set_option maxHeartbeats 2000000 in
theorem stmtP_28a {d : Nat}  (t : ByteArray) (m p : Int)  (n : Nat) (A : Option Addr) (c pb : Nat) (w : World) (_hn : n + (d + 1) ≤ 200) (_hg : goodB (d + 1) (T.mk 28 t m p []) = true) (_hF : Fine (T.mk 28 t m p [])) (_hR : Rd w [] A c) (_hP : Pr w pb n) :
    Calls Tryz.prog 91 #[.pointer (some ⟨pb, 0, none⟩), nv (T.mk 28 t m p []) A c] w fun e w' => e = .returned (.string (stmtT (d + 1) n (T.mk 28 t m p []))) ∧ Below w.heap.size w w' := by
  clear _hg _hF _hR _hn _hP
  go_enter Tryz.func91, Tryz.ntmps91
  go_wp2_with fail
  go_ret
  exact ⟨rfl, one_below⟩

set_option maxRecDepth 100000 in
set_option maxHeartbeats 2000000 in
theorem stmtP_27_0 {d : Nat} (t : ByteArray) (p : Int) (l : List T) (n : Nat) (A : Option Addr) (c pb : Nat) (w : World) :
    Calls Tryz.prog 91 #[.pointer (some ⟨pb, 0, none⟩), nv (T.mk 27 t 0 p l) A c] w fun e w' => e = .returned (.string (stmtT (d + 1) n (T.mk 27 t 0 p l))) ∧ Below w.heap.size w w' := by
  have ix := ixBreak_0
  go_enter Tryz.func91, Tryz.ntmps91
  go_wp2_with fail
  go_ret
  exact ⟨rfl, one_below⟩

set_option maxRecDepth 100000 in
set_option maxHeartbeats 2000000 in
theorem stmtP_29_0 {d : Nat} (hE : ExprP d) (t : ByteArray) (p : Int) (y : T) (n : Nat) (A : Option Addr) (c pb : Nat) (w : World) (hn : n + (d + 1) ≤ 200) (hg : goodB (d + 1) (T.mk 29 t 0 p [y]) = true) (hF : Fine (T.mk 29 t 0 p [y])) (hR : Rd w [y] A c) (hP : Pr w pb n) :
    Calls Tryz.prog 91 #[.pointer (some ⟨pb, 0, none⟩), nv (T.mk 29 t 0 p [y]) A c] w fun e w' => e = .returned (.string (stmtT (d + 1) n (T.mk 29 t 0 p [y]))) ∧ Below w.heap.size w w' := by
  have hn1 : n + d ≤ 200 := by omega
  obtain ⟨b, o, A1, c1, rfl, hc1, hr1⟩ := hR.at0 (x := y) rfl
  have hW : Below w.heap.size w (w.alloc (.cells #[.int .i64 29, .string t, .int .u64 0, .int .i64 p, .slice (some ⟨b, o, none⟩) 1 c] 25)) := one_below
  have hgy := goodB_down hg (y := y) (by simp)
  have hfy := hF.kid (y := y) (by simp)
  have hys := expr_le (n := n) hgy hfy hn1
  obtain ⟨u0, u1, u2, u3, u4⟩ := Ext.cells (hc1.below hW)
  obtain ⟨g0, g1, g2, g3, g4⟩ := box_raw (Below.refl (w.heap.size + 1) (w.alloc (.cells #[.int .i64 29, .string t, .int .u64 0, .int .i64 p, .slice (some ⟨b, o, none⟩) 1 c] 25)))
  have k2 := Ext.cell g2
  have ix := ixGo_0
  have C1 := Lib.hid (fun k : Ext (w.alloc (.cells #[.int .i64 29, .string t, .int .u64 0, .int .i64 p, .slice (some ⟨b, o, none⟩) 1 c] 25)) => k.call (hE y n A1 c1 pb k.v hn1 hgy hfy ((hr1.keep hW).keep k.b) ((hP.keep hW).keep k.b)))
  clear hE
  clear hR hg hF hgy hfy hr1 hc1 hP
  go_enter Tryz.func91, Tryz.ntmps91
  go_wp2_with fail
  have hne := Ext.ne (w.alloc (.cells #[.int .i64 29, .string t, .int .u64 0, .int .i64 p, .slice (some ⟨b, o, none⟩) 1 c] 25))
  have q0 : ¬ 9223372036854775807 < 3 + (exprT d n y).size := by omega
  refine wp_region_ext (by kernel_rfl) (by kernel_rfl) ?_
  repeat (quiet_step (first | exact C1.out _))
  refine wpQuiet_nil ?_
  rintro _ ⟨k, rfl⟩
  go_wp2_with fail
  go_ret
  exact ⟨rfl, below_then hW hW.size k.b⟩

set_option maxRecDepth 100000 in
set_option maxHeartbeats 2000000 in
theorem stmtP_27_1 {d : Nat} (t : ByteArray) (p : Int) (l : List T) (n : Nat) (A : Option Addr) (c pb : Nat) (w : World) :
    Calls Tryz.prog 91 #[.pointer (some ⟨pb, 0, none⟩), nv (T.mk 27 t 1 p l) A c] w fun e w' => e = .returned (.string (stmtT (d + 1) n (T.mk 27 t 1 p l))) ∧ Below w.heap.size w w' := by
  have ix := ixBreak_1
  go_enter Tryz.func91, Tryz.ntmps91
  go_wp2_with fail
  go_ret
  exact ⟨rfl, one_below⟩

set_option maxRecDepth 100000 in
set_option maxHeartbeats 2000000 in
theorem stmtP_29_1 {d : Nat} (hE : ExprP d) (t : ByteArray) (p : Int) (y : T) (n : Nat) (A : Option Addr) (c pb : Nat) (w : World) (hn : n + (d + 1) ≤ 200) (hg : goodB (d + 1) (T.mk 29 t 1 p [y]) = true) (hF : Fine (T.mk 29 t 1 p [y])) (hR : Rd w [y] A c) (hP : Pr w pb n) :
    Calls Tryz.prog 91 #[.pointer (some ⟨pb, 0, none⟩), nv (T.mk 29 t 1 p [y]) A c] w fun e w' => e = .returned (.string (stmtT (d + 1) n (T.mk 29 t 1 p [y]))) ∧ Below w.heap.size w w' := by
  have hn1 : n + d ≤ 200 := by omega
  obtain ⟨b, o, A1, c1, rfl, hc1, hr1⟩ := hR.at0 (x := y) rfl
  have hW : Below w.heap.size w (w.alloc (.cells #[.int .i64 29, .string t, .int .u64 1, .int .i64 p, .slice (some ⟨b, o, none⟩) 1 c] 25)) := one_below
  have hgy := goodB_down hg (y := y) (by simp)
  have hfy := hF.kid (y := y) (by simp)
  have hys := expr_le (n := n) hgy hfy hn1
  obtain ⟨u0, u1, u2, u3, u4⟩ := Ext.cells (hc1.below hW)
  obtain ⟨g0, g1, g2, g3, g4⟩ := box_raw (Below.refl (w.heap.size + 1) (w.alloc (.cells #[.int .i64 29, .string t, .int .u64 1, .int .i64 p, .slice (some ⟨b, o, none⟩) 1 c] 25)))
  have k2 := Ext.cell g2
  have ix := ixGo_1
  have C1 := Lib.hid (fun k : Ext (w.alloc (.cells #[.int .i64 29, .string t, .int .u64 1, .int .i64 p, .slice (some ⟨b, o, none⟩) 1 c] 25)) => k.call (hE y n A1 c1 pb k.v hn1 hgy hfy ((hr1.keep hW).keep k.b) ((hP.keep hW).keep k.b)))
  clear hE
  clear hR hg hF hgy hfy hr1 hc1 hP
  go_enter Tryz.func91, Tryz.ntmps91
  go_wp2_with fail
  have hne := Ext.ne (w.alloc (.cells #[.int .i64 29, .string t, .int .u64 1, .int .i64 p, .slice (some ⟨b, o, none⟩) 1 c] 25))
  have q0 : ¬ 9223372036854775807 < 6 + (exprT d n y).size := by omega
  refine wp_region_ext (by kernel_rfl) (by kernel_rfl) ?_
  repeat (quiet_step (first | exact C1.out _))
  refine wpQuiet_nil ?_
  rintro _ ⟨k, rfl⟩
  go_wp2_with fail
  go_ret
  exact ⟨rfl, below_then hW hW.size k.b⟩

set_option maxRecDepth 100000 in
set_option maxHeartbeats 2000000 in
theorem stmtP_26 {d : Nat} (hE : ExprP d) (hB : BlockP d) (t : ByteArray) (m p : Int) (y z : T) (hz : z.kind = 20) (n : Nat) (A : Option Addr) (c pb : Nat) (w : World) (hn : n + (d + 1) ≤ 200) (hg : goodB (d + 1) (T.mk 26 t m p [y, z]) = true) (hF : Fine (T.mk 26 t m p [y, z])) (hR : Rd w [y, z] A c) (hP : Pr w pb n) :
    Calls Tryz.prog 91 #[.pointer (some ⟨pb, 0, none⟩), nv (T.mk 26 t m p [y, z]) A c] w fun e w' => e = .returned (.string (stmtT (d + 1) n (T.mk 26 t m p [y, z]))) ∧ Below w.heap.size w w' := by
  have hn1 : n + d ≤ 200 := by omega
  obtain ⟨b, o, A1, c1, rfl, hc1, hr1⟩ := hR.at0 (x := y) rfl
  have hW : Below w.heap.size w (w.alloc (.cells #[.int .i64 26, .string t, .int .u64 m, .int .i64 p, .slice (some ⟨b, o, none⟩) 2 c] 25)) := one_below
  have hgy := goodB_down hg (y := y) (by simp)
  have hfy := hF.kid (y := y) (by simp)
  have hys := expr_le (n := n) hgy hfy hn1
  obtain ⟨u0, u1, u2, u3, u4⟩ := Ext.cells (hc1.below hW)
  obtain ⟨g0, g1, g2, g3, g4⟩ := box_raw (Below.refl (w.heap.size + 1) (w.alloc (.cells #[.int .i64 26, .string t, .int .u64 m, .int .i64 p, .slice (some ⟨b, o, none⟩) 2 c] 25)))
  obtain ⟨A2, c2, hc2, hr2⟩ := hR.at1
  have hgz := goodB_down hg (y := z) (by simp)
  have hfz := hF.kid (y := z) (by simp)
  have hzs := block_le (n := n) hgz hfz hn1
  obtain ⟨v0, v1, v2, v3, v4⟩ := Ext.cells (hc2.below hW)
  have hws := wrap_le (b := y.lits) hys
  have C1 := Lib.hid (fun k : Ext (w.alloc (.cells #[.int .i64 26, .string t, .int .u64 m, .int .i64 p, .slice (some ⟨b, o, none⟩) 2 c] 25)) => k.call (headsP_any hE y n A1 c1 pb k.v hn1 hgy hfy ((hr1.keep hW).keep k.b) ((hP.keep hW).keep k.b)))
  have C2 := Lib.hid (fun k : Ext (w.alloc (.cells #[.int .i64 26, .string t, .int .u64 m, .int .i64 p, .slice (some ⟨b, o, none⟩) 2 c] 25)) => k.call (hB z n A2 c2 pb k.v hn1 hz hgz hfz ((hr2.keep hW).keep k.b) ((hP.keep hW).keep k.b)))
  clear hgz hfz hr2 hc2 hE hB hz
  clear hR hg hF hgy hfy hr1 hc1 hP
  go_enter Tryz.func91, Tryz.ntmps91
  go_wp2_with fail
  have hne := Ext.ne (w.alloc (.cells #[.int .i64 26, .string t, .int .u64 m, .int .i64 p, .slice (some ⟨b, o, none⟩) 2 c] 25))
  have q0 : ¬ 9223372036854775807 < 4 + (wrapT (y.lits) (exprT d n y)).size := by omega
  have q1 : ¬ 9223372036854775807 < 4 + (wrapT (y.lits) (exprT d n y)).size + 1 := by omega
  have q2 : ¬ 9223372036854775807 < 4 + (wrapT (y.lits) (exprT d n y)).size + 1 + (blockT d n z).size := by omega
  refine wp_region_ext (by kernel_rfl) (by kernel_rfl) ?_
  repeat (quiet_step (first | exact C1.out _ | exact C2.out _))
  refine wpQuiet_nil ?_
  rintro _ ⟨k, rfl⟩
  go_wp2_with fail
  go_ret
  exact ⟨rfl, below_then hW hW.size k.b⟩

set_option maxRecDepth 100000 in
set_option maxHeartbeats 2000000 in
theorem stmtP_25 {d : Nat} (hE : ExprP d) (hB : BlockP d) (t : ByteArray) (m p : Int) (y z : T) (hz : z.kind = 20) (n : Nat) (A : Option Addr) (c pb : Nat) (w : World) (hn : n + (d + 1) ≤ 200) (hg : goodB (d + 1) (T.mk 25 t m p [y, z]) = true) (hF : Fine (T.mk 25 t m p [y, z])) (hR : Rd w [y, z] A c) (hP : Pr w pb n) :
    Calls Tryz.prog 91 #[.pointer (some ⟨pb, 0, none⟩), nv (T.mk 25 t m p [y, z]) A c] w fun e w' => e = .returned (.string (stmtT (d + 1) n (T.mk 25 t m p [y, z]))) ∧ Below w.heap.size w w' := by
  have hn1 : n + d ≤ 200 := by omega
  obtain ⟨b, o, A1, c1, rfl, hc1, hr1⟩ := hR.at0 (x := y) rfl
  have hW : Below w.heap.size w (w.alloc (.cells #[.int .i64 25, .string t, .int .u64 m, .int .i64 p, .slice (some ⟨b, o, none⟩) 2 c] 25)) := one_below
  have hgy := goodB_down hg (y := y) (by simp)
  have hfy := hF.kid (y := y) (by simp)
  have hys := expr_le (n := n) hgy hfy hn1
  obtain ⟨u0, u1, u2, u3, u4⟩ := Ext.cells (hc1.below hW)
  obtain ⟨g0, g1, g2, g3, g4⟩ := box_raw (Below.refl (w.heap.size + 1) (w.alloc (.cells #[.int .i64 25, .string t, .int .u64 m, .int .i64 p, .slice (some ⟨b, o, none⟩) 2 c] 25)))
  obtain ⟨A2, c2, hc2, hr2⟩ := hR.at1
  have hgz := goodB_down hg (y := z) (by simp)
  have hfz := hF.kid (y := z) (by simp)
  have hzs := block_le (n := n) hgz hfz hn1
  obtain ⟨v0, v1, v2, v3, v4⟩ := Ext.cells (hc2.below hW)
  have hws := wrap_le (b := y.lits) hys
  have C1 := Lib.hid (fun k : Ext (w.alloc (.cells #[.int .i64 25, .string t, .int .u64 m, .int .i64 p, .slice (some ⟨b, o, none⟩) 2 c] 25)) => k.call (headsP_any hE y n A1 c1 pb k.v hn1 hgy hfy ((hr1.keep hW).keep k.b) ((hP.keep hW).keep k.b)))
  have C2 := Lib.hid (fun k : Ext (w.alloc (.cells #[.int .i64 25, .string t, .int .u64 m, .int .i64 p, .slice (some ⟨b, o, none⟩) 2 c] 25)) => k.call (hB z n A2 c2 pb k.v hn1 hz hgz hfz ((hr2.keep hW).keep k.b) ((hP.keep hW).keep k.b)))
  clear hgz hfz hr2 hc2 hE hB hz
  clear hR hg hF hgy hfy hr1 hc1 hP
  go_enter Tryz.func91, Tryz.ntmps91
  go_wp2_with fail
  have hne := Ext.ne (w.alloc (.cells #[.int .i64 25, .string t, .int .u64 m, .int .i64 p, .slice (some ⟨b, o, none⟩) 2 c] 25))
  have q0 : ¬ 9223372036854775807 < 3 + (wrapT (y.lits) (exprT d n y)).size := by omega
  have q1 : ¬ 9223372036854775807 < 3 + (wrapT (y.lits) (exprT d n y)).size + 1 := by omega
  have q2 : ¬ 9223372036854775807 < 3 + (wrapT (y.lits) (exprT d n y)).size + 1 + (blockT d n z).size := by omega
  refine wp_region_ext (by kernel_rfl) (by kernel_rfl) ?_
  repeat (quiet_step (first | exact C1.out _ | exact C2.out _))
  refine wpQuiet_nil ?_
  rintro _ ⟨k, rfl⟩
  go_wp2_with fail
  go_ret
  exact ⟨rfl, below_then hW hW.size k.b⟩

set_option maxRecDepth 100000 in
set_option maxHeartbeats 2000000 in
theorem stmtP_25e {d : Nat} (hE : ExprP d) (hB : BlockP d) (hS : StmtP d) (t : ByteArray) (m p : Int) (y z q : T) (hz : z.kind = 20) (hq : isStmtB q.kind = true) (n : Nat) (A : Option Addr) (c pb : Nat) (w : World) (hn : n + (d + 1) ≤ 200) (hg : goodB (d + 1) (T.mk 25 t m p [y, z, q]) = true) (hF : Fine (T.mk 25 t m p [y, z, q])) (hR : Rd w [y, z, q] A c) (hP : Pr w pb n) :
    Calls Tryz.prog 91 #[.pointer (some ⟨pb, 0, none⟩), nv (T.mk 25 t m p [y, z, q]) A c] w fun e w' => e = .returned (.string (stmtT (d + 1) n (T.mk 25 t m p [y, z, q]))) ∧ Below w.heap.size w w' := by
  have hn1 : n + d ≤ 200 := by omega
  obtain ⟨b, o, A1, c1, rfl, hc1, hr1⟩ := hR.at0 (x := y) rfl
  have hW : Below w.heap.size w (w.alloc (.cells #[.int .i64 25, .string t, .int .u64 m, .int .i64 p, .slice (some ⟨b, o, none⟩) 3 c] 25)) := one_below
  have hgy := goodB_down hg (y := y) (by simp)
  have hfy := hF.kid (y := y) (by simp)
  have hys := expr_le (n := n) hgy hfy hn1
  obtain ⟨u0, u1, u2, u3, u4⟩ := Ext.cells (hc1.below hW)
  obtain ⟨g0, g1, g2, g3, g4⟩ := box_raw (Below.refl (w.heap.size + 1) (w.alloc (.cells #[.int .i64 25, .string t, .int .u64 m, .int .i64 p, .slice (some ⟨b, o, none⟩) 3 c] 25)))
  obtain ⟨A2, c2, hc2, hr2⟩ := hR.at1
  have hgz := goodB_down hg (y := z) (by simp)
  have hfz := hF.kid (y := z) (by simp)
  have hzs := block_le (n := n) hgz hfz hn1
  obtain ⟨v0, v1, v2, v3, v4⟩ := Ext.cells (hc2.below hW)
  have hws := wrap_le (b := y.lits) hys
  have C1 := Lib.hid (fun k : Ext (w.alloc (.cells #[.int .i64 25, .string t, .int .u64 m, .int .i64 p, .slice (some ⟨b, o, none⟩) 3 c] 25)) => k.call (headsP_any hE y n A1 c1 pb k.v hn1 hgy hfy ((hr1.keep hW).keep k.b) ((hP.keep hW).keep k.b)))
  have C2 := Lib.hid (fun k : Ext (w.alloc (.cells #[.int .i64 25, .string t, .int .u64 m, .int .i64 p, .slice (some ⟨b, o, none⟩) 3 c] 25)) => k.call (hB z n A2 c2 pb k.v hn1 hz hgz hfz ((hr2.keep hW).keep k.b) ((hP.keep hW).keep k.b)))
  obtain ⟨A3, c3, hc3, hr3⟩ := hR.at2
  have hgq := goodB_down hg (y := q) (by simp)
  have hfq := hF.kid (y := q) (by simp)
  have hqs := stmt_le (n := n) hgq hfq hn1
  have s3 := hc3.below hW
  have S3 := Lib.hid s3
  have C3 := Lib.hid (fun (k : Ext (w.alloc (.cells #[.int .i64 25, .string t, .int .u64 m, .int .i64 p, .slice (some ⟨b, o, none⟩) 3 c] 25))) => hS q n A3 c3 pb k.v hn1 hq hgq hfq ((hr3.keep hW).keep k.b) ((hP.keep hW).keep k.b))
  clear hgq hfq hr3 hc3 s3 hS hq
  have HX := Lib.hid (show stmtT (d + 1) n (T.mk 25 t m p [y, z, q]) = ⟨#[105, 102, 32]⟩ ++ wrapT y.lits (exprT d n y) ++ ⟨#[32]⟩ ++ blockT d n z ++ ⟨#[32, 101, 108, 115, 101, 32]⟩ ++ stmtT d n q from rfl)
  clear hgz hfz hr2 hc2 hE hB hz
  clear hR hg hF hgy hfy hr1 hc1 hP
  go_enter Tryz.func91, Tryz.ntmps91
  go_wp2_with fail
  have hne := Ext.ne (w.alloc (.cells #[.int .i64 25, .string t, .int .u64 m, .int .i64 p, .slice (some ⟨b, o, none⟩) 3 c] 25))
  have q0 : ¬ 9223372036854775807 < 3 + (wrapT (y.lits) (exprT d n y)).size := by omega
  have q1 : ¬ 9223372036854775807 < 3 + (wrapT (y.lits) (exprT d n y)).size + 1 := by omega
  have q2 : ¬ 9223372036854775807 < 3 + (wrapT (y.lits) (exprT d n y)).size + 1 + (blockT d n z).size := by omega
  refine wp_region_ext (by kernel_rfl) (by kernel_rfl) ?_
  repeat (quiet_step (first | exact C1.out _ | exact C2.out _))
  refine wpQuiet_nil ?_
  rintro _ ⟨k, rfl⟩
  obtain ⟨x0, x1, x2, x3, x4⟩ := S3.out.below k.b
  go_wp2_with fail
  refine (C3.out k).mono ?_
  rintro e w2 ⟨rfl, hb⟩
  have HB := Lib.hid (below_then hW hW.size (below_then k.b k.b.size hb))
  clear hb
  go_wp2_with fail
  go_ret
  exact ⟨by rw [HX.out]; simp only [ba_assoc]; rfl, HB.out⟩

end Go.Proofs.YtoemljgkofhhpaaGreatDoor
