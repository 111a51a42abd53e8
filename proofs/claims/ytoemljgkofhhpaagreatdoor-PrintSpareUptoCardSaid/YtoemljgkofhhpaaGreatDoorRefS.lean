import Derived.Test.YtoemljgkofhhpaaGreatDoorRefB
namespace Go.Proofs.YtoemljgkofhhpaaGreatDoor
open Go.RowKit

set_option maxRecDepth 100000 in
set_option maxHeartbeats 4000000 in
theorem stmtR_20 {d : Nat} (hS : StmtAt d) (t : ByteArray) (m p : Int) (l : List T) (n : Nat) (A : Option Addr) (c : Nat) (w : World) (hn : n + (d + 1) ≤ 200) (hg : goodB (d + 1) (T.mk 20 t m p l) = true) (hF : Fine (T.mk 20 t m p l)) (hR : Rd w l A c) :
    Calls Tryz.prog 97 #[nv (T.mk 20 t m p l) A c, .int .i64 n] w fun e w' => e = .returned (.string (stmtT (d + 1) n (T.mk 20 t m p l))) ∧ Below w.heap.size w w' := by
  have C1 := Lib.hid (blockR_succ hS (T.mk 20 t m p l) n A c (w.alloc (nbox (T.mk 20 t m p l) A c)) hn rfl hg hF (hR.keep one_below))
  clear hS hg hF hR
  go_enter Tryz.func97, Tryz.ntmps97
  go_wp2_with fail
  refine C1.out.mono ?_
  rintro e w1 ⟨rfl, hb⟩
  have HB := Lib.hid (box_below (box_after hb))
  clear hb
  go_wp2_with fail
  go_ret
  exact ⟨rfl, HB.out⟩

set_option maxRecDepth 100000 in
set_option maxHeartbeats 4000000 in
theorem stmtR_21 {d : Nat} (hE : ExprAt d) (t : ByteArray) (m p : Int) (y : T) (n : Nat) (A : Option Addr) (c : Nat) (w : World) (hn : n + (d + 1) ≤ 200) (hg : goodB (d + 1) (T.mk 21 t m p [y]) = true) (hF : Fine (T.mk 21 t m p [y])) (hR : Rd w [y] A c) :
    Calls Tryz.prog 97 #[nv (T.mk 21 t m p [y]) A c, .int .i64 n] w fun e w' => e = .returned (.string (stmtT (d + 1) n (T.mk 21 t m p [y]))) ∧ Below w.heap.size w w' := by
  have hts := hF.text
  rw [T.text_mk] at hts
  have hn1 : n + d ≤ 200 := by omega
  obtain ⟨b, o, A1, c1, rfl, hc1, hr1⟩ := hR.at0 (x := y) rfl
  have hW : Below w.heap.size w (w.alloc (.cells #[.int .i64 21, .string t, .int .u64 m, .int .i64 p, .slice (some ⟨b, o, none⟩) 1 c] 25)) := one_below
  have hgy := goodB_down hg (y := y) (by simp)
  have hfy := hF.kid (y := y) (by simp)
  have hys := expr_le (n := n) hgy hfy hn1
  obtain ⟨u0, u1, u2, u3, u4⟩ := Ext.cells (hc1.below hW)
  obtain ⟨g0, g1, g2, g3, g4⟩ := box_raw (Below.refl (w.heap.size + 1) (w.alloc (.cells #[.int .i64 21, .string t, .int .u64 m, .int .i64 p, .slice (some ⟨b, o, none⟩) 1 c] 25)))
  have k1 := Ext.cell g1
  have C1 := Lib.hid (fun k : Ext (w.alloc (.cells #[.int .i64 21, .string t, .int .u64 m, .int .i64 p, .slice (some ⟨b, o, none⟩) 1 c] 25)) => k.call (hE y n A1 c1 k.v hn1 hgy hfy ((hr1.keep hW).keep k.b)))
  clear hE
  clear hR hg hF hgy hfy hr1 hc1
  go_enter Tryz.func97, Tryz.ntmps97
  go_wp2_with fail
  have hne := Ext.ne (w.alloc (.cells #[.int .i64 21, .string t, .int .u64 m, .int .i64 p, .slice (some ⟨b, o, none⟩) 1 c] 25))
  have q0 : ¬ 9223372036854775807 < t.size + 4 := by omega
  have q1 : ¬ 9223372036854775807 < t.size + 4 + (exprT d n y).size := by omega
  refine wp_region_ext (by kernel_rfl) (by kernel_rfl) ?_
  repeat (quiet_step (first | exact C1.out _))
  refine wpQuiet_nil ?_
  rintro _ ⟨k, rfl⟩
  go_wp2_with fail
  go_ret
  exact ⟨rfl, below_then hW hW.size k.b⟩

set_option maxRecDepth 100000 in
set_option maxHeartbeats 4000000 in
theorem stmtR_22 {d : Nat}  (t : ByteArray) (m p : Int) (y : T) (n : Nat) (A : Option Addr) (c : Nat) (w : World) (_hn : n + (d + 1) ≤ 200) (hg : goodB (d + 1) (T.mk 22 t m p [y]) = true) (hF : Fine (T.mk 22 t m p [y])) (hR : Rd w [y] A c) :
    Calls Tryz.prog 97 #[nv (T.mk 22 t m p [y]) A c, .int .i64 n] w fun e w' => e = .returned (.string (stmtT (d + 1) n (T.mk 22 t m p [y]))) ∧ Below w.heap.size w w' := by
  have hts := hF.text
  rw [T.text_mk] at hts
  clear _hn
  obtain ⟨b, o, A1, c1, rfl, hc1, hr1⟩ := hR.at0 (x := y) rfl
  have hW : Below w.heap.size w (w.alloc (.cells #[.int .i64 22, .string t, .int .u64 m, .int .i64 p, .slice (some ⟨b, o, none⟩) 1 c] 25)) := one_below
  have hgy := goodB_down hg (y := y) (by simp)
  have hfy := hF.kid (y := y) (by simp)
  have hys := typ_le (d := d) hfy
  obtain ⟨u0, u1, u2, u3, u4⟩ := Ext.cells (hc1.below hW)
  obtain ⟨g0, g1, g2, g3, g4⟩ := box_raw (Below.refl (w.heap.size + 1) (w.alloc (.cells #[.int .i64 22, .string t, .int .u64 m, .int .i64 p, .slice (some ⟨b, o, none⟩) 1 c] 25)))
  have k1 := Ext.cell g1
  have C1 := Lib.hid (fun k : Ext (w.alloc (.cells #[.int .i64 22, .string t, .int .u64 m, .int .i64 p, .slice (some ⟨b, o, none⟩) 1 c] 25)) => k.call (typR_any d y A1 c1 k.v hgy hfy ((hr1.keep hW).keep k.b)))
  clear hR hg hF hgy hfy hr1 hc1
  go_enter Tryz.func97, Tryz.ntmps97
  go_wp2_with fail
  have hne := Ext.ne (w.alloc (.cells #[.int .i64 22, .string t, .int .u64 m, .int .i64 p, .slice (some ⟨b, o, none⟩) 1 c] 25))
  have q0 : ¬ 9223372036854775807 < 4 + t.size := by omega
  have q1 : ¬ 9223372036854775807 < 4 + t.size + 1 := by omega
  have q2 : ¬ 9223372036854775807 < 4 + t.size + 1 + (typT d y).size := by omega
  refine wp_region_ext (by kernel_rfl) (by kernel_rfl) ?_
  repeat (quiet_step (first | exact C1.out _))
  refine wpQuiet_nil ?_
  rintro _ ⟨k, rfl⟩
  go_wp2_with fail
  go_ret
  exact ⟨rfl, below_then hW hW.size k.b⟩

set_option maxRecDepth 100000 in
set_option maxHeartbeats 4000000 in
theorem stmtR_23 {d : Nat} (hE : ExprAt d) (t : ByteArray) (m p : Int) (y z : T) (n : Nat) (A : Option Addr) (c : Nat) (w : World) (hn : n + (d + 1) ≤ 200) (hg : goodB (d + 1) (T.mk 23 t m p [y, z]) = true) (hF : Fine (T.mk 23 t m p [y, z])) (hR : Rd w [y, z] A c) :
    Calls Tryz.prog 97 #[nv (T.mk 23 t m p [y, z]) A c, .int .i64 n] w fun e w' => e = .returned (.string (stmtT (d + 1) n (T.mk 23 t m p [y, z]))) ∧ Below w.heap.size w w' := by
  have hn1 : n + d ≤ 200 := by omega
  obtain ⟨b, o, A1, c1, rfl, hc1, hr1⟩ := hR.at0 (x := y) rfl
  have hW : Below w.heap.size w (w.alloc (.cells #[.int .i64 23, .string t, .int .u64 m, .int .i64 p, .slice (some ⟨b, o, none⟩) 2 c] 25)) := one_below
  have hgy := goodB_down hg (y := y) (by simp)
  have hfy := hF.kid (y := y) (by simp)
  have hys := expr_le (n := n) hgy hfy hn1
  obtain ⟨u0, u1, u2, u3, u4⟩ := Ext.cells (hc1.below hW)
  obtain ⟨g0, g1, g2, g3, g4⟩ := box_raw (Below.refl (w.heap.size + 1) (w.alloc (.cells #[.int .i64 23, .string t, .int .u64 m, .int .i64 p, .slice (some ⟨b, o, none⟩) 2 c] 25)))
  obtain ⟨A2, c2, hc2, hr2⟩ := hR.at1
  have hgz := goodB_down hg (y := z) (by simp)
  have hfz := hF.kid (y := z) (by simp)
  have hzs := expr_le (n := n) hgz hfz hn1
  obtain ⟨v0, v1, v2, v3, v4⟩ := Ext.cells (hc2.below hW)
  have C1 := Lib.hid (fun k : Ext (w.alloc (.cells #[.int .i64 23, .string t, .int .u64 m, .int .i64 p, .slice (some ⟨b, o, none⟩) 2 c] 25)) => k.call (hE y n A1 c1 k.v hn1 hgy hfy ((hr1.keep hW).keep k.b)))
  have C2 := Lib.hid (fun k : Ext (w.alloc (.cells #[.int .i64 23, .string t, .int .u64 m, .int .i64 p, .slice (some ⟨b, o, none⟩) 2 c] 25)) => k.call (hE z n A2 c2 k.v hn1 hgz hfz ((hr2.keep hW).keep k.b)))
  clear hgz hfz hr2 hc2 hE
  clear hR hg hF hgy hfy hr1 hc1
  go_enter Tryz.func97, Tryz.ntmps97
  go_wp2_with fail
  have hne := Ext.ne (w.alloc (.cells #[.int .i64 23, .string t, .int .u64 m, .int .i64 p, .slice (some ⟨b, o, none⟩) 2 c] 25))
  have q0 : ¬ 9223372036854775807 < (exprT d n y).size + 3 := by omega
  have q1 : ¬ 9223372036854775807 < (exprT d n y).size + 3 + (exprT d n z).size := by omega
  refine wp_region_ext (by kernel_rfl) (by kernel_rfl) ?_
  iterate 6 (quiet_step (exact C1.out _))
  repeat (quiet_step (exact C2.out _))
  refine wpQuiet_nil ?_
  rintro _ ⟨k, rfl⟩
  go_wp2_with fail
  go_ret
  exact ⟨rfl, below_then hW hW.size k.b⟩

set_option maxRecDepth 100000 in
set_option maxHeartbeats 4000000 in
theorem stmtR_41 {d : Nat} (hE : ExprAt d) (t : ByteArray) (m p : Int) (y z : T) (n : Nat) (A : Option Addr) (c : Nat) (w : World) (hn : n + (d + 1) ≤ 200) (hg : goodB (d + 1) (T.mk 41 t m p [y, z]) = true) (hF : Fine (T.mk 41 t m p [y, z])) (hR : Rd w [y, z] A c) :
    Calls Tryz.prog 97 #[nv (T.mk 41 t m p [y, z]) A c, .int .i64 n] w fun e w' => e = .returned (.string (stmtT (d + 1) n (T.mk 41 t m p [y, z]))) ∧ Below w.heap.size w w' := by
  have hn1 : n + d ≤ 200 := by omega
  obtain ⟨b, o, A1, c1, rfl, hc1, hr1⟩ := hR.at0 (x := y) rfl
  have hW : Below w.heap.size w (w.alloc (.cells #[.int .i64 41, .string t, .int .u64 m, .int .i64 p, .slice (some ⟨b, o, none⟩) 2 c] 25)) := one_below
  have hgy := goodB_down hg (y := y) (by simp)
  have hfy := hF.kid (y := y) (by simp)
  have hys := expr_le (n := n) hgy hfy hn1
  obtain ⟨u0, u1, u2, u3, u4⟩ := Ext.cells (hc1.below hW)
  obtain ⟨g0, g1, g2, g3, g4⟩ := box_raw (Below.refl (w.heap.size + 1) (w.alloc (.cells #[.int .i64 41, .string t, .int .u64 m, .int .i64 p, .slice (some ⟨b, o, none⟩) 2 c] 25)))
  obtain ⟨A2, c2, hc2, hr2⟩ := hR.at1
  have hgz := goodB_down hg (y := z) (by simp)
  have hfz := hF.kid (y := z) (by simp)
  have hzs := expr_le (n := n) hgz hfz hn1
  obtain ⟨v0, v1, v2, v3, v4⟩ := Ext.cells (hc2.below hW)
  have C1 := Lib.hid (fun k : Ext (w.alloc (.cells #[.int .i64 41, .string t, .int .u64 m, .int .i64 p, .slice (some ⟨b, o, none⟩) 2 c] 25)) => k.call (hE y n A1 c1 k.v hn1 hgy hfy ((hr1.keep hW).keep k.b)))
  have C2 := Lib.hid (fun k : Ext (w.alloc (.cells #[.int .i64 41, .string t, .int .u64 m, .int .i64 p, .slice (some ⟨b, o, none⟩) 2 c] 25)) => k.call (hE z n A2 c2 k.v hn1 hgz hfz ((hr2.keep hW).keep k.b)))
  clear hgz hfz hr2 hc2 hE
  clear hR hg hF hgy hfy hr1 hc1
  go_enter Tryz.func97, Tryz.ntmps97
  go_wp2_with fail
  have hne := Ext.ne (w.alloc (.cells #[.int .i64 41, .string t, .int .u64 m, .int .i64 p, .slice (some ⟨b, o, none⟩) 2 c] 25))
  have q0 : ¬ 9223372036854775807 < (exprT d n y).size + 4 := by omega
  have q1 : ¬ 9223372036854775807 < (exprT d n y).size + 4 + (exprT d n z).size := by omega
  refine wp_region_ext (by kernel_rfl) (by kernel_rfl) ?_
  iterate 6 (quiet_step (exact C1.out _))
  repeat (quiet_step (exact C2.out _))
  refine wpQuiet_nil ?_
  rintro _ ⟨k, rfl⟩
  go_wp2_with fail
  go_ret
  exact ⟨rfl, below_then hW hW.size k.b⟩

set_option maxRecDepth 100000 in
set_option maxHeartbeats 4000000 in
theorem stmtR_24 {d : Nat} (hE : ExprAt d) (t : ByteArray) (m p : Int) (y : T) (n : Nat) (A : Option Addr) (c : Nat) (w : World) (hn : n + (d + 1) ≤ 200) (hg : goodB (d + 1) (T.mk 24 t m p [y]) = true) (hF : Fine (T.mk 24 t m p [y])) (hR : Rd w [y] A c) :
    Calls Tryz.prog 97 #[nv (T.mk 24 t m p [y]) A c, .int .i64 n] w fun e w' => e = .returned (.string (stmtT (d + 1) n (T.mk 24 t m p [y]))) ∧ Below w.heap.size w w' := by
  have hn1 : n + d ≤ 200 := by omega
  obtain ⟨b, o, A1, c1, rfl, hc1, hr1⟩ := hR.at0 (x := y) rfl
  have hW : Below w.heap.size w (w.alloc (.cells #[.int .i64 24, .string t, .int .u64 m, .int .i64 p, .slice (some ⟨b, o, none⟩) 1 c] 25)) := one_below
  have hgy := goodB_down hg (y := y) (by simp)
  have hfy := hF.kid (y := y) (by simp)
  obtain ⟨u0, u1, u2, u3, u4⟩ := hc1.below hW
  have C1 := Lib.hid (hE y n A1 c1 (w.alloc (.cells #[.int .i64 24, .string t, .int .u64 m, .int .i64 p, .slice (some ⟨b, o, none⟩) 1 c] 25)) hn1 hgy hfy (hr1.keep hW))
  have HW := Lib.hid hW
  clear hE hW
  clear hR hg hF hgy hfy hr1 hc1
  go_enter Tryz.func97, Tryz.ntmps97
  go_wp2_with fail
  refine C1.out.mono ?_
  rintro e w1 ⟨rfl, hb⟩
  have HB := Lib.hid (below_then HW.out HW.out.size hb)
  clear hb
  go_wp2_with fail
  go_ret
  exact ⟨rfl, HB.out⟩

set_option maxRecDepth 100000 in
set_option maxHeartbeats 4000000 in
theorem stmtR_29 {d : Nat} (hE : ExprAt d) (t : ByteArray) (m p : Int) (y : T) (n : Nat) (A : Option Addr) (c : Nat) (w : World) (hn : n + (d + 1) ≤ 200) (hg : goodB (d + 1) (T.mk 29 t m p [y]) = true) (hF : Fine (T.mk 29 t m p [y])) (hR : Rd w [y] A c) :
    Calls Tryz.prog 97 #[nv (T.mk 29 t m p [y]) A c, .int .i64 n] w fun e w' => e = .returned (.string (stmtT (d + 1) n (T.mk 29 t m p [y]))) ∧ Below w.heap.size w w' := by
  have hn1 : n + d ≤ 200 := by omega
  obtain ⟨b, o, A1, c1, rfl, hc1, hr1⟩ := hR.at0 (x := y) rfl
  have hW : Below w.heap.size w (w.alloc (.cells #[.int .i64 29, .string t, .int .u64 m, .int .i64 p, .slice (some ⟨b, o, none⟩) 1 c] 25)) := one_below
  have hgy := goodB_down hg (y := y) (by simp)
  have hfy := hF.kid (y := y) (by simp)
  have hys := expr_le (n := n) hgy hfy hn1
  obtain ⟨u0, u1, u2, u3, u4⟩ := hc1.below hW
  have C1 := Lib.hid (hE y n A1 c1 (w.alloc (.cells #[.int .i64 29, .string t, .int .u64 m, .int .i64 p, .slice (some ⟨b, o, none⟩) 1 c] 25)) hn1 hgy hfy (hr1.keep hW))
  have HW := Lib.hid hW
  have he : stmtT (d + 1) n (T.mk 29 t m p [y]) = cond (m == 1) ⟨#[100, 101, 102, 101, 114, 32]⟩ ⟨#[103, 111, 32]⟩ ++ exprT d n y := rfl
  have HX := Lib.hid he
  clear he
  clear hE hW
  clear hR hg hF hgy hfy hr1 hc1
  cases hm : (m == 1) with
  | true =>
    go_enter Tryz.func97, Tryz.ntmps97
    go_wp2_with fail
    refine C1.out.mono ?_
    rintro e w1 ⟨rfl, hb⟩
    have HB := Lib.hid (below_then HW.out HW.out.size hb)
    clear hb
    go_wp2_with fail
    go_ret
    exact ⟨by rw [HX.out, hm]; rfl, HB.out⟩
  | false =>
    go_enter Tryz.func97, Tryz.ntmps97
    go_wp2_with fail
    refine C1.out.mono ?_
    rintro e w1 ⟨rfl, hb⟩
    have HB := Lib.hid (below_then HW.out HW.out.size hb)
    clear hb
    go_wp2_with fail
    go_ret
    exact ⟨by rw [HX.out, hm]; rfl, HB.out⟩

set_option maxRecDepth 100000 in
set_option maxHeartbeats 4000000 in
theorem stmtR_27 {d : Nat}  (t : ByteArray) (m p : Int) (l : List T) (n : Nat) (A : Option Addr) (c : Nat) (w : World) (_hn : n + (d + 1) ≤ 200) (_hg : goodB (d + 1) (T.mk 27 t m p l) = true) (_hF : Fine (T.mk 27 t m p l)) (_hR : Rd w l A c) :
    Calls Tryz.prog 97 #[nv (T.mk 27 t m p l) A c, .int .i64 n] w fun e w' => e = .returned (.string (stmtT (d + 1) n (T.mk 27 t m p l))) ∧ Below w.heap.size w w' := by
  have he : stmtT (d + 1) n (T.mk 27 t m p l) = cond (m == 1) ⟨#[99, 111, 110, 116, 105, 110, 117, 101]⟩ ⟨#[98, 114, 101, 97, 107]⟩ := rfl
  have HX := Lib.hid he
  clear he
  clear _hg _hF _hR _hn
  cases hm : (m == 1) with
  | true =>
    go_enter Tryz.func97, Tryz.ntmps97
    go_wp2_with fail
    go_ret
    exact ⟨by rw [HX.out, hm]; rfl, one_below⟩
  | false =>
    go_enter Tryz.func97, Tryz.ntmps97
    go_wp2_with fail
    go_ret
    exact ⟨by rw [HX.out, hm]; rfl, one_below⟩

set_option maxRecDepth 100000 in
set_option maxHeartbeats 4000000 in
theorem stmtR_28a {d : Nat}  (t : ByteArray) (m p : Int)  (n : Nat) (A : Option Addr) (c : Nat) (w : World) (_hn : n + (d + 1) ≤ 200) (_hg : goodB (d + 1) (T.mk 28 t m p []) = true) (_hF : Fine (T.mk 28 t m p [])) (_hR : Rd w [] A c) :
    Calls Tryz.prog 97 #[nv (T.mk 28 t m p []) A c, .int .i64 n] w fun e w' => e = .returned (.string (stmtT (d + 1) n (T.mk 28 t m p []))) ∧ Below w.heap.size w w' := by
  clear _hg _hF _hR _hn
  go_enter Tryz.func97, Tryz.ntmps97
  go_wp2_with fail
  go_ret
  exact ⟨rfl, one_below⟩

set_option maxRecDepth 100000 in
set_option maxHeartbeats 4000000 in
theorem stmtR_28 {d : Nat} (hE : ExprAt d) (t : ByteArray) (m p : Int) (y : T) (n : Nat) (A : Option Addr) (c : Nat) (w : World) (hn : n + (d + 1) ≤ 200) (hg : goodB (d + 1) (T.mk 28 t m p [y]) = true) (hF : Fine (T.mk 28 t m p [y])) (hR : Rd w [y] A c) :
    Calls Tryz.prog 97 #[nv (T.mk 28 t m p [y]) A c, .int .i64 n] w fun e w' => e = .returned (.string (stmtT (d + 1) n (T.mk 28 t m p [y]))) ∧ Below w.heap.size w w' := by
  have hn1 : n + d ≤ 200 := by omega
  obtain ⟨b, o, A1, c1, rfl, hc1, hr1⟩ := hR.at0 (x := y) rfl
  have hW : Below w.heap.size w (w.alloc (.cells #[.int .i64 28, .string t, .int .u64 m, .int .i64 p, .slice (some ⟨b, o, none⟩) 1 c] 25)) := one_below
  have hgy := goodB_down hg (y := y) (by simp)
  have hfy := hF.kid (y := y) (by simp)
  have hys := expr_le (n := n) hgy hfy hn1
  obtain ⟨u0, u1, u2, u3, u4⟩ := hc1.below hW
  have C1 := Lib.hid (hE y n A1 c1 (w.alloc (.cells #[.int .i64 28, .string t, .int .u64 m, .int .i64 p, .slice (some ⟨b, o, none⟩) 1 c] 25)) hn1 hgy hfy (hr1.keep hW))
  have HW := Lib.hid hW
  clear hE hW
  clear hR hg hF hgy hfy hr1 hc1
  go_enter Tryz.func97, Tryz.ntmps97
  go_wp2_with fail
  refine C1.out.mono ?_
  rintro e w1 ⟨rfl, hb⟩
  have HB := Lib.hid (below_then HW.out HW.out.size hb)
  clear hb
  go_wp2_with fail
  go_ret
  exact ⟨rfl, HB.out⟩

set_option maxRecDepth 100000 in
set_option maxHeartbeats 4000000 in
theorem stmtR_26 {d : Nat} (hE : ExprAt d) (hB : BlockAt d) (t : ByteArray) (m p : Int) (y z : T) (hz : z.kind = 20) (n : Nat) (A : Option Addr) (c : Nat) (w : World) (hn : n + (d + 1) ≤ 200) (hg : goodB (d + 1) (T.mk 26 t m p [y, z]) = true) (hF : Fine (T.mk 26 t m p [y, z])) (hR : Rd w [y, z] A c) :
    Calls Tryz.prog 97 #[nv (T.mk 26 t m p [y, z]) A c, .int .i64 n] w fun e w' => e = .returned (.string (stmtT (d + 1) n (T.mk 26 t m p [y, z]))) ∧ Below w.heap.size w w' := by
  have hn1 : n + d ≤ 200 := by omega
  obtain ⟨b, o, A1, c1, rfl, hc1, hr1⟩ := hR.at0 (x := y) rfl
  have hW : Below w.heap.size w (w.alloc (.cells #[.int .i64 26, .string t, .int .u64 m, .int .i64 p, .slice (some ⟨b, o, none⟩) 2 c] 25)) := one_below
  have hgy := goodB_down hg (y := y) (by simp)
  have hfy := hF.kid (y := y) (by simp)
  have hys := expr_le (n := n) hgy hfy hn1
  obtain ⟨u0, u1, u2, u3, u4⟩ := Ext.cells (hc1.below hW)
  obtain ⟨g0, g1, g2, g3, g4⟩ := box_raw (Below.refl (w.heap.size + 1) (w.alloc (.cells #[.int .i64 26, .string t, .int .u64 m, .int .i64 p, .slice (some ⟨b, o, none⟩) 2 c] 25)))
  obtain ⟨A2, c2, hc2, hr2⟩ := hR.at1
  have hgz := goodB_down hg (y := z) (by simp)
  have hfz := hF.kid (y := z) (by simp)
  have hzs := block_le (n := n) hgz hfz hn1
  obtain ⟨v0, v1, v2, v3, v4⟩ := Ext.cells (hc2.below hW)
  have hws := wrap_le (b := y.lits) hys
  have hlits := fun w' (hr : Rd w' y.list A1 c1) => litsR_any y.size y A1 c1 w' (Nat.le_refl _) hr hfy.size
  have C0 := Lib.hid (fun k : Ext (w.alloc (.cells #[.int .i64 26, .string t, .int .u64 m, .int .i64 p, .slice (some ⟨b, o, none⟩) 2 c] 25)) => k.call (hlits k.v ((hr1.keep hW).keep k.b)))
  have C1 := Lib.hid (fun k : Ext (w.alloc (.cells #[.int .i64 26, .string t, .int .u64 m, .int .i64 p, .slice (some ⟨b, o, none⟩) 2 c] 25)) => k.call (wrapR_any hE y n y.lits A1 c1 k.v hn1 hgy hfy ((hr1.keep hW).keep k.b)))
  have C2 := Lib.hid (fun k : Ext (w.alloc (.cells #[.int .i64 26, .string t, .int .u64 m, .int .i64 p, .slice (some ⟨b, o, none⟩) 2 c] 25)) => k.call (hB z n A2 c2 k.v hn1 hz hgz hfz ((hr2.keep hW).keep k.b)))
  clear hgz hfz hr2 hc2 hE hB hlits hz
  clear hR hg hF hgy hfy hr1 hc1
  go_enter Tryz.func97, Tryz.ntmps97
  go_wp2_with fail
  have hne := Ext.ne (w.alloc (.cells #[.int .i64 26, .string t, .int .u64 m, .int .i64 p, .slice (some ⟨b, o, none⟩) 2 c] 25))
  have q0 : ¬ 9223372036854775807 < 4 + (wrapT (y.lits) (exprT d n y)).size := by omega
  have q1 : ¬ 9223372036854775807 < 4 + (wrapT (y.lits) (exprT d n y)).size + 1 := by omega
  have q2 : ¬ 9223372036854775807 < 4 + (wrapT (y.lits) (exprT d n y)).size + 1 + (blockT d n z).size := by omega
  refine wp_region_ext (by kernel_rfl) (by kernel_rfl) ?_
  repeat (quiet_step (first | exact C0.out _ | exact C1.out _ | exact C2.out _))
  refine wpQuiet_nil ?_
  rintro _ ⟨k, rfl⟩
  go_wp2_with fail
  go_ret
  exact ⟨rfl, below_then hW hW.size k.b⟩

set_option maxRecDepth 100000 in
set_option maxHeartbeats 4000000 in
theorem stmtR_25 {d : Nat} (hE : ExprAt d) (hB : BlockAt d) (t : ByteArray) (m p : Int) (y z : T) (hz : z.kind = 20) (n : Nat) (A : Option Addr) (c : Nat) (w : World) (hn : n + (d + 1) ≤ 200) (hg : goodB (d + 1) (T.mk 25 t m p [y, z]) = true) (hF : Fine (T.mk 25 t m p [y, z])) (hR : Rd w [y, z] A c) :
    Calls Tryz.prog 97 #[nv (T.mk 25 t m p [y, z]) A c, .int .i64 n] w fun e w' => e = .returned (.string (stmtT (d + 1) n (T.mk 25 t m p [y, z]))) ∧ Below w.heap.size w w' := by
  have hn1 : n + d ≤ 200 := by omega
  obtain ⟨b, o, A1, c1, rfl, hc1, hr1⟩ := hR.at0 (x := y) rfl
  have hW : Below w.heap.size w (w.alloc (.cells #[.int .i64 25, .string t, .int .u64 m, .int .i64 p, .slice (some ⟨b, o, none⟩) 2 c] 25)) := one_below
  have hgy := goodB_down hg (y := y) (by simp)
  have hfy := hF.kid (y := y) (by simp)
  have hys := expr_le (n := n) hgy hfy hn1
  obtain ⟨u0, u1, u2, u3, u4⟩ := Ext.cells (hc1.below hW)
  obtain ⟨g0, g1, g2, g3, g4⟩ := box_raw (Below.refl (w.heap.size + 1) (w.alloc (.cells #[.int .i64 25, .string t, .int .u64 m, .int .i64 p, .slice (some ⟨b, o, none⟩) 2 c] 25)))
  obtain ⟨A2, c2, hc2, hr2⟩ := hR.at1
  have hgz := goodB_down hg (y := z) (by simp)
  have hfz := hF.kid (y := z) (by simp)
  have hzs := block_le (n := n) hgz hfz hn1
  obtain ⟨v0, v1, v2, v3, v4⟩ := Ext.cells (hc2.below hW)
  have hws := wrap_le (b := y.lits) hys
  have hlits := fun w' (hr : Rd w' y.list A1 c1) => litsR_any y.size y A1 c1 w' (Nat.le_refl _) hr hfy.size
  have C0 := Lib.hid (fun k : Ext (w.alloc (.cells #[.int .i64 25, .string t, .int .u64 m, .int .i64 p, .slice (some ⟨b, o, none⟩) 2 c] 25)) => k.call (hlits k.v ((hr1.keep hW).keep k.b)))
  have C1 := Lib.hid (fun k : Ext (w.alloc (.cells #[.int .i64 25, .string t, .int .u64 m, .int .i64 p, .slice (some ⟨b, o, none⟩) 2 c] 25)) => k.call (wrapR_any hE y n y.lits A1 c1 k.v hn1 hgy hfy ((hr1.keep hW).keep k.b)))
  have C2 := Lib.hid (fun k : Ext (w.alloc (.cells #[.int .i64 25, .string t, .int .u64 m, .int .i64 p, .slice (some ⟨b, o, none⟩) 2 c] 25)) => k.call (hB z n A2 c2 k.v hn1 hz hgz hfz ((hr2.keep hW).keep k.b)))
  clear hgz hfz hr2 hc2 hE hB hlits hz
  clear hR hg hF hgy hfy hr1 hc1
  go_enter Tryz.func97, Tryz.ntmps97
  go_wp2_with fail
  have hne := Ext.ne (w.alloc (.cells #[.int .i64 25, .string t, .int .u64 m, .int .i64 p, .slice (some ⟨b, o, none⟩) 2 c] 25))
  have q0 : ¬ 9223372036854775807 < 3 + (wrapT (y.lits) (exprT d n y)).size := by omega
  have q1 : ¬ 9223372036854775807 < 3 + (wrapT (y.lits) (exprT d n y)).size + 1 := by omega
  have q2 : ¬ 9223372036854775807 < 3 + (wrapT (y.lits) (exprT d n y)).size + 1 + (blockT d n z).size := by omega
  refine wp_region_ext (by kernel_rfl) (by kernel_rfl) ?_
  repeat (quiet_step (first | exact C0.out _ | exact C1.out _ | exact C2.out _))
  refine wpQuiet_nil ?_
  rintro _ ⟨k, rfl⟩
  go_wp2_with fail
  go_ret
  exact ⟨rfl, below_then hW hW.size k.b⟩

set_option maxRecDepth 100000 in
set_option maxHeartbeats 4000000 in
theorem stmtR_25e {d : Nat} (hE : ExprAt d) (hB : BlockAt d) (hS : StmtAt d) (t : ByteArray) (m p : Int) (y z q : T) (hz : z.kind = 20) (hq : isStmtB q.kind = true) (n : Nat) (A : Option Addr) (c : Nat) (w : World) (hn : n + (d + 1) ≤ 200) (hg : goodB (d + 1) (T.mk 25 t m p [y, z, q]) = true) (hF : Fine (T.mk 25 t m p [y, z, q])) (hR : Rd w [y, z, q] A c) :
    Calls Tryz.prog 97 #[nv (T.mk 25 t m p [y, z, q]) A c, .int .i64 n] w fun e w' => e = .returned (.string (stmtT (d + 1) n (T.mk 25 t m p [y, z, q]))) ∧ Below w.heap.size w w' := by
  have hn1 : n + d ≤ 200 := by omega
  obtain ⟨b, o, A1, c1, rfl, hc1, hr1⟩ := hR.at0 (x := y) rfl
  have hW : Below w.heap.size w (w.alloc (.cells #[.int .i64 25, .string t, .int .u64 m, .int .i64 p, .slice (some ⟨b, o, none⟩) 3 c] 25)) := one_below
  have hgy := goodB_down hg (y := y) (by simp)
  have hfy := hF.kid (y := y) (by simp)
  have hys := expr_le (n := n) hgy hfy hn1
  obtain ⟨u0, u1, u2, u3, u4⟩ := Ext.cells (hc1.below hW)
  obtain ⟨g0, g1, g2, g3, g4⟩ := box_raw (Below.refl (w.heap.size + 1) (w.alloc (.cells #[.int .i64 25, .string t, .int .u64 m, .int .i64 p, .slice (some ⟨b, o, none⟩) 3 c] 25)))
  obtain ⟨A2, c2, hc2, hr2⟩ := hR.at1
  have hgz := goodB_down hg (y := z) (by simp)
  have hfz := hF.kid (y := z) (by simp)
  have hzs := block_le (n := n) hgz hfz hn1
  obtain ⟨v0, v1, v2, v3, v4⟩ := Ext.cells (hc2.below hW)
  have hws := wrap_le (b := y.lits) hys
  have hlits := fun w' (hr : Rd w' y.list A1 c1) => litsR_any y.size y A1 c1 w' (Nat.le_refl _) hr hfy.size
  have C0 := Lib.hid (fun k : Ext (w.alloc (.cells #[.int .i64 25, .string t, .int .u64 m, .int .i64 p, .slice (some ⟨b, o, none⟩) 3 c] 25)) => k.call (hlits k.v ((hr1.keep hW).keep k.b)))
  have C1 := Lib.hid (fun k : Ext (w.alloc (.cells #[.int .i64 25, .string t, .int .u64 m, .int .i64 p, .slice (some ⟨b, o, none⟩) 3 c] 25)) => k.call (wrapR_any hE y n y.lits A1 c1 k.v hn1 hgy hfy ((hr1.keep hW).keep k.b)))
  have C2 := Lib.hid (fun k : Ext (w.alloc (.cells #[.int .i64 25, .string t, .int .u64 m, .int .i64 p, .slice (some ⟨b, o, none⟩) 3 c] 25)) => k.call (hB z n A2 c2 k.v hn1 hz hgz hfz ((hr2.keep hW).keep k.b)))
  obtain ⟨A3, c3, hc3, hr3⟩ := hR.at2
  have hgq := goodB_down hg (y := q) (by simp)
  have hfq := hF.kid (y := q) (by simp)
  have hqs := stmt_le (n := n) hgq hfq hn1
  have s3 := hc3.below hW
  have S3 := Lib.hid s3
  have C3 := Lib.hid (fun (k : Ext (w.alloc (.cells #[.int .i64 25, .string t, .int .u64 m, .int .i64 p, .slice (some ⟨b, o, none⟩) 3 c] 25))) => hS q n A3 c3 k.v hn1 hq hgq hfq ((hr3.keep hW).keep k.b))
  clear hgq hfq hr3 hc3 s3 hS hq
  clear hgz hfz hr2 hc2 hE hB hlits hz
  clear hR hg hF hgy hfy hr1 hc1
  go_enter Tryz.func97, Tryz.ntmps97
  go_wp2_with fail
  have hne := Ext.ne (w.alloc (.cells #[.int .i64 25, .string t, .int .u64 m, .int .i64 p, .slice (some ⟨b, o, none⟩) 3 c] 25))
  have q0 : ¬ 9223372036854775807 < 3 + (wrapT (y.lits) (exprT d n y)).size := by omega
  have q1 : ¬ 9223372036854775807 < 3 + (wrapT (y.lits) (exprT d n y)).size + 1 := by omega
  have q2 : ¬ 9223372036854775807 < 3 + (wrapT (y.lits) (exprT d n y)).size + 1 + (blockT d n z).size := by omega
  refine wp_region_ext (by kernel_rfl) (by kernel_rfl) ?_
  repeat (quiet_step (first | exact C0.out _ | exact C1.out _ | exact C2.out _))
  refine wpQuiet_nil ?_
  rintro _ ⟨k, rfl⟩
  obtain ⟨x0, x1, x2, x3, x4⟩ := S3.out.below k.b
  go_wp2_with fail
  refine (C3.out k).mono ?_
  rintro e w2 ⟨rfl, hb⟩
  have HB := Lib.hid (below_then hW hW.size (below_then k.b k.b.size hb))
  clear hb
  go_wp2_with fail
  go_ret
  exact ⟨rfl, HB.out⟩

end Go.Proofs.YtoemljgkofhhpaaGreatDoor
