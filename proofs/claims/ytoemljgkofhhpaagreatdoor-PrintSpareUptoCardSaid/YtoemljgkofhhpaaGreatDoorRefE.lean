import Derived.Test.YtoemljgkofhhpaaGreatDoorRefX
namespace Go.Proofs.YtoemljgkofhhpaaGreatDoor
open Go.RowKit

/-- The reference's block at fuel d. -/
def BlockAt (d : Nat) : Prop := ∀ (x : T) (n : Nat) (A : Option Addr) (c : Nat) (w : World), n + d ≤ 200 → x.kind = 20 → goodB d x = true → Fine x → Rd w x.list A c →
  Calls Tryz.prog 39 #[nv x A c, .int .i64 n] w fun e w' => e = .returned (.string (blockT d n x)) ∧ Below w.heap.size w w'
theorem Rd.at1 {w : World} {y z : T} {l : List T} {b o c : Nat} (h : Rd w (y :: z :: l) (some ⟨b, o, none⟩) c) : ∃ A' c', Cells w b (o + 5) z A' c' ∧ Rd w z.list A' c' := by
  obtain ⟨b2, o2, A', c', h1, h2, h3⟩ := h.at_ (i := 1) (x := z) rfl
  simp only [Option.some.injEq, Addr.mk.injEq, and_true] at h1
  obtain ⟨rfl, rfl⟩ := h1
  exact ⟨A', c', by simpa using h2, h3⟩
theorem Rd.at2 {w : World} {y z u : T} {l : List T} {b o c : Nat} (h : Rd w (y :: z :: u :: l) (some ⟨b, o, none⟩) c) : ∃ A' c', Cells w b (o + 10) u A' c' ∧ Rd w u.list A' c' := by
  obtain ⟨b2, o2, A', c', h1, h2, h3⟩ := h.at_ (i := 2) (x := u) rfl
  simp only [Option.some.injEq, Addr.mk.injEq, and_true] at h1
  obtain ⟨rfl, rfl⟩ := h1
  exact ⟨A', c', by simpa using h2, h3⟩

set_option maxRecDepth 100000 in
set_option maxHeartbeats 4000000 in
theorem exprR_39 {d : Nat} (hE : ExprAt d) (t : ByteArray) (m p : Int) (y : T) (n : Nat) (A : Option Addr) (c : Nat) (w : World) (hn : n + (d + 1) ≤ 200) (hg : goodB (d + 1) (T.mk 39 t m p [y]) = true) (hF : Fine (T.mk 39 t m p [y])) (hR : Rd w [y] A c) :
    Calls Tryz.prog 19 #[nv (T.mk 39 t m p [y]) A c, .int .i64 n] w fun e w' => e = .returned (.string (exprT (d + 1) n (T.mk 39 t m p [y]))) ∧ Below w.heap.size w w' := by
  have hts := hF.text
  rw [T.text_mk] at hts
  have hn1 : n + d ≤ 200 := by omega
  obtain ⟨b, o, A1, c1, rfl, hc1, hr1⟩ := hR.at0 (x := y) rfl
  have hW : Below w.heap.size w (w.alloc (.cells #[.int .i64 39, .string t, .int .u64 m, .int .i64 p, .slice (some ⟨b, o, none⟩) 1 c] 25)) := one_below
  have hgy := goodB_down hg (y := y) (by simp)
  have hfy := hF.kid (y := y) (by simp)
  have hys := expr_le (n := n) hgy hfy hn1
  obtain ⟨u0, u1, u2, u3, u4⟩ := Ext.cells (hc1.below hW)
  obtain ⟨g0, g1, g2, g3, g4⟩ := box_raw (Below.refl (w.heap.size + 1) (w.alloc (.cells #[.int .i64 39, .string t, .int .u64 m, .int .i64 p, .slice (some ⟨b, o, none⟩) 1 c] 25)))
  have k1 := Ext.cell g1
  have C1 := Lib.hid (fun k : Ext (w.alloc (.cells #[.int .i64 39, .string t, .int .u64 m, .int .i64 p, .slice (some ⟨b, o, none⟩) 1 c] 25)) => k.call (twoR_any y A1 c1 k.v))
  have C2 := Lib.hid (fun k : Ext (w.alloc (.cells #[.int .i64 39, .string t, .int .u64 m, .int .i64 p, .slice (some ⟨b, o, none⟩) 1 c] 25)) => k.call (wrapR_any hE y n (twoB y) A1 c1 k.v hn1 hgy hfy ((hr1.keep hW).keep k.b)))
  have hws := wrap_le (b := twoB y) hys
  clear hE hR hg hF hgy hfy hr1 hc1
  go_enter Tryz.func19, Tryz.ntmps19
  go_wp2_with fail
  have hne := Ext.ne (w.alloc (.cells #[.int .i64 39, .string t, .int .u64 m, .int .i64 p, .slice (some ⟨b, o, none⟩) 1 c] 25))
  have q0 : ¬ 9223372036854775807 < 2 + (wrapT (twoB y) (exprT d n y)).size := by omega
  refine wp_region_ext (by kernel_rfl) (by kernel_rfl) ?_
  repeat (quiet_step (first | exact C1.out _ | exact C2.out _))
  refine wpQuiet_nil ?_
  rintro _ ⟨k, rfl⟩
  go_wp2_with fail
  go_ret
  exact ⟨rfl, below_then hW hW.size k.b⟩

set_option maxRecDepth 100000 in
set_option maxHeartbeats 4000000 in
theorem exprR_33a {d : Nat} (hE : ExprAt d) (t : ByteArray) (m p : Int) (y : T) (n : Nat) (A : Option Addr) (c : Nat) (w : World) (hn : n + (d + 1) ≤ 200) (hg : goodB (d + 1) (T.mk 33 t m p [y]) = true) (hF : Fine (T.mk 33 t m p [y])) (hR : Rd w [y] A c) :
    Calls Tryz.prog 19 #[nv (T.mk 33 t m p [y]) A c, .int .i64 n] w fun e w' => e = .returned (.string (exprT (d + 1) n (T.mk 33 t m p [y]))) ∧ Below w.heap.size w w' := by
  have hts := hF.text
  rw [T.text_mk] at hts
  have hn1 : n + d ≤ 200 := by omega
  obtain ⟨b, o, A1, c1, rfl, hc1, hr1⟩ := hR.at0 (x := y) rfl
  have hW : Below w.heap.size w (w.alloc (.cells #[.int .i64 33, .string t, .int .u64 m, .int .i64 p, .slice (some ⟨b, o, none⟩) 1 c] 25)) := one_below
  have hgy := goodB_down hg (y := y) (by simp)
  have hfy := hF.kid (y := y) (by simp)
  have hys := expr_le (n := n) hgy hfy hn1
  obtain ⟨u0, u1, u2, u3, u4⟩ := Ext.cells (hc1.below hW)
  obtain ⟨g0, g1, g2, g3, g4⟩ := box_raw (Below.refl (w.heap.size + 1) (w.alloc (.cells #[.int .i64 33, .string t, .int .u64 m, .int .i64 p, .slice (some ⟨b, o, none⟩) 1 c] 25)))
  have k1 := Ext.cell g1
  have C1 := Lib.hid (fun k : Ext (w.alloc (.cells #[.int .i64 33, .string t, .int .u64 m, .int .i64 p, .slice (some ⟨b, o, none⟩) 1 c] 25)) => k.call (twoR_any y A1 c1 k.v))
  have C2 := Lib.hid (fun k : Ext (w.alloc (.cells #[.int .i64 33, .string t, .int .u64 m, .int .i64 p, .slice (some ⟨b, o, none⟩) 1 c] 25)) => k.call (wrapR_any hE y n (twoB y) A1 c1 k.v hn1 hgy hfy ((hr1.keep hW).keep k.b)))
  have hws := wrap_le (b := twoB y) hys
  clear hE hR hg hF hgy hfy hr1 hc1
  go_enter Tryz.func19, Tryz.ntmps19
  go_wp2_with fail
  have hne := Ext.ne (w.alloc (.cells #[.int .i64 33, .string t, .int .u64 m, .int .i64 p, .slice (some ⟨b, o, none⟩) 1 c] 25))
  have q0 : ¬ 9223372036854775807 < t.size + (wrapT (twoB y) (exprT d n y)).size := by omega
  refine wp_region_ext (by kernel_rfl) (by kernel_rfl) ?_
  repeat (quiet_step (first | exact C1.out _ | exact C2.out _))
  refine wpQuiet_nil ?_
  rintro _ ⟨k, rfl⟩
  go_wp2_with fail
  go_ret
  exact ⟨rfl, below_then hW hW.size k.b⟩

set_option maxRecDepth 100000 in
set_option maxHeartbeats 4000000 in
theorem exprR_35 {d : Nat} (hE : ExprAt d) (t : ByteArray) (m p : Int) (y : T) (n : Nat) (A : Option Addr) (c : Nat) (w : World) (hn : n + (d + 1) ≤ 200) (hg : goodB (d + 1) (T.mk 35 t m p [y]) = true) (hF : Fine (T.mk 35 t m p [y])) (hR : Rd w [y] A c) :
    Calls Tryz.prog 19 #[nv (T.mk 35 t m p [y]) A c, .int .i64 n] w fun e w' => e = .returned (.string (exprT (d + 1) n (T.mk 35 t m p [y]))) ∧ Below w.heap.size w w' := by
  have hts := hF.text
  rw [T.text_mk] at hts
  have hn1 : n + d ≤ 200 := by omega
  obtain ⟨b, o, A1, c1, rfl, hc1, hr1⟩ := hR.at0 (x := y) rfl
  have hW : Below w.heap.size w (w.alloc (.cells #[.int .i64 35, .string t, .int .u64 m, .int .i64 p, .slice (some ⟨b, o, none⟩) 1 c] 25)) := one_below
  have hgy := goodB_down hg (y := y) (by simp)
  have hfy := hF.kid (y := y) (by simp)
  have hys := expr_le (n := n) hgy hfy hn1
  obtain ⟨u0, u1, u2, u3, u4⟩ := Ext.cells (hc1.below hW)
  obtain ⟨g0, g1, g2, g3, g4⟩ := box_raw (Below.refl (w.heap.size + 1) (w.alloc (.cells #[.int .i64 35, .string t, .int .u64 m, .int .i64 p, .slice (some ⟨b, o, none⟩) 1 c] 25)))
  have k1 := Ext.cell g1
  have C1 := Lib.hid (fun k : Ext (w.alloc (.cells #[.int .i64 35, .string t, .int .u64 m, .int .i64 p, .slice (some ⟨b, o, none⟩) 1 c] 25)) => k.call (stemR_any hE y n A1 c1 k.v hn1 hgy hfy ((hr1.keep hW).keep k.b)))
  have hws := wrap_le (b := stemB y) hys
  clear hE hR hg hF hgy hfy hr1 hc1
  go_enter Tryz.func19, Tryz.ntmps19
  go_wp2_with fail
  have hne := Ext.ne (w.alloc (.cells #[.int .i64 35, .string t, .int .u64 m, .int .i64 p, .slice (some ⟨b, o, none⟩) 1 c] 25))
  have q0 : ¬ 9223372036854775807 < (wrapT (stemB y) (exprT d n y)).size + 1 := by omega
  have q1 : ¬ 9223372036854775807 < (wrapT (stemB y) (exprT d n y)).size + 1 + t.size := by omega
  refine wp_region_ext (by kernel_rfl) (by kernel_rfl) ?_
  repeat (quiet_step (first | exact C1.out _))
  refine wpQuiet_nil ?_
  rintro _ ⟨k, rfl⟩
  go_wp2_with fail
  go_ret
  exact ⟨rfl, below_then hW hW.size k.b⟩

set_option maxRecDepth 100000 in
set_option maxHeartbeats 4000000 in
theorem exprR_40 {d : Nat} (hE : ExprAt d) (t : ByteArray) (m p : Int) (y z : T) (n : Nat) (A : Option Addr) (c : Nat) (w : World) (hn : n + (d + 1) ≤ 200) (hg : goodB (d + 1) (T.mk 40 t m p [y, z]) = true) (hF : Fine (T.mk 40 t m p [y, z])) (hR : Rd w [y, z] A c) :
    Calls Tryz.prog 19 #[nv (T.mk 40 t m p [y, z]) A c, .int .i64 n] w fun e w' => e = .returned (.string (exprT (d + 1) n (T.mk 40 t m p [y, z]))) ∧ Below w.heap.size w w' := by
  have hts := hF.text
  rw [T.text_mk] at hts
  have hn1 : n + d ≤ 200 := by omega
  obtain ⟨b, o, A1, c1, rfl, hc1, hr1⟩ := hR.at0 (x := y) rfl
  have hW : Below w.heap.size w (w.alloc (.cells #[.int .i64 40, .string t, .int .u64 m, .int .i64 p, .slice (some ⟨b, o, none⟩) 2 c] 25)) := one_below
  have hgy := goodB_down hg (y := y) (by simp)
  have hfy := hF.kid (y := y) (by simp)
  have hys := typ_le (d := d) hfy
  obtain ⟨u0, u1, u2, u3, u4⟩ := Ext.cells (hc1.below hW)
  obtain ⟨g0, g1, g2, g3, g4⟩ := box_raw (Below.refl (w.heap.size + 1) (w.alloc (.cells #[.int .i64 40, .string t, .int .u64 m, .int .i64 p, .slice (some ⟨b, o, none⟩) 2 c] 25)))
  have k1 := Ext.cell g1
  obtain ⟨A2, c2, hc2, hr2⟩ := hR.at1
  have hgz := goodB_down hg (y := z) (by simp)
  have hfz := hF.kid (y := z) (by simp)
  have hzs := expr_le (n := n) hgz hfz hn1
  obtain ⟨v0, v1, v2, v3, v4⟩ := Ext.cells (hc2.below hW)
  have C1 := Lib.hid (fun k : Ext (w.alloc (.cells #[.int .i64 40, .string t, .int .u64 m, .int .i64 p, .slice (some ⟨b, o, none⟩) 2 c] 25)) => k.call (typR_any d y A1 c1 k.v hgy hfy ((hr1.keep hW).keep k.b)))
  have C2 := Lib.hid (fun k : Ext (w.alloc (.cells #[.int .i64 40, .string t, .int .u64 m, .int .i64 p, .slice (some ⟨b, o, none⟩) 2 c] 25)) => k.call (hE z n A2 c2 k.v hn1 hgz hfz ((hr2.keep hW).keep k.b)))
  clear hgz hfz hr2 hc2
  clear hE hR hg hF hgy hfy hr1 hc1
  go_enter Tryz.func19, Tryz.ntmps19
  go_wp2_with fail
  have hne := Ext.ne (w.alloc (.cells #[.int .i64 40, .string t, .int .u64 m, .int .i64 p, .slice (some ⟨b, o, none⟩) 2 c] 25))
  have q0 : ¬ 9223372036854775807 < 5 + (typT d y).size := by omega
  have q1 : ¬ 9223372036854775807 < 5 + (typT d y).size + 2 := by omega
  have q2 : ¬ 9223372036854775807 < 5 + (typT d y).size + 2 + (exprT d n z).size := by omega
  have q3 : ¬ 9223372036854775807 < 5 + (typT d y).size + 2 + (exprT d n z).size + 1 := by omega
  refine wp_region_ext (by kernel_rfl) (by kernel_rfl) ?_
  repeat (quiet_step (first | exact C1.out _ | exact C2.out _))
  refine wpQuiet_nil ?_
  rintro _ ⟨k, rfl⟩
  go_wp2_with fail
  go_ret
  exact ⟨rfl, below_then hW hW.size k.b⟩

set_option maxRecDepth 100000 in
set_option maxHeartbeats 4000000 in
theorem exprR_38 {d : Nat}  (hB : BlockAt d) (t : ByteArray) (m p : Int) (y z q : T) (hy : y.kind = 6) (hz : z.kind = 7) (hq : q.kind = 20) (n : Nat) (A : Option Addr) (c : Nat) (w : World) (hn : n + (d + 1) ≤ 200) (hg : goodB (d + 1) (T.mk 38 t m p [y, z, q]) = true) (hF : Fine (T.mk 38 t m p [y, z, q])) (hR : Rd w [y, z, q] A c) :
    Calls Tryz.prog 19 #[nv (T.mk 38 t m p [y, z, q]) A c, .int .i64 n] w fun e w' => e = .returned (.string (exprT (d + 1) n (T.mk 38 t m p [y, z, q]))) ∧ Below w.heap.size w w' := by
  have hts := hF.text
  rw [T.text_mk] at hts
  have hn1 : n + d ≤ 200 := by omega
  obtain ⟨b, o, A1, c1, rfl, hc1, hr1⟩ := hR.at0 (x := y) rfl
  have hW : Below w.heap.size w (w.alloc (.cells #[.int .i64 38, .string t, .int .u64 m, .int .i64 p, .slice (some ⟨b, o, none⟩) 3 c] 25)) := one_below
  have hgy := goodB_down hg (y := y) (by simp)
  have hfy := hF.kid (y := y) (by simp)
  obtain ⟨u0, u1, u2, u3, u4⟩ := Ext.cells (hc1.below hW)
  obtain ⟨g0, g1, g2, g3, g4⟩ := box_raw (Below.refl (w.heap.size + 1) (w.alloc (.cells #[.int .i64 38, .string t, .int .u64 m, .int .i64 p, .slice (some ⟨b, o, none⟩) 3 c] 25)))
  have k1 := Ext.cell g1
  obtain ⟨A2, c2, hc2, hr2⟩ := hR.at1
  obtain ⟨A3, c3, hc3, hr3⟩ := hR.at2
  have hgz := goodB_down hg (y := z) (by simp)
  have hfz := hF.kid (y := z) (by simp)
  have hgq := goodB_down hg (y := q) (by simp)
  have hfq := hF.kid (y := q) (by simp)
  have hqs := block_le (n := n) hgq hfq hn1
  have hhs : (headT (typT d) y z).size ≤ 2097152000 := by have := headT_short d y z; have := hfy.bulk; have := hfz.bulk; omega
  obtain ⟨v0, v1, v2, v3, v4⟩ := Ext.cells (hc2.below hW)
  obtain ⟨x0, x1, x2, x3, x4⟩ := Ext.cells (hc3.below hW)
  have C1 := Lib.hid (fun k : Ext (w.alloc (.cells #[.int .i64 38, .string t, .int .u64 m, .int .i64 p, .slice (some ⟨b, o, none⟩) 3 c] 25)) => k.call (headR_any d y z A1 A2 c1 c2 k.v hy hz hgy hgz hfy hfz ((hr1.keep hW).keep k.b) ((hr2.keep hW).keep k.b)))
  have C2 := Lib.hid (fun k : Ext (w.alloc (.cells #[.int .i64 38, .string t, .int .u64 m, .int .i64 p, .slice (some ⟨b, o, none⟩) 3 c] 25)) => k.call (hB q n A3 c3 k.v hn1 hq hgq hfq ((hr3.keep hW).keep k.b)))
  clear hgz hfz hr2 hc2 hgq hfq hr3 hc3 hB hy hz hq
  clear hR hg hF hgy hfy hr1 hc1
  go_enter Tryz.func19, Tryz.ntmps19
  go_wp2_with fail
  have hne := Ext.ne (w.alloc (.cells #[.int .i64 38, .string t, .int .u64 m, .int .i64 p, .slice (some ⟨b, o, none⟩) 3 c] 25))
  have q0 : ¬ 9223372036854775807 < 4 + (headT (typT d) y z).size := by omega
  have q1 : ¬ 9223372036854775807 < 4 + (headT (typT d) y z).size + (blockT d n q).size := by omega
  refine wp_region_ext (by kernel_rfl) (by kernel_rfl) ?_
  repeat (quiet_step (first | exact C1.out _ | exact C2.out _))
  refine wpQuiet_nil ?_
  rintro _ ⟨k, rfl⟩
  go_wp2_with fail
  go_ret
  exact ⟨rfl, below_then hW hW.size k.b⟩

set_option maxRecDepth 100000 in
set_option maxHeartbeats 4000000 in
theorem exprR_33tt {d : Nat} (hE : ExprAt d) (t : ByteArray) (m p : Int) (y z : T) (hb1 : twoB y = true) (hb2 : twoB z = true) (n : Nat) (A : Option Addr) (c : Nat) (w : World) (hn : n + (d + 1) ≤ 200) (hg : goodB (d + 1) (T.mk 33 t m p [y, z]) = true) (hF : Fine (T.mk 33 t m p [y, z])) (hR : Rd w [y, z] A c) :
    Calls Tryz.prog 19 #[nv (T.mk 33 t m p [y, z]) A c, .int .i64 n] w fun e w' => e = .returned (.string (exprT (d + 1) n (T.mk 33 t m p [y, z]))) ∧ Below w.heap.size w w' := by
  have hts := hF.text
  rw [T.text_mk] at hts
  have hn1 : n + d ≤ 200 := by omega
  obtain ⟨b, o, A1, c1, rfl, hc1, hr1⟩ := hR.at0 (x := y) rfl
  have hW : Below w.heap.size w (w.alloc (.cells #[.int .i64 33, .string t, .int .u64 m, .int .i64 p, .slice (some ⟨b, o, none⟩) 2 c] 25)) := one_below
  have hgy := goodB_down hg (y := y) (by simp)
  have hfy := hF.kid (y := y) (by simp)
  have hys := expr_le (n := n) hgy hfy hn1
  obtain ⟨u0, u1, u2, u3, u4⟩ := Ext.cells (hc1.below hW)
  obtain ⟨g0, g1, g2, g3, g4⟩ := box_raw (Below.refl (w.heap.size + 1) (w.alloc (.cells #[.int .i64 33, .string t, .int .u64 m, .int .i64 p, .slice (some ⟨b, o, none⟩) 2 c] 25)))
  have k1 := Ext.cell g1
  obtain ⟨A2, c2, hc2, hr2⟩ := hR.at1
  have hgz := goodB_down hg (y := z) (by simp)
  have hfz := hF.kid (y := z) (by simp)
  have hzs := expr_le (n := n) hgz hfz hn1
  have r1 := hr1.keep hW
  have r2 := hr2.keep hW
  have s1 := hc1.below hW
  have s2 := hc2.below hW
  have C1 := Lib.hid (fun (w' : World) (bb : Bool) (hb : Below (w.alloc (.cells #[.int .i64 33, .string t, .int .u64 m, .int .i64 p, .slice (some ⟨b, o, none⟩) 2 c] 25)).heap.size (w.alloc (.cells #[.int .i64 33, .string t, .int .u64 m, .int .i64 p, .slice (some ⟨b, o, none⟩) 2 c] 25)) w') => wrapR_any hE y n bb A1 c1 w' hn1 hgy hfy (r1.keep hb))
  have C2 := Lib.hid (fun (w' : World) (bb : Bool) (hb : Below (w.alloc (.cells #[.int .i64 33, .string t, .int .u64 m, .int .i64 p, .slice (some ⟨b, o, none⟩) 2 c] 25)).heap.size (w.alloc (.cells #[.int .i64 33, .string t, .int .u64 m, .int .i64 p, .slice (some ⟨b, o, none⟩) 2 c] 25)) w') => wrapR_any hE z n bb A2 c2 w' hn1 hgz hfz (r2.keep hb))
  have S1 := Lib.hid s1
  have S2 := Lib.hid s2
  have HB1 := Lib.hid hb1
  have HB2 := Lib.hid hb2
  have hws := fun bb => wrap_le (b := bb) hys
  have hwz := fun bb => wrap_le (b := bb) hzs
  have HWS := Lib.hid hws
  have HWZ := Lib.hid hwz
  obtain ⟨h0, h1, h2, h3, h4⟩ := s1
  clear hgz hfz hr2 hc2 r1 r2 s2 u0 u1 u2 u3 u4 k1 hb1 hb2 hws hwz
  clear hE hR hg hF hgy hfy hr1 hc1
  go_enter Tryz.func19, Tryz.ntmps19
  go_wp2_with fail
  refine (strength_any _ _).mono ?_
  rintro e w1 ⟨rfl, rfl⟩
  go_wp2_with fail
  refine (twoR_any y A1 c1 _).mono ?_
  rintro e w1 ⟨rfl, hb⟩
  have hB := box_after hb
  obtain ⟨g0, g1, g2, g3, g4⟩ := box_raw hB
  obtain ⟨h0, h1, h2, h3, h4⟩ := S1.out.below hb
  obtain ⟨v0, v1, v2, v3, v4⟩ := S2.out.below hb
  have HW1 := Lib.hid hb
  clear hb hB
  rw [HB1.out]
  go_wp2_with fail
  refine (strength_any _ _).mono ?_
  rintro e w2 ⟨rfl, rfl⟩
  go_wp2_with fail
  refine (twoR_any z A2 c2 _).mono ?_
  rintro e w3 ⟨rfl, hb⟩
  have HW3 := Lib.hid (below_then HW1.out HW1.out.size hb)
  have hB := box_after HW3.out
  obtain ⟨g0, g1, g2, g3, g4⟩ := box_raw hB
  obtain ⟨v0, v1, v2, v3, v4⟩ := S2.out.below HW3.out
  clear hb hB
  rw [HB2.out]
  go_wp2_with fail
  refine (strength_any _ _).mono ?_
  rintro e w2 ⟨rfl, rfl⟩
  go_wp2_with fail
  have hwy := HWS.out (decide (bindsT y.text < bindsT t))
  have hwz := HWZ.out (decide (bindsT z.text ≤ bindsT t))
  obtain ⟨u0, u1, u2, u3, u4⟩ := Ext.cells (S1.out.below HW3.out)
  obtain ⟨v0, v1, v2, v3, v4⟩ := Ext.cells (S2.out.below HW3.out)
  have k1 := Ext.cell g1
  have D1 := Lib.hid (fun k : Ext w3 => k.call (C1.out k.v (decide (bindsT y.text < bindsT t)) (below_then HW3.out HW3.out.size k.b)))
  have D2 := Lib.hid (fun k : Ext w3 => k.call (C2.out k.v (decide (bindsT z.text ≤ bindsT t)) (below_then HW3.out HW3.out.size k.b)))
  have hne := Ext.ne w3
  have q0 : ¬ 9223372036854775807 < (wrapT (decide (bindsT y.text < bindsT t)) (exprT d n y)).size + 1 := by omega
  have q1 : ¬ 9223372036854775807 < (wrapT (decide (bindsT y.text < bindsT t)) (exprT d n y)).size + 1 + t.size := by omega
  have q2 : ¬ 9223372036854775807 < (wrapT (decide (bindsT y.text < bindsT t)) (exprT d n y)).size + 1 + t.size + 1 := by omega
  have q3 : ¬ 9223372036854775807 < (wrapT (decide (bindsT y.text < bindsT t)) (exprT d n y)).size + 1 + t.size + 1 + (wrapT (decide (bindsT z.text ≤ bindsT t)) (exprT d n z)).size := by omega
  refine wp_region_ext (by kernel_rfl) (by kernel_rfl) ?_
  iterate 6 (quiet_step (exact D1.out _))
  repeat (quiet_step (exact D2.out _))
  refine wpQuiet_nil ?_
  rintro _ ⟨k, rfl⟩
  go_wp2_with fail
  go_ret
  refine ⟨?_, below_then hW hW.size (below_then HW3.out HW3.out.size k.b)⟩
  have e1 := HB1.out
  have e2 := HB2.out
  rw [show exprT (d + 1) n (T.mk 33 t m p [y, z]) = wrapT (twoB y && decide (bindsT y.text < bindsT t)) (exprT d n y) ++ ⟨#[32]⟩ ++ t ++ ⟨#[32]⟩ ++ wrapT (twoB z && decide (bindsT z.text ≤ bindsT t)) (exprT d n z) from rfl, e1, e2]
  rfl

set_option maxRecDepth 100000 in
set_option maxHeartbeats 4000000 in
theorem exprR_33tf {d : Nat} (hE : ExprAt d) (t : ByteArray) (m p : Int) (y z : T) (hb1 : twoB y = true) (hb2 : twoB z = false) (n : Nat) (A : Option Addr) (c : Nat) (w : World) (hn : n + (d + 1) ≤ 200) (hg : goodB (d + 1) (T.mk 33 t m p [y, z]) = true) (hF : Fine (T.mk 33 t m p [y, z])) (hR : Rd w [y, z] A c) :
    Calls Tryz.prog 19 #[nv (T.mk 33 t m p [y, z]) A c, .int .i64 n] w fun e w' => e = .returned (.string (exprT (d + 1) n (T.mk 33 t m p [y, z]))) ∧ Below w.heap.size w w' := by
  have hts := hF.text
  rw [T.text_mk] at hts
  have hn1 : n + d ≤ 200 := by omega
  obtain ⟨b, o, A1, c1, rfl, hc1, hr1⟩ := hR.at0 (x := y) rfl
  have hW : Below w.heap.size w (w.alloc (.cells #[.int .i64 33, .string t, .int .u64 m, .int .i64 p, .slice (some ⟨b, o, none⟩) 2 c] 25)) := one_below
  have hgy := goodB_down hg (y := y) (by simp)
  have hfy := hF.kid (y := y) (by simp)
  have hys := expr_le (n := n) hgy hfy hn1
  obtain ⟨u0, u1, u2, u3, u4⟩ := Ext.cells (hc1.below hW)
  obtain ⟨g0, g1, g2, g3, g4⟩ := box_raw (Below.refl (w.heap.size + 1) (w.alloc (.cells #[.int .i64 33, .string t, .int .u64 m, .int .i64 p, .slice (some ⟨b, o, none⟩) 2 c] 25)))
  have k1 := Ext.cell g1
  obtain ⟨A2, c2, hc2, hr2⟩ := hR.at1
  have hgz := goodB_down hg (y := z) (by simp)
  have hfz := hF.kid (y := z) (by simp)
  have hzs := expr_le (n := n) hgz hfz hn1
  have r1 := hr1.keep hW
  have r2 := hr2.keep hW
  have s1 := hc1.below hW
  have s2 := hc2.below hW
  have C1 := Lib.hid (fun (w' : World) (bb : Bool) (hb : Below (w.alloc (.cells #[.int .i64 33, .string t, .int .u64 m, .int .i64 p, .slice (some ⟨b, o, none⟩) 2 c] 25)).heap.size (w.alloc (.cells #[.int .i64 33, .string t, .int .u64 m, .int .i64 p, .slice (some ⟨b, o, none⟩) 2 c] 25)) w') => wrapR_any hE y n bb A1 c1 w' hn1 hgy hfy (r1.keep hb))
  have C2 := Lib.hid (fun (w' : World) (bb : Bool) (hb : Below (w.alloc (.cells #[.int .i64 33, .string t, .int .u64 m, .int .i64 p, .slice (some ⟨b, o, none⟩) 2 c] 25)).heap.size (w.alloc (.cells #[.int .i64 33, .string t, .int .u64 m, .int .i64 p, .slice (some ⟨b, o, none⟩) 2 c] 25)) w') => wrapR_any hE z n bb A2 c2 w' hn1 hgz hfz (r2.keep hb))
  have S1 := Lib.hid s1
  have S2 := Lib.hid s2
  have HB1 := Lib.hid hb1
  have HB2 := Lib.hid hb2
  have hws := fun bb => wrap_le (b := bb) hys
  have hwz := fun bb => wrap_le (b := bb) hzs
  have HWS := Lib.hid hws
  have HWZ := Lib.hid hwz
  obtain ⟨h0, h1, h2, h3, h4⟩ := s1
  clear hgz hfz hr2 hc2 r1 r2 s2 u0 u1 u2 u3 u4 k1 hb1 hb2 hws hwz
  clear hE hR hg hF hgy hfy hr1 hc1
  go_enter Tryz.func19, Tryz.ntmps19
  go_wp2_with fail
  refine (strength_any _ _).mono ?_
  rintro e w1 ⟨rfl, rfl⟩
  go_wp2_with fail
  refine (twoR_any y A1 c1 _).mono ?_
  rintro e w1 ⟨rfl, hb⟩
  have hB := box_after hb
  obtain ⟨g0, g1, g2, g3, g4⟩ := box_raw hB
  obtain ⟨h0, h1, h2, h3, h4⟩ := S1.out.below hb
  obtain ⟨v0, v1, v2, v3, v4⟩ := S2.out.below hb
  have HW1 := Lib.hid hb
  clear hb hB
  rw [HB1.out]
  go_wp2_with fail
  refine (strength_any _ _).mono ?_
  rintro e w2 ⟨rfl, rfl⟩
  go_wp2_with fail
  refine (twoR_any z A2 c2 _).mono ?_
  rintro e w3 ⟨rfl, hb⟩
  have HW3 := Lib.hid (below_then HW1.out HW1.out.size hb)
  have hB := box_after HW3.out
  obtain ⟨g0, g1, g2, g3, g4⟩ := box_raw hB
  obtain ⟨v0, v1, v2, v3, v4⟩ := S2.out.below HW3.out
  clear hb hB
  rw [HB2.out]
  go_wp2_with fail
  have hwy := HWS.out (decide (bindsT y.text < bindsT t))
  have hwz := HWZ.out (false)
  obtain ⟨u0, u1, u2, u3, u4⟩ := Ext.cells (S1.out.below HW3.out)
  obtain ⟨v0, v1, v2, v3, v4⟩ := Ext.cells (S2.out.below HW3.out)
  have k1 := Ext.cell g1
  have D1 := Lib.hid (fun k : Ext w3 => k.call (C1.out k.v (decide (bindsT y.text < bindsT t)) (below_then HW3.out HW3.out.size k.b)))
  have D2 := Lib.hid (fun k : Ext w3 => k.call (C2.out k.v (false) (below_then HW3.out HW3.out.size k.b)))
  have hne := Ext.ne w3
  have q0 : ¬ 9223372036854775807 < (wrapT (decide (bindsT y.text < bindsT t)) (exprT d n y)).size + 1 := by omega
  have q1 : ¬ 9223372036854775807 < (wrapT (decide (bindsT y.text < bindsT t)) (exprT d n y)).size + 1 + t.size := by omega
  have q2 : ¬ 9223372036854775807 < (wrapT (decide (bindsT y.text < bindsT t)) (exprT d n y)).size + 1 + t.size + 1 := by omega
  have q3 : ¬ 9223372036854775807 < (wrapT (decide (bindsT y.text < bindsT t)) (exprT d n y)).size + 1 + t.size + 1 + (wrapT (false) (exprT d n z)).size := by omega
  refine wp_region_ext (by kernel_rfl) (by kernel_rfl) ?_
  iterate 6 (quiet_step (exact D1.out _))
  repeat (quiet_step (exact D2.out _))
  refine wpQuiet_nil ?_
  rintro _ ⟨k, rfl⟩
  go_wp2_with fail
  go_ret
  refine ⟨?_, below_then hW hW.size (below_then HW3.out HW3.out.size k.b)⟩
  have e1 := HB1.out
  have e2 := HB2.out
  rw [show exprT (d + 1) n (T.mk 33 t m p [y, z]) = wrapT (twoB y && decide (bindsT y.text < bindsT t)) (exprT d n y) ++ ⟨#[32]⟩ ++ t ++ ⟨#[32]⟩ ++ wrapT (twoB z && decide (bindsT z.text ≤ bindsT t)) (exprT d n z) from rfl, e1, e2]
  rfl

set_option maxRecDepth 100000 in
set_option maxHeartbeats 4000000 in
theorem exprR_33ft {d : Nat} (hE : ExprAt d) (t : ByteArray) (m p : Int) (y z : T) (hb1 : twoB y = false) (hb2 : twoB z = true) (n : Nat) (A : Option Addr) (c : Nat) (w : World) (hn : n + (d + 1) ≤ 200) (hg : goodB (d + 1) (T.mk 33 t m p [y, z]) = true) (hF : Fine (T.mk 33 t m p [y, z])) (hR : Rd w [y, z] A c) :
    Calls Tryz.prog 19 #[nv (T.mk 33 t m p [y, z]) A c, .int .i64 n] w fun e w' => e = .returned (.string (exprT (d + 1) n (T.mk 33 t m p [y, z]))) ∧ Below w.heap.size w w' := by
  have hts := hF.text
  rw [T.text_mk] at hts
  have hn1 : n + d ≤ 200 := by omega
  obtain ⟨b, o, A1, c1, rfl, hc1, hr1⟩ := hR.at0 (x := y) rfl
  have hW : Below w.heap.size w (w.alloc (.cells #[.int .i64 33, .string t, .int .u64 m, .int .i64 p, .slice (some ⟨b, o, none⟩) 2 c] 25)) := one_below
  have hgy := goodB_down hg (y := y) (by simp)
  have hfy := hF.kid (y := y) (by simp)
  have hys := expr_le (n := n) hgy hfy hn1
  obtain ⟨u0, u1, u2, u3, u4⟩ := Ext.cells (hc1.below hW)
  obtain ⟨g0, g1, g2, g3, g4⟩ := box_raw (Below.refl (w.heap.size + 1) (w.alloc (.cells #[.int .i64 33, .string t, .int .u64 m, .int .i64 p, .slice (some ⟨b, o, none⟩) 2 c] 25)))
  have k1 := Ext.cell g1
  obtain ⟨A2, c2, hc2, hr2⟩ := hR.at1
  have hgz := goodB_down hg (y := z) (by simp)
  have hfz := hF.kid (y := z) (by simp)
  have hzs := expr_le (n := n) hgz hfz hn1
  have r1 := hr1.keep hW
  have r2 := hr2.keep hW
  have s1 := hc1.below hW
  have s2 := hc2.below hW
  have C1 := Lib.hid (fun (w' : World) (bb : Bool) (hb : Below (w.alloc (.cells #[.int .i64 33, .string t, .int .u64 m, .int .i64 p, .slice (some ⟨b, o, none⟩) 2 c] 25)).heap.size (w.alloc (.cells #[.int .i64 33, .string t, .int .u64 m, .int .i64 p, .slice (some ⟨b, o, none⟩) 2 c] 25)) w') => wrapR_any hE y n bb A1 c1 w' hn1 hgy hfy (r1.keep hb))
  have C2 := Lib.hid (fun (w' : World) (bb : Bool) (hb : Below (w.alloc (.cells #[.int .i64 33, .string t, .int .u64 m, .int .i64 p, .slice (some ⟨b, o, none⟩) 2 c] 25)).heap.size (w.alloc (.cells #[.int .i64 33, .string t, .int .u64 m, .int .i64 p, .slice (some ⟨b, o, none⟩) 2 c] 25)) w') => wrapR_any hE z n bb A2 c2 w' hn1 hgz hfz (r2.keep hb))
  have S1 := Lib.hid s1
  have S2 := Lib.hid s2
  have HB1 := Lib.hid hb1
  have HB2 := Lib.hid hb2
  have hws := fun bb => wrap_le (b := bb) hys
  have hwz := fun bb => wrap_le (b := bb) hzs
  have HWS := Lib.hid hws
  have HWZ := Lib.hid hwz
  obtain ⟨h0, h1, h2, h3, h4⟩ := s1
  clear hgz hfz hr2 hc2 r1 r2 s2 u0 u1 u2 u3 u4 k1 hb1 hb2 hws hwz
  clear hE hR hg hF hgy hfy hr1 hc1
  go_enter Tryz.func19, Tryz.ntmps19
  go_wp2_with fail
  refine (strength_any _ _).mono ?_
  rintro e w1 ⟨rfl, rfl⟩
  go_wp2_with fail
  refine (twoR_any y A1 c1 _).mono ?_
  rintro e w1 ⟨rfl, hb⟩
  have hB := box_after hb
  obtain ⟨g0, g1, g2, g3, g4⟩ := box_raw hB
  obtain ⟨h0, h1, h2, h3, h4⟩ := S1.out.below hb
  obtain ⟨v0, v1, v2, v3, v4⟩ := S2.out.below hb
  have HW1 := Lib.hid hb
  clear hb hB
  rw [HB1.out]
  go_wp2_with fail
  refine (twoR_any z A2 c2 _).mono ?_
  rintro e w3 ⟨rfl, hb⟩
  have HW3 := Lib.hid (below_then HW1.out HW1.out.size hb)
  have hB := box_after HW3.out
  obtain ⟨g0, g1, g2, g3, g4⟩ := box_raw hB
  obtain ⟨v0, v1, v2, v3, v4⟩ := S2.out.below HW3.out
  clear hb hB
  rw [HB2.out]
  go_wp2_with fail
  refine (strength_any _ _).mono ?_
  rintro e w2 ⟨rfl, rfl⟩
  go_wp2_with fail
  have hwy := HWS.out (false)
  have hwz := HWZ.out (decide (bindsT z.text ≤ bindsT t))
  obtain ⟨u0, u1, u2, u3, u4⟩ := Ext.cells (S1.out.below HW3.out)
  obtain ⟨v0, v1, v2, v3, v4⟩ := Ext.cells (S2.out.below HW3.out)
  have k1 := Ext.cell g1
  have D1 := Lib.hid (fun k : Ext w3 => k.call (C1.out k.v (false) (below_then HW3.out HW3.out.size k.b)))
  have D2 := Lib.hid (fun k : Ext w3 => k.call (C2.out k.v (decide (bindsT z.text ≤ bindsT t)) (below_then HW3.out HW3.out.size k.b)))
  have hne := Ext.ne w3
  have q0 : ¬ 9223372036854775807 < (wrapT (false) (exprT d n y)).size + 1 := by omega
  have q1 : ¬ 9223372036854775807 < (wrapT (false) (exprT d n y)).size + 1 + t.size := by omega
  have q2 : ¬ 9223372036854775807 < (wrapT (false) (exprT d n y)).size + 1 + t.size + 1 := by omega
  have q3 : ¬ 9223372036854775807 < (wrapT (false) (exprT d n y)).size + 1 + t.size + 1 + (wrapT (decide (bindsT z.text ≤ bindsT t)) (exprT d n z)).size := by omega
  refine wp_region_ext (by kernel_rfl) (by kernel_rfl) ?_
  iterate 6 (quiet_step (exact D1.out _))
  repeat (quiet_step (exact D2.out _))
  refine wpQuiet_nil ?_
  rintro _ ⟨k, rfl⟩
  go_wp2_with fail
  go_ret
  refine ⟨?_, below_then hW hW.size (below_then HW3.out HW3.out.size k.b)⟩
  have e1 := HB1.out
  have e2 := HB2.out
  rw [show exprT (d + 1) n (T.mk 33 t m p [y, z]) = wrapT (twoB y && decide (bindsT y.text < bindsT t)) (exprT d n y) ++ ⟨#[32]⟩ ++ t ++ ⟨#[32]⟩ ++ wrapT (twoB z && decide (bindsT z.text ≤ bindsT t)) (exprT d n z) from rfl, e1, e2]
  rfl

set_option maxRecDepth 100000 in
set_option maxHeartbeats 4000000 in
theorem exprR_33ff {d : Nat} (hE : ExprAt d) (t : ByteArray) (m p : Int) (y z : T) (hb1 : twoB y = false) (hb2 : twoB z = false) (n : Nat) (A : Option Addr) (c : Nat) (w : World) (hn : n + (d + 1) ≤ 200) (hg : goodB (d + 1) (T.mk 33 t m p [y, z]) = true) (hF : Fine (T.mk 33 t m p [y, z])) (hR : Rd w [y, z] A c) :
    Calls Tryz.prog 19 #[nv (T.mk 33 t m p [y, z]) A c, .int .i64 n] w fun e w' => e = .returned (.string (exprT (d + 1) n (T.mk 33 t m p [y, z]))) ∧ Below w.heap.size w w' := by
  have hts := hF.text
  rw [T.text_mk] at hts
  have hn1 : n + d ≤ 200 := by omega
  obtain ⟨b, o, A1, c1, rfl, hc1, hr1⟩ := hR.at0 (x := y) rfl
  have hW : Below w.heap.size w (w.alloc (.cells #[.int .i64 33, .string t, .int .u64 m, .int .i64 p, .slice (some ⟨b, o, none⟩) 2 c] 25)) := one_below
  have hgy := goodB_down hg (y := y) (by simp)
  have hfy := hF.kid (y := y) (by simp)
  have hys := expr_le (n := n) hgy hfy hn1
  obtain ⟨u0, u1, u2, u3, u4⟩ := Ext.cells (hc1.below hW)
  obtain ⟨g0, g1, g2, g3, g4⟩ := box_raw (Below.refl (w.heap.size + 1) (w.alloc (.cells #[.int .i64 33, .string t, .int .u64 m, .int .i64 p, .slice (some ⟨b, o, none⟩) 2 c] 25)))
  have k1 := Ext.cell g1
  obtain ⟨A2, c2, hc2, hr2⟩ := hR.at1
  have hgz := goodB_down hg (y := z) (by simp)
  have hfz := hF.kid (y := z) (by simp)
  have hzs := expr_le (n := n) hgz hfz hn1
  have r1 := hr1.keep hW
  have r2 := hr2.keep hW
  have s1 := hc1.below hW
  have s2 := hc2.below hW
  have C1 := Lib.hid (fun (w' : World) (bb : Bool) (hb : Below (w.alloc (.cells #[.int .i64 33, .string t, .int .u64 m, .int .i64 p, .slice (some ⟨b, o, none⟩) 2 c] 25)).heap.size (w.alloc (.cells #[.int .i64 33, .string t, .int .u64 m, .int .i64 p, .slice (some ⟨b, o, none⟩) 2 c] 25)) w') => wrapR_any hE y n bb A1 c1 w' hn1 hgy hfy (r1.keep hb))
  have C2 := Lib.hid (fun (w' : World) (bb : Bool) (hb : Below (w.alloc (.cells #[.int .i64 33, .string t, .int .u64 m, .int .i64 p, .slice (some ⟨b, o, none⟩) 2 c] 25)).heap.size (w.alloc (.cells #[.int .i64 33, .string t, .int .u64 m, .int .i64 p, .slice (some ⟨b, o, none⟩) 2 c] 25)) w') => wrapR_any hE z n bb A2 c2 w' hn1 hgz hfz (r2.keep hb))
  have S1 := Lib.hid s1
  have S2 := Lib.hid s2
  have HB1 := Lib.hid hb1
  have HB2 := Lib.hid hb2
  have hws := fun bb => wrap_le (b := bb) hys
  have hwz := fun bb => wrap_le (b := bb) hzs
  have HWS := Lib.hid hws
  have HWZ := Lib.hid hwz
  obtain ⟨h0, h1, h2, h3, h4⟩ := s1
  clear hgz hfz hr2 hc2 r1 r2 s2 u0 u1 u2 u3 u4 k1 hb1 hb2 hws hwz
  clear hE hR hg hF hgy hfy hr1 hc1
  go_enter Tryz.func19, Tryz.ntmps19
  go_wp2_with fail
  refine (strength_any _ _).mono ?_
  rintro e w1 ⟨rfl, rfl⟩
  go_wp2_with fail
  refine (twoR_any y A1 c1 _).mono ?_
  rintro e w1 ⟨rfl, hb⟩
  have hB := box_after hb
  obtain ⟨g0, g1, g2, g3, g4⟩ := box_raw hB
  obtain ⟨h0, h1, h2, h3, h4⟩ := S1.out.below hb
  obtain ⟨v0, v1, v2, v3, v4⟩ := S2.out.below hb
  have HW1 := Lib.hid hb
  clear hb hB
  rw [HB1.out]
  go_wp2_with fail
  refine (twoR_any z A2 c2 _).mono ?_
  rintro e w3 ⟨rfl, hb⟩
  have HW3 := Lib.hid (below_then HW1.out HW1.out.size hb)
  have hB := box_after HW3.out
  obtain ⟨g0, g1, g2, g3, g4⟩ := box_raw hB
  obtain ⟨v0, v1, v2, v3, v4⟩ := S2.out.below HW3.out
  clear hb hB
  rw [HB2.out]
  go_wp2_with fail
  have hwy := HWS.out (false)
  have hwz := HWZ.out (false)
  obtain ⟨u0, u1, u2, u3, u4⟩ := Ext.cells (S1.out.below HW3.out)
  obtain ⟨v0, v1, v2, v3, v4⟩ := Ext.cells (S2.out.below HW3.out)
  have k1 := Ext.cell g1
  have D1 := Lib.hid (fun k : Ext w3 => k.call (C1.out k.v (false) (below_then HW3.out HW3.out.size k.b)))
  have D2 := Lib.hid (fun k : Ext w3 => k.call (C2.out k.v (false) (below_then HW3.out HW3.out.size k.b)))
  have hne := Ext.ne w3
  have q0 : ¬ 9223372036854775807 < (wrapT (false) (exprT d n y)).size + 1 := by omega
  have q1 : ¬ 9223372036854775807 < (wrapT (false) (exprT d n y)).size + 1 + t.size := by omega
  have q2 : ¬ 9223372036854775807 < (wrapT (false) (exprT d n y)).size + 1 + t.size + 1 := by omega
  have q3 : ¬ 9223372036854775807 < (wrapT (false) (exprT d n y)).size + 1 + t.size + 1 + (wrapT (false) (exprT d n z)).size := by omega
  refine wp_region_ext (by kernel_rfl) (by kernel_rfl) ?_
  iterate 6 (quiet_step (exact D1.out _))
  repeat (quiet_step (exact D2.out _))
  refine wpQuiet_nil ?_
  rintro _ ⟨k, rfl⟩
  go_wp2_with fail
  go_ret
  refine ⟨?_, below_then hW hW.size (below_then HW3.out HW3.out.size k.b)⟩
  have e1 := HB1.out
  have e2 := HB2.out
  rw [show exprT (d + 1) n (T.mk 33 t m p [y, z]) = wrapT (twoB y && decide (bindsT y.text < bindsT t)) (exprT d n y) ++ ⟨#[32]⟩ ++ t ++ ⟨#[32]⟩ ++ wrapT (twoB z && decide (bindsT z.text ≤ bindsT t)) (exprT d n z) from rfl, e1, e2]
  rfl

end Go.Proofs.YtoemljgkofhhpaaGreatDoor
