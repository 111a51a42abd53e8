import Derived.Test.YtoemljgkofhhpaaGreatDoorHeadP
import Derived.OneCell
import Derived.Deep.RegionHeld
namespace Go.Proofs.YtoemljgkofhhpaaGreatDoor
open Go.RowKit

/-- A printer at block pb, n deep. -/
def PAt (w : World) (pb n : Nat) : Prop := w.heap[pb]? = some (.cells #[.int .i64 (n : Int)] 45 (0, 0))
structure Pr (w : World) (pb n : Nat) : Prop where
  at_ : PAt w pb n
  base : ∃ w0 : World, Env w0 ∧ w0.heap.size ≤ pb ∧ Below w0.heap.size w0 w
theorem PAt.lt {w : World} {pb n : Nat} (h : PAt w pb n) : pb < w.heap.size := by
  rcases Nat.lt_or_ge pb w.heap.size with h' | h'
  · exact h'
  · simp [PAt, Array.getElem?_eq_none h'] at h
theorem PAt.keep {w w' : World} {pb n : Nat} (h : PAt w pb n) (hb : Below w.heap.size w w') : PAt w' pb n := by
  unfold PAt; rw [hb.block pb h.lt]; exact h
theorem Pr.env {w : World} {pb n : Nat} (h : Pr w pb n) : Env w := by
  obtain ⟨w0, h1, _, h3⟩ := h.base
  exact h1.keep h3
theorem Pr.keep {w w' : World} {pb n : Nat} (h : Pr w pb n) (hb : Below w.heap.size w w') : Pr w' pb n := by
  obtain ⟨w0, h1, h2, h3⟩ := h.base
  exact ⟨h.at_.keep hb, w0, h1, h2, below_then h3 h3.size hb⟩
theorem PAt.set {w : World} {pb n : Nat} (h : PAt w pb n) (m : Nat) : PAt (w.setCell ⟨pb, 0, none⟩ (.int .i64 (m : Int))) pb m := one_setCell h
theorem Pr.set {w : World} {pb n : Nat} (h : Pr w pb n) (m : Nat) : Pr (w.setCell ⟨pb, 0, none⟩ (.int .i64 (m : Int))) pb m := by
  obtain ⟨w0, h1, h2, h3⟩ := h.base
  exact ⟨h.at_.set m, w0, h1, h2, h3.setCell (p := ⟨pb, 0, none⟩) h2 _⟩
theorem PAt.far {w : World} {pb n : Nat} (h : PAt w pb n) {b o : Nat} {v : Value} (hc : w.cell? ⟨b, o + 4, none⟩ = some v) : pb ≠ b := by
  intro e
  subst e
  rw [Lib.cell_of_heap h] at hc
  simp at hc
theorem Cells.set {w : World} {pb n : Nat} (h : PAt w pb n) (v : Value) {b o : Nat} {x : T} {A : Option Addr} {c : Nat} (hc : Cells w b o x A c) : Cells (w.setCell ⟨pb, 0, none⟩ v) b o x A c := by
  have hne := h.far hc.c4
  exact ⟨by rw [World.cell?_setCell_far _ _ _ _ hne]; exact hc.c0, by rw [World.cell?_setCell_far _ _ _ _ hne]; exact hc.c1, by rw [World.cell?_setCell_far _ _ _ _ hne]; exact hc.c2,
    by rw [World.cell?_setCell_far _ _ _ _ hne]; exact hc.c3, by rw [World.cell?_setCell_far _ _ _ _ hne]; exact hc.c4⟩
theorem Rd.set {w : World} {pb n : Nat} (h : PAt w pb n) (v : Value) {l : List T} {A : Option Addr} {c : Nat} (hR : Rd w l A c) : Rd (w.setCell ⟨pb, 0, none⟩ v) l A c := by
  induction hR with
  | mk l A c b o f g hc hA hcell hsub ih => exact .mk l A c b o f g hc hA (fun i x hx => (hcell i x hx).set h v) (fun i x hx => ih i x hx)
/-- Set and set back: as it was. -/
theorem below_back {w wr : World} {pb n : Nat} (h : PAt w pb n) (v : Value) (hb : Below w.heap.size (w.setCell ⟨pb, 0, none⟩ v) wr) (hp : PAt wr pb n) : Below w.heap.size w wr := by
  refine ⟨hb.os, hb.tape, hb.output, by have := hb.size; simpa [World.setCell] using this, fun i hi => ?_⟩
  by_cases e : i = pb
  · subst e; rw [show wr.heap[i]? = _ from hp]; exact h.symm
  · rw [hb.block i hi, Below.heap_setCell w ⟨pb, 0, none⟩ v i e]
theorem PAt.cell {w : World} {pb n : Nat} (h : PAt w pb n) : w.cell? ⟨pb, 0, none⟩ = some (.int .i64 (n : Int)) := by
  rw [Lib.cell_of_heap h]; rfl
theorem PAt.frozen {w : World} {pb n : Nat} (h : PAt w pb n) : w.frozen? ⟨pb, 0, none⟩ = false := Lib.frozen_of_heap h 0
/-- The program's expr, block, stmt at fuel d. -/
def ExprP (d : Nat) : Prop := ∀ (x : T) (n : Nat) (A : Option Addr) (c pb : Nat) (w : World), n + d ≤ 200 → goodB d x = true → Fine x → Rd w x.list A c → Pr w pb n →
  Calls Tryz.prog 22 #[.pointer (some ⟨pb, 0, none⟩), nv x A c] w fun e w' => e = .returned (.string (exprT d n x)) ∧ Below w.heap.size w w'
def BlockP (d : Nat) : Prop := ∀ (x : T) (n : Nat) (A : Option Addr) (c pb : Nat) (w : World), n + d ≤ 200 → x.kind = 20 → goodB d x = true → Fine x → Rd w x.list A c → Pr w pb n →
  Calls Tryz.prog 33 #[.pointer (some ⟨pb, 0, none⟩), nv x A c] w fun e w' => e = .returned (.string (blockT d n x)) ∧ Below w.heap.size w w'
def StmtP (d : Nat) : Prop := ∀ (x : T) (n : Nat) (A : Option Addr) (c pb : Nat) (w : World), n + d ≤ 200 → isStmtB x.kind = true → goodB d x = true → Fine x → Rd w x.list A c → Pr w pb n →
  Calls Tryz.prog 91 #[.pointer (some ⟨pb, 0, none⟩), nv x A c] w fun e w' => e = .returned (.string (stmtT d n x)) ∧ Below w.heap.size w w'
set_option maxRecDepth 100000 in
theorem bindsP_any (x : ByteArray) (w : World) (h : Env w) : Calls Tryz.prog 24 #[.string x] w fun e w' => e = .returned (.int .i64 (bindsT x)) ∧ w = w' := by
  obtain ⟨b, o, c, t, fr, ho⟩ := h.ops
  have HC := Lib.hid (binds_any x w b o c t fr ho)
  clear ho h
  go_enter Tryz.func24, Tryz.ntmps24
  go_wp2_with fail
  refine HC.out.mono ?_
  rintro e w1 ⟨rfl, rfl⟩
  go_wp2_with fail
  go_ret
  exact ⟨rfl, rfl⟩
set_option maxRecDepth 100000 in
set_option maxHeartbeats 2000000 in
theorem wrapP_any {d : Nat} (hE : ExprP d) (x : T) (n : Nat) (b : Bool) (A : Option Addr) (c pb : Nat) (w : World) (hn : n + d ≤ 200) (hg : goodB d x = true) (hF : Fine x) (hR : Rd w x.list A c) (hP : Pr w pb n) :
    Calls Tryz.prog 51 #[.pointer (some ⟨pb, 0, none⟩), nv x A c, .bool b] w fun e w' => e = .returned (.string (wrapT b (exprT d n x))) ∧ Below w.heap.size w w' := by
  have hs := expr_le hg hF hn
  have HC := Lib.hid (hE x n A c pb (w.alloc (nbox x A c)) hn hg hF (hR.keep one_below) (hP.keep one_below))
  clear hE hR hP
  cases b with
  | true =>
    go_enter Tryz.func51, Tryz.ntmps51
    go_wp2_with fail
    refine HC.out.mono ?_
    rintro e w1 ⟨rfl, hb⟩
    have HB := Lib.hid (box_below (box_after hb))
    clear hb
    go_wp2_with fail
    go_ret
    exact ⟨rfl, HB.out⟩
  | false =>
    go_enter Tryz.func51, Tryz.ntmps51
    go_wp2_with fail
    refine HC.out.mono ?_
    rintro e w1 ⟨rfl, hb⟩
    have HB := Lib.hid (box_below (box_after hb))
    clear hb
    go_wp2_with fail
    go_ret
    exact ⟨rfl, HB.out⟩

set_option maxRecDepth 100000 in
set_option maxHeartbeats 2000000 in
theorem stemP_any {d : Nat} (hE : ExprP d) (x : T) (n : Nat) (A : Option Addr) (c pb : Nat) (w : World) (hn : n + d ≤ 200) (hg : goodB d x = true) (hF : Fine x) (hR : Rd w x.list A c) (hP : Pr w pb n) :
    Calls Tryz.prog 53 #[.pointer (some ⟨pb, 0, none⟩), nv x A c] w fun e w' => e = .returned (.string (wrapT (stemB x) (exprT d n x))) ∧ Below w.heap.size w w' := by
  have HC := Lib.hid (fun b => wrapP_any hE x n b A c pb (w.alloc (nbox x A c)) hn hg hF (hR.keep one_below) (hP.keep one_below))
  clear hE hR hg hF hP
  cases h1 : (x.kind == 33) with
  | true =>
    go_enter Tryz.func53, Tryz.ntmps53
    go_wp2_with fail
    refine (HC.out _).mono ?_
    rintro e w1 ⟨rfl, hb⟩
    have HB := Lib.hid (box_below (box_after hb))
    clear hb
    go_wp2_with fail
    go_ret
    exact ⟨by rw [stemB, h1]; rfl, HB.out⟩
  | false =>
    cases h2 : (x.kind == 39) with
    | true =>
      go_enter Tryz.func53, Tryz.ntmps53
      go_wp2_with fail
      refine (HC.out _).mono ?_
      rintro e w1 ⟨rfl, hb⟩
      have HB := Lib.hid (box_below (box_after hb))
      clear hb
      go_wp2_with fail
      go_ret
      exact ⟨by rw [stemB, h1, h2]; rfl, HB.out⟩
    | false =>
      go_enter Tryz.func53, Tryz.ntmps53
      go_wp2_with fail
      refine (HC.out _).mono ?_
      rintro e w1 ⟨rfl, hb⟩
      have HB := Lib.hid (box_below (box_after hb))
      clear hb
      go_wp2_with fail
      go_ret
      exact ⟨by rw [stemB, h1, h2]; rfl, HB.out⟩

set_option maxRecDepth 100000 in
set_option maxHeartbeats 2000000 in
theorem partP_any {d : Nat} (hE : ExprP d) (x : T) (n : Nat) (A : Option Addr) (c pb : Nat) (w : World) (hn : n + d ≤ 200) (hk : isTypeB x.kind = decide (x.kind < 20)) (hg : goodB d x = true) (hF : Fine x) (hR : Rd w x.list A c) (hP : Pr w pb n) :
    Calls Tryz.prog 54 #[.pointer (some ⟨pb, 0, none⟩), nv x A c] w fun e w' => e = .returned (.string (partT (typT d) (exprT d n) x)) ∧ Below w.heap.size w w' := by
  have HC := Lib.hid (hE x n A c pb (w.alloc (nbox x A c)) hn hg hF (hR.keep one_below) (hP.keep one_below))
  have HT := Lib.hid (typP_any d x A c (w.alloc (nbox x A c)) hg hF (hR.keep one_below))
  have hpt : partT (typT d) (exprT d n) x = cond (isTypeB x.kind) (typT d x) (exprT d n x) := by
    rw [hk]; unfold partT; split <;> simp [*]
  have HX := Lib.hid hpt
  clear hE hR hg hF hP hk hpt
  cases h1 : isTypeB x.kind with
  | true =>
    go_enter Tryz.func54, Tryz.ntmps54
    go_wp2_with fail
    refine (isType_any _ _).mono ?_
    rintro e w1 ⟨rfl, rfl⟩
    go_wp2_with fail
    refine HT.out.mono ?_
    rintro e w1 ⟨rfl, hb⟩
    have HB := Lib.hid (box_below (box_after hb))
    clear hb
    go_wp2_with fail
    go_ret
    exact ⟨by rw [HX.out, h1]; rfl, HB.out⟩
  | false =>
    go_enter Tryz.func54, Tryz.ntmps54
    go_wp2_with fail
    refine (isType_any _ _).mono ?_
    rintro e w1 ⟨rfl, rfl⟩
    go_wp2_with fail
    refine HC.out.mono ?_
    rintro e w1 ⟨rfl, hb⟩
    have HB := Lib.hid (box_below (box_after hb))
    clear hb
    go_wp2_with fail
    go_ret
    exact ⟨by rw [HX.out, h1]; rfl, HB.out⟩

set_option maxRecDepth 100000 in
set_option maxHeartbeats 2000000 in
theorem headsP_any {d : Nat} (hE : ExprP d) (x : T) (n : Nat) (A : Option Addr) (c pb : Nat) (w : World) (hn : n + d ≤ 200) (hg : goodB d x = true) (hF : Fine x) (hR : Rd w x.list A c) (hP : Pr w pb n) :
    Calls Tryz.prog 130 #[.pointer (some ⟨pb, 0, none⟩), nv x A c] w fun e w' => e = .returned (.string (wrapT x.lits (exprT d n x))) ∧ Below w.heap.size w w' := by
  have hW : Below w.heap.size w (w.alloc (.cells #[.int .i64 x.kind, .string x.text, .int .u64 x.num, .int .i64 x.place, .slice A x.list.length c] 25)) := one_below
  obtain ⟨g0, g1, g2, g3, g4⟩ := box_raw (Below.refl (w.heap.size + 1) (w.alloc (.cells #[.int .i64 x.kind, .string x.text, .int .u64 x.num, .int .i64 x.place, .slice A x.list.length c] 25)))
  have k0 := Ext.cell g0
  have k1 := Ext.cell g1
  have k2 := Ext.cell g2
  have k3 := Ext.cell g3
  have k4 := Ext.cell g4
  have hne := Ext.ne (w.alloc (.cells #[.int .i64 x.kind, .string x.text, .int .u64 x.num, .int .i64 x.place, .slice A x.list.length c] 25))
  have C1 := Lib.hid (fun k : Ext (w.alloc (.cells #[.int .i64 x.kind, .string x.text, .int .u64 x.num, .int .i64 x.place, .slice A x.list.length c] 25)) => k.call (litsP_any x.size x A c k.v (Nat.le_refl _) ((hR.keep hW).keep k.b) hF.size))
  have C2 := Lib.hid (fun k : Ext (w.alloc (.cells #[.int .i64 x.kind, .string x.text, .int .u64 x.num, .int .i64 x.place, .slice A x.list.length c] 25)) => k.call (wrapP_any hE x n x.lits A c pb k.v hn hg hF ((hR.keep hW).keep k.b) ((hP.keep hW).keep k.b)))
  clear hE hR hP hg hF
  go_enter Tryz.func130, Tryz.ntmps130
  go_wp2_with fail
  refine wp_region_ext (by kernel_rfl) (by kernel_rfl) ?_
  repeat (quiet_step (first | exact C1.out _ | exact C2.out _))
  refine wpQuiet_nil ?_
  rintro _ ⟨k, rfl⟩
  go_wp2_with fail
  go_ret
  exact ⟨rfl, below_then hW hW.size k.b⟩

set_option maxRecDepth 100000 in
set_option maxHeartbeats 4000000 in
theorem exprP_39 {d : Nat} (hE : ExprP d) (t : ByteArray) (m p : Int) (y : T) (n : Nat) (A : Option Addr) (c pb : Nat) (w : World) (hn : n + (d + 1) ≤ 200) (hg : goodB (d + 1) (T.mk 39 t m p [y]) = true) (hF : Fine (T.mk 39 t m p [y])) (hR : Rd w [y] A c) (hP : Pr w pb n) :
    Calls Tryz.prog 22 #[.pointer (some ⟨pb, 0, none⟩), nv (T.mk 39 t m p [y]) A c] w fun e w' => e = .returned (.string (exprT (d + 1) n (T.mk 39 t m p [y]))) ∧ Below w.heap.size w w' := by
  have hts := hF.text
  rw [T.text_mk] at hts
  have hn1 : n + d ≤ 200 := by omega
  obtain ⟨b, o, A1, c1, rfl, hc1, hr1⟩ := hR.at0 (x := y) rfl
  have hW : Below w.heap.size w (w.alloc (.cells #[.int .i64 39, .string t, .int .u64 m, .int .i64 p, .slice (some ⟨b, o, none⟩) 1 c] 25)) := one_below
  have hgy := goodB_down hg (y := y) (by simp)
  have hfy := hF.kid (y := y) (by simp)
  have hys := expr_le (n := n) hgy hfy hn1
  obtain ⟨u0, u1, u2, u3, u4⟩ := Ext.cells (hc1.below hW)
  obtain ⟨g0, g1, g2, g3, g4⟩ := box_raw (Below.refl (w.heap.size + 1) (w.alloc (.cells #[.int .i64 39, .string t, .int .u64 m, .int .i64 p, .slice (some ⟨b, o, none⟩) 1 c] 25)))
  have k1 := Ext.cell g1
  have C1 := Lib.hid (fun k : Ext (w.alloc (.cells #[.int .i64 39, .string t, .int .u64 m, .int .i64 p, .slice (some ⟨b, o, none⟩) 1 c] 25)) => k.call (binaryP_any y A1 c1 k.v))
  have C2 := Lib.hid (fun k : Ext (w.alloc (.cells #[.int .i64 39, .string t, .int .u64 m, .int .i64 p, .slice (some ⟨b, o, none⟩) 1 c] 25)) => k.call (wrapP_any hE y n (twoB y) A1 c1 pb k.v hn1 hgy hfy ((hr1.keep hW).keep k.b) ((hP.keep hW).keep k.b)))
  have hws := wrap_le (b := twoB y) hys
  clear hE hR hg hF hgy hfy hr1 hc1 hP
  go_enter Tryz.func22, Tryz.ntmps22
  go_wp2_with fail
  have hne := Ext.ne (w.alloc (.cells #[.int .i64 39, .string t, .int .u64 m, .int .i64 p, .slice (some ⟨b, o, none⟩) 1 c] 25))
  have q0 : ¬ 9223372036854775807 < 2 + (wrapT (twoB y) (exprT d n y)).size := by omega
  refine wp_region_ext (by kernel_rfl) (by kernel_rfl) ?_
  repeat (quiet_step (first | exact C1.out _ | exact C2.out _))
  refine wpQuiet_nil ?_
  rintro _ ⟨k, rfl⟩
  go_wp2_with fail
  go_ret
  exact ⟨rfl, below_then hW hW.size k.b⟩

set_option maxRecDepth 100000 in
set_option maxHeartbeats 4000000 in
theorem exprP_33a {d : Nat} (hE : ExprP d) (t : ByteArray) (m p : Int) (y : T) (n : Nat) (A : Option Addr) (c pb : Nat) (w : World) (hn : n + (d + 1) ≤ 200) (hg : goodB (d + 1) (T.mk 33 t m p [y]) = true) (hF : Fine (T.mk 33 t m p [y])) (hR : Rd w [y] A c) (hP : Pr w pb n) :
    Calls Tryz.prog 22 #[.pointer (some ⟨pb, 0, none⟩), nv (T.mk 33 t m p [y]) A c] w fun e w' => e = .returned (.string (exprT (d + 1) n (T.mk 33 t m p [y]))) ∧ Below w.heap.size w w' := by
  have hts := hF.text
  rw [T.text_mk] at hts
  have hn1 : n + d ≤ 200 := by omega
  obtain ⟨b, o, A1, c1, rfl, hc1, hr1⟩ := hR.at0 (x := y) rfl
  have hW : Below w.heap.size w (w.alloc (.cells #[.int .i64 33, .string t, .int .u64 m, .int .i64 p, .slice (some ⟨b, o, none⟩) 1 c] 25)) := one_below
  have hgy := goodB_down hg (y := y) (by simp)
  have hfy := hF.kid (y := y) (by simp)
  have hys := expr_le (n := n) hgy hfy hn1
  obtain ⟨u0, u1, u2, u3, u4⟩ := Ext.cells (hc1.below hW)
  obtain ⟨g0, g1, g2, g3, g4⟩ := box_raw (Below.refl (w.heap.size + 1) (w.alloc (.cells #[.int .i64 33, .string t, .int .u64 m, .int .i64 p, .slice (some ⟨b, o, none⟩) 1 c] 25)))
  have k1 := Ext.cell g1
  have C1 := Lib.hid (fun k : Ext (w.alloc (.cells #[.int .i64 33, .string t, .int .u64 m, .int .i64 p, .slice (some ⟨b, o, none⟩) 1 c] 25)) => k.call (binaryP_any y A1 c1 k.v))
  have C2 := Lib.hid (fun k : Ext (w.alloc (.cells #[.int .i64 33, .string t, .int .u64 m, .int .i64 p, .slice (some ⟨b, o, none⟩) 1 c] 25)) => k.call (wrapP_any hE y n (twoB y) A1 c1 pb k.v hn1 hgy hfy ((hr1.keep hW).keep k.b) ((hP.keep hW).keep k.b)))
  have hws := wrap_le (b := twoB y) hys
  clear hE hR hg hF hgy hfy hr1 hc1 hP
  go_enter Tryz.func22, Tryz.ntmps22
  go_wp2_with fail
  have hne := Ext.ne (w.alloc (.cells #[.int .i64 33, .string t, .int .u64 m, .int .i64 p, .slice (some ⟨b, o, none⟩) 1 c] 25))
  have q0 : ¬ 9223372036854775807 < t.size + (wrapT (twoB y) (exprT d n y)).size := by omega
  refine wp_region_ext (by kernel_rfl) (by kernel_rfl) ?_
  repeat (quiet_step (first | exact C1.out _ | exact C2.out _))
  refine wpQuiet_nil ?_
  rintro _ ⟨k, rfl⟩
  go_wp2_with fail
  go_ret
  exact ⟨rfl, below_then hW hW.size k.b⟩

set_option maxRecDepth 100000 in
set_option maxHeartbeats 4000000 in
theorem exprP_35 {d : Nat} (hE : ExprP d) (t : ByteArray) (m p : Int) (y : T) (n : Nat) (A : Option Addr) (c pb : Nat) (w : World) (hn : n + (d + 1) ≤ 200) (hg : goodB (d + 1) (T.mk 35 t m p [y]) = true) (hF : Fine (T.mk 35 t m p [y])) (hR : Rd w [y] A c) (hP : Pr w pb n) :
    Calls Tryz.prog 22 #[.pointer (some ⟨pb, 0, none⟩), nv (T.mk 35 t m p [y]) A c] w fun e w' => e = .returned (.string (exprT (d + 1) n (T.mk 35 t m p [y]))) ∧ Below w.heap.size w w' := by
  have hts := hF.text
  rw [T.text_mk] at hts
  have hn1 : n + d ≤ 200 := by omega
  obtain ⟨b, o, A1, c1, rfl, hc1, hr1⟩ := hR.at0 (x := y) rfl
  have hW : Below w.heap.size w (w.alloc (.cells #[.int .i64 35, .string t, .int .u64 m, .int .i64 p, .slice (some ⟨b, o, none⟩) 1 c] 25)) := one_below
  have hgy := goodB_down hg (y := y) (by simp)
  have hfy := hF.kid (y := y) (by simp)
  have hys := expr_le (n := n) hgy hfy hn1
  obtain ⟨u0, u1, u2, u3, u4⟩ := Ext.cells (hc1.below hW)
  obtain ⟨g0, g1, g2, g3, g4⟩ := box_raw (Below.refl (w.heap.size + 1) (w.alloc (.cells #[.int .i64 35, .string t, .int .u64 m, .int .i64 p, .slice (some ⟨b, o, none⟩) 1 c] 25)))
  have k1 := Ext.cell g1
  have C1 := Lib.hid (fun k : Ext (w.alloc (.cells #[.int .i64 35, .string t, .int .u64 m, .int .i64 p, .slice (some ⟨b, o, none⟩) 1 c] 25)) => k.call (stemP_any hE y n A1 c1 pb k.v hn1 hgy hfy ((hr1.keep hW).keep k.b) ((hP.keep hW).keep k.b)))
  have hws := wrap_le (b := stemB y) hys
  clear hE hR hg hF hgy hfy hr1 hc1 hP
  go_enter Tryz.func22, Tryz.ntmps22
  go_wp2_with fail
  have hne := Ext.ne (w.alloc (.cells #[.int .i64 35, .string t, .int .u64 m, .int .i64 p, .slice (some ⟨b, o, none⟩) 1 c] 25))
  have q0 : ¬ 9223372036854775807 < (wrapT (stemB y) (exprT d n y)).size + 1 := by omega
  have q1 : ¬ 9223372036854775807 < (wrapT (stemB y) (exprT d n y)).size + 1 + t.size := by omega
  refine wp_region_ext (by kernel_rfl) (by kernel_rfl) ?_
  repeat (quiet_step (first | exact C1.out _))
  refine wpQuiet_nil ?_
  rintro _ ⟨k, rfl⟩
  go_wp2_with fail
  go_ret
  exact ⟨rfl, below_then hW hW.size k.b⟩

set_option maxRecDepth 100000 in
set_option maxHeartbeats 4000000 in
theorem exprP_40 {d : Nat} (hE : ExprP d) (t : ByteArray) (m p : Int) (y z : T) (n : Nat) (A : Option Addr) (c pb : Nat) (w : World) (hn : n + (d + 1) ≤ 200) (hg : goodB (d + 1) (T.mk 40 t m p [y, z]) = true) (hF : Fine (T.mk 40 t m p [y, z])) (hR : Rd w [y, z] A c) (hP : Pr w pb n) :
    Calls Tryz.prog 22 #[.pointer (some ⟨pb, 0, none⟩), nv (T.mk 40 t m p [y, z]) A c] w fun e w' => e = .returned (.string (exprT (d + 1) n (T.mk 40 t m p [y, z]))) ∧ Below w.heap.size w w' := by
  have hts := hF.text
  rw [T.text_mk] at hts
  have hn1 : n + d ≤ 200 := by omega
  obtain ⟨b, o, A1, c1, rfl, hc1, hr1⟩ := hR.at0 (x := y) rfl
  have hW : Below w.heap.size w (w.alloc (.cells #[.int .i64 40, .string t, .int .u64 m, .int .i64 p, .slice (some ⟨b, o, none⟩) 2 c] 25)) := one_below
  have hgy := goodB_down hg (y := y) (by simp)
  have hfy := hF.kid (y := y) (by simp)
  have hys := typ_le (d := d) hfy
  obtain ⟨u0, u1, u2, u3, u4⟩ := Ext.cells (hc1.below hW)
  obtain ⟨g0, g1, g2, g3, g4⟩ := box_raw (Below.refl (w.heap.size + 1) (w.alloc (.cells #[.int .i64 40, .string t, .int .u64 m, .int .i64 p, .slice (some ⟨b, o, none⟩) 2 c] 25)))
  have k1 := Ext.cell g1
  obtain ⟨A2, c2, hc2, hr2⟩ := hR.at1
  have hgz := goodB_down hg (y := z) (by simp)
  have hfz := hF.kid (y := z) (by simp)
  have hzs := expr_le (n := n) hgz hfz hn1
  obtain ⟨v0, v1, v2, v3, v4⟩ := Ext.cells (hc2.below hW)
  have C1 := Lib.hid (fun k : Ext (w.alloc (.cells #[.int .i64 40, .string t, .int .u64 m, .int .i64 p, .slice (some ⟨b, o, none⟩) 2 c] 25)) => k.call (typP_any d y A1 c1 k.v hgy hfy ((hr1.keep hW).keep k.b)))
  have C2 := Lib.hid (fun k : Ext (w.alloc (.cells #[.int .i64 40, .string t, .int .u64 m, .int .i64 p, .slice (some ⟨b, o, none⟩) 2 c] 25)) => k.call (hE z n A2 c2 pb k.v hn1 hgz hfz ((hr2.keep hW).keep k.b) ((hP.keep hW).keep k.b)))
  clear hgz hfz hr2 hc2
  clear hE hR hg hF hgy hfy hr1 hc1 hP
  go_enter Tryz.func22, Tryz.ntmps22
  go_wp2_with fail
  have hne := Ext.ne (w.alloc (.cells #[.int .i64 40, .string t, .int .u64 m, .int .i64 p, .slice (some ⟨b, o, none⟩) 2 c] 25))
  have q0 : ¬ 9223372036854775807 < 5 + (typT d y).size := by omega
  have q1 : ¬ 9223372036854775807 < 5 + (typT d y).size + 2 := by omega
  have q2 : ¬ 9223372036854775807 < 5 + (typT d y).size + 2 + (exprT d n z).size := by omega
  have q3 : ¬ 9223372036854775807 < 5 + (typT d y).size + 2 + (exprT d n z).size + 1 := by omega
  refine wp_region_ext (by kernel_rfl) (by kernel_rfl) ?_
  repeat (quiet_step (first | exact C1.out _ | exact C2.out _))
  refine wpQuiet_nil ?_
  rintro _ ⟨k, rfl⟩
  go_wp2_with fail
  go_ret
  exact ⟨rfl, below_then hW hW.size k.b⟩

set_option maxRecDepth 100000 in
set_option maxHeartbeats 4000000 in
theorem exprP_38 {d : Nat} (hB : BlockP d) (t : ByteArray) (m p : Int) (y z q : T) (hy : y.kind = 6) (hz : z.kind = 7) (hq : q.kind = 20) (n : Nat) (A : Option Addr) (c pb : Nat) (w : World) (hn : n + (d + 1) ≤ 200) (hg : goodB (d + 1) (T.mk 38 t m p [y, z, q]) = true) (hF : Fine (T.mk 38 t m p [y, z, q])) (hR : Rd w [y, z, q] A c) (hP : Pr w pb n) :
    Calls Tryz.prog 22 #[.pointer (some ⟨pb, 0, none⟩), nv (T.mk 38 t m p [y, z, q]) A c] w fun e w' => e = .returned (.string (exprT (d + 1) n (T.mk 38 t m p [y, z, q]))) ∧ Below w.heap.size w w' := by
  have hts := hF.text
  rw [T.text_mk] at hts
  have hn1 : n + d ≤ 200 := by omega
  obtain ⟨b, o, A1, c1, rfl, hc1, hr1⟩ := hR.at0 (x := y) rfl
  have hW : Below w.heap.size w (w.alloc (.cells #[.int .i64 38, .string t, .int .u64 m, .int .i64 p, .slice (some ⟨b, o, none⟩) 3 c] 25)) := one_below
  have hgy := goodB_down hg (y := y) (by simp)
  have hfy := hF.kid (y := y) (by simp)
  obtain ⟨u0, u1, u2, u3, u4⟩ := Ext.cells (hc1.below hW)
  obtain ⟨g0, g1, g2, g3, g4⟩ := box_raw (Below.refl (w.heap.size + 1) (w.alloc (.cells #[.int .i64 38, .string t, .int .u64 m, .int .i64 p, .slice (some ⟨b, o, none⟩) 3 c] 25)))
  have k1 := Ext.cell g1
  obtain ⟨A2, c2, hc2, hr2⟩ := hR.at1
  obtain ⟨A3, c3, hc3, hr3⟩ := hR.at2
  have hgz := goodB_down hg (y := z) (by simp)
  have hfz := hF.kid (y := z) (by simp)
  have hgq := goodB_down hg (y := q) (by simp)
  have hfq := hF.kid (y := q) (by simp)
  have hqs := block_le (n := n) hgq hfq hn1
  have hhs : (headT (typT d) y z).size ≤ 2097152000 := by have := headT_short d y z; have := hfy.bulk; have := hfz.bulk; omega
  obtain ⟨v0, v1, v2, v3, v4⟩ := Ext.cells (hc2.below hW)
  obtain ⟨x0, x1, x2, x3, x4⟩ := Ext.cells (hc3.below hW)
  have C1 := Lib.hid (fun k : Ext (w.alloc (.cells #[.int .i64 38, .string t, .int .u64 m, .int .i64 p, .slice (some ⟨b, o, none⟩) 3 c] 25)) => k.call (sigP_any d y z A1 A2 c1 c2 k.v hy hz hgy hgz hfy hfz ((hr1.keep hW).keep k.b) ((hr2.keep hW).keep k.b)))
  have C2 := Lib.hid (fun k : Ext (w.alloc (.cells #[.int .i64 38, .string t, .int .u64 m, .int .i64 p, .slice (some ⟨b, o, none⟩) 3 c] 25)) => k.call (hB q n A3 c3 pb k.v hn1 hq hgq hfq ((hr3.keep hW).keep k.b) ((hP.keep hW).keep k.b)))
  clear hgz hfz hr2 hc2 hgq hfq hr3 hc3 hB hy hz hq
  clear hR hg hF hgy hfy hr1 hc1 hP
  go_enter Tryz.func22, Tryz.ntmps22
  go_wp2_with fail
  have hne := Ext.ne (w.alloc (.cells #[.int .i64 38, .string t, .int .u64 m, .int .i64 p, .slice (some ⟨b, o, none⟩) 3 c] 25))
  have q0 : ¬ 9223372036854775807 < 4 + (headT (typT d) y z).size := by omega
  have q1 : ¬ 9223372036854775807 < 4 + (headT (typT d) y z).size + (blockT d n q).size := by omega
  refine wp_region_ext (by kernel_rfl) (by kernel_rfl) ?_
  repeat (quiet_step (first | exact C1.out _ | exact C2.out _))
  refine wpQuiet_nil ?_
  rintro _ ⟨k, rfl⟩
  go_wp2_with fail
  go_ret
  exact ⟨rfl, below_then hW hW.size k.b⟩

set_option maxRecDepth 100000 in
set_option maxHeartbeats 4000000 in
theorem exprP_33tt {d : Nat} (hE : ExprP d) (t : ByteArray) (m p : Int) (y z : T) (hb1 : twoB y = true) (hb2 : twoB z = true) (n : Nat) (A : Option Addr) (c pb : Nat) (w : World) (hn : n + (d + 1) ≤ 200) (hg : goodB (d + 1) (T.mk 33 t m p [y, z]) = true) (hF : Fine (T.mk 33 t m p [y, z])) (hR : Rd w [y, z] A c) (hP : Pr w pb n) :
    Calls Tryz.prog 22 #[.pointer (some ⟨pb, 0, none⟩), nv (T.mk 33 t m p [y, z]) A c] w fun e w' => e = .returned (.string (exprT (d + 1) n (T.mk 33 t m p [y, z]))) ∧ Below w.heap.size w w' := by
  have hts := hF.text
  rw [T.text_mk] at hts
  have hn1 : n + d ≤ 200 := by omega
  obtain ⟨b, o, A1, c1, rfl, hc1, hr1⟩ := hR.at0 (x := y) rfl
  have hW : Below w.heap.size w (w.alloc (.cells #[.int .i64 33, .string t, .int .u64 m, .int .i64 p, .slice (some ⟨b, o, none⟩) 2 c] 25)) := one_below
  have hgy := goodB_down hg (y := y) (by simp)
  have hfy := hF.kid (y := y) (by simp)
  have hys := expr_le (n := n) hgy hfy hn1
  obtain ⟨u0, u1, u2, u3, u4⟩ := Ext.cells (hc1.below hW)
  obtain ⟨g0, g1, g2, g3, g4⟩ := box_raw (Below.refl (w.heap.size + 1) (w.alloc (.cells #[.int .i64 33, .string t, .int .u64 m, .int .i64 p, .slice (some ⟨b, o, none⟩) 2 c] 25)))
  have k1 := Ext.cell g1
  obtain ⟨A2, c2, hc2, hr2⟩ := hR.at1
  have hgz := goodB_down hg (y := z) (by simp)
  have hfz := hF.kid (y := z) (by simp)
  have hzs := expr_le (n := n) hgz hfz hn1
  obtain ⟨v0, v1, v2, v3, v4⟩ := Ext.cells (hc2.below hW)
  have hws := wrap_le (b := decide (bindsT y.text < bindsT t)) hys
  have hwz := wrap_le (b := decide (bindsT z.text ≤ bindsT t)) hzs
  have HB0 := Lib.hid (bindsP_any t (w.alloc (.cells #[.int .i64 33, .string t, .int .u64 m, .int .i64 p, .slice (some ⟨b, o, none⟩) 2 c] 25)) (hP.env.keep hW))
  have D1 := Lib.hid (fun k : Ext (w.alloc (.cells #[.int .i64 33, .string t, .int .u64 m, .int .i64 p, .slice (some ⟨b, o, none⟩) 2 c] 25)) => k.call (hb1 ▸ binaryP_any y A1 c1 k.v))
  have D2 := Lib.hid (fun k : Ext (w.alloc (.cells #[.int .i64 33, .string t, .int .u64 m, .int .i64 p, .slice (some ⟨b, o, none⟩) 2 c] 25)) => k.call (hb2 ▸ binaryP_any z A2 c2 k.v))
  have E1 := Lib.hid (fun k : Ext (w.alloc (.cells #[.int .i64 33, .string t, .int .u64 m, .int .i64 p, .slice (some ⟨b, o, none⟩) 2 c] 25)) => k.same (bindsP_any y.text k.v ((hP.env.keep hW).keep k.b)))
  have E2 := Lib.hid (fun k : Ext (w.alloc (.cells #[.int .i64 33, .string t, .int .u64 m, .int .i64 p, .slice (some ⟨b, o, none⟩) 2 c] 25)) => k.same (bindsP_any z.text k.v ((hP.env.keep hW).keep k.b)))
  have F1 := Lib.hid (fun k : Ext (w.alloc (.cells #[.int .i64 33, .string t, .int .u64 m, .int .i64 p, .slice (some ⟨b, o, none⟩) 2 c] 25)) => k.call (wrapP_any hE y n (decide (bindsT y.text < bindsT t)) A1 c1 pb k.v hn1 hgy hfy ((hr1.keep hW).keep k.b) ((hP.keep hW).keep k.b)))
  have F2 := Lib.hid (fun k : Ext (w.alloc (.cells #[.int .i64 33, .string t, .int .u64 m, .int .i64 p, .slice (some ⟨b, o, none⟩) 2 c] 25)) => k.call (wrapP_any hE z n (decide (bindsT z.text ≤ bindsT t)) A2 c2 pb k.v hn1 hgz hfz ((hr2.keep hW).keep k.b) ((hP.keep hW).keep k.b)))
  have HB1 := Lib.hid hb1
  have HB2 := Lib.hid hb2
  clear hgz hfz hr2 hc2 hb1 hb2
  clear hE hR hg hF hgy hfy hr1 hc1 hP
  go_enter Tryz.func22, Tryz.ntmps22
  go_wp2_with fail
  refine HB0.out.mono ?_
  rintro e w1 ⟨rfl, rfl⟩
  go_wp2_with fail
  have hne := Ext.ne (w.alloc (.cells #[.int .i64 33, .string t, .int .u64 m, .int .i64 p, .slice (some ⟨b, o, none⟩) 2 c] 25))
  have q0 : ¬ 9223372036854775807 < (wrapT (decide (bindsT y.text < bindsT t)) (exprT d n y)).size + 1 := by omega
  have q1 : ¬ 9223372036854775807 < (wrapT (decide (bindsT y.text < bindsT t)) (exprT d n y)).size + 1 + t.size := by omega
  have q2 : ¬ 9223372036854775807 < (wrapT (decide (bindsT y.text < bindsT t)) (exprT d n y)).size + 1 + t.size + 1 := by omega
  have q3 : ¬ 9223372036854775807 < (wrapT (decide (bindsT y.text < bindsT t)) (exprT d n y)).size + 1 + t.size + 1 + (wrapT (decide (bindsT z.text ≤ bindsT t)) (exprT d n z)).size := by omega
  refine wp_region_ext (by kernel_rfl) (by kernel_rfl) ?_
  iterate 8 (quiet_step (exact D1.out _))
  iterate 6 (quiet_step (exact E1.out _))
  iterate 4 (quiet_step (exact F1.out _))
  iterate 13 (quiet_step (exact D2.out _))
  iterate 6 (quiet_step (exact E2.out _))
  repeat (quiet_step (exact F2.out _))
  refine wpQuiet_nil ?_
  rintro _ ⟨k, rfl⟩
  go_wp2_with fail
  go_ret
  refine ⟨?_, below_then hW hW.size k.b⟩
  rw [show exprT (d + 1) n (T.mk 33 t m p [y, z]) = wrapT (twoB y && decide (bindsT y.text < bindsT t)) (exprT d n y) ++ ⟨#[32]⟩ ++ t ++ ⟨#[32]⟩ ++ wrapT (twoB z && decide (bindsT z.text ≤ bindsT t)) (exprT d n z) from rfl, HB1.out, HB2.out]
  rfl

set_option maxRecDepth 100000 in
set_option maxHeartbeats 4000000 in
theorem exprP_33tf {d : Nat} (hE : ExprP d) (t : ByteArray) (m p : Int) (y z : T) (hb1 : twoB y = true) (hb2 : twoB z = false) (n : Nat) (A : Option Addr) (c pb : Nat) (w : World) (hn : n + (d + 1) ≤ 200) (hg : goodB (d + 1) (T.mk 33 t m p [y, z]) = true) (hF : Fine (T.mk 33 t m p [y, z])) (hR : Rd w [y, z] A c) (hP : Pr w pb n) :
    Calls Tryz.prog 22 #[.pointer (some ⟨pb, 0, none⟩), nv (T.mk 33 t m p [y, z]) A c] w fun e w' => e = .returned (.string (exprT (d + 1) n (T.mk 33 t m p [y, z]))) ∧ Below w.heap.size w w' := by
  have hts := hF.text
  rw [T.text_mk] at hts
  have hn1 : n + d ≤ 200 := by omega
  obtain ⟨b, o, A1, c1, rfl, hc1, hr1⟩ := hR.at0 (x := y) rfl
  have hW : Below w.heap.size w (w.alloc (.cells #[.int .i64 33, .string t, .int .u64 m, .int .i64 p, .slice (some ⟨b, o, none⟩) 2 c] 25)) := one_below
  have hgy := goodB_down hg (y := y) (by simp)
  have hfy := hF.kid (y := y) (by simp)
  have hys := expr_le (n := n) hgy hfy hn1
  obtain ⟨u0, u1, u2, u3, u4⟩ := Ext.cells (hc1.below hW)
  obtain ⟨g0, g1, g2, g3, g4⟩ := box_raw (Below.refl (w.heap.size + 1) (w.alloc (.cells #[.int .i64 33, .string t, .int .u64 m, .int .i64 p, .slice (some ⟨b, o, none⟩) 2 c] 25)))
  have k1 := Ext.cell g1
  obtain ⟨A2, c2, hc2, hr2⟩ := hR.at1
  have hgz := goodB_down hg (y := z) (by simp)
  have hfz := hF.kid (y := z) (by simp)
  have hzs := expr_le (n := n) hgz hfz hn1
  obtain ⟨v0, v1, v2, v3, v4⟩ := Ext.cells (hc2.below hW)
  have hws := wrap_le (b := decide (bindsT y.text < bindsT t)) hys
  have hwz := wrap_le (b := false) hzs
  have HB0 := Lib.hid (bindsP_any t (w.alloc (.cells #[.int .i64 33, .string t, .int .u64 m, .int .i64 p, .slice (some ⟨b, o, none⟩) 2 c] 25)) (hP.env.keep hW))
  have D1 := Lib.hid (fun k : Ext (w.alloc (.cells #[.int .i64 33, .string t, .int .u64 m, .int .i64 p, .slice (some ⟨b, o, none⟩) 2 c] 25)) => k.call (hb1 ▸ binaryP_any y A1 c1 k.v))
  have D2 := Lib.hid (fun k : Ext (w.alloc (.cells #[.int .i64 33, .string t, .int .u64 m, .int .i64 p, .slice (some ⟨b, o, none⟩) 2 c] 25)) => k.call (hb2 ▸ binaryP_any z A2 c2 k.v))
  have E1 := Lib.hid (fun k : Ext (w.alloc (.cells #[.int .i64 33, .string t, .int .u64 m, .int .i64 p, .slice (some ⟨b, o, none⟩) 2 c] 25)) => k.same (bindsP_any y.text k.v ((hP.env.keep hW).keep k.b)))
  have E2 := Lib.hid (fun k : Ext (w.alloc (.cells #[.int .i64 33, .string t, .int .u64 m, .int .i64 p, .slice (some ⟨b, o, none⟩) 2 c] 25)) => k.same (bindsP_any z.text k.v ((hP.env.keep hW).keep k.b)))
  have F1 := Lib.hid (fun k : Ext (w.alloc (.cells #[.int .i64 33, .string t, .int .u64 m, .int .i64 p, .slice (some ⟨b, o, none⟩) 2 c] 25)) => k.call (wrapP_any hE y n (decide (bindsT y.text < bindsT t)) A1 c1 pb k.v hn1 hgy hfy ((hr1.keep hW).keep k.b) ((hP.keep hW).keep k.b)))
  have F2 := Lib.hid (fun k : Ext (w.alloc (.cells #[.int .i64 33, .string t, .int .u64 m, .int .i64 p, .slice (some ⟨b, o, none⟩) 2 c] 25)) => k.call (wrapP_any hE z n (false) A2 c2 pb k.v hn1 hgz hfz ((hr2.keep hW).keep k.b) ((hP.keep hW).keep k.b)))
  have HB1 := Lib.hid hb1
  have HB2 := Lib.hid hb2
  clear hgz hfz hr2 hc2 hb1 hb2
  clear hE hR hg hF hgy hfy hr1 hc1 hP
  go_enter Tryz.func22, Tryz.ntmps22
  go_wp2_with fail
  refine HB0.out.mono ?_
  rintro e w1 ⟨rfl, rfl⟩
  go_wp2_with fail
  have hne := Ext.ne (w.alloc (.cells #[.int .i64 33, .string t, .int .u64 m, .int .i64 p, .slice (some ⟨b, o, none⟩) 2 c] 25))
  have q0 : ¬ 9223372036854775807 < (wrapT (decide (bindsT y.text < bindsT t)) (exprT d n y)).size + 1 := by omega
  have q1 : ¬ 9223372036854775807 < (wrapT (decide (bindsT y.text < bindsT t)) (exprT d n y)).size + 1 + t.size := by omega
  have q2 : ¬ 9223372036854775807 < (wrapT (decide (bindsT y.text < bindsT t)) (exprT d n y)).size + 1 + t.size + 1 := by omega
  have q3 : ¬ 9223372036854775807 < (wrapT (decide (bindsT y.text < bindsT t)) (exprT d n y)).size + 1 + t.size + 1 + (wrapT (false) (exprT d n z)).size := by omega
  refine wp_region_ext (by kernel_rfl) (by kernel_rfl) ?_
  iterate 8 (quiet_step (exact D1.out _))
  iterate 6 (quiet_step (exact E1.out _))
  iterate 4 (quiet_step (exact F1.out _))
  iterate 13 (quiet_step (exact D2.out _))
  iterate 1 (quiet_step (exact F2.out _))
  iterate 7 go_big_quiet_skip
  repeat (quiet_step (exact F2.out _))
  refine wpQuiet_nil ?_
  rintro _ ⟨k, rfl⟩
  go_wp2_with fail
  go_ret
  refine ⟨?_, below_then hW hW.size k.b⟩
  rw [show exprT (d + 1) n (T.mk 33 t m p [y, z]) = wrapT (twoB y && decide (bindsT y.text < bindsT t)) (exprT d n y) ++ ⟨#[32]⟩ ++ t ++ ⟨#[32]⟩ ++ wrapT (twoB z && decide (bindsT z.text ≤ bindsT t)) (exprT d n z) from rfl, HB1.out, HB2.out]
  rfl

set_option maxRecDepth 100000 in
set_option maxHeartbeats 4000000 in
theorem exprP_33ft {d : Nat} (hE : ExprP d) (t : ByteArray) (m p : Int) (y z : T) (hb1 : twoB y = false) (hb2 : twoB z = true) (n : Nat) (A : Option Addr) (c pb : Nat) (w : World) (hn : n + (d + 1) ≤ 200) (hg : goodB (d + 1) (T.mk 33 t m p [y, z]) = true) (hF : Fine (T.mk 33 t m p [y, z])) (hR : Rd w [y, z] A c) (hP : Pr w pb n) :
    Calls Tryz.prog 22 #[.pointer (some ⟨pb, 0, none⟩), nv (T.mk 33 t m p [y, z]) A c] w fun e w' => e = .returned (.string (exprT (d + 1) n (T.mk 33 t m p [y, z]))) ∧ Below w.heap.size w w' := by
  have hts := hF.text
  rw [T.text_mk] at hts
  have hn1 : n + d ≤ 200 := by omega
  obtain ⟨b, o, A1, c1, rfl, hc1, hr1⟩ := hR.at0 (x := y) rfl
  have hW : Below w.heap.size w (w.alloc (.cells #[.int .i64 33, .string t, .int .u64 m, .int .i64 p, .slice (some ⟨b, o, none⟩) 2 c] 25)) := one_below
  have hgy := goodB_down hg (y := y) (by simp)
  have hfy := hF.kid (y := y) (by simp)
  have hys := expr_le (n := n) hgy hfy hn1
  obtain ⟨u0, u1, u2, u3, u4⟩ := Ext.cells (hc1.below hW)
  obtain ⟨g0, g1, g2, g3, g4⟩ := box_raw (Below.refl (w.heap.size + 1) (w.alloc (.cells #[.int .i64 33, .string t, .int .u64 m, .int .i64 p, .slice (some ⟨b, o, none⟩) 2 c] 25)))
  have k1 := Ext.cell g1
  obtain ⟨A2, c2, hc2, hr2⟩ := hR.at1
  have hgz := goodB_down hg (y := z) (by simp)
  have hfz := hF.kid (y := z) (by simp)
  have hzs := expr_le (n := n) hgz hfz hn1
  obtain ⟨v0, v1, v2, v3, v4⟩ := Ext.cells (hc2.below hW)
  have hws := wrap_le (b := false) hys
  have hwz := wrap_le (b := decide (bindsT z.text ≤ bindsT t)) hzs
  have HB0 := Lib.hid (bindsP_any t (w.alloc (.cells #[.int .i64 33, .string t, .int .u64 m, .int .i64 p, .slice (some ⟨b, o, none⟩) 2 c] 25)) (hP.env.keep hW))
  have D1 := Lib.hid (fun k : Ext (w.alloc (.cells #[.int .i64 33, .string t, .int .u64 m, .int .i64 p, .slice (some ⟨b, o, none⟩) 2 c] 25)) => k.call (hb1 ▸ binaryP_any y A1 c1 k.v))
  have D2 := Lib.hid (fun k : Ext (w.alloc (.cells #[.int .i64 33, .string t, .int .u64 m, .int .i64 p, .slice (some ⟨b, o, none⟩) 2 c] 25)) => k.call (hb2 ▸ binaryP_any z A2 c2 k.v))
  have E1 := Lib.hid (fun k : Ext (w.alloc (.cells #[.int .i64 33, .string t, .int .u64 m, .int .i64 p, .slice (some ⟨b, o, none⟩) 2 c] 25)) => k.same (bindsP_any y.text k.v ((hP.env.keep hW).keep k.b)))
  have E2 := Lib.hid (fun k : Ext (w.alloc (.cells #[.int .i64 33, .string t, .int .u64 m, .int .i64 p, .slice (some ⟨b, o, none⟩) 2 c] 25)) => k.same (bindsP_any z.text k.v ((hP.env.keep hW).keep k.b)))
  have F1 := Lib.hid (fun k : Ext (w.alloc (.cells #[.int .i64 33, .string t, .int .u64 m, .int .i64 p, .slice (some ⟨b, o, none⟩) 2 c] 25)) => k.call (wrapP_any hE y n (false) A1 c1 pb k.v hn1 hgy hfy ((hr1.keep hW).keep k.b) ((hP.keep hW).keep k.b)))
  have F2 := Lib.hid (fun k : Ext (w.alloc (.cells #[.int .i64 33, .string t, .int .u64 m, .int .i64 p, .slice (some ⟨b, o, none⟩) 2 c] 25)) => k.call (wrapP_any hE z n (decide (bindsT z.text ≤ bindsT t)) A2 c2 pb k.v hn1 hgz hfz ((hr2.keep hW).keep k.b) ((hP.keep hW).keep k.b)))
  have HB1 := Lib.hid hb1
  have HB2 := Lib.hid hb2
  clear hgz hfz hr2 hc2 hb1 hb2
  clear hE hR hg hF hgy hfy hr1 hc1 hP
  go_enter Tryz.func22, Tryz.ntmps22
  go_wp2_with fail
  refine HB0.out.mono ?_
  rintro e w1 ⟨rfl, rfl⟩
  go_wp2_with fail
  have hne := Ext.ne (w.alloc (.cells #[.int .i64 33, .string t, .int .u64 m, .int .i64 p, .slice (some ⟨b, o, none⟩) 2 c] 25))
  have q0 : ¬ 9223372036854775807 < (wrapT (false) (exprT d n y)).size + 1 := by omega
  have q1 : ¬ 9223372036854775807 < (wrapT (false) (exprT d n y)).size + 1 + t.size := by omega
  have q2 : ¬ 9223372036854775807 < (wrapT (false) (exprT d n y)).size + 1 + t.size + 1 := by omega
  have q3 : ¬ 9223372036854775807 < (wrapT (false) (exprT d n y)).size + 1 + t.size + 1 + (wrapT (decide (bindsT z.text ≤ bindsT t)) (exprT d n z)).size := by omega
  refine wp_region_ext (by kernel_rfl) (by kernel_rfl) ?_
  iterate 8 (quiet_step (exact D1.out _))
  iterate 1 (quiet_step (exact F1.out _))
  iterate 7 go_big_quiet_skip
  iterate 2 (quiet_step (exact F1.out _))
  iterate 13 (quiet_step (exact D2.out _))
  iterate 6 (quiet_step (exact E2.out _))
  repeat (quiet_step (exact F2.out _))
  refine wpQuiet_nil ?_
  rintro _ ⟨k, rfl⟩
  go_wp2_with fail
  go_ret
  refine ⟨?_, below_then hW hW.size k.b⟩
  rw [show exprT (d + 1) n (T.mk 33 t m p [y, z]) = wrapT (twoB y && decide (bindsT y.text < bindsT t)) (exprT d n y) ++ ⟨#[32]⟩ ++ t ++ ⟨#[32]⟩ ++ wrapT (twoB z && decide (bindsT z.text ≤ bindsT t)) (exprT d n z) from rfl, HB1.out, HB2.out]
  rfl

set_option maxRecDepth 100000 in
set_option maxHeartbeats 4000000 in
theorem exprP_33ff {d : Nat} (hE : ExprP d) (t : ByteArray) (m p : Int) (y z : T) (hb1 : twoB y = false) (hb2 : twoB z = false) (n : Nat) (A : Option Addr) (c pb : Nat) (w : World) (hn : n + (d + 1) ≤ 200) (hg : goodB (d + 1) (T.mk 33 t m p [y, z]) = true) (hF : Fine (T.mk 33 t m p [y, z])) (hR : Rd w [y, z] A c) (hP : Pr w pb n) :
    Calls Tryz.prog 22 #[.pointer (some ⟨pb, 0, none⟩), nv (T.mk 33 t m p [y, z]) A c] w fun e w' => e = .returned (.string (exprT (d + 1) n (T.mk 33 t m p [y, z]))) ∧ Below w.heap.size w w' := by
  have hts := hF.text
  rw [T.text_mk] at hts
  have hn1 : n + d ≤ 200 := by omega
  obtain ⟨b, o, A1, c1, rfl, hc1, hr1⟩ := hR.at0 (x := y) rfl
  have hW : Below w.heap.size w (w.alloc (.cells #[.int .i64 33, .string t, .int .u64 m, .int .i64 p, .slice (some ⟨b, o, none⟩) 2 c] 25)) := one_below
  have hgy := goodB_down hg (y := y) (by simp)
  have hfy := hF.kid (y := y) (by simp)
  have hys := expr_le (n := n) hgy hfy hn1
  obtain ⟨u0, u1, u2, u3, u4⟩ := Ext.cells (hc1.below hW)
  obtain ⟨g0, g1, g2, g3, g4⟩ := box_raw (Below.refl (w.heap.size + 1) (w.alloc (.cells #[.int .i64 33, .string t, .int .u64 m, .int .i64 p, .slice (some ⟨b, o, none⟩) 2 c] 25)))
  have k1 := Ext.cell g1
  obtain ⟨A2, c2, hc2, hr2⟩ := hR.at1
  have hgz := goodB_down hg (y := z) (by simp)
  have hfz := hF.kid (y := z) (by simp)
  have hzs := expr_le (n := n) hgz hfz hn1
  obtain ⟨v0, v1, v2, v3, v4⟩ := Ext.cells (hc2.below hW)
  have hws := wrap_le (b := false) hys
  have hwz := wrap_le (b := false) hzs
  have HB0 := Lib.hid (bindsP_any t (w.alloc (.cells #[.int .i64 33, .string t, .int .u64 m, .int .i64 p, .slice (some ⟨b, o, none⟩) 2 c] 25)) (hP.env.keep hW))
  have D1 := Lib.hid (fun k : Ext (w.alloc (.cells #[.int .i64 33, .string t, .int .u64 m, .int .i64 p, .slice (some ⟨b, o, none⟩) 2 c] 25)) => k.call (hb1 ▸ binaryP_any y A1 c1 k.v))
  have D2 := Lib.hid (fun k : Ext (w.alloc (.cells #[.int .i64 33, .string t, .int .u64 m, .int .i64 p, .slice (some ⟨b, o, none⟩) 2 c] 25)) => k.call (hb2 ▸ binaryP_any z A2 c2 k.v))
  have E1 := Lib.hid (fun k : Ext (w.alloc (.cells #[.int .i64 33, .string t, .int .u64 m, .int .i64 p, .slice (some ⟨b, o, none⟩) 2 c] 25)) => k.same (bindsP_any y.text k.v ((hP.env.keep hW).keep k.b)))
  have E2 := Lib.hid (fun k : Ext (w.alloc (.cells #[.int .i64 33, .string t, .int .u64 m, .int .i64 p, .slice (some ⟨b, o, none⟩) 2 c] 25)) => k.same (bindsP_any z.text k.v ((hP.env.keep hW).keep k.b)))
  have F1 := Lib.hid (fun k : Ext (w.alloc (.cells #[.int .i64 33, .string t, .int .u64 m, .int .i64 p, .slice (some ⟨b, o, none⟩) 2 c] 25)) => k.call (wrapP_any hE y n (false) A1 c1 pb k.v hn1 hgy hfy ((hr1.keep hW).keep k.b) ((hP.keep hW).keep k.b)))
  have F2 := Lib.hid (fun k : Ext (w.alloc (.cells #[.int .i64 33, .string t, .int .u64 m, .int .i64 p, .slice (some ⟨b, o, none⟩) 2 c] 25)) => k.call (wrapP_any hE z n (false) A2 c2 pb k.v hn1 hgz hfz ((hr2.keep hW).keep k.b) ((hP.keep hW).keep k.b)))
  have HB1 := Lib.hid hb1
  have HB2 := Lib.hid hb2
  clear hgz hfz hr2 hc2 hb1 hb2
  clear hE hR hg hF hgy hfy hr1 hc1 hP
  go_enter Tryz.func22, Tryz.ntmps22
  go_wp2_with fail
  refine HB0.out.mono ?_
  rintro e w1 ⟨rfl, rfl⟩
  go_wp2_with fail
  have hne := Ext.ne (w.alloc (.cells #[.int .i64 33, .string t, .int .u64 m, .int .i64 p, .slice (some ⟨b, o, none⟩) 2 c] 25))
  have q0 : ¬ 9223372036854775807 < (wrapT (false) (exprT d n y)).size + 1 := by omega
  have q1 : ¬ 9223372036854775807 < (wrapT (false) (exprT d n y)).size + 1 + t.size := by omega
  have q2 : ¬ 9223372036854775807 < (wrapT (false) (exprT d n y)).size + 1 + t.size + 1 := by omega
  have q3 : ¬ 9223372036854775807 < (wrapT (false) (exprT d n y)).size + 1 + t.size + 1 + (wrapT (false) (exprT d n z)).size := by omega
  refine wp_region_ext (by kernel_rfl) (by kernel_rfl) ?_
  iterate 8 (quiet_step (exact D1.out _))
  iterate 1 (quiet_step (exact F1.out _))
  iterate 7 go_big_quiet_skip
  iterate 2 (quiet_step (exact F1.out _))
  iterate 13 (quiet_step (exact D2.out _))
  iterate 1 (quiet_step (exact F2.out _))
  iterate 7 go_big_quiet_skip
  repeat (quiet_step (exact F2.out _))
  refine wpQuiet_nil ?_
  rintro _ ⟨k, rfl⟩
  go_wp2_with fail
  go_ret
  refine ⟨?_, below_then hW hW.size k.b⟩
  rw [show exprT (d + 1) n (T.mk 33 t m p [y, z]) = wrapT (twoB y && decide (bindsT y.text < bindsT t)) (exprT d n y) ++ ⟨#[32]⟩ ++ t ++ ⟨#[32]⟩ ++ wrapT (twoB z && decide (bindsT z.text ≤ bindsT t)) (exprT d n z) from rfl, HB1.out, HB2.out]
  rfl

end Go.Proofs.YtoemljgkofhhpaaGreatDoor
