import Derived.Test.YtoemljgkofhhpaaGreatDoorRefS
namespace Go.Proofs.YtoemljgkofhhpaaGreatDoor
open Go.RowKit

set_option maxRecDepth 100000 in
set_option maxHeartbeats 4000000 in
theorem branchR_45 {d : Nat}  (t : ByteArray) (m p : Int) (l : List T) (n : Nat) (A : Option Addr) (c : Nat) (w : World) (_hn : n + d ≤ 200) (_hg : goodB d (T.mk 45 t m p l) = true) (_hF : Fine (T.mk 45 t m p l)) (_hR : Rd w l A c) :
    Calls Tryz.prog 137 #[nv (T.mk 45 t m p l) A c, .int .i64 n] w fun e w' => e = .returned (.string (branchF (exprT d n) (T.mk 45 t m p l))) ∧ Below w.heap.size w w' := by
  clear _hn _hg _hF _hR
  go_enter Tryz.func137, Tryz.ntmps137
  go_wp2_with fail
  go_ret
  exact ⟨rfl, one_below⟩

set_option maxRecDepth 100000 in
set_option maxHeartbeats 4000000 in
theorem branchR_44 {d : Nat} (hE : ExprAt d) (t : ByteArray) (m p : Int) (y z q : T) (n : Nat) (A : Option Addr) (c : Nat) (w : World) (hn : n + d ≤ 200) (hg : goodB d (T.mk 44 t m p [y, z, q]) = true) (hF : Fine (T.mk 44 t m p [y, z, q])) (hR : Rd w [y, z, q] A c) :
    Calls Tryz.prog 137 #[nv (T.mk 44 t m p [y, z, q]) A c, .int .i64 n] w fun e w' => e = .returned (.string (branchF (exprT d n) (T.mk 44 t m p [y, z, q]))) ∧ Below w.heap.size w w' := by
  obtain ⟨b, o, A1, c1, rfl, hc1, hr1⟩ := hR.at0 (x := y) rfl
  have hW : Below w.heap.size w (w.alloc (.cells #[.int .i64 44, .string t, .int .u64 m, .int .i64 p, .slice (some ⟨b, o, none⟩) 3 c] 25)) := one_below
  have hgy := goodB_in hg (y := y) (by simp)
  have hfy := hF.kid (y := y) (by simp)
  have hys := expr_le (n := n) hgy hfy hn
  obtain ⟨u0, u1, u2, u3, u4⟩ := Ext.cells (hc1.below hW)
  obtain ⟨g0, g1, g2, g3, g4⟩ := box_raw (Below.refl (w.heap.size + 1) (w.alloc (.cells #[.int .i64 44, .string t, .int .u64 m, .int .i64 p, .slice (some ⟨b, o, none⟩) 3 c] 25)))
  have k4 := Ext.cell g4
  obtain ⟨A2, c2, hc2, hr2⟩ := hR.at1
  have hgz := goodB_in hg (y := z) (by simp)
  have hfz := hF.kid (y := z) (by simp)
  have hzs := expr_le (n := n) hgz hfz hn
  obtain ⟨v0, v1, v2, v3, v4⟩ := Ext.cells (hc2.below hW)
  have C1 := Lib.hid (fun k : Ext (w.alloc (.cells #[.int .i64 44, .string t, .int .u64 m, .int .i64 p, .slice (some ⟨b, o, none⟩) 3 c] 25)) => k.call (hE y n A1 c1 k.v hn hgy hfy ((hr1.keep hW).keep k.b)))
  have C2 := Lib.hid (fun k : Ext (w.alloc (.cells #[.int .i64 44, .string t, .int .u64 m, .int .i64 p, .slice (some ⟨b, o, none⟩) 3 c] 25)) => k.call (hE z n A2 c2 k.v hn hgz hfz ((hr2.keep hW).keep k.b)))
  clear hgz hfz hr2 hc2 hE hR hg hF hgy hfy hr1 hc1
  go_enter Tryz.func137, Tryz.ntmps137
  go_wp2_with fail
  have hne := Ext.ne (w.alloc (.cells #[.int .i64 44, .string t, .int .u64 m, .int .i64 p, .slice (some ⟨b, o, none⟩) 3 c] 25))
  have q0 : ¬ 9223372036854775807 < 5 + (exprT d n y).size := by omega
  have q1 : ¬ 9223372036854775807 < 5 + (exprT d n y).size + 4 := by omega
  have q2 : ¬ 9223372036854775807 < 5 + (exprT d n y).size + 4 + (exprT d n z).size := by omega
  refine wp_region_ext (by kernel_rfl) (by kernel_rfl) ?_
  iterate 6 (quiet_step (exact C1.out _))
  repeat (quiet_step (exact C2.out _))
  refine wpQuiet_nil ?_
  rintro _ ⟨k, rfl⟩
  go_wp2_with fail
  go_ret
  exact ⟨rfl, below_then hW hW.size k.b⟩

set_option maxRecDepth 100000 in
set_option maxHeartbeats 4000000 in
theorem branchR_43t {d : Nat} (hE : ExprAt d) (t : ByteArray) (m p : Int) (y z : T) (he : emptyB t = true) (n : Nat) (A : Option Addr) (c : Nat) (w : World) (hn : n + d ≤ 200) (hg : goodB d (T.mk 43 t m p [y, z]) = true) (hF : Fine (T.mk 43 t m p [y, z])) (hR : Rd w [y, z] A c) :
    Calls Tryz.prog 137 #[nv (T.mk 43 t m p [y, z]) A c, .int .i64 n] w fun e w' => e = .returned (.string (branchF (exprT d n) (T.mk 43 t m p [y, z]))) ∧ Below w.heap.size w w' := by
  have hts := hF.text
  rw [T.text_mk] at hts
  obtain ⟨b, o, A1, c1, rfl, hc1, hr1⟩ := hR.at0 (x := y) rfl
  have hW : Below w.heap.size w (w.alloc (.cells #[.int .i64 43, .string t, .int .u64 m, .int .i64 p, .slice (some ⟨b, o, none⟩) 2 c] 25)) := one_below
  have hgy := goodB_in hg (y := y) (by simp)
  have hfy := hF.kid (y := y) (by simp)
  have hys := expr_le (n := n) hgy hfy hn
  obtain ⟨u0, u1, u2, u3, u4⟩ := Ext.cells (hc1.below hW)
  obtain ⟨g0, g1, g2, g3, g4⟩ := box_raw (Below.refl (w.heap.size + 1) (w.alloc (.cells #[.int .i64 43, .string t, .int .u64 m, .int .i64 p, .slice (some ⟨b, o, none⟩) 2 c] 25)))
  have k4 := Ext.cell g4
  have C1 := Lib.hid (fun k : Ext (w.alloc (.cells #[.int .i64 43, .string t, .int .u64 m, .int .i64 p, .slice (some ⟨b, o, none⟩) 2 c] 25)) => k.call (twoR_any y A1 c1 k.v))
  have C2 := Lib.hid (fun k : Ext (w.alloc (.cells #[.int .i64 43, .string t, .int .u64 m, .int .i64 p, .slice (some ⟨b, o, none⟩) 2 c] 25)) => k.call (wrapR_any hE y n (twoB y) A1 c1 k.v hn hgy hfy ((hr1.keep hW).keep k.b)))
  have hws := wrap_le (b := twoB y) hys
  have hx : branchF (exprT d n) (T.mk 43 t m p [y, z]) = cond (emptyB t) ⟨#[99, 97, 115, 101, 32]⟩ (⟨#[99, 97, 115, 101, 32]⟩ ++ t ++ ⟨#[32, 58, 61, 32]⟩) ++ ⟨#[60, 45]⟩ ++ wrapT (twoB y) (exprT d n y) := rfl
  have HX := Lib.hid hx
  clear hx
  have hem : t.toList.isEmpty = true := by rw [← he]; unfold emptyB; cases t.toList <;> rfl
  have HE := Lib.hid he
  clear hE hR hg hF hgy hfy hr1 hc1 he
  go_enter Tryz.func137, Tryz.ntmps137
  go_wp2_with fail
  have hne := Ext.ne (w.alloc (.cells #[.int .i64 43, .string t, .int .u64 m, .int .i64 p, .slice (some ⟨b, o, none⟩) 2 c] 25))
  have q0 : ¬ 9223372036854775807 < 7 + (wrapT (twoB y) (exprT d n y)).size := by omega
  refine wp_region_ext (by kernel_rfl) (by kernel_rfl) ?_
  repeat (quiet_step (first | exact C1.out _ | exact C2.out _))
  refine wpQuiet_nil ?_
  rintro _ ⟨k, rfl⟩
  go_wp2_with fail
  go_ret
  exact ⟨by rw [HX.out, HE.out]; rfl, below_then hW hW.size k.b⟩

set_option maxRecDepth 100000 in
set_option maxHeartbeats 4000000 in
theorem branchR_43f {d : Nat} (hE : ExprAt d) (t : ByteArray) (m p : Int) (y z : T) (he : emptyB t = false) (n : Nat) (A : Option Addr) (c : Nat) (w : World) (hn : n + d ≤ 200) (hg : goodB d (T.mk 43 t m p [y, z]) = true) (hF : Fine (T.mk 43 t m p [y, z])) (hR : Rd w [y, z] A c) :
    Calls Tryz.prog 137 #[nv (T.mk 43 t m p [y, z]) A c, .int .i64 n] w fun e w' => e = .returned (.string (branchF (exprT d n) (T.mk 43 t m p [y, z]))) ∧ Below w.heap.size w w' := by
  have hts := hF.text
  rw [T.text_mk] at hts
  obtain ⟨b, o, A1, c1, rfl, hc1, hr1⟩ := hR.at0 (x := y) rfl
  have hW : Below w.heap.size w (w.alloc (.cells #[.int .i64 43, .string t, .int .u64 m, .int .i64 p, .slice (some ⟨b, o, none⟩) 2 c] 25)) := one_below
  have hgy := goodB_in hg (y := y) (by simp)
  have hfy := hF.kid (y := y) (by simp)
  have hys := expr_le (n := n) hgy hfy hn
  obtain ⟨u0, u1, u2, u3, u4⟩ := Ext.cells (hc1.below hW)
  obtain ⟨g0, g1, g2, g3, g4⟩ := box_raw (Below.refl (w.heap.size + 1) (w.alloc (.cells #[.int .i64 43, .string t, .int .u64 m, .int .i64 p, .slice (some ⟨b, o, none⟩) 2 c] 25)))
  have k4 := Ext.cell g4
  have C1 := Lib.hid (fun k : Ext (w.alloc (.cells #[.int .i64 43, .string t, .int .u64 m, .int .i64 p, .slice (some ⟨b, o, none⟩) 2 c] 25)) => k.call (twoR_any y A1 c1 k.v))
  have C2 := Lib.hid (fun k : Ext (w.alloc (.cells #[.int .i64 43, .string t, .int .u64 m, .int .i64 p, .slice (some ⟨b, o, none⟩) 2 c] 25)) => k.call (wrapR_any hE y n (twoB y) A1 c1 k.v hn hgy hfy ((hr1.keep hW).keep k.b)))
  have hws := wrap_le (b := twoB y) hys
  have hx : branchF (exprT d n) (T.mk 43 t m p [y, z]) = cond (emptyB t) ⟨#[99, 97, 115, 101, 32]⟩ (⟨#[99, 97, 115, 101, 32]⟩ ++ t ++ ⟨#[32, 58, 61, 32]⟩) ++ ⟨#[60, 45]⟩ ++ wrapT (twoB y) (exprT d n y) := rfl
  have HX := Lib.hid hx
  clear hx
  have hem : t.toList.isEmpty = false := by rw [← he]; unfold emptyB; cases t.toList <;> rfl
  have HE := Lib.hid he
  clear hE hR hg hF hgy hfy hr1 hc1 he
  go_enter Tryz.func137, Tryz.ntmps137
  go_wp2_with fail
  have hne := Ext.ne (w.alloc (.cells #[.int .i64 43, .string t, .int .u64 m, .int .i64 p, .slice (some ⟨b, o, none⟩) 2 c] 25))
  have q0 : ¬ 9223372036854775807 < 5 + t.size + 4 + 2 := by omega
  have q1 : ¬ 9223372036854775807 < 5 + t.size + 4 + 2 + (wrapT (twoB y) (exprT d n y)).size := by omega
  refine wp_region_ext (by kernel_rfl) (by kernel_rfl) ?_
  repeat (quiet_step (first | exact C1.out _ | exact C2.out _))
  refine wpQuiet_nil ?_
  rintro _ ⟨k, rfl⟩
  go_wp2_with fail
  go_ret
  exact ⟨by rw [HX.out, HE.out]; rfl, below_then hW hW.size k.b⟩

/-- What a case of a select is. -/
theorem case_last {d : Nat} {y : T} (hg : goodB d y = true) (hk : 43 ≤ y.kind ∧ y.kind ≤ 45) :
    ∃ z, z.kind = 20 ∧ ((∃ e, y.kind = 43 ∧ y.list = [e, z]) ∨ (∃ e f, y.kind = 44 ∧ y.list = [e, f, z]) ∨ (y.kind = 45 ∧ y.list = [z])) := by
  have hch := goodB_kids hg
  have hkk : y.kind = 43 ∨ y.kind = 44 ∨ y.kind = 45 := by omega
  rcases hkk with h | h | h
  · simp [childrenB, h] at hch
    obtain ⟨e, z, h1, -, h2⟩ := kids_two hch
    exact ⟨z, by simpa [okKind] using h2, .inl ⟨e, h, h1⟩⟩
  · simp [childrenB, h] at hch
    obtain ⟨e, f, z, h1, -, -, h2⟩ := kids_three hch
    exact ⟨z, by simpa [okKind] using h2, .inr (.inl ⟨e, f, h, h1⟩)⟩
  · simp [childrenB, h] at hch
    obtain ⟨z, h1, h2⟩ := kids_one hch
    exact ⟨z, by simpa [okKind] using h2, .inr (.inr ⟨h, h1⟩)⟩
theorem branchR_any {d : Nat} (hE : ExprAt d) (x : T) (n : Nat) (A : Option Addr) (c : Nat) (w : World) (hn : n + d ≤ 200) (hk : 43 ≤ x.kind ∧ x.kind ≤ 45) (hg : goodB d x = true) (hF : Fine x) (hR : Rd w x.list A c) :
    Calls Tryz.prog 137 #[nv x A c, .int .i64 n] w fun e w' => e = .returned (.string (branchF (exprT d n) x)) ∧ Below w.heap.size w w' := by
  obtain ⟨z, -, h⟩ := case_last hg hk
  cases x with
  | mk k t m p l =>
    rcases h with ⟨e, h1, h2⟩ | ⟨e, f, h1, h2⟩ | ⟨h1, h2⟩
    · dsimp only [T.kind_mk, T.list_mk] at h1 h2
      subst h1 h2
      cases he : emptyB t
      · exact branchR_43f hE t m p e z he n A c w hn hg hF hR
      · exact branchR_43t hE t m p e z he n A c w hn hg hF hR
    · dsimp only [T.kind_mk, T.list_mk] at h1 h2
      subst h1 h2
      exact branchR_44 hE t m p e f z n A c w hn hg hF hR
    · dsimp only [T.kind_mk, T.list_mk] at h1 h2
      subst h1 h2
      exact branchR_45 t m p [z] n A c w hn hg hF hR
/-- Its lines. -/
theorem case_lines {d n : Nat} {y z : T} (hg : goodB d y = true) (hz : z ∈ y.list) (hz20 : z.kind = 20) (hF : Fine y) (hn : n + 1 + d ≤ 200) :
    (∀ u ∈ z.list, isStmtB u.kind = true) ∧ (∀ u ∈ z.list, goodB d u = true) ∧ (linesF (n + 1) (stmtT d (n + 1)) z.list).size ≤ 1048576000 := by
  have hgz := goodB_in hg hz
  have hch := goodB_kids hgz
  have hg2 : ∀ u ∈ z.list, goodB d u = true := fun u hu => goodB_in hgz hu
  refine ⟨?_, hg2, ?_⟩
  · simp only [childrenB, hz20, Int.reduceEq, if_false, if_true, or_false, allB, List.all_eq_true] at hch
    exact hch
  · have hfz := hF.kid hz
    have h1 := cat_bulk (l := z.list) (f := fun u => tabsT (n + 1) ++ stmtT d (n + 1) u ++ (⟨#[10]⟩ : ByteArray)) (fun u hu => by
      have := (txt_short d u (n + 1) (hg2 u hu) (hfz.kid hu).wf (by omega)).2.2
      simp only [ba_size, ba_mk, tabsT_size, List.size_toArray, List.length_cons, List.length_nil]; omega)
    have h2 := hfz.bulks
    unfold linesF; omega
theorem branch_le {d n : Nat} {y : T} (hg : goodB d y = true) (hk : 43 ≤ y.kind ∧ y.kind ≤ 45) (hF : Fine y) (hn : n + 1 + d ≤ 200) :
    (caseF n (exprT d n) (stmtT d (n + 1)) y).size + 100 ≤ 1000 * y.bulk ∧ (branchF (exprT d n) y).size ≤ 1048576000 := by
  have h := caseF_short d n y hg hk (by omega) (fun u hu => (txt_short d u n (goodB_in hg hu) (hF.kid hu).wf (by omega)).1)
    (fun b hb u hu => (txt_short d u (n + 1) (goodB_in (goodB_in hg hb) hu) ((hF.kid hb).kid hu).wf (by omega)).2.2)
  refine ⟨h, ?_⟩
  have h2 : (branchF (exprT d n) y).size ≤ (caseF n (exprT d n) (stmtT d (n + 1)) y).size := by
    unfold caseF; simp only [ba_size]; omega
  have := hF.bulk
  omega

set_option maxRecDepth 100000 in
set_option maxHeartbeats 4000000 in
theorem stmtR_42 {d : Nat} (hE : ExprAt d) (hS : StmtAt d) (t : ByteArray) (m p : Int) (l : List T) (n : Nat) (A : Option Addr) (c : Nat) (w : World) (hn : n + (d + 1) ≤ 200) (hg : goodB (d + 1) (T.mk 42 t m p l) = true) (hF : Fine (T.mk 42 t m p l)) (hR : Rd w l A c) :
    Calls Tryz.prog 97 #[nv (T.mk 42 t m p l) A c, .int .i64 n] w fun e w' => e = .returned (.string (stmtT (d + 1) n (T.mk 42 t m p l))) ∧ Below w.heap.size w w' := by
  have hn1 : n + d ≤ 200 := by omega
  have hn2 : n ≤ 1000 := by omega
  have hl : l.length ≤ 1048576 := hF.len
  have hb0 : T.bulks l ≤ 1048576 := hF.bulks
  have hch := goodB_kids hg
  have hkk : ∀ y ∈ l, 43 ≤ y.kind ∧ y.kind ≤ 45 := by
    simp [childrenB, allB] at hch
    exact hch.2
  have hgg : ∀ y ∈ l, goodB d y = true := fun y hy => goodB_down hg hy
  have hff : ∀ y ∈ l, Fine y := fun y hy => hF.kid hy
  have hcast : ((n + 1 : Nat) : Int) = (n : Int) + 1 := by omega
  generalize hts : l.map (caseF n (exprT d n) (stmtT d (n + 1))) = ts
  have he : stmtT (d + 1) n (T.mk 42 t m p l) = ⟨#[115, 101, 108, 101, 99, 116, 32, 123, 10]⟩ ++ catT ts ++ tabsT n ++ ⟨#[125]⟩ := by rw [← hts]; rfl
  have hat : ∀ j y, l[j]? = some y → ts[j]? = some (caseF n (exprT d n) (stmtT d (n + 1)) y) := fun j y h => by rw [← hts, List.getElem?_map, h]; rfl
  have htl : ts.length = l.length := by rw [← hts, List.length_map]
  have hsz : ∀ j, (catT (ts.take j)).size ≤ 1048576000 := fun j => by
    have h1 := cat_bulk (l := l.take j) (f := caseF n (exprT d n) (stmtT d (n + 1))) (fun y hy => by
      have hm := List.mem_of_mem_take hy
      have := (branch_le (n := n) (hgg y hm) (hkk y hm) (hff y hm) (by omega)).1
      omega)
    have h2 : T.bulks (l.take j) + T.bulks (l.drop j) = T.bulks l := by rw [← T.bulks_append, List.take_append_drop]
    rw [List.map_take, hts] at h1
    omega
  have HX := Lib.hid he
  have HAT := Lib.hid hat
  have HTL := Lib.hid htl
  have HSZ := Lib.hid hsz
  have HE := Lib.hid hE
  have HS := Lib.hid hS
  have HK := Lib.hid hkk
  have HG := Lib.hid hgg
  have HFF := Lib.hid hff
  have HR := Lib.hid hR
  have HC := Lib.hid hcast
  have C0 := Lib.hid (fun w' => tabsR_any n hn2 w')
  have HNS := Lib.hid (tabsT_size n)
  clear he hat hsz hE hS hkk hgg hff hg hF hR hts htl hb0 hch hcast
  go_enter Tryz.func97, Tryz.ntmps97
  go_wp2_with fail
  go_loopw [7, 8] (fun s i wr => ∃ j : Nat, j ≤ l.length ∧ i = .int .i64 j ∧ s = .string (⟨#[115, 101, 108, 101, 99, 116, 32, 123, 10]⟩ ++ catT (ts.take j)) ∧ Below w.heap.size w wr) (fun _ i _ => l.length - (intOf i).toNat)
  case atStart => exact ⟨0, Nat.zero_le _, rfl, by simp [catT, ba_nil'], one_below⟩
  case round =>
    obtain ⟨j, hj, rfl, rfl, hB⟩ := hrel
    have HB := Lib.hid hB
    have hcs := HSZ.out j
    clear hB
    by_cases hlt : j < l.length
    · obtain ⟨y, hy⟩ : ∃ y, l[j]? = some y := ⟨l[j], by simp⟩
      obtain ⟨b, o, A', c', rfl, hc, hr⟩ := HR.out.at_ hy
      have hm := List.mem_of_getElem? hy
      have hky := HK.out y hm
      have hgy := HG.out y hm
      have hfy := HFF.out y hm
      have hE := HE.out
      have hS := HS.out
      have hat := HAT.out
      have hcast := HC.out
      obtain ⟨z, hz20, hsh⟩ := case_last hgy hky
      generalize hsj : catT (ts.take j) = s at *
      have HSJ := Lib.hid hsj
      clear hsj hm
      cases y with
      | mk ky ty my py ly =>
      rcases hsh with ⟨e1, hkc, hyl⟩ | ⟨e1, e2, hkc, hyl⟩ | ⟨hkc, hyl⟩
      all_goals dsimp only [T.kind_mk, T.list_mk] at hkc hyl
      all_goals subst hkc
      · skip
        subst hyl
        obtain ⟨b2, o2, A9, c9, rfl, hc9, hr9⟩ := hr.at0 (x := e1) rfl
        obtain ⟨A8, c8, hc2, hr2⟩ := hr.at1
        have hcy := hc.below HB.out
        have t0 : ∀ k : Ext wr, k.v.cell? ⟨b, o + j * 5, none⟩ = some (.int .i64 43) := fun k => keep_cell k.b hcy.c0
        have t1 : ∀ k : Ext wr, k.v.cell? ⟨b, o + j * 5 + 1, none⟩ = some (.string ty) := fun k => keep_cell k.b hcy.c1
        have t2 : ∀ k : Ext wr, k.v.cell? ⟨b, o + j * 5 + 2, none⟩ = some (.int .u64 my) := fun k => keep_cell k.b hcy.c2
        have t3 : ∀ k : Ext wr, k.v.cell? ⟨b, o + j * 5 + 3, none⟩ = some (.int .i64 py) := fun k => keep_cell k.b hcy.c3
        have t4 : ∀ k : Ext wr, k.v.cell? ⟨b, o + j * 5 + 4, none⟩ = some (.slice (some ⟨b2, o2, none⟩) 2 c') := fun k => keep_cell k.b hcy.c4
        obtain ⟨-, -, -, -, v4⟩ := Ext.cells (hc2.below HB.out)
        have hzm : z ∈ [e1, z] := by simp
        obtain ⟨hzs, hzg, hzl⟩ := case_lines hgy hzm hz20 hfy (by omega : n + 1 + d ≤ 200)
        obtain ⟨hcs2, hbs⟩ := branch_le hgy hky hfy (by omega : n + 1 + d ≤ 200)
        have hns := HNS.out
        have hfz := hfy.kid hzm
        have C1 := Lib.hid (fun k : Ext wr => k.same (tabsR_any n hn2 k.v))
        have C2 := Lib.hid (fun k : Ext wr => k.call (branchR_any hE (T.mk 43 ty my py [e1, z]) n (some ⟨b2, o2, none⟩) c' k.v hn1 hky hgy hfy ((hr.keep HB.out).keep k.b)))
        have C3 := Lib.hid (fun k : Ext wr => k.call (bodyR_any hS z.list (n + 1) A8 c8 k.v (by omega) hfz.len hzs hzg (fun u hu => hfz.kid hu) hfz.bulks ((hr2.keep HB.out).keep k.b)))
        rw [hcast] at C3
        have he : caseF n (exprT d n) (stmtT d (n + 1)) (T.mk 43 ty my py [e1, z]) = tabsT n ++ branchF (exprT d n) (T.mk 43 ty my py [e1, z]) ++ ⟨#[58, 10]⟩ ++ linesF (n + 1) (stmtT d (n + 1)) z.list := rfl
        have HY := Lib.hid (hat j _ hy)
        rw [he] at HY
        generalize branchF (exprT d n) (T.mk 43 ty my py [e1, z]) = br at *
        generalize linesF (n + 1) (stmtT d (n + 1)) z.list = ls at *
        clear hc hr hcy hc9 hr9 hc2 hr2 hzs hzg hfz hgy hfy hky hy he hcs2 hzm hz20
        clear hE hS hat hcast
        have hne := Ext.ne wr
        have q0 : ¬ 9223372036854775807 < 9 + s.size + (tabsT n).size := by omega
        have q1 : ¬ 9223372036854775807 < 9 + s.size + (tabsT n).size + br.size := by omega
        have q2 : ¬ 9223372036854775807 < 9 + s.size + (tabsT n).size + br.size + 2 := by omega
        have q3 : ¬ 9223372036854775807 < 9 + s.size + (tabsT n).size + br.size + 2 + ls.size := by omega
        clear hns
        have w1 : IntKind.i64.wrap (2 - 1) = 1 := by rw [IntKind.wrap_i64]; omega
        have w2 : IntKind.i64.wrap 1 = 1 := by rw [IntKind.wrap_i64]; omega
        have w3 : IntKind.i64.wrap ((n : Int) + 1) = (n : Int) + 1 := by rw [IntKind.wrap_i64]; omega
        go_wp2_with fail
        refine wp_region_ext (by kernel_rfl) (by kernel_rfl) ?_
        repeat (quiet_step (first | exact C1.out _ | exact C2.out _ | exact C3.out _))
        refine wpQuiet_nil ?_
        rintro _ ⟨k, rfl⟩
        clear w1 w2 w3
        have HB1 := Lib.hid (below_then HB.out HB.out.size k.b)
        go_wp2_with fail
        go_roundw
        case rel => exact ⟨j + 1, by omega, by go_num, by rw [catT_take HY.out, HSJ.out]; simp only [ba_assoc], HB1.out⟩
        case measure => simp [intOf]; omega
      · skip
        subst hyl
        obtain ⟨b2, o2, A9, c9, rfl, hc9, hr9⟩ := hr.at0 (x := e1) rfl
        obtain ⟨A8, c8, hc2, hr2⟩ := hr.at2
        have hcy := hc.below HB.out
        have t0 : ∀ k : Ext wr, k.v.cell? ⟨b, o + j * 5, none⟩ = some (.int .i64 44) := fun k => keep_cell k.b hcy.c0
        have t1 : ∀ k : Ext wr, k.v.cell? ⟨b, o + j * 5 + 1, none⟩ = some (.string ty) := fun k => keep_cell k.b hcy.c1
        have t2 : ∀ k : Ext wr, k.v.cell? ⟨b, o + j * 5 + 2, none⟩ = some (.int .u64 my) := fun k => keep_cell k.b hcy.c2
        have t3 : ∀ k : Ext wr, k.v.cell? ⟨b, o + j * 5 + 3, none⟩ = some (.int .i64 py) := fun k => keep_cell k.b hcy.c3
        have t4 : ∀ k : Ext wr, k.v.cell? ⟨b, o + j * 5 + 4, none⟩ = some (.slice (some ⟨b2, o2, none⟩) 3 c') := fun k => keep_cell k.b hcy.c4
        obtain ⟨-, -, -, -, v4⟩ := Ext.cells (hc2.below HB.out)
        have hzm : z ∈ [e1, e2, z] := by simp
        obtain ⟨hzs, hzg, hzl⟩ := case_lines hgy hzm hz20 hfy (by omega : n + 1 + d ≤ 200)
        obtain ⟨hcs2, hbs⟩ := branch_le hgy hky hfy (by omega : n + 1 + d ≤ 200)
        have hns := HNS.out
        have hfz := hfy.kid hzm
        have C1 := Lib.hid (fun k : Ext wr => k.same (tabsR_any n hn2 k.v))
        have C2 := Lib.hid (fun k : Ext wr => k.call (branchR_any hE (T.mk 44 ty my py [e1, e2, z]) n (some ⟨b2, o2, none⟩) c' k.v hn1 hky hgy hfy ((hr.keep HB.out).keep k.b)))
        have C3 := Lib.hid (fun k : Ext wr => k.call (bodyR_any hS z.list (n + 1) A8 c8 k.v (by omega) hfz.len hzs hzg (fun u hu => hfz.kid hu) hfz.bulks ((hr2.keep HB.out).keep k.b)))
        rw [hcast] at C3
        have he : caseF n (exprT d n) (stmtT d (n + 1)) (T.mk 44 ty my py [e1, e2, z]) = tabsT n ++ branchF (exprT d n) (T.mk 44 ty my py [e1, e2, z]) ++ ⟨#[58, 10]⟩ ++ linesF (n + 1) (stmtT d (n + 1)) z.list := rfl
        have HY := Lib.hid (hat j _ hy)
        rw [he] at HY
        generalize branchF (exprT d n) (T.mk 44 ty my py [e1, e2, z]) = br at *
        generalize linesF (n + 1) (stmtT d (n + 1)) z.list = ls at *
        clear hc hr hcy hc9 hr9 hc2 hr2 hzs hzg hfz hgy hfy hky hy he hcs2 hzm hz20
        clear hE hS hat hcast
        have hne := Ext.ne wr
        have q0 : ¬ 9223372036854775807 < 9 + s.size + (tabsT n).size := by omega
        have q1 : ¬ 9223372036854775807 < 9 + s.size + (tabsT n).size + br.size := by omega
        have q2 : ¬ 9223372036854775807 < 9 + s.size + (tabsT n).size + br.size + 2 := by omega
        have q3 : ¬ 9223372036854775807 < 9 + s.size + (tabsT n).size + br.size + 2 + ls.size := by omega
        clear hns
        have w1 : IntKind.i64.wrap (3 - 1) = 2 := by rw [IntKind.wrap_i64]; omega
        have w2 : IntKind.i64.wrap 2 = 2 := by rw [IntKind.wrap_i64]; omega
        have w3 : IntKind.i64.wrap ((n : Int) + 1) = (n : Int) + 1 := by rw [IntKind.wrap_i64]; omega
        go_wp2_with fail
        refine wp_region_ext (by kernel_rfl) (by kernel_rfl) ?_
        repeat (quiet_step (first | exact C1.out _ | exact C2.out _ | exact C3.out _))
        refine wpQuiet_nil ?_
        rintro _ ⟨k, rfl⟩
        clear w1 w2 w3
        have HB1 := Lib.hid (below_then HB.out HB.out.size k.b)
        go_wp2_with fail
        go_roundw
        case rel => exact ⟨j + 1, by omega, by go_num, by rw [catT_take HY.out, HSJ.out]; simp only [ba_assoc], HB1.out⟩
        case measure => simp [intOf]; omega
      · skip
        subst hyl
        obtain ⟨b2, o2, A9, c9, rfl, hc9, hr9⟩ := hr.at0 (x := z) rfl
        have hc2 := hc9
        have hr2 := hr9
        have hcy := hc.below HB.out
        have t0 : ∀ k : Ext wr, k.v.cell? ⟨b, o + j * 5, none⟩ = some (.int .i64 45) := fun k => keep_cell k.b hcy.c0
        have t1 : ∀ k : Ext wr, k.v.cell? ⟨b, o + j * 5 + 1, none⟩ = some (.string ty) := fun k => keep_cell k.b hcy.c1
        have t2 : ∀ k : Ext wr, k.v.cell? ⟨b, o + j * 5 + 2, none⟩ = some (.int .u64 my) := fun k => keep_cell k.b hcy.c2
        have t3 : ∀ k : Ext wr, k.v.cell? ⟨b, o + j * 5 + 3, none⟩ = some (.int .i64 py) := fun k => keep_cell k.b hcy.c3
        have t4 : ∀ k : Ext wr, k.v.cell? ⟨b, o + j * 5 + 4, none⟩ = some (.slice (some ⟨b2, o2, none⟩) 1 c') := fun k => keep_cell k.b hcy.c4
        obtain ⟨-, -, -, -, v4⟩ := Ext.cells (hc2.below HB.out)
        have hzm : z ∈ [z] := by simp
        obtain ⟨hzs, hzg, hzl⟩ := case_lines hgy hzm hz20 hfy (by omega : n + 1 + d ≤ 200)
        obtain ⟨hcs2, hbs⟩ := branch_le hgy hky hfy (by omega : n + 1 + d ≤ 200)
        have hns := HNS.out
        have hfz := hfy.kid hzm
        have C1 := Lib.hid (fun k : Ext wr => k.same (tabsR_any n hn2 k.v))
        have C2 := Lib.hid (fun k : Ext wr => k.call (branchR_any hE (T.mk 45 ty my py [z]) n (some ⟨b2, o2, none⟩) c' k.v hn1 hky hgy hfy ((hr.keep HB.out).keep k.b)))
        have C3 := Lib.hid (fun k : Ext wr => k.call (bodyR_any hS z.list (n + 1) A9 c9 k.v (by omega) hfz.len hzs hzg (fun u hu => hfz.kid hu) hfz.bulks ((hr2.keep HB.out).keep k.b)))
        rw [hcast] at C3
        have he : caseF n (exprT d n) (stmtT d (n + 1)) (T.mk 45 ty my py [z]) = tabsT n ++ branchF (exprT d n) (T.mk 45 ty my py [z]) ++ ⟨#[58, 10]⟩ ++ linesF (n + 1) (stmtT d (n + 1)) z.list := rfl
        have HY := Lib.hid (hat j _ hy)
        rw [he] at HY
        generalize branchF (exprT d n) (T.mk 45 ty my py [z]) = br at *
        generalize linesF (n + 1) (stmtT d (n + 1)) z.list = ls at *
        clear hc hr hcy hc9 hr9 hc2 hr2 hzs hzg hfz hgy hfy hky hy he hcs2 hzm hz20
        clear hE hS hat hcast
        have hne := Ext.ne wr
        have q0 : ¬ 9223372036854775807 < 9 + s.size + (tabsT n).size := by omega
        have q1 : ¬ 9223372036854775807 < 9 + s.size + (tabsT n).size + br.size := by omega
        have q2 : ¬ 9223372036854775807 < 9 + s.size + (tabsT n).size + br.size + 2 := by omega
        have q3 : ¬ 9223372036854775807 < 9 + s.size + (tabsT n).size + br.size + 2 + ls.size := by omega
        clear hns
        have w1 : IntKind.i64.wrap (1 - 1) = 0 := by rw [IntKind.wrap_i64]; omega
        have w2 : IntKind.i64.wrap 0 = 0 := by rw [IntKind.wrap_i64]; omega
        have w3 : IntKind.i64.wrap ((n : Int) + 1) = (n : Int) + 1 := by rw [IntKind.wrap_i64]; omega
        go_wp2_with fail
        refine wp_region_ext (by kernel_rfl) (by kernel_rfl) ?_
        repeat (quiet_step (first | exact C1.out _ | exact C2.out _ | exact C3.out _))
        refine wpQuiet_nil ?_
        rintro _ ⟨k, rfl⟩
        clear w1 w2 w3
        have HB1 := Lib.hid (below_then HB.out HB.out.size k.b)
        go_wp2_with fail
        go_roundw
        case rel => exact ⟨j + 1, by omega, by go_num, by rw [catT_take HY.out, HSJ.out]; simp only [ba_assoc], HB1.out⟩
        case measure => simp [intOf]; omega
    · have hjt : ts.take j = ts := List.take_of_length_le (by have := HTL.out; omega)
      rw [hjt] at *
      clear hjt
      go_wp2_with fail
      refine (C0.out _).mono ?_
      rintro e w1 ⟨rfl, rfl⟩
      have hns := HNS.out
      have hcs2 := HSZ.out ts.length
      rw [List.take_length] at hcs2
      go_wp2_with fail
      go_ret
      exact ⟨by rw [HX.out]; rfl, HB.out⟩

theorem stmtR_succ {d : Nat} (hE : ExprAt d) (hB : BlockAt d) (hS : StmtAt d) : StmtAt (d + 1) := by
  intro x n A c w hn hx hg hF hR
  have hch := goodB_kids hg
  cases x with
  | mk k t m p l =>
    rw [childrenB_mk] at hch
    dsimp only [T.kind_mk] at hx
    by_cases k20 : k = 20
    · subst k20; exact stmtR_20 hS t m p l n A c w hn hg hF hR
    by_cases k21 : k = 21
    · subst k21
      simp only [Int.reduceEq, if_false, if_true, or_false] at hch
      obtain ⟨y, rfl, -⟩ := kids_one hch
      exact stmtR_21 hE t m p y n A c w hn hg hF hR
    by_cases k22 : k = 22
    · subst k22
      simp only [Int.reduceEq, if_false, if_true, or_false, or_true] at hch
      obtain ⟨y, rfl, -⟩ := kids_one hch
      exact stmtR_22 t m p y n A c w hn hg hF hR
    by_cases k23 : k = 23
    · subst k23
      simp only [Int.reduceEq, if_false, if_true, or_false, Bool.and_eq_true] at hch
      obtain ⟨y, z, rfl, -, -⟩ := kids_two hch.1
      exact stmtR_23 hE t m p y z n A c w hn hg hF hR
    by_cases k24 : k = 24
    · subst k24
      simp only [Int.reduceEq, if_false, if_true, or_false, Bool.or_eq_true] at hch
      obtain ⟨y, rfl⟩ : ∃ y, l = [y] := by
        rcases hch with h | h
        · obtain ⟨y, rfl, -⟩ := kids_one h; exact ⟨y, rfl⟩
        · obtain ⟨y, rfl, -⟩ := kids_one h; exact ⟨y, rfl⟩
      exact stmtR_24 hE t m p y n A c w hn hg hF hR
    by_cases k25 : k = 25
    · subst k25
      simp only [Int.reduceEq, if_false, if_true, or_false, Bool.or_eq_true] at hch
      rcases hch with h | h | h
      · obtain ⟨y, z, rfl, -, h2⟩ := kids_two h
        exact stmtR_25 hE hB t m p y z (by simpa [okKind] using h2) n A c w hn hg hF hR
      · obtain ⟨y, z, q, rfl, -, h2, h3⟩ := kids_three h
        have h3 : q.kind = 20 := by simpa [okKind] using h3
        exact stmtR_25e hE hB hS t m p y z q (by simpa [okKind] using h2) (by simp [isStmtB, h3]) n A c w hn hg hF hR
      · obtain ⟨y, z, q, rfl, -, h2, h3⟩ := kids_three h
        have h3 : q.kind = 25 := by simpa [okKind] using h3
        exact stmtR_25e hE hB hS t m p y z q (by simpa [okKind] using h2) (by simp [isStmtB, h3]) n A c w hn hg hF hR
    by_cases k26 : k = 26
    · subst k26
      simp only [Int.reduceEq, if_false, if_true, or_false] at hch
      obtain ⟨y, z, rfl, -, h2⟩ := kids_two hch
      exact stmtR_26 hE hB t m p y z (by simpa [okKind] using h2) n A c w hn hg hF hR
    by_cases k27 : k = 27
    · subst k27; exact stmtR_27 t m p l n A c w hn hg hF hR
    by_cases k28 : k = 28
    · subst k28
      simp only [Int.reduceEq, if_false, if_true, or_false, Bool.or_eq_true, beq_iff_eq] at hch
      rcases hch with h | h
      · have : l = [] := by simpa using h
        subst this
        exact stmtR_28a t m p n A c w hn hg hF hR
      · obtain ⟨y, rfl, -⟩ := kids_one h
        exact stmtR_28 hE t m p y n A c w hn hg hF hR
    by_cases k29 : k = 29
    · subst k29
      simp only [Int.reduceEq, if_false, if_true, or_false] at hch
      obtain ⟨y, rfl, -⟩ := kids_one hch
      exact stmtR_29 hE t m p y n A c w hn hg hF hR
    by_cases k41 : k = 41
    · subst k41
      simp only [Int.reduceEq, if_false, if_true, or_false] at hch
      obtain ⟨y, z, rfl, -, -⟩ := kids_two hch
      exact stmtR_41 hE t m p y z n A c w hn hg hF hR
    by_cases k42 : k = 42
    · subst k42; exact stmtR_42 hE hS t m p l n A c w hn hg hF hR
    exfalso
    simp [isStmtB] at hx
    omega
/-- The reference's printer, at every depth. -/
theorem printR (d : Nat) : ExprAt d ∧ BlockAt d ∧ StmtAt d := by
  induction d with
  | zero => exact ⟨fun x n A c w _ h => by simp [goodB] at h, fun x n A c w _ _ h => by simp [goodB] at h, fun x n A c w _ _ h => by simp [goodB] at h⟩
  | succ d ih => exact ⟨exprR_succ ih.1 ih.2.1, blockR_succ ih.2.2, stmtR_succ ih.1 ih.2.1 ih.2.2⟩
end Go.Proofs.YtoemljgkofhhpaaGreatDoor
