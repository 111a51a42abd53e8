import Derived.Test.YtoemljgkofhhpaaGreatDoorTypP
import Derived.Test.YtoemljgkofhhpaaGreatDoorRefE
namespace Go.Proofs.YtoemljgkofhhpaaGreatDoor
open Go.RowKit

theorem repeat_tabs (n : Nat) : (⟨(Lib.repeatL (⟨#[9]⟩ : ByteArray).data.toList n).toArray⟩ : ByteArray) = tabsT n := by
  have h : Lib.repeatL [9] n = List.replicate n 9 := by
    induction n with
    | zero => rfl
    | succ n ih => simp [Lib.repeatL, List.replicate_succ] at ih ⊢; exact ih
  show (⟨(Lib.repeatL [9] n).toArray⟩ : ByteArray) = _
  rw [h]; simp [tabsT]
set_option maxRecDepth 100000 in
set_option maxHeartbeats 2000000 in
theorem tabsP_any (n : Nat) (hn : n ≤ 1000) (w : World) : Calls Tryz.prog 68 #[.int .i64 n] w fun e w' => e = .returned (.string (tabsT n)) ∧ Below w.heap.size w w' := by
  have hc := Tryz.strings_Repeat ⟨#[9]⟩ n w (by omega) (by show 1 * n ≤ _; omega)
  rw [repeat_tabs] at hc
  have HC := Lib.hid hc
  clear hc
  go_enter Tryz.func68, Tryz.ntmps68
  go_wp2_with fail
  refine HC.out.mono ?_
  rintro e w1 ⟨rfl, hb⟩
  have HB := Lib.hid hb
  clear hb
  go_wp2_with fail
  go_ret
  exact ⟨rfl, HB.out⟩
set_option maxRecDepth 100000 in
set_option maxHeartbeats 2000000 in
theorem fitsP_any (t : ByteArray) (ht : t.size ≤ 1048576000) (w : World) : Calls Tryz.prog 15 #[.string t] w fun e w' => e = .returned (cond (decide (65536 < t.size)) (.tuple #[.string ⟨#[]⟩, .int .i64 6]) (.tuple #[.string t, .int .i64 0])) ∧ w = w' := by
  by_cases h : 65536 < t.size
  · have hd : decide (65536 < t.size) = true := by simpa using h
    rw [hd]
    go_enter Tryz.func15, Tryz.ntmps15
    go_wp2_with fail
    go_ret2
    exact ⟨rfl, rfl⟩
  · have hd : decide (65536 < t.size) = false := by simpa using h
    rw [hd]
    go_enter Tryz.func15, Tryz.ntmps15
    go_wp2_with fail
    go_ret2
    exact ⟨rfl, rfl⟩

set_option maxRecDepth 100000 in
set_option maxHeartbeats 4000000 in
theorem paramP_mk {d : Nat} (K : Int) (t : ByteArray) (m p : Int) (y : T) (A : Option Addr) (c : Nat) (w : World) (hgy : goodB d y = true) (hF : Fine (T.mk K t m p [y])) (hR : Rd w [y] A c) :
    Calls Tryz.prog 29 #[nv (T.mk K t m p [y]) A c] w fun e w' => e = .returned (.string (fieldT (typT d) (T.mk K t m p [y]))) ∧ Below w.heap.size w w' := by
  have hts := hF.text
  rw [T.text_mk] at hts
  obtain ⟨b, o, A1, c1, rfl, hc1, hr1⟩ := hR.at0 (x := y) rfl
  have hW : Below w.heap.size w (w.alloc (.cells #[.int .i64 K, .string t, .int .u64 m, .int .i64 p, .slice (some ⟨b, o, none⟩) 1 c] 25)) := one_below
  have hfy := hF.kid (y := y) (by simp)
  have hys := typ_le (d := d) hfy
  obtain ⟨u0, u1, u2, u3, u4⟩ := Ext.cells (hc1.below hW)
  obtain ⟨g0, g1, g2, g3, g4⟩ := box_raw (Below.refl (w.heap.size + 1) (w.alloc (.cells #[.int .i64 K, .string t, .int .u64 m, .int .i64 p, .slice (some ⟨b, o, none⟩) 1 c] 25)))
  have k1 := Ext.cell g1
  have k4 := Ext.cell g4
  have C1 := Lib.hid (fun k : Ext (w.alloc (.cells #[.int .i64 K, .string t, .int .u64 m, .int .i64 p, .slice (some ⟨b, o, none⟩) 1 c] 25)) => k.call (typP_any d y A1 c1 k.v hgy hfy ((hr1.keep hW).keep k.b)))
  clear hR hF hgy hfy hr1 hc1
  go_enter Tryz.func29, Tryz.ntmps29
  go_wp2_with fail
  have hne := Ext.ne (w.alloc (.cells #[.int .i64 K, .string t, .int .u64 m, .int .i64 p, .slice (some ⟨b, o, none⟩) 1 c] 25))
  have q0 : ¬ 9223372036854775807 < t.size + 1 := by omega
  have q1 : ¬ 9223372036854775807 < t.size + 1 + (typT d y).size := by omega
  refine wp_region_ext (by kernel_rfl) (by kernel_rfl) ?_
  repeat (quiet_step (exact C1.out _))
  refine wpQuiet_nil ?_
  rintro _ ⟨k, rfl⟩
  go_wp2_with fail
  go_ret
  exact ⟨rfl, below_then hW hW.size k.b⟩
theorem paramP_any {d : Nat} (x z : T) (A : Option Addr) (c : Nat) (w : World) (hl : x.list = [z]) (hgz : goodB d z = true) (hF : Fine x) (hR : Rd w x.list A c) :
    Calls Tryz.prog 29 #[nv x A c] w fun e w' => e = .returned (.string (fieldT (typT d) x)) ∧ Below w.heap.size w w' := by
  cases x with
  | mk k t m p l =>
    dsimp only [T.list_mk] at hl
    subst hl
    exact paramP_mk k t m p z A c w hgz hF hR
theorem ix60_0 (W : World) : (Instr.index 60 (.agg #[.string ⟨#[97, 110, 121]⟩, .string ⟨#[99, 111, 109, 112, 97, 114, 97, 98, 108, 101]⟩, .string ⟨#[105, 110, 116, 101, 103, 101, 114]⟩]) (.int .u64 0)).run Tryz.prog W = .ok (.string ⟨#[97, 110, 121]⟩) W := by kernel_rfl
theorem ix60_1 (W : World) : (Instr.index 60 (.agg #[.string ⟨#[97, 110, 121]⟩, .string ⟨#[99, 111, 109, 112, 97, 114, 97, 98, 108, 101]⟩, .string ⟨#[105, 110, 116, 101, 103, 101, 114]⟩]) (.int .u64 1)).run Tryz.prog W = .ok (.string ⟨#[99, 111, 109, 112, 97, 114, 97, 98, 108, 101]⟩) W := by kernel_rfl
theorem ix60_2 (W : World) : (Instr.index 60 (.agg #[.string ⟨#[97, 110, 121]⟩, .string ⟨#[99, 111, 109, 112, 97, 114, 97, 98, 108, 101]⟩, .string ⟨#[105, 110, 116, 101, 103, 101, 114]⟩]) (.int .u64 2)).run Tryz.prog W = .ok (.string ⟨#[105, 110, 116, 101, 103, 101, 114]⟩) W := by kernel_rfl
theorem ixBreak_0 (W : World) : (Instr.index 139 (.agg #[.string ⟨#[98, 114, 101, 97, 107]⟩, .string ⟨#[99, 111, 110, 116, 105, 110, 117, 101]⟩]) (.int .u64 0)).run Tryz.prog W = .ok (.string ⟨#[98, 114, 101, 97, 107]⟩) W := by kernel_rfl
theorem ixBreak_1 (W : World) : (Instr.index 139 (.agg #[.string ⟨#[98, 114, 101, 97, 107]⟩, .string ⟨#[99, 111, 110, 116, 105, 110, 117, 101]⟩]) (.int .u64 1)).run Tryz.prog W = .ok (.string ⟨#[99, 111, 110, 116, 105, 110, 117, 101]⟩) W := by kernel_rfl
theorem ixGo_0 (W : World) : (Instr.index 139 (.agg #[.string ⟨#[103, 111, 32]⟩, .string ⟨#[100, 101, 102, 101, 114, 32]⟩]) (.int .u64 0)).run Tryz.prog W = .ok (.string ⟨#[103, 111, 32]⟩) W := by kernel_rfl
theorem ixGo_1 (W : World) : (Instr.index 139 (.agg #[.string ⟨#[103, 111, 32]⟩, .string ⟨#[100, 101, 102, 101, 114, 32]⟩]) (.int .u64 1)).run Tryz.prog W = .ok (.string ⟨#[100, 101, 102, 101, 114, 32]⟩) W := by kernel_rfl
def genF (y : T) : ByteArray := y.text ++ ⟨#[32]⟩ ++ limT y.num
set_option maxRecDepth 100000 in
set_option maxHeartbeats 4000000 in
theorem genP_mk (K : Int) (t : ByteArray) (m p : Int) (l : List T) (hm : m = 1 ∨ m = 2 ∨ m = 3) (hts : t.size ≤ 1048576) (A : Option Addr) (c : Nat) (w : World) :
    Calls Tryz.prog 31 #[nv (T.mk K t m p l) A c] w fun e w' => e = .returned (.string (genF (T.mk K t m p l))) ∧ Below w.heap.size w w' := by
  have hW : Below w.heap.size w (w.alloc (.cells #[.int .i64 K, .string t, .int .u64 m, .int .i64 p, .slice A l.length c] 25)) := one_below
  have hne := Ext.ne (w.alloc (.cells #[.int .i64 K, .string t, .int .u64 m, .int .i64 p, .slice A l.length c] 25))
  obtain ⟨g0, g1, g2, g3, g4⟩ := box_raw (Below.refl (w.heap.size + 1) (w.alloc (.cells #[.int .i64 K, .string t, .int .u64 m, .int .i64 p, .slice A l.length c] 25)))
  have k1 : ∀ k : Ext (w.alloc (.cells #[.int .i64 K, .string t, .int .u64 m, .int .i64 p, .slice A l.length c] 25)), k.v.cell? ⟨w.heap.size, 1, none⟩ = some (.string t) := Ext.cell g1
  have k2 : ∀ k : Ext (w.alloc (.cells #[.int .i64 K, .string t, .int .u64 m, .int .i64 p, .slice A l.length c] 25)), k.v.cell? ⟨w.heap.size, 2, none⟩ = some (.int .u64 m) := Ext.cell g2
  have q0 : ¬ 9223372036854775807 < t.size + 1 := by omega
  rcases hm with rfl | rfl | rfl
  · have q1 : ¬ 9223372036854775807 < t.size + 1 + 3 := by omega
    have ix := ix60_0
    have w0 : IntKind.u64.wrap 0 = 0 := by decide
    go_enter Tryz.func31, Tryz.ntmps31
    go_wp2_with fail
    refine wp_region_ext (by kernel_rfl) (by kernel_rfl) ?_
    repeat (quiet_step (fail))
    refine wpQuiet_nil ?_
    rintro _ ⟨k, rfl⟩
    go_wp2_with fail
    go_ret
    exact ⟨rfl, below_then hW hW.size k.b⟩
  · have q1 : ¬ 9223372036854775807 < t.size + 1 + 10 := by omega
    have ix := ix60_1
    have w0 : IntKind.u64.wrap 1 = 1 := by decide
    go_enter Tryz.func31, Tryz.ntmps31
    go_wp2_with fail
    refine wp_region_ext (by kernel_rfl) (by kernel_rfl) ?_
    repeat (quiet_step (fail))
    refine wpQuiet_nil ?_
    rintro _ ⟨k, rfl⟩
    go_wp2_with fail
    go_ret
    exact ⟨rfl, below_then hW hW.size k.b⟩
  · have q1 : ¬ 9223372036854775807 < t.size + 1 + 7 := by omega
    have ix := ix60_2
    have w0 : IntKind.u64.wrap 2 = 2 := by decide
    go_enter Tryz.func31, Tryz.ntmps31
    go_wp2_with fail
    refine wp_region_ext (by kernel_rfl) (by kernel_rfl) ?_
    repeat (quiet_step (fail))
    refine wpQuiet_nil ?_
    rintro _ ⟨k, rfl⟩
    go_wp2_with fail
    go_ret
    exact ⟨rfl, below_then hW hW.size k.b⟩
theorem genP_any (x : T) (hm : x.num = 1 ∨ x.num = 2 ∨ x.num = 3) (hF : Fine x) (A : Option Addr) (c : Nat) (w : World) :
    Calls Tryz.prog 31 #[nv x A c] w fun e w' => e = .returned (.string (genF x)) ∧ Below w.heap.size w w' := by
  cases x with
  | mk k t m p l => exact genP_mk k t m p l hm hF.text A c w

set_option maxRecDepth 100000 in
set_option maxHeartbeats 4000000 in
theorem sigP_any (d : Nat) (p q : T) (A A2 : Option Addr) (c c2 : Nat) (w : World) (hp : p.kind = 6) (hq : q.kind = 7) (hgp : goodB d p = true) (hgq : goodB d q = true) (hFp : Fine p) (hFq : Fine q)
    (hRp : Rd w p.list A c) (hRq : Rd w q.list A2 c2) :
    Calls Tryz.prog 32 #[nv p A c, nv q A2 c2] w fun e w' => e = .returned (.string (headT (typT d) p q)) ∧ Below w.heap.size w w' := by
  have hchp := goodB_kids hgp
  have hchq := goodB_kids hgq
  rw [childrenB, hp] at hchp
  rw [childrenB, hq] at hchq
  simp [allB] at hchp hchq
  have hk5 : ∀ y ∈ p.list, y.kind = 5 := hchp.1
  have hpl : p.list.length ≤ 16 := hchp.2
  have hfl : ∀ y ∈ p.list, ∃ z, y.list = [z] := fun y hy => field_of (hk5 y hy) (goodB_in hgp hy)
  have hjn : (joinT (p.list.map (fieldT (typT d)))).size ≤ 1048576000 := Nat.le_trans (join_bulk (fun y _ => by have := fieldT_short d y; omega)) (by have := hFp.bulks; omega)
  have hW : Below w.heap.size w ((w.alloc (nbox p A c)).alloc (nbox q A2 c2)) := two_below
  have HC := Lib.hid (joinP_any (fieldT (typT d)) 29 #[] (enters_of Tryz.func29 (by kernel_rfl) rfl) p.list A c ((w.alloc (nbox p A c)).alloc (nbox q A2 c2)) (by omega)
    (fun y A' c' w' hy _ hr => by
      obtain ⟨z, hz⟩ := hfl y hy
      exact paramP_any y z A' c' w' hz (goodB_in (goodB_in hgp hy) (by simp [hz])) (hFp.kid hy) hr) hjn (hRp.keep hW))
  have HW := Lib.hid hW
  have hlq : q.list = [] ∨ ∃ z, q.list = [z] := by
    rcases hchq with h | h
    · exact .inl h
    · obtain ⟨z, hz, -⟩ := kids_one h
      exact .inr ⟨z, hz⟩
  rcases hlq with hz | ⟨z, hz⟩
  · have hl0 : q.list.length = 0 := by rw [hz]; rfl
    have HL := Lib.hid hl0
    have HX := Lib.hid (show headT (typT d) p q = ⟨#[40]⟩ ++ joinT (p.list.map (fieldT (typT d))) ++ ⟨#[41, 32]⟩ from by unfold headT; rw [hl0]; rfl)
    clear hchp hchq hk5 hfl hgp hgq hFp hFq hRp hRq hW hp hq hz hl0
    generalize joinT (p.list.map (fieldT (typT d))) = J at *
    go_enter Tryz.func32, Tryz.ntmps32
    go_wp2_with fail
    refine HC.out.mono ?_
    rintro e w1 ⟨rfl, hb⟩
    have HB := Lib.hid (below_then HW.out HW.out.size hb)
    obtain ⟨-, -, -, -, e4⟩ := two_raw (hb.mono (by rw [size_alloc, size_alloc]; omega))
    rw [HL.out] at e4
    clear hb
    go_wp2_with fail
    go_ret
    exact ⟨by rw [HX.out]; rfl, HB.out⟩
  · have hl1 : q.list.length = 1 := by rw [hz]; rfl
    have HL := Lib.hid hl1
    rw [hz] at hRq
    obtain ⟨b2, o2, A3, c3, rfl, hc2, hr2⟩ := hRq.at0 (x := z) rfl
    have hfz := hFq.kid (y := z) (by simp [hz])
    have hgz := goodB_in hgq (y := z) (by simp [hz])
    have hzs := typ_le (d := d) hfz
    have HZ := Lib.hid (fun w' hb => typP_any d z A3 c3 w' hgz hfz ((hr2.keep hW).keep (w' := w') hb))
    have HH := Lib.hid (hc2.below hW)
    have HX := Lib.hid (show headT (typT d) p q = ⟨#[40]⟩ ++ joinT (p.list.map (fieldT (typT d))) ++ ⟨#[41, 32]⟩ ++ typT d z ++ ⟨#[32]⟩ from by unfold headT; rw [hl1, hz]; rfl)
    clear hchp hchq hk5 hfl hgp hgq hFp hFq hRp hRq hW hp hq hz hc2 hr2 hfz hgz hl1
    generalize joinT (p.list.map (fieldT (typT d))) = J at *
    go_enter Tryz.func32, Tryz.ntmps32
    go_wp2_with fail
    refine HC.out.mono ?_
    rintro e w1 ⟨rfl, hb⟩
    have HB := Lib.hid hb
    obtain ⟨-, -, -, -, e4⟩ := two_raw (hb.mono (by rw [size_alloc, size_alloc]; omega))
    obtain ⟨h0, h1, h2, h3, h4⟩ := HH.out.below hb
    rw [HL.out] at e4
    clear hb
    go_wp2_with fail
    refine (HZ.out _ HB.out).mono ?_
    rintro e w2 ⟨rfl, hb⟩
    have HB2 := Lib.hid (below_then HW.out HW.out.size (below_then HB.out HB.out.size hb))
    clear hb
    go_wp2_with fail
    go_ret
    exact ⟨by rw [HX.out]; simp only [ba_assoc]; rfl, HB2.out⟩
end Go.Proofs.YtoemljgkofhhpaaGreatDoor
