import Derived.Test.YtoemljgkofhhpaaGreatDoorRefF
namespace Go.Proofs.YtoemljgkofhhpaaGreatDoor
open Go.RowKit

/-- The reference's stmt at fuel d. -/
def StmtAt (d : Nat) : Prop := ∀ (x : T) (n : Nat) (A : Option Addr) (c : Nat) (w : World), n + d ≤ 200 → isStmtB x.kind = true → goodB d x = true → Fine x → Rd w x.list A c →
  Calls Tryz.prog 97 #[nv x A c, .int .i64 n] w fun e w' => e = .returned (.string (stmtT d n x)) ∧ Below w.heap.size w w'

set_option maxRecDepth 100000 in
set_option maxHeartbeats 4000000 in
theorem bodyR_any {d : Nat} (hS : StmtAt d) (l : List T) (n : Nat) (A : Option Addr) (c : Nat) (w : World) (hn : n + d ≤ 200) (hl : l.length ≤ 1048576) (hk : ∀ y ∈ l, isStmtB y.kind = true) (hg : ∀ y ∈ l, goodB d y = true) (hF : ∀ y ∈ l, Fine y) (hb : T.bulks l ≤ 1048576) (hR : Rd w l A c) :
    Calls Tryz.prog 71 #[.slice A l.length c, .int .i64 n] w fun e w' => e = .returned (.string (linesF n (stmtT d n) l)) ∧ Below w.heap.size w w' := by
  have hn2 : n ≤ 1000 := by omega
  generalize hts : (l.map fun y => tabsT n ++ stmtT d n y ++ (⟨#[10]⟩ : ByteArray)) = ts
  have he : linesF n (stmtT d n) l = catT ts := by rw [← hts]; rfl
  have hat : ∀ j y, l[j]? = some y → ts[j]? = some (tabsT n ++ stmtT d n y ++ ⟨#[10]⟩) := fun j y h => by rw [← hts, List.getElem?_map, h]; rfl
  have htl : ts.length = l.length := by rw [← hts, List.length_map]
  have hsz : ∀ j, (catT (ts.take j)).size ≤ 1048576000 := fun j => by
    have h1 := cat_bulk (l := l.take j) (f := fun y => tabsT n ++ stmtT d n y ++ (⟨#[10]⟩ : ByteArray)) (fun y hy => by
      have hm := List.mem_of_mem_take hy
      have := (txt_short d y n (hg y hm) (hF y hm).wf hn).2.2
      simp only [ba_size, ba_mk, tabsT_size, List.size_toArray, List.length_cons, List.length_nil]; omega)
    have h2 : T.bulks (l.take j) + T.bulks (l.drop j) = T.bulks l := by rw [← T.bulks_append, List.take_append_drop]
    rw [List.map_take, hts] at h1
    omega
  have HX := Lib.hid he
  have HAT := Lib.hid hat
  have HTL := Lib.hid htl
  have HSZ := Lib.hid hsz
  have HS := Lib.hid hS
  have HK := Lib.hid hk
  have HG := Lib.hid hg
  have HF := Lib.hid hF
  have HR := Lib.hid hR
  clear he hat hsz hS hk hg hF hR hts htl hb
  go_enter Tryz.func71, Tryz.ntmps71
  go_wp2_with fail
  go_loopw [5, 6] (fun s i wr => ∃ j : Nat, j ≤ l.length ∧ i = .int .i64 j ∧ s = .string (catT (ts.take j)) ∧ Below w.heap.size w wr) (fun _ i _ => l.length - (intOf i).toNat)
  case atStart => exact ⟨0, Nat.zero_le _, rfl, rfl, Below.refl _ _⟩
  case round =>
    obtain ⟨j, hj, rfl, rfl, hB⟩ := hrel
    have HB := Lib.hid hB
    have hcs := HSZ.out j
    clear hB
    by_cases hlt : j < l.length
    · obtain ⟨y, hy⟩ : ∃ y, l[j]? = some y := ⟨l[j], by simp⟩
      obtain ⟨b, o, A', c', rfl, hc, hr⟩ := HR.out.at_ hy
      have hm := List.mem_of_getElem? hy
      have hys := stmt_le (n := n) (HG.out y hm) (HF.out y hm) hn
      have hns := tabsT_size n
      obtain ⟨u0, u1, u2, u3, u4⟩ := Ext.cells (hc.below HB.out)
      have C1 := Lib.hid (fun k : Ext wr => k.same (tabsR_any n hn2 k.v))
      have C2 := Lib.hid (fun k : Ext wr => k.call (HS.out y n A' c' k.v hn (HK.out y hm) (HG.out y hm) (HF.out y hm) ((hr.keep HB.out).keep k.b)))
      have HY := Lib.hid (HAT.out j y hy)
      generalize hsj : catT (ts.take j) = s at *
      have HSJ := Lib.hid hsj
      clear hsj
      have hne := Ext.ne wr
      have q0 : ¬ 9223372036854775807 < s.size + (tabsT n).size := by omega
      have q1 : ¬ 9223372036854775807 < s.size + (tabsT n).size + (stmtT d n y).size := by omega
      have q2 : ¬ 9223372036854775807 < s.size + (tabsT n).size + (stmtT d n y).size + 1 := by omega
      clear hc hr hy hm hns
      go_wp2_with fail
      refine wp_region_ext (by kernel_rfl) (by kernel_rfl) ?_
      repeat (quiet_step (first | exact C1.out _ | exact C2.out _))
      refine wpQuiet_nil ?_
      rintro _ ⟨k, rfl⟩
      have HB1 := Lib.hid (below_then HB.out HB.out.size k.b)
      go_wp2_with fail
      go_roundw
      case rel => exact ⟨j + 1, by omega, by go_num, by rw [catT_take HY.out, HSJ.out]; simp only [ba_assoc], HB1.out⟩
      case measure => simp [intOf]; omega
    · have hjt : ts.take j = ts := List.take_of_length_le (by have := HTL.out; omega)
      rw [hjt] at *
      clear hjt
      go_wp2_with fail
      go_ret
      exact ⟨by rw [HX.out]; rfl, HB.out⟩

set_option maxRecDepth 100000 in
set_option maxHeartbeats 4000000 in
theorem blockR_succ {d : Nat} (hS : StmtAt d) : BlockAt (d + 1) := by
  intro x n A c w hn hx hg hF hR
  have hch := goodB_kids hg
  have hst : ∀ y ∈ x.list, isStmtB y.kind = true := by
    simp only [childrenB, hx, Int.reduceEq, if_false, if_true, or_false, allB, List.all_eq_true] at hch
    exact hch
  have hgy : ∀ y ∈ x.list, goodB d y = true := fun y hy => goodB_down hg hy
  have hls : (linesF (n + 1) (stmtT d (n + 1)) x.list).size ≤ 1048576000 := by
    have h1 := cat_bulk (l := x.list) (f := fun y => tabsT (n + 1) ++ stmtT d (n + 1) y ++ (⟨#[10]⟩ : ByteArray)) (fun y hy => by
      have := (txt_short d y (n + 1) (hgy y hy) (hF.kid hy).wf (by omega)).2.2
      simp only [ba_size, ba_mk, tabsT_size, List.size_toArray, List.length_cons, List.length_nil]; omega)
    have h2 := hF.bulks
    unfold linesF; omega
  have hns := tabsT_size n
  have hn2 : n ≤ 1000 := by omega
  have C1 := Lib.hid (bodyR_any hS x.list (n + 1) A c (w.alloc (nbox x A c)) (by omega) hF.len hst hgy (fun y hy => hF.kid hy) hF.bulks (hR.keep one_below))
  have C2 := Lib.hid (fun w' => tabsR_any n hn2 w')
  have hcast : ((n + 1 : Nat) : Int) = (n : Int) + 1 := by omega
  rw [hcast] at C1
  generalize hL : linesF (n + 1) (stmtT d (n + 1)) x.list = L at *
  have HL := Lib.hid hL
  clear hS hch hst hgy hg hF hR hL hcast hx
  go_enter Tryz.func39, Tryz.ntmps39
  go_wp2_with fail
  refine C1.out.mono ?_
  rintro e w1 ⟨rfl, hb⟩
  have HB := Lib.hid (box_below (box_after hb))
  clear hb
  go_wp2_with fail
  refine (C2.out _).mono ?_
  rintro e w2 ⟨rfl, rfl⟩
  go_wp2_with fail
  go_ret
  exact ⟨by rw [← HL.out]; rfl, HB.out⟩
end Go.Proofs.YtoemljgkofhhpaaGreatDoor
