import Derived.Test.YtoemljgkofhhpaaGreatDoorLits
namespace Go.Proofs.YtoemljgkofhhpaaGreatDoor
open Go.RowKit

/-- The reference's Expr at fuel d. -/
def ExprAt (d : Nat) : Prop := ∀ (x : T) (n : Nat) (A : Option Addr) (c : Nat) (w : World), n + d ≤ 200 → goodB d x = true → Fine x → Rd w x.list A c →
  Calls Tryz.prog 19 #[nv x A c, .int .i64 n] w fun e w' => e = .returned (.string (exprT d n x)) ∧ Below w.heap.size w w'
theorem expr_le {d n : Nat} {x : T} (hg : goodB d x = true) (h : Fine x) (hn : n + d ≤ 200) : (exprT d n x).size ≤ 1048576000 := by have := (txt_short d x n hg h.wf hn).1; have := h.bulk; omega
theorem block_le {d n : Nat} {x : T} (hg : goodB d x = true) (h : Fine x) (hn : n + d ≤ 200) : (blockT d n x).size ≤ 1048576000 := by have := (txt_short d x n hg h.wf hn).2.1; have := h.bulk; omega
theorem stmt_le {d n : Nat} {x : T} (hg : goodB d x = true) (h : Fine x) (hn : n + d ≤ 200) : (stmtT d n x).size ≤ 1048576000 := by have := (txt_short d x n hg h.wf hn).2.2; have := h.bulk; omega
theorem wrap_le {b : Bool} {t : ByteArray} (h : t.size ≤ 1048576000) : (wrapT b t).size ≤ 1048576002 := by have := wrapT_size b t; omega

set_option maxRecDepth 100000 in
set_option maxHeartbeats 2000000 in
theorem wrapR_any {d : Nat} (hE : ExprAt d) (x : T) (n : Nat) (b : Bool) (A : Option Addr) (c : Nat) (w : World) (hn : n + d ≤ 200) (hg : goodB d x = true) (hF : Fine x) (hR : Rd w x.list A c) :
    Calls Tryz.prog 41 #[nv x A c, .int .i64 n, .bool b] w fun e w' => e = .returned (.string (wrapT b (exprT d n x))) ∧ Below w.heap.size w w' := by
  have hs := expr_le hg hF hn
  have HC := Lib.hid (hE x n A c (w.alloc (nbox x A c)) hn hg hF (hR.keep one_below))
  clear hE hR
  cases b with
  | true =>
    go_enter Tryz.func41, Tryz.ntmps41
    go_wp2_with fail
    refine HC.out.mono ?_
    rintro e w1 ⟨rfl, hb⟩
    have HB := Lib.hid (box_below (box_after hb))
    clear hb
    go_wp2_with fail
    go_ret
    exact ⟨rfl, HB.out⟩
  | false =>
    go_enter Tryz.func41, Tryz.ntmps41
    go_wp2_with fail
    refine HC.out.mono ?_
    rintro e w1 ⟨rfl, hb⟩
    have HB := Lib.hid (box_below (box_after hb))
    clear hb
    go_wp2_with fail
    go_ret
    exact ⟨rfl, HB.out⟩

set_option maxRecDepth 100000 in
set_option maxHeartbeats 2000000 in
theorem stemR_any {d : Nat} (hE : ExprAt d) (x : T) (n : Nat) (A : Option Addr) (c : Nat) (w : World) (hn : n + d ≤ 200) (hg : goodB d x = true) (hF : Fine x) (hR : Rd w x.list A c) :
    Calls Tryz.prog 44 #[nv x A c, .int .i64 n] w fun e w' => e = .returned (.string (wrapT (stemB x) (exprT d n x))) ∧ Below w.heap.size w w' := by
  have HC := Lib.hid (fun b => wrapR_any hE x n b A c (w.alloc (nbox x A c)) hn hg hF (hR.keep one_below))
  clear hE hR hg hF
  cases h1 : (x.kind == 33) with
  | true =>
    go_enter Tryz.func44, Tryz.ntmps44
    go_wp2_with fail
    refine (HC.out _).mono ?_
    rintro e w1 ⟨rfl, hb⟩
    have HB := Lib.hid (box_below (box_after hb))
    clear hb
    go_wp2_with fail
    go_ret
    exact ⟨by rw [stemB, h1]; rfl, HB.out⟩
  | false =>
    cases h2 : (x.kind == 39) with
    | true =>
      go_enter Tryz.func44, Tryz.ntmps44
      go_wp2_with fail
      refine (HC.out _).mono ?_
      rintro e w1 ⟨rfl, hb⟩
      have HB := Lib.hid (box_below (box_after hb))
      clear hb
      go_wp2_with fail
      go_ret
      exact ⟨by rw [stemB, h1, h2]; rfl, HB.out⟩
    | false =>
      go_enter Tryz.func44, Tryz.ntmps44
      go_wp2_with fail
      refine (HC.out _).mono ?_
      rintro e w1 ⟨rfl, hb⟩
      have HB := Lib.hid (box_below (box_after hb))
      clear hb
      go_wp2_with fail
      go_ret
      exact ⟨by rw [stemB, h1, h2]; rfl, HB.out⟩

theorem part_short {d n : Nat} {y : T} (hg : goodB d y = true) (h : y.wf) (hn : n + d ≤ 200) : (partT (typT d) (exprT d n) y).size + 300 ≤ 1000 * y.bulk := by
  have h1 := typT_short d y
  have h2 := (txt_short d y n hg h hn).1
  unfold partT; split <;> omega
set_option maxRecDepth 100000 in
set_option maxHeartbeats 4000000 in
theorem partsR_any {d : Nat} (hE : ExprAt d) (l : List T) (f n : Nat) (A : Option Addr) (c : Nat) (w : World) (hn : n + d ≤ 200) (hf : f ≤ l.length) (hl : l.length ≤ 100) (hg : ∀ y ∈ l, goodB d y = true) (hF : ∀ y ∈ l, Fine y) (hb : T.bulks l ≤ 1048576) (hR : Rd w l A c) :
    Calls Tryz.prog 45 #[.slice A l.length c, .int .i64 f, .int .i64 n] w fun e w' => e = .returned (.string (joinT ((l.drop f).map (partT (typT d) (exprT d n))))) ∧ Below w.heap.size w w' := by
  have hjn : ∀ m, (joinT ((((l.drop f).map (partT (typT d) (exprT d n)))).take m)).size ≤ 1048576000 := fun m =>
    List.map_take (f := partT (typT d) (exprT d n)) (l := l.drop f) (i := m) ▸ join_take_le m (fun y hy => by have := part_short (n := n) (hg y (List.mem_of_mem_drop hy)) (hF y (List.mem_of_mem_drop hy)).wf hn; omega) (by
      have := T.bulks_append (l.take f) (l.drop f); rw [List.take_append_drop] at this; omega)
  generalize hts : (l.drop f).map (partT (typT d) (exprT d n)) = ts at hjn
  have hat : ∀ j y, l[f + j]? = some y → ts[j]? = some (partT (typT d) (exprT d n) y) := fun j y h => by rw [← hts]; simp [h]
  have htl : ts.length = l.length - f := by rw [← hts]; simp
  have HJ := Lib.hid hjn
  have HAT := Lib.hid hat
  have HTL := Lib.hid htl
  have HE := Lib.hid hE
  have HG := Lib.hid hg
  have HF := Lib.hid hF
  have HR := Lib.hid hR
  clear hjn hat hE hg hF hR hts htl hb
  go_enter Tryz.func45, Tryz.ntmps45
  go_wp2_with fail
  go_loopw [7, 8] (fun s i wr => ∃ j : Nat, f + j ≤ l.length ∧ i = .int .i64 ((f + j : Nat) : Int) ∧ s = .string (joinT (ts.take j)) ∧ Below w.heap.size w wr) (fun _ i _ => l.length - (intOf i).toNat)
  case atStart => exact ⟨0, hf, rfl, rfl, Below.refl _ _⟩
  case round =>
    obtain ⟨j, hj, rfl, rfl, hB⟩ := hrel
    have HB := Lib.hid hB
    have hjs := HJ.out j
    clear hB
    by_cases hlt : f + j < l.length
    · obtain ⟨y, hy⟩ : ∃ y, l[f + j]? = some y := ⟨l[f + j], by simp⟩
      obtain ⟨b, o, A', c', rfl, hc, hr⟩ := HR.out.at_ hy
      obtain ⟨h0, h1, h2, h3, h4⟩ := hc.below HB.out
      have hmem := List.mem_of_getElem? hy
      have hfy := HF.out y hmem
      have hgy := HG.out y hmem
      have hzt := typ_le (d := d) hfy
      have hze := expr_le (n := n) hgy hfy hn
      have HR' := Lib.hid hr
      have HY := Lib.hid (HAT.out j y hy)
      have HFY := Lib.hid hfy
      have HGY := Lib.hid hgy
      clear hc hr hy hfy hgy hmem
      by_cases h20 : y.kind < 20
      · have hp : partT (typT d) (exprT d n) y = typT d y := by unfold partT; rw [if_pos h20]
        have HP := Lib.hid hp
        clear hp
        by_cases hj0 : j = 0
        · subst hj0
          have hjn : joinT [] = (⟨#[]⟩ : ByteArray) := rfl
          simp only [Nat.add_zero] at h0 h1 h2 h3 h4 hlt
          go_wp2_with fail
          refine (typR_any d y A' c' _ HGY.out HFY.out (HR'.out.keep HB.out)).mono ?_
          rintro e w1 ⟨rfl, hb⟩
          have HB1 := Lib.hid (below_then HB.out HB.out.size hb)
          clear hb
          go_wp2_with fail
          go_roundw
          case rel => exact ⟨1, by omega, by go_num, by rw [joinT_first HY.out, HP.out]; simp [ba_nil], HB1.out⟩
          case measure => simp [intOf]; omega
        · have hjp : 0 < j := by omega
          go_wp2_with fail
          refine (typR_any d y A' c' _ HGY.out HFY.out (HR'.out.keep HB.out)).mono ?_
          rintro e w1 ⟨rfl, hb⟩
          have HB1 := Lib.hid (below_then HB.out HB.out.size hb)
          clear hb
          go_wp2_with fail
          go_roundw
          case rel => exact ⟨j + 1, by omega, by go_num, by rw [joinT_take (by omega) HY.out, HP.out], HB1.out⟩
          case measure => simp [intOf]; omega
      · have hp : partT (typT d) (exprT d n) y = exprT d n y := by unfold partT; rw [if_neg h20]
        have HP := Lib.hid hp
        clear hp
        by_cases hj0 : j = 0
        · subst hj0
          have hjn : joinT [] = (⟨#[]⟩ : ByteArray) := rfl
          simp only [Nat.add_zero] at h0 h1 h2 h3 h4 hlt
          go_wp2_with fail
          refine (HE.out y n A' c' _ hn HGY.out HFY.out (HR'.out.keep HB.out)).mono ?_
          rintro e w1 ⟨rfl, hb⟩
          have HB1 := Lib.hid (below_then HB.out HB.out.size hb)
          clear hb
          go_wp2_with fail
          go_roundw
          case rel => exact ⟨1, by omega, by go_num, by rw [joinT_first HY.out, HP.out]; simp [ba_nil], HB1.out⟩
          case measure => simp [intOf]; omega
        · have hjp : 0 < j := by omega
          go_wp2_with fail
          refine (HE.out y n A' c' _ hn HGY.out HFY.out (HR'.out.keep HB.out)).mono ?_
          rintro e w1 ⟨rfl, hb⟩
          have HB1 := Lib.hid (below_then HB.out HB.out.size hb)
          clear hb
          go_wp2_with fail
          go_roundw
          case rel => exact ⟨j + 1, by omega, by go_num, by rw [joinT_take (by omega) HY.out, HP.out], HB1.out⟩
          case measure => simp [intOf]; omega
    · have hj2 : j = ts.length := by have := HTL.out; omega
      have hjt : ts.take j = ts := List.take_of_length_le (by omega)
      rw [hjt] at *
      clear hj2 hjt
      go_wp2_with fail
      go_ret
      exact ⟨rfl, HB.out⟩
end Go.Proofs.YtoemljgkofhhpaaGreatDoor
