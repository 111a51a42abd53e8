import Derived.Test.YtoemljgkofhhpaaGreatDoorLabel
import Derived.Test.YtoemljgkofhhpaaGreatDoorChild
import Derived.Test.YtoemljgkofhhpaaGreatDoorSizes
namespace Go.Proofs.YtoemljgkofhhpaaGreatDoor
open Go.RowKit

mutual
/-- Nodes and letters. -/
def T.bulk : T → Nat
  | .mk _ t _ _ l => 1 + t.size + T.bulks l
def T.bulks : List T → Nat
  | [] => 0
  | x :: l => x.bulk + T.bulks l
end
mutual
/-- The numbers are such. -/
def T.wf : T → Prop
  | .mk _ _ n _ l => 0 ≤ n ∧ n ≤ 18446744073709551615 ∧ T.wfs l
def T.wfs : List T → Prop
  | [] => True
  | x :: l => x.wf ∧ T.wfs l
end
theorem T.bulk_eq (x : T) : x.bulk = 1 + x.text.size + T.bulks x.list := by cases x; simp [T.bulk]
theorem T.wf_eq (x : T) : x.wf ↔ 0 ≤ x.num ∧ x.num ≤ 18446744073709551615 ∧ T.wfs x.list := by cases x; simp [T.wf]
theorem T.bulk_at {l : List T} {i : Nat} {y : T} (h : l[i]? = some y) : y.bulk ≤ T.bulks l := by
  induction l generalizing i with
  | nil => simp at h
  | cons z l ih =>
    cases i with
    | zero => simp at h; subst h; simp [T.bulks]
    | succ i => simp at h; have := ih h; simp only [T.bulks]; omega
theorem T.wf_at {l : List T} {i : Nat} {y : T} (hw : T.wfs l) (h : l[i]? = some y) : y.wf := by
  induction l generalizing i with
  | nil => simp at h
  | cons z l ih =>
    simp only [T.wfs] at hw
    cases i with
    | zero => simp at h; subst h; exact hw.1
    | succ i => simp at h; exact ih hw.2 h
mutual
theorem T.size_bulk : ∀ x : T, x.size ≤ x.bulk
  | .mk _ _ _ _ l => by
    have := T.sizes_bulks l
    simp only [T.size, T.bulk]; omega
theorem T.sizes_bulks : ∀ l : List T, T.sizes l ≤ T.bulks l
  | [] => by simp [T.sizes, T.bulks]
  | x :: l => by
    have h1 := T.size_bulk x
    have h2 := T.sizes_bulks l
    simp only [T.sizes, T.bulks]; omega
end
/-- What is asked of a tree. -/
structure Fine (x : T) : Prop where
  wf : x.wf
  bulk : x.bulk ≤ 1048576
theorem Fine.at_ {x y : T} {i : Nat} (h : Fine x) (hy : x.list[i]? = some y) : Fine y :=
  ⟨T.wf_at ((T.wf_eq x).1 h.wf).2.2 hy, by have h1 := T.bulk_at hy; have h2 := T.bulk_eq x; have h3 := h.bulk; omega⟩
theorem Fine.text {x : T} (h : Fine x) : x.text.size ≤ 1048576 := by have h2 := T.bulk_eq x; have h3 := h.bulk; omega
theorem Fine.len {x : T} (h : Fine x) : x.list.length ≤ 1048576 := by
  have h2 := T.bulk_eq x; have h3 := h.bulk; have h4 := T.length_le x.list; have h5 := T.sizes_bulks x.list; omega
theorem Fine.size {x : T} (h : Fine x) : x.size ≤ 1048576 := by have h3 := h.bulk; have h5 := T.size_bulk x; omega
theorem Fine.num {x : T} (h : Fine x) : 0 ≤ x.num := ((T.wf_eq x).1 h.wf).1
theorem Fine.num2 {x : T} (h : Fine x) : x.num ≤ 18446744073709551615 := ((T.wf_eq x).1 h.wf).2.1

set_option maxRecDepth 100000 in
set_option maxHeartbeats 2000000 in
theorem rightR_any (d : Nat) : ∀ (x : T) (A : Option Addr) (c : Nat) (v : Int) (w : World), v = (d : Int) - 1 → d ≤ 65 → Fine x → Rd w x.list A c →
    Calls Tryz.prog 35 #[nv x A c, .int .i64 v] w fun e w' => e = .returned (.bool (goodB d x)) ∧ Below w.heap.size w w' := by
  induction d with
  | zero =>
    intro x A c v w hv hd hF hR
    have hv2 : v = -1 := by omega
    subst hv2
    clear hR hF hd hv
    go_enter Tryz.func35, Tryz.ntmps35
    go_wp2_with fail
    go_ret
    exact ⟨rfl, box_below (Below.refl _ _)⟩
  | succ d ih =>
    intro x A c v w hv hd hF hR
    have hv2 : v = (d : Int) := by omega
    subst hv2
    have hll := hF.len
    have HLL := Lib.hid hll
    have IH := Lib.hid ih
    have HF := Lib.hid hF
    have HR := Lib.hid hR
    clear hR hF ih hv
    go_enter Tryz.func35, Tryz.ntmps35
    go_wp2_with fail
    refine (labelR_any x A c _ (Nat.le_trans HF.out.text (by decide))).mono ?_
    rintro e w1 ⟨rfl, hb⟩
    have hB := box_after hb
    obtain ⟨g0, g1, g2, g3, g4⟩ := box_raw hB
    have HB1 := Lib.hid hB
    clear hB hb
    cases hlab : labelB x with
    | false =>
      have HK := Lib.hid hlab
      clear hlab
      go_wp2_with fail
      go_ret
      exact ⟨ret_bool (by simp [goodB, HK.out]), box_below HB1.out⟩
    | true =>
      have HK := Lib.hid hlab
      clear hlab
      go_wp2_with fail
      refine (childR_any x A c _ HF.out.len HF.out.num HK.out (HR.out.keep (box_below HB1.out))).mono ?_
      rintro e w2 ⟨rfl, hb⟩
      have hB := below_then HB1.out (box_size HB1.out) hb
      obtain ⟨g0, g1, g2, g3, g4⟩ := box_raw hB
      have HB2 := Lib.hid hB
      clear hB hb
      cases hch : childrenB x with
      | false =>
        have HC := Lib.hid hch
        clear hch
        go_wp2_with fail
        go_ret
        exact ⟨ret_bool (by simp [goodB, HC.out]), box_below HB2.out⟩
      | true =>
        have HC := Lib.hid hch
        clear hch
        go_wp2_with fail
        go_loopw [5] (fun i wr => ∃ j : Nat, j ≤ x.list.length ∧ i = .int .i64 j ∧ Hid ((x.list.take j).all (goodB d) = true) ∧ Below (w.heap.size + 1) (w.alloc (nbox x A c)) wr) (fun i _ => x.list.length - (intOf i).toNat)
        case atStart => exact ⟨0, Nat.zero_le _, rfl, rfl, HB2.out⟩
        case round =>
          obtain ⟨j, hj, rfl, HI, hB⟩ := hrel
          have f4 : wr.cell? ⟨w.heap.size, 4, none⟩ = some (.slice A x.list.length c) := (box_cells hB).c4
          have HB := Lib.hid hB
          clear hB
          have hl8 : x.list.length ≤ 1048576 := HLL.out
          by_cases hlt : j < x.list.length
          · obtain ⟨y, hy⟩ : ∃ y, x.list[j]? = some y := ⟨x.list[j], by simp [hlt]⟩
            obtain ⟨b, o, A', c', rfl, hc, hr⟩ := HR.out.at_ hy
            have hc := hc.below (box_below HB.out)
            have h0 := hc.c0
            have h1 := hc.c1
            have h2 := hc.c2
            have h3 := hc.c3
            have h4 := hc.c4
            have HR' := Lib.hid hr
            have HY := Lib.hid hy
            clear hr hc hy g0 g1 g2 g3 g4
            go_wp2_with fail
            refine (IH.out y A' c' _ _ (by first | rfl | omega) (by omega) (HF.out.at_ HY.out) (HR'.out.keep (box_below HB.out))).mono ?_
            rintro e w3 ⟨rfl, hb⟩
            have HB3 := Lib.hid (below_then HB.out (box_size HB.out) hb)
            clear hb
            cases hg : goodB d y with
            | false =>
              have HG := Lib.hid hg
              clear hg
              go_wp2_with fail
              go_ret
              exact ⟨ret_bool (by have := all_miss HY.out HG.out; simp [goodB, this]), box_below HB3.out⟩
            | true =>
              have HG := Lib.hid hg
              clear hg
              go_wp2_with fail
              go_roundw
              case rel => exact ⟨j + 1, by omega, by go_num, (by rw [all_take HY.out, HI.out, HG.out]; rfl : (x.list.take (j + 1)).all (goodB d) = true), HB3.out⟩
              case measure => simp [intOf]; omega
          · go_wp2_with fail
            go_ret
            exact ⟨ret_bool (by have : j = x.list.length := by omega
                                have h2 := HI.out
                                subst this; rw [List.take_length] at h2; simp only [goodB, h2, HK.out, HC.out]; rfl), box_below HB.out⟩

/-- A sound tree of a sort. -/
def sndB (x : T) : Bool := goodB 65 x && decide (x.size ≤ 16384)
set_option maxRecDepth 100000 in
set_option maxHeartbeats 2000000 in
theorem soundR_p (x : T) (A : Option Addr) (c : Nat) (w : World) (hF : Fine x) (hR : Rd w x.list A c) :
    Calls Tryz.prog 17 #[nv x A c, .int .u8 112] w fun e w' => e = .returned (.bool (x.kind == 1 && sndB x)) ∧ Below w.heap.size w w' := by
  have HF := Lib.hid hF
  have HR := Lib.hid hR
  clear hF hR
  cases hk : (x.kind == 1) with
  | false =>
    go_enter Tryz.func17, Tryz.ntmps17
    go_wp2_with fail
    go_ret
    exact ⟨rfl, box_below (Below.refl _ _)⟩
  | true =>
    go_enter Tryz.func17, Tryz.ntmps17
    go_wp2_with fail
    refine (rightR_any 65 x A c _ _ (by decide) (by decide) HF.out (HR.out.keep ((Below.refl _ _).alloc (Nat.le_refl _) _))).mono ?_
    rintro e w1 ⟨rfl, hb⟩
    have hB := box_after hb
    obtain ⟨g0, g1, g2, g3, g4⟩ := box_raw hB
    have HB1 := Lib.hid hB
    clear hB hb
    cases hg : goodB 65 x with
    | false =>
      have HG := Lib.hid hg
      clear hg
      go_wp2_with fail
      go_ret
      exact ⟨ret_bool (by simp [sndB, HG.out]), box_below HB1.out⟩
    | true =>
      have HG := Lib.hid hg
      clear hg
      go_wp2_with fail
      refine (size_any x.size x A c _ (Nat.le_refl _) (HR.out.keep (box_below HB1.out)) HF.out.size).mono ?_
      rintro e w2 ⟨rfl, hb⟩
      have HB2 := Lib.hid (below_then HB1.out (box_size HB1.out) hb)
      clear hb
      have HS := Lib.hid HF.out.size
      go_wp2_with fail
      go_ret
      exact ⟨ret_bool (by rw [Bool.eq_iff_iff]; simp [sndB, HG.out]; try omega), box_below HB2.out⟩
set_option maxRecDepth 100000 in
set_option maxHeartbeats 2000000 in
theorem soundR_s (x : T) (A : Option Addr) (c : Nat) (s : Int) (w : World) (hs : (s == 112) = false) (hF : Fine x) (hR : Rd w x.list A c) :
    Calls Tryz.prog 17 #[nv x A c, .int .u8 s] w fun e w' => e = .returned (.bool (sortC x.kind == s && sndB x)) ∧ Below w.heap.size w w' := by
  have HF := Lib.hid hF
  have HR := Lib.hid hR
  clear hF hR
  cases hk : (sortC x.kind == s) with
  | false =>
    go_enter Tryz.func17, Tryz.ntmps17
    go_wp2_with (go_at_call 37; refine (sortR_any _ _).mono ?_; rintro e w' ⟨rfl, rfl⟩)
    go_ret
    exact ⟨rfl, box_below (Below.refl _ _)⟩
  | true =>
    go_enter Tryz.func17, Tryz.ntmps17
    go_wp2_with (go_at_call 37; refine (sortR_any _ _).mono ?_; rintro e w' ⟨rfl, rfl⟩)
    refine (rightR_any 65 x A c _ _ (by decide) (by decide) HF.out (HR.out.keep ((Below.refl _ _).alloc (Nat.le_refl _) _))).mono ?_
    rintro e w1 ⟨rfl, hb⟩
    have hB := box_after hb
    obtain ⟨g0, g1, g2, g3, g4⟩ := box_raw hB
    have HB1 := Lib.hid hB
    clear hB hb
    cases hg : goodB 65 x with
    | false =>
      have HG := Lib.hid hg
      clear hg
      go_wp2_with fail
      go_ret
      exact ⟨ret_bool (by simp [sndB, HG.out]), box_below HB1.out⟩
    | true =>
      have HG := Lib.hid hg
      clear hg
      go_wp2_with fail
      refine (size_any x.size x A c _ (Nat.le_refl _) (HR.out.keep (box_below HB1.out)) HF.out.size).mono ?_
      rintro e w2 ⟨rfl, hb⟩
      have HB2 := Lib.hid (below_then HB1.out (box_size HB1.out) hb)
      clear hb
      have HS := Lib.hid HF.out.size
      go_wp2_with fail
      go_ret
      exact ⟨ret_bool (by rw [Bool.eq_iff_iff]; simp [sndB, HG.out]; try omega), box_below HB2.out⟩
end Go.Proofs.YtoemljgkofhhpaaGreatDoor
