import Derived.Test.YtoemljgkofhhpaaGreatDoorPgC
namespace Go.Proofs.YtoemljgkofhhpaaGreatDoor
open Go.RowKit

theorem three_below {w : World} {o1 o2 o3 : Obj} : Below w.heap.size w (((w.alloc o1).alloc o2).alloc o3) :=
  (two_below).alloc (by rw [size_alloc, size_alloc]; omega) _
theorem goodB_succ (d : Nat) (x : T) : goodB (d + 1) x = (labelB x && (childrenB x && x.list.all (goodB d))) := rfl

set_option maxRecDepth 100000 in
set_option maxHeartbeats 2000000 in
theorem good1_any (d : Nat) (y : T) (A : Option Addr) (c : Nat) (r : Addr) (v : Int) (w : World) (hr : w.cell? r = some (.int .i64 v)) (hv : -1000 ≤ v ∧ v ≤ 1000)
    (ih : ∀ w' : World, Below w.heap.size w w' → Calls Tryz.prog 64 #[nv y A c, .int .i64 (v + 1)] w' fun e w'' => e = .returned (.bool (goodB d y)) ∧ Below w'.heap.size w' w'') :
    Calls Tryz.prog 88 #[nv y A c, .pointer (some r)] w fun e w' => e = .returned (.bool (!goodB d y)) ∧ Below w.heap.size w w' := by
  have hr2 : (w.alloc (.cells #[.int .i64 y.kind, .string y.text, .int .u64 y.num, .int .i64 y.place, .slice A y.list.length c] 25)).cell? r = some (.int .i64 v) := keep_cell one_below hr
  have IH := Lib.hid ih
  obtain ⟨v1, v2⟩ := hv
  clear ih
  go_enter Tryz.func88, Tryz.ntmps88
  go_wp2_with fail
  refine (IH.out _ one_below).mono ?_
  rintro e w1 ⟨rfl, hb⟩
  have HB1 := Lib.hid (below_then one_below (by rw [size_alloc]; omega) hb)
  clear hb
  go_wp2_with fail
  go_ret
  exact ⟨rfl, HB1.out⟩

set_option maxRecDepth 100000 in
set_option maxHeartbeats 4000000 in
theorem goodP_any (d : Nat) : ∀ (x : T) (A : Option Addr) (c : Nat) (v : Int) (w : World), v = 65 - (d : Int) → d ≤ 65 → Fine x → Rd w x.list A c → Env w →
    Calls Tryz.prog 64 #[nv x A c, .int .i64 v] w fun e w' => e = .returned (.bool (goodB d x)) ∧ Below w.heap.size w w' := by
  induction d with
  | zero =>
    intro x A c v w hv hd hF hR hE
    have hv2 : v = 65 := by omega
    subst hv2
    clear hR hF hd hv hE
    go_enter Tryz.func64, Tryz.ntmps64
    go_wp2_with fail
    go_ret
    exact ⟨rfl, two_below⟩
  | succ d ih =>
    intro x A c v w hv hd hF hR hE
    have hv0 : v ≤ 64 ∧ -1 < v := by omega
    have HV := Lib.hid hv
    have IH := Lib.hid ih
    have HF := Lib.hid hF
    have HR := Lib.hid hR
    have HE := Lib.hid hE
    have HD := Lib.hid hd
    obtain ⟨hv1, hv2⟩ := hv0
    clear hR hF ih hv hE hd
    have f5 : ((w.alloc (.cells #[.int .i64 x.kind, .string x.text, .int .u64 x.num, .int .i64 x.place, .slice A x.list.length c] 25)).alloc (.cells #[.int .i64 v] 3)).cell? ⟨w.heap.size + 1, 0, none⟩ = some (.int .i64 v) := two_cell _ _ _ _ _
    have hF0 : Below (w.heap.size + 1) (w.alloc (nbox x A c)) ((w.alloc (nbox x A c)).alloc (.cells #[.int .i64 v] 3)) := (Below.refl _ _).alloc (by rw [size_alloc]; omega) _
    obtain ⟨g0, g1, g2, g3, g4⟩ := box_raw hF0
    have HF0 := Lib.hid hF0
    clear hF0
    go_enter Tryz.func64, Tryz.ntmps64
    go_wp2_with fail
    refine (textP_any x A c _ (Nat.le_trans HF.out.text (by decide)) (HE.out.keep two_below)).mono ?_
    rintro e w1 ⟨rfl, hb⟩
    have hB := below_then HF0.out (by rw [size_alloc, size_alloc]; omega) hb
    have f5 := (hb.cell (p := ⟨w.heap.size + 1, 0, none⟩) (by rw [size_alloc, size_alloc]; show w.heap.size + 1 < _; omega)).trans f5
    obtain ⟨g0, g1, g2, g3, g4⟩ := box_raw hB
    have HB1 := Lib.hid hB
    clear hB hb
    cases htx : textB x with
    | false =>
      have HK := Lib.hid htx
      clear htx
      go_wp2_with fail
      go_ret
      exact ⟨ret_bool (by simp [goodB_succ, labelB, HK.out]), box_below HB1.out⟩
    | true =>
      have HK := Lib.hid htx
      clear htx
      go_wp2_with fail
      refine (numberP_any x A c _).mono ?_
      rintro e w2 ⟨rfl, hb⟩
      have hB := below_then HB1.out (box_size HB1.out) hb
      have f5 := keep_cell hb f5
      obtain ⟨g0, g1, g2, g3, g4⟩ := box_raw hB
      have HB2 := Lib.hid hB
      clear hB hb
      cases hnu : numB x with
      | false =>
        have HN := Lib.hid hnu
        clear hnu
        go_wp2_with fail
        go_ret
        exact ⟨ret_bool (by simp [goodB_succ, labelB, HN.out]), box_below HB2.out⟩
      | true =>
        have hlab : labelB x = true := by simp only [labelB, HK.out, hnu]; rfl
        have HLAB := Lib.hid hlab
        clear hnu hlab
        go_wp2_with fail
        refine (listP_any x A c _ HF.out.len HF.out.num HLAB.out (HR.out.keep (box_below HB2.out))).mono ?_
        rintro e w3 ⟨rfl, hb⟩
        have hB := below_then HB2.out (box_size HB2.out) hb
        have f5 := keep_cell hb f5
        obtain ⟨g0, g1, g2, g3, g4⟩ := box_raw hB
        have HB3 := Lib.hid hB
        have F5 := Lib.hid f5
        clear hB hb
        cases hch : childrenB x with
        | false =>
          have HC := Lib.hid hch
          clear hch
          go_wp2_with fail
          go_ret
          exact ⟨ret_bool (by simp [goodB_succ, HC.out]), box_below HB3.out⟩
        | true =>
          have HC := Lib.hid hch
          clear hch
          have hmf : ∀ (fn : Fn) (first cap : Array Value) (w : World), (Instr.makeFunc fn first cap).run Tryz.prog w = .ok (.func fn first cap) w := fun _ _ _ _ => rfl
          go_wp2_with fail
          refine (containsP_88 x.list A c ⟨w.heap.size + 1, 0, none⟩ (fun y => !goodB d y) _ HF.out.len (HR.out.keep (box_below HB3.out)) (fun i y A' c' w' hy hR' hb => good1_any d y A' c' _ v w' (keep_cell hb F5.out) (by omega) (fun w'' hb'' => IH.out y A' c' _ w'' (by have := HV.out; omega) (by have := HD.out; omega) (HF.out.at_ hy) (hR'.keep hb'') (HE.out.keep (below_then (box_below HB3.out) (box_below HB3.out).size (below_then hb hb.size hb'')))))).mono ?_
          rintro e w4 ⟨rfl, hb⟩
          have HB4 := Lib.hid (below_then HB3.out (box_size HB3.out) hb)
          clear hb
          go_wp2_with fail
          go_ret
          exact ⟨ret_bool (by simp [goodB_succ, HLAB.out, HC.out, List.any_eq_not_all_not]), box_below HB4.out⟩

set_option maxRecDepth 100000 in
set_option maxHeartbeats 2000000 in
theorem soundP_any (x : T) (A : Option Addr) (c : Nat) (w : World) (hF : Fine x) (hR : Rd w x.list A c) (hE : Env w) :
    Calls Tryz.prog 27 #[nv x A c] w fun e w' => e = .returned (.bool (sndB x)) ∧ Below w.heap.size w w' := by
  have HF := Lib.hid hF
  have HR := Lib.hid hR
  have HE := Lib.hid hE
  clear hF hR hE
  go_enter Tryz.func27, Tryz.ntmps27
  go_wp2_with fail
  refine (goodP_any 65 x A c _ _ (by decide) (by decide) HF.out (HR.out.keep one_below) (HE.out.keep one_below)).mono ?_
  rintro e w1 ⟨rfl, hb⟩
  have hB := box_after hb
  obtain ⟨g0, g1, g2, g3, g4⟩ := box_raw hB
  have HB1 := Lib.hid hB
  clear hB hb
  cases hg : goodB 65 x with
  | false =>
    have HG := Lib.hid hg
    clear hg
    go_wp2_with fail
    go_ret
    exact ⟨ret_bool (by simp [sndB, HG.out]), box_below HB1.out⟩
  | true =>
    have HG := Lib.hid hg
    clear hg
    go_wp2_with fail
    refine (sizeP_any x.size x A c _ (Nat.le_refl _) (HR.out.keep (box_below HB1.out)) HF.out.size).mono ?_
    rintro e w2 ⟨rfl, hb⟩
    have HB2 := Lib.hid (below_then HB1.out (box_size HB1.out) hb)
    clear hb
    have HS := Lib.hid HF.out.size
    go_wp2_with fail
    go_ret
    exact ⟨ret_bool (by rw [Bool.eq_iff_iff]; simp [sndB, HG.out]; try omega), box_below HB2.out⟩

set_option maxRecDepth 100000 in
set_option maxHeartbeats 2000000 in
theorem checkP_any (x : T) (A : Option Addr) (c : Nat) (w : World) (hF : Fine x) (hR : Rd w x.list A c) (hE : Env w) :
    Calls Tryz.prog 14 #[nv x A c] w fun e w' => e = .returned (.int .i64 (cond (x.kind == 1 && sndB x) 0 1)) ∧ Below w.heap.size w w' := by
  have HF := Lib.hid hF
  have HR := Lib.hid hR
  have HE := Lib.hid hE
  clear hF hR hE
  cases hk : (x.kind == 1) with
  | false =>
    have hk2 : (x.kind != 1) = true := by rw [bne, hk]; rfl
    go_enter Tryz.func14, Tryz.ntmps14
    go_wp2_with fail
    go_ret
    exact ⟨by simp, one_below⟩
  | true =>
    have hk2 : (x.kind != 1) = false := by rw [bne, hk]; rfl
    go_enter Tryz.func14, Tryz.ntmps14
    go_wp2_with fail
    refine (soundP_any x A c _ HF.out (HR.out.keep one_below) (HE.out.keep one_below)).mono ?_
    rintro e w1 ⟨rfl, hb⟩
    have HB1 := Lib.hid (box_after hb)
    clear hb
    cases hs : sndB x with
    | false =>
      go_wp2_with fail
      go_ret
      exact ⟨by simp [hs], box_below HB1.out⟩
    | true =>
      go_wp2_with fail
      go_ret
      exact ⟨by simp [hs], box_below HB1.out⟩

set_option maxRecDepth 100000 in
set_option maxHeartbeats 2000000 in
theorem soundP_2 (x : T) (A : Option Addr) (c : Nat) (w : World) (hF : Fine x) (hR : Rd w x.list A c) (hE : Env w) :
    Calls Tryz.prog 21 #[nv x A c, .int .i64 2] w fun e w' => e = .returned (.int .i64 (cond (isExprB x.kind && sndB x) 0 1)) ∧ Below w.heap.size w w' := by
  have HF := Lib.hid hF
  have HR := Lib.hid hR
  have HE := Lib.hid hE
  clear hF hR hE
  cases hk : isExprB x.kind with
  | false =>
    have HK := Lib.hid hk
    clear hk
    go_enter Tryz.func21, Tryz.ntmps21
    go_wp2_with fail
    refine (isExpr_any _ _).mono ?_
    rintro e w1 ⟨rfl, rfl⟩
    rw [HK.out]
    go_wp2_with fail
    go_ret
    exact ⟨by simp, one_below⟩
  | true =>
    have HK := Lib.hid hk
    clear hk
    go_enter Tryz.func21, Tryz.ntmps21
    go_wp2_with fail
    refine (isExpr_any _ _).mono ?_
    rintro e w1 ⟨rfl, rfl⟩
    rw [HK.out]
    go_wp2_with fail
    refine (soundP_any x A c _ HF.out (HR.out.keep one_below) (HE.out.keep one_below)).mono ?_
    rintro e w1 ⟨rfl, hb⟩
    have HB1 := Lib.hid (box_after hb)
    clear hb
    cases hs : sndB x with
    | false =>
      go_wp2_with fail
      go_ret
      exact ⟨by simp [hs], box_below HB1.out⟩
    | true =>
      go_wp2_with fail
      go_ret
      exact ⟨by simp [hs], box_below HB1.out⟩

set_option maxRecDepth 100000 in
set_option maxHeartbeats 2000000 in
theorem soundP_3 (x : T) (A : Option Addr) (c : Nat) (w : World) (hF : Fine x) (hR : Rd w x.list A c) (hE : Env w) :
    Calls Tryz.prog 21 #[nv x A c, .int .i64 3] w fun e w' => e = .returned (.int .i64 (cond (isTypeB x.kind && sndB x) 0 1)) ∧ Below w.heap.size w w' := by
  have HF := Lib.hid hF
  have HR := Lib.hid hR
  have HE := Lib.hid hE
  clear hF hR hE
  cases hk : isTypeB x.kind with
  | false =>
    have HK := Lib.hid hk
    clear hk
    go_enter Tryz.func21, Tryz.ntmps21
    go_wp2_with fail
    refine (isType_any _ _).mono ?_
    rintro e w1 ⟨rfl, rfl⟩
    rw [HK.out]
    go_wp2_with fail
    go_ret
    exact ⟨by simp, one_below⟩
  | true =>
    have HK := Lib.hid hk
    clear hk
    go_enter Tryz.func21, Tryz.ntmps21
    go_wp2_with fail
    refine (isType_any _ _).mono ?_
    rintro e w1 ⟨rfl, rfl⟩
    rw [HK.out]
    go_wp2_with fail
    refine (soundP_any x A c _ HF.out (HR.out.keep one_below) (HE.out.keep one_below)).mono ?_
    rintro e w1 ⟨rfl, hb⟩
    have HB1 := Lib.hid (box_after hb)
    clear hb
    cases hs : sndB x with
    | false =>
      go_wp2_with fail
      go_ret
      exact ⟨by simp [hs], box_below HB1.out⟩
    | true =>
      go_wp2_with fail
      go_ret
      exact ⟨by simp [hs], box_below HB1.out⟩
end Go.Proofs.YtoemljgkofhhpaaGreatDoor
