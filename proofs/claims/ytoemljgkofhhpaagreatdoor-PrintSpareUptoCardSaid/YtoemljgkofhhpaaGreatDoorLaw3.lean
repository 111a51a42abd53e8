import Derived.Test.YtoemljgkofhhpaaGreatDoorPgP
import Derived.Test.YtoemljgkofhhpaaGreatDoorOwn
namespace Go.Proofs.YtoemljgkofhhpaaGreatDoor
open Go.RowKit

/-- What is answered: a text, if the tree is such and the text not too large. -/
def ansT (ok : Bool) (t : ByteArray) : Value := cond ok (cond (decide (65536 < t.size)) (.tuple #[.string ⟨#[]⟩, .int .i64 6]) (.tuple #[.string t, .int .i64 0])) (.tuple #[.string ⟨#[]⟩, .int .i64 1])
def okP (x : T) : Bool := x.kind == 1 && sndB x
def okE (x : T) : Bool := isExprB x.kind && sndB x
def okT (x : T) : Bool := isTypeB x.kind && sndB x
theorem snd_good {x : T} (h : sndB x = true) : goodB 65 x = true := by
  unfold sndB at h; simp only [Bool.and_eq_true] at h; exact h.1
theorem prog_le {x : T} (hx : x.kind = 1) (hg : goodB 65 x = true) (hF : Fine x) : (programT x).size ≤ 1048576000 := by
  have := prog_take hx hg hF (x.list.map declT).length
  rw [List.take_length] at this
  exact this
theorem sort_e (k : Int) : (sortC k == 101) = isExprB k := by
  rw [Bool.eq_iff_iff]; unfold sortC
  split
  · rename_i h; simp [isStmtB, isExprB] at h ⊢; omega
  · split
    · rename_i h; simp [h]
    · rename_i h; simp [h]; split <;> omega
theorem sort_t (k : Int) : (sortC k == 116) = isTypeB k := by
  rw [Bool.eq_iff_iff]; unfold sortC
  split
  · rename_i h; simp [isStmtB, isTypeB] at h ⊢; omega
  · split
    · rename_i h; simp [isExprB, isTypeB] at h ⊢; omega
    · split
      · rename_i h; simp [h]
      · rename_i h; simp [h]
set_option maxRecDepth 100000 in
set_option maxHeartbeats 4000000 in
theorem textP3_any (x : T) (A : Option Addr) (c : Nat) (w : World) (hF : Fine x) (hR : Rd w x.list A c) (hE : Env w) :
    Calls Tryz.prog 5 #[nv x A c] w fun e w' => e = .returned (ansT (okP x) (programT x)) ∧ Below w.heap.size w w' := by
  have C1 := Lib.hid (checkP_any x A c (w.alloc (nbox x A c)) hF (hR.keep one_below) (hE.keep one_below))
  cases hok : okP x with
  | false =>
    have hok2 : (x.kind == 1 && sndB x) = false := hok
    clear hF hR hE
    go_enter Tryz.func5, Tryz.ntmps5
    go_wp2_with fail
    refine C1.out.mono ?_
    rintro e w1 ⟨rfl, hb⟩
    rw [hok2]
    have HB := Lib.hid (box_below (box_after hb))
    clear hb
    go_wp2_with fail
    go_ret2
    exact ⟨rfl, HB.out⟩
  | true =>
    have hok2 : (x.kind == 1 && sndB x) = true := hok
    have hok3 := hok2
    simp only [Bool.and_eq_true] at hok3
    have hg := snd_good hok3.2
    have ht := prog_le (by simpa using hok3.1) hg hF
    have C2 := Lib.hid (fun w' (hb : Below (w.alloc (nbox x A c)).heap.size (w.alloc (nbox x A c)) w') => programP_any x A c w' (by simpa using hok3.1) hg hF ((hR.keep one_below).keep hb) ((hE.keep one_below).keep hb))
    have HT := Lib.hid (fun w' => fitsP_any (programT x) ht w')
    clear hF hR hE hg hok3
    generalize programT x = t at *
    go_enter Tryz.func5, Tryz.ntmps5
    go_wp2_with fail
    refine C1.out.mono ?_
    rintro e w1 ⟨rfl, hb⟩
    rw [hok2]
    have hB := box_after hb
    obtain ⟨g0, g1, g2, g3, g4⟩ := box_raw hB
    have HB := Lib.hid hb
    clear hb hB
    go_wp2_with fail
    refine (C2.out _ HB.out).mono ?_
    rintro e w2 ⟨rfl, hb⟩
    have HB2 := Lib.hid (below_then one_below one_below.size (below_then HB.out HB.out.size hb))
    clear hb
    go_wp2_with fail
    refine (HT.out _).mono ?_
    rintro e w3 ⟨rfl, rfl⟩
    cases h6 : decide (65536 < t.size)
    · go_wp2_with fail
      go_ret2
      exact ⟨by simp only [ansT, cond_true, cond_false, h6]; try rfl, HB2.out⟩
    · go_wp2_with fail
      go_ret2
      exact ⟨by simp only [ansT, cond_true, h6]; try rfl, HB2.out⟩
set_option maxRecDepth 100000 in
set_option maxHeartbeats 4000000 in
theorem typeP3_any (x : T) (A : Option Addr) (c : Nat) (w : World) (hF : Fine x) (hR : Rd w x.list A c) (hE : Env w) :
    Calls Tryz.prog 9 #[nv x A c] w fun e w' => e = .returned (ansT (okT x) (typT 65 x)) ∧ Below w.heap.size w w' := by
  have C1 := Lib.hid (soundP_3 x A c (w.alloc (nbox x A c)) hF (hR.keep one_below) (hE.keep one_below))
  cases hok : okT x with
  | false =>
    have hok2 : (isTypeB x.kind && sndB x) = false := hok
    clear hF hR hE
    go_enter Tryz.func9, Tryz.ntmps9
    go_wp2_with fail
    refine C1.out.mono ?_
    rintro e w1 ⟨rfl, hb⟩
    rw [hok2]
    have HB := Lib.hid (box_below (box_after hb))
    clear hb
    go_wp2_with fail
    go_ret2
    exact ⟨rfl, HB.out⟩
  | true =>
    have hok2 : (isTypeB x.kind && sndB x) = true := hok
    have hok3 := hok2
    simp only [Bool.and_eq_true] at hok3
    have hg := snd_good hok3.2
    have ht := typ_le (d := 65) hF
    have C2 := Lib.hid (fun w' (hb : Below (w.alloc (nbox x A c)).heap.size (w.alloc (nbox x A c)) w') => typP_any 65 x A c w' hg hF ((hR.keep one_below).keep hb))
    have HT := Lib.hid (fun w' => fitsP_any (typT 65 x) ht w')
    clear hF hR hE hg hok3
    generalize typT 65 x = t at *
    go_enter Tryz.func9, Tryz.ntmps9
    go_wp2_with fail
    refine C1.out.mono ?_
    rintro e w1 ⟨rfl, hb⟩
    rw [hok2]
    have hB := box_after hb
    obtain ⟨g0, g1, g2, g3, g4⟩ := box_raw hB
    have HB := Lib.hid hb
    clear hb hB
    go_wp2_with fail
    refine (C2.out _ HB.out).mono ?_
    rintro e w2 ⟨rfl, hb⟩
    have HB2 := Lib.hid (below_then one_below one_below.size (below_then HB.out HB.out.size hb))
    clear hb
    go_wp2_with fail
    refine (HT.out _).mono ?_
    rintro e w3 ⟨rfl, rfl⟩
    cases h6 : decide (65536 < t.size)
    · go_wp2_with fail
      go_ret2
      exact ⟨by simp only [ansT, cond_true, cond_false, h6]; try rfl, HB2.out⟩
    · go_wp2_with fail
      go_ret2
      exact ⟨by simp only [ansT, cond_true, h6]; try rfl, HB2.out⟩
set_option maxRecDepth 100000 in
set_option maxHeartbeats 4000000 in
theorem exprP3_any (x : T) (A : Option Addr) (c : Nat) (w : World) (hF : Fine x) (hR : Rd w x.list A c) (hE : Env w) :
    Calls Tryz.prog 8 #[nv x A c] w fun e w' => e = .returned (ansT (okE x) (exprT 65 0 x)) ∧ Below w.heap.size w w' := by
  have C1 := Lib.hid (soundP_2 x A c (w.alloc (nbox x A c)) hF (hR.keep one_below) (hE.keep one_below))
  cases hok : okE x with
  | false =>
    have hok2 : (isExprB x.kind && sndB x) = false := hok
    clear hF hR hE
    go_enter Tryz.func8, Tryz.ntmps8
    go_wp2_with fail
    refine C1.out.mono ?_
    rintro e w1 ⟨rfl, hb⟩
    rw [hok2]
    have HB := Lib.hid (box_below (box_after hb))
    clear hb
    go_wp2_with fail
    go_ret2
    exact ⟨rfl, HB.out⟩
  | true =>
    have hok2 : (isExprB x.kind && sndB x) = true := hok
    have hok3 := hok2
    simp only [Bool.and_eq_true] at hok3
    have hg := snd_good hok3.2
    have ht := expr_le (n := 0) hg hF (by omega)
    have C2 := Lib.hid (fun w' (hb : Below (w.alloc (nbox x A c)).heap.size (w.alloc (nbox x A c)) w') => show Calls Tryz.prog 22 #[.pointer (some ⟨w'.heap.size, 0, none⟩), nv x A c] (w'.alloc (.cells #[.int .i64 0] 45)) _ from
      (printP 65).1 x 0 A c w'.heap.size (w'.alloc (.cells #[.int .i64 0] 45)) (by omega) hg hF (((hR.keep one_below).keep hb).keep one_below) ⟨pat0 (heap_alloc_new w' _), w', (hE.keep one_below).keep hb, Nat.le_refl _, one_below⟩)
    have HT := Lib.hid (fun w' => fitsP_any (exprT 65 0 x) ht w')
    clear hF hR hE hg hok3
    generalize exprT 65 0 x = t at *
    go_enter Tryz.func8, Tryz.ntmps8
    go_wp2_with fail
    refine C1.out.mono ?_
    rintro e w1 ⟨rfl, hb⟩
    rw [hok2]
    have hB := box_after hb
    obtain ⟨g0, g1, g2, g3, g4⟩ := box_raw (hB.alloc (by have := hB.size; rw [size_alloc] at this; omega) (.cells #[.int .i64 0] 45))
    have HB := Lib.hid hb
    clear hb hB
    go_wp2_with fail
    refine (C2.out _ HB.out).mono ?_
    rintro e w2 ⟨rfl, hb⟩
    have HB2 := Lib.hid (below_then one_below one_below.size (below_then HB.out HB.out.size (below_then one_below one_below.size hb)))
    clear hb
    go_wp2_with fail
    refine (HT.out _).mono ?_
    rintro e w3 ⟨rfl, rfl⟩
    cases h6 : decide (65536 < t.size)
    · go_wp2_with fail
      go_ret2
      exact ⟨by simp only [ansT, cond_true, cond_false, h6]; try rfl, HB2.out⟩
    · go_wp2_with fail
      go_ret2
      exact ⟨by simp only [ansT, cond_true, h6]; try rfl, HB2.out⟩
set_option maxRecDepth 100000 in
set_option maxHeartbeats 4000000 in
theorem writeR_p (x : T) (A : Option Addr) (c : Nat) (w : World) (hF : Fine x) (hR : Rd w x.list A c) :
    Calls Tryz.prog 7 #[nv x A c, .int .u8 112] w fun e w' => e = .returned (ansT (okP x) (programT x)) ∧ Below w.heap.size w w' := by
  have hC1 := soundR_p x A c (w.alloc (nbox x A c)) hF (hR.keep one_below)
  have C1 := Lib.hid hC1
  clear hC1
  cases hok : okP x with
  | false =>
    have hok2 : (x.kind == 1 && sndB x) = false := hok
    clear hF hR
    go_enter Tryz.func7, Tryz.ntmps7
    go_wp2_with fail
    refine C1.out.mono ?_
    rintro e w1 ⟨rfl, hb⟩
    rw [hok2]
    have HB := Lib.hid (box_below (box_after hb))
    clear hb
    go_wp2_with fail
    go_ret2
    exact ⟨rfl, HB.out⟩
  | true =>
    have hok2 : (x.kind == 1 && sndB x) = true := hok
    have hok3 := hok2
    simp only [Bool.and_eq_true] at hok3
    have hg := snd_good hok3.2
    have ht := prog_le (by simpa using hok3.1) hg hF
    have C2 := Lib.hid (fun w' (hb : Below (w.alloc (nbox x A c)).heap.size (w.alloc (nbox x A c)) w') => programR_any x A c w' (by simpa using hok3.1) hg hF ((hR.keep one_below).keep hb))
    clear hF hR hg hok3
    generalize programT x = t at *
    go_enter Tryz.func7, Tryz.ntmps7
    go_wp2_with fail
    refine C1.out.mono ?_
    rintro e w1 ⟨rfl, hb⟩
    rw [hok2]
    have hB := box_after hb
    obtain ⟨g0, g1, g2, g3, g4⟩ := box_raw hB
    have HB := Lib.hid hb
    clear hb hB
    go_wp2_with fail
    refine (C2.out _ HB.out).mono ?_
    rintro e w2 ⟨rfl, hb⟩
    have HB2 := Lib.hid (below_then one_below one_below.size (below_then HB.out HB.out.size hb))
    clear hb
    by_cases h6 : 65536 < t.size
    · have h6d : decide (65536 < t.size) = true := by simpa using h6
      go_wp2_with fail
      go_ret2
      exact ⟨by simp only [ansT, cond_true, h6d]; try rfl, HB2.out⟩
    · have h6d : decide (65536 < t.size) = false := by simpa using h6
      go_wp2_with fail
      go_ret2
      exact ⟨by simp only [ansT, cond_true, cond_false, h6d]; try rfl, HB2.out⟩
set_option maxRecDepth 100000 in
set_option maxHeartbeats 4000000 in
theorem writeR_e (x : T) (A : Option Addr) (c : Nat) (w : World) (hF : Fine x) (hR : Rd w x.list A c) :
    Calls Tryz.prog 7 #[nv x A c, .int .u8 101] w fun e w' => e = .returned (ansT (okE x) (exprT 65 0 x)) ∧ Below w.heap.size w w' := by
  have hC1 := soundR_s x A c 101 (w.alloc (nbox x A c)) rfl hF (hR.keep one_below)
  rw [sort_e] at hC1
  have C1 := Lib.hid hC1
  clear hC1
  cases hok : okE x with
  | false =>
    have hok2 : (isExprB x.kind && sndB x) = false := hok
    clear hF hR
    go_enter Tryz.func7, Tryz.ntmps7
    go_wp2_with fail
    refine C1.out.mono ?_
    rintro e w1 ⟨rfl, hb⟩
    rw [hok2]
    have HB := Lib.hid (box_below (box_after hb))
    clear hb
    go_wp2_with fail
    go_ret2
    exact ⟨rfl, HB.out⟩
  | true =>
    have hok2 : (isExprB x.kind && sndB x) = true := hok
    have hok3 := hok2
    simp only [Bool.and_eq_true] at hok3
    have hg := snd_good hok3.2
    have ht := expr_le (n := 0) hg hF (by omega)
    have C2 := Lib.hid (fun w' (hb : Below (w.alloc (nbox x A c)).heap.size (w.alloc (nbox x A c)) w') => show Calls Tryz.prog 19 #[nv x A c, .int .i64 0] w' _ from (printR 65).1 x 0 A c w' (by omega) hg hF ((hR.keep one_below).keep hb))
    clear hF hR hg hok3
    generalize exprT 65 0 x = t at *
    go_enter Tryz.func7, Tryz.ntmps7
    go_wp2_with fail
    refine C1.out.mono ?_
    rintro e w1 ⟨rfl, hb⟩
    rw [hok2]
    have hB := box_after hb
    obtain ⟨g0, g1, g2, g3, g4⟩ := box_raw hB
    have HB := Lib.hid hb
    clear hb hB
    go_wp2_with fail
    refine (C2.out _ HB.out).mono ?_
    rintro e w2 ⟨rfl, hb⟩
    have HB2 := Lib.hid (below_then one_below one_below.size (below_then HB.out HB.out.size hb))
    clear hb
    by_cases h6 : 65536 < t.size
    · have h6d : decide (65536 < t.size) = true := by simpa using h6
      go_wp2_with fail
      go_ret2
      exact ⟨by simp only [ansT, cond_true, h6d]; try rfl, HB2.out⟩
    · have h6d : decide (65536 < t.size) = false := by simpa using h6
      go_wp2_with fail
      go_ret2
      exact ⟨by simp only [ansT, cond_true, cond_false, h6d]; try rfl, HB2.out⟩
set_option maxRecDepth 100000 in
set_option maxHeartbeats 4000000 in
theorem writeR_t (x : T) (A : Option Addr) (c : Nat) (w : World) (hF : Fine x) (hR : Rd w x.list A c) :
    Calls Tryz.prog 7 #[nv x A c, .int .u8 116] w fun e w' => e = .returned (ansT (okT x) (typT 65 x)) ∧ Below w.heap.size w w' := by
  have hC1 := soundR_s x A c 116 (w.alloc (nbox x A c)) rfl hF (hR.keep one_below)
  rw [sort_t] at hC1
  have C1 := Lib.hid hC1
  clear hC1
  cases hok : okT x with
  | false =>
    have hok2 : (isTypeB x.kind && sndB x) = false := hok
    clear hF hR
    go_enter Tryz.func7, Tryz.ntmps7
    go_wp2_with fail
    refine C1.out.mono ?_
    rintro e w1 ⟨rfl, hb⟩
    rw [hok2]
    have HB := Lib.hid (box_below (box_after hb))
    clear hb
    go_wp2_with fail
    go_ret2
    exact ⟨rfl, HB.out⟩
  | true =>
    have hok2 : (isTypeB x.kind && sndB x) = true := hok
    have hok3 := hok2
    simp only [Bool.and_eq_true] at hok3
    have hg := snd_good hok3.2
    have ht := typ_le (d := 65) hF
    have C2 := Lib.hid (fun w' (hb : Below (w.alloc (nbox x A c)).heap.size (w.alloc (nbox x A c)) w') => typR_any 65 x A c w' hg hF ((hR.keep one_below).keep hb))
    clear hF hR hg hok3
    generalize typT 65 x = t at *
    go_enter Tryz.func7, Tryz.ntmps7
    go_wp2_with fail
    refine C1.out.mono ?_
    rintro e w1 ⟨rfl, hb⟩
    rw [hok2]
    have hB := box_after hb
    obtain ⟨g0, g1, g2, g3, g4⟩ := box_raw hB
    have HB := Lib.hid hb
    clear hb hB
    go_wp2_with fail
    refine (C2.out _ HB.out).mono ?_
    rintro e w2 ⟨rfl, hb⟩
    have HB2 := Lib.hid (below_then one_below one_below.size (below_then HB.out HB.out.size hb))
    clear hb
    by_cases h6 : 65536 < t.size
    · have h6d : decide (65536 < t.size) = true := by simpa using h6
      go_wp2_with fail
      go_ret2
      exact ⟨by simp only [ansT, cond_true, h6d]; try rfl, HB2.out⟩
    · have h6d : decide (65536 < t.size) = false := by simpa using h6
      go_wp2_with fail
      go_ret2
      exact ⟨by simp only [ansT, cond_true, cond_false, h6d]; try rfl, HB2.out⟩
def ansS (ok : Bool) (t : ByteArray) : ByteArray := cond ok (cond (decide (65536 < t.size)) ⟨#[]⟩ t) ⟨#[]⟩
def ansK (ok : Bool) (t : ByteArray) : Int := cond ok (cond (decide (65536 < t.size)) 6 0) 1
theorem ansT_eq (ok : Bool) (t : ByteArray) : ansT ok t = .tuple #[.string (ansS ok t), .int .i64 (ansK ok t)] := by
  unfold ansT ansS ansK
  cases ok
  · rfl
  · cases decide (65536 < t.size) <;> rfl
def seven : T := T.mk 31 ⟨#[]⟩ 7 0 []
theorem fine_seven : Fine seven := ⟨by simp [seven, T.wf, T.wfs], by simp [seven, T.bulk, T.bulks, ba_mk]⟩
theorem ok_seven : okE seven = true := by decide +kernel
theorem txt_seven : exprT 65 0 seven = ⟨#[55]⟩ := by
  show (⟨(Lib.decDigits 7).toArray⟩ : ByteArray) = _
  rw [show Lib.decDigits 7 = [55] by decide +kernel]
theorem ans_seven : ansT (okE seven) (exprT 65 0 seven) = .tuple #[.string ⟨#[55]⟩, .int .i64 0] := by rw [ok_seven, txt_seven]; rfl
theorem binds_star : bindsT ⟨#[42]⟩ = 5 := by decide +kernel
set_option maxRecDepth 100000 in
set_option maxHeartbeats 4000000 in
theorem answersP_any (w : World) (hE : Env w) : Calls Tryz.prog 10 #[] w fun e w' => e = .returned (.bool true) ∧ Below w.heap.size w w' := by
  have h1 := exprP3_any seven none 0 w fine_seven (Rd.nil w) hE
  rw [ans_seven] at h1
  have C1 := Lib.hid h1
  have C2 := Lib.hid (fun w' (hb : Below w.heap.size w w') => binds_star ▸ bindsP_any ⟨#[42]⟩ w' (hE.keep hb))
  clear h1 hE
  go_enter Tryz.func10, Tryz.ntmps10
  go_wp2_with fail
  refine C1.out.mono ?_
  rintro e w1 ⟨rfl, hb⟩
  have HB := Lib.hid hb
  clear hb
  go_wp2_with fail
  refine (C2.out _ HB.out).mono ?_
  rintro e w2 ⟨rfl, rfl⟩
  go_wp2_with fail
  go_ret
  exact ⟨rfl, HB.out⟩

set_option maxRecDepth 100000 in
set_option maxHeartbeats 4000000 in
/-- PrintTexts at a tree that is not too large: true. -/
theorem law3_any (x : T) (A : Option Addr) (c : Nat) (w : World) (hF : Fine x) (hR : Rd w x.list A c) (hE : Env w) :
    Calls Tryz.prog 3 #[nv x A c] w fun e w' => e = .returned (.bool true) ∧ Below w.heap.size w w' := by
  have hW : Below w.heap.size w (w.alloc (nbox x A c)) := one_below
  have CO := Lib.hid (fun w' (hb : Below w.heap.size w w') => ownR_any x.size x A c w' (Nat.le_refl _) hF.size (hR.keep hb))
  have CT := Lib.hid (fun A' c' w' (hb : Below w.heap.size w w') (hr : Rd w' x.list A' c') => (ansT_eq (okP x) (programT x) ▸ textP3_any x A' c' w' hF hr (hE.keep hb)))
  have CE := Lib.hid (fun A' c' w' (hb : Below w.heap.size w w') (hr : Rd w' x.list A' c') => (ansT_eq (okE x) (exprT 65 0 x) ▸ exprP3_any x A' c' w' hF hr (hE.keep hb)))
  have CY := Lib.hid (fun A' c' w' (hb : Below w.heap.size w w') (hr : Rd w' x.list A' c') => (ansT_eq (okT x) (typT 65 x) ▸ typeP3_any x A' c' w' hF hr (hE.keep hb)))
  have RP := Lib.hid (fun w' (hb : Below w.heap.size w w') => (ansT_eq (okP x) (programT x) ▸ writeR_p x A c w' hF (hR.keep hb)))
  have RE := Lib.hid (fun w' (hb : Below w.heap.size w w') => (ansT_eq (okE x) (exprT 65 0 x) ▸ writeR_e x A c w' hF (hR.keep hb)))
  have RT := Lib.hid (fun w' (hb : Below w.heap.size w w') => (ansT_eq (okT x) (typT 65 x) ▸ writeR_t x A c w' hF (hR.keep hb)))
  have CA := Lib.hid (fun w' (hb : Below w.heap.size w w') => answersP_any w' (hE.keep hb))
  have HW := Lib.hid hW
  clear hF hR hE hW
  generalize ansS (okP x) (programT x) = s1 at *
  generalize ansK (okP x) (programT x) = k1 at *
  generalize ansS (okE x) (exprT 65 0 x) = s2 at *
  generalize ansK (okE x) (exprT 65 0 x) = k2 at *
  generalize ansS (okT x) (typT 65 x) = s3 at *
  generalize ansK (okT x) (typT 65 x) = k3 at *
  go_enter Tryz.func3, Tryz.ntmps3
  go_wp2_with fail
  refine (CO.out _ HW.out).mono ?_
  rintro e wa0 ⟨⟨A0, c0, rfl, hrd⟩, hb⟩
  have HA0 := Lib.hid (show Below (w.heap.size + 1) (w.alloc (nbox x A c)) wa0 from box_after hb)
  have HR0 := Lib.hid (hrd wa0 (fun _ _ _ => rfl))
  clear hrd hb
  go_wp2_with fail
  refine (CT.out A0 c0 _ (box_below HA0.out) HR0.out).mono ?_
  rintro e wb0 ⟨rfl, hb⟩
  have HB0 := Lib.hid (below_then HA0.out (box_size HA0.out) hb)
  obtain ⟨g0, g1, g2, g3, g4⟩ := box_raw HB0.out
  clear hb
  go_wp2_with fail
  refine (RP.out _ (box_below HB0.out)).mono ?_
  rintro e wc0 ⟨rfl, hb⟩
  have HC0 := Lib.hid (below_then HB0.out (box_size HB0.out) hb)
  clear hb g0 g1 g2 g3 g4
  obtain ⟨g0, g1, g2, g3, g4⟩ := box_raw HC0.out
  go_wp2_with fail
  refine (CO.out _ (box_below HC0.out)).mono ?_
  rintro e wa1 ⟨⟨A1, c1, rfl, hrd⟩, hb⟩
  have HA1 := Lib.hid (show Below (w.heap.size + 1) (w.alloc (nbox x A c)) wa1 from below_then HC0.out (box_size HC0.out) hb)
  have HR1 := Lib.hid (hrd wa1 (fun _ _ _ => rfl))
  clear hrd hb
  go_wp2_with fail
  refine (CE.out A1 c1 _ (box_below HA1.out) HR1.out).mono ?_
  rintro e wb1 ⟨rfl, hb⟩
  have HB1 := Lib.hid (below_then HA1.out (box_size HA1.out) hb)
  obtain ⟨g0, g1, g2, g3, g4⟩ := box_raw HB1.out
  clear hb
  go_wp2_with fail
  refine (RE.out _ (box_below HB1.out)).mono ?_
  rintro e wc1 ⟨rfl, hb⟩
  have HC1 := Lib.hid (below_then HB1.out (box_size HB1.out) hb)
  clear hb g0 g1 g2 g3 g4
  obtain ⟨g0, g1, g2, g3, g4⟩ := box_raw HC1.out
  go_wp2_with fail
  refine (CO.out _ (box_below HC1.out)).mono ?_
  rintro e wa2 ⟨⟨A2, c2, rfl, hrd⟩, hb⟩
  have HA2 := Lib.hid (show Below (w.heap.size + 1) (w.alloc (nbox x A c)) wa2 from below_then HC1.out (box_size HC1.out) hb)
  have HR2 := Lib.hid (hrd wa2 (fun _ _ _ => rfl))
  clear hrd hb
  go_wp2_with fail
  refine (CY.out A2 c2 _ (box_below HA2.out) HR2.out).mono ?_
  rintro e wb2 ⟨rfl, hb⟩
  have HB2 := Lib.hid (below_then HA2.out (box_size HA2.out) hb)
  obtain ⟨g0, g1, g2, g3, g4⟩ := box_raw HB2.out
  clear hb
  go_wp2_with fail
  refine (RT.out _ (box_below HB2.out)).mono ?_
  rintro e wc2 ⟨rfl, hb⟩
  have HC2 := Lib.hid (below_then HB2.out (box_size HB2.out) hb)
  clear hb g0 g1 g2 g3 g4
  obtain ⟨g0, g1, g2, g3, g4⟩ := box_raw HC2.out
  go_wp2_with fail
  refine (CA.out _ (box_below HC2.out)).mono ?_
  rintro e wz ⟨rfl, hb⟩
  have HZ := Lib.hid (below_then HC2.out (box_size HC2.out) hb)
  clear hb
  go_wp2_with fail
  go_ret
  exact ⟨rfl, box_below HZ.out⟩
end Go.Proofs.YtoemljgkofhhpaaGreatDoor
