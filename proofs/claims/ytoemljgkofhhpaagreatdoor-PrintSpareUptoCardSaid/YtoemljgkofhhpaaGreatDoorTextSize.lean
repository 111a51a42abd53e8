import Derived.Test.YtoemljgkofhhpaaGreatDoorText
namespace Go.Proofs.YtoemljgkofhhpaaGreatDoor
open Go.RowKit

theorem catT_size (ts : List ByteArray) : (catT ts).size = (ts.map (·.size)).sum := by
  induction ts with
  | nil => rfl
  | cons a l ih => simp only [catT, ba_size, ih, List.map_cons, List.sum_cons]
theorem joinT_size (ts : List ByteArray) : (joinT ts).size ≤ (ts.map fun t => t.size + 2).sum := by
  cases ts with
  | nil => exact Nat.le_refl _
  | cons a l =>
    simp only [joinT, ba_size, catT_size, List.map_map, List.map_cons, List.sum_cons]
    have : ((fun x => x.size) ∘ fun b : ByteArray => (⟨#[44, 32]⟩ : ByteArray) ++ b) = fun t => t.size + 2 := by
      funext b; simp only [Function.comp, ba_size]; rw [ba_mk]; simp; omega
    rw [this]; omega
theorem sum_bulk {g : T → Nat} {l : List T} (h : ∀ y ∈ l, g y ≤ 1000 * y.bulk) : (l.map g).sum ≤ 1000 * T.bulks l := by
  induction l with
  | nil => simp [T.bulks]
  | cons y l ih =>
    have h1 := h y (by simp)
    have h2 := ih (fun z hz => h z (by simp [hz]))
    simp only [List.map_cons, List.sum_cons, T.bulks]; omega
theorem cat_bulk {f : T → ByteArray} {l : List T} (h : ∀ y ∈ l, (f y).size ≤ 1000 * y.bulk) : (catT (l.map f)).size ≤ 1000 * T.bulks l := by
  rw [catT_size, List.map_map]; exact sum_bulk h
theorem join_bulk {f : T → ByteArray} {l : List T} (h : ∀ y ∈ l, (f y).size + 2 ≤ 1000 * y.bulk) : (joinT (l.map f)).size ≤ 1000 * T.bulks l := by
  refine Nat.le_trans (joinT_size _) ?_
  rw [List.map_map]; exact sum_bulk h
/-- Not too long for its tree. -/
def Short (f : T → ByteArray) (y : T) : Prop := (f y).size + 300 ≤ 1000 * y.bulk
theorem ch_bulk {f0 f1 f2 : T → ByteArray} {l : List T} (h0 : ∀ y ∈ l, Short f0 y) (h1 : ∀ y ∈ l, Short f1 y) (h2 : ∀ y ∈ l, Short f2 y) :
    (ch f0 l 0).size + (ch f1 l 1).size + (ch f2 l 2).size ≤ 1000 * T.bulks l := by
  unfold Short at *
  have e : (⟨#[]⟩ : ByteArray).size = 0 := rfl
  match l, h0, h1, h2 with
  | [], _, _, _ => simp [ch, e]
  | [a], h0, _, _ => have := h0 a (by simp); simp [ch, T.bulks, e]; omega
  | [a, b], h0, h1, _ =>
    have := h0 a (by simp)
    have := h1 b (by simp)
    simp [ch, T.bulks, e]; omega
  | a :: b :: c :: l, h0, h1, h2 =>
    have := h0 a (by simp)
    have := h1 b (by simp)
    have := h2 c (by simp)
    simp [ch, T.bulks]; omega
theorem ch_one {f : T → ByteArray} {l : List T} (h : ∀ y ∈ l, Short f y) : (ch f l 0).size ≤ 1000 * T.bulks l := by
  have := ch_bulk h h h; omega
theorem ch_two {f0 f1 : T → ByteArray} {l : List T} (h0 : ∀ y ∈ l, Short f0 y) (h1 : ∀ y ∈ l, Short f1 y) : (ch f0 l 0).size + (ch f1 l 1).size ≤ 1000 * T.bulks l := by
  have := ch_bulk h0 h1 h1; omega
theorem ch_rest {f0 f1 : T → ByteArray} {l : List T} (h0 : ∀ y ∈ l, Short f0 y) (h1 : ∀ y ∈ l, Short f1 y) : (ch f0 l 0).size + (joinT (l.tail.map f1)).size ≤ 1000 * T.bulks l := by
  cases l with
  | nil => simp [ch, joinT, T.bulks, ba_mk]
  | cons a l =>
    have h := h0 a (by simp)
    have h2 := join_bulk (f := f1) (l := l) (fun y hy => by have := h1 y (by simp [hy]); unfold Short at this; omega)
    unfold Short at h
    simp only [List.tail_cons, T.bulks]
    simp [ch]; omega
theorem T.bulks_append (l m : List T) : T.bulks (l ++ m) = T.bulks l + T.bulks m := by
  induction l with
  | nil => simp [T.bulks]
  | cons a l ih => simp only [List.cons_append, T.bulks, ih]; omega
theorem ch_last {f0 f1 : T → ByteArray} {l : List T} (h0 : ∀ y ∈ l, Short f0 y) (h1 : ∀ y ∈ l, Short f1 y) : (joinT ((l.take (l.length - 1)).map f0)).size + (ch f1 l (l.length - 1)).size ≤ 1000 * T.bulks l := by
  by_cases hl : l.length = 0
  · have : l = [] := by simpa using hl
    subst this
    simp [ch, joinT, T.bulks, ba_mk]
  · obtain ⟨y, hy⟩ : ∃ y, l[l.length - 1]? = some y := ⟨l[l.length - 1]'(by omega), by simp⟩
    rw [ch_at hy]
    have h2 := join_bulk (f := f0) (l := l.take (l.length - 1)) (fun z hz => by have := h0 z (List.mem_of_mem_take hz); unfold Short at this; omega)
    have h3 := h1 y (List.mem_of_getElem? hy)
    have h4 : T.bulks (l.take (l.length - 1 + 1)) = T.bulks (l.take (l.length - 1)) + y.bulk := by
      rw [List.take_add_one, hy, T.bulks_append]; simp [T.bulks]
    rw [show l.length - 1 + 1 = l.length by omega, List.take_length] at h4
    unfold Short at h3
    omega
theorem wrapT_size (b : Bool) (t : ByteArray) : (wrapT b t).size ≤ t.size + 2 := by
  cases b
  · simp [wrapT]
  · simp [wrapT, ba_mk]; omega
theorem short_wrap {f : T → ByteArray} {g : T → Bool} {y : T} (h : (f y).size + 302 ≤ 1000 * y.bulk) : Short (fun y => wrapT (g y) (f y)) y := by
  have := wrapT_size (g y) (f y)
  unfold Short; dsimp only; omega
theorem bulk_pos (x : T) : 1 ≤ x.bulk := by rw [T.bulk_eq]; omega

/-- Types: shorter still. -/
theorem typT_short (d : Nat) : ∀ x, (typT d x).size + 400 ≤ 1000 * x.bulk := by
  induction d with
  | zero => intro x; have := bulk_pos x; show (0 : Nat) + 400 ≤ _; omega
  | succ d ih =>
    intro x
    have hb := T.bulk_eq x
    have hs : ∀ y ∈ x.list, Short (typT d) y := fun y _ => by have := ih y; unfold Short; omega
    have h1 := ch_one hs
    have h2 := ch_last hs hs
    have h3 := join_bulk (f := typT d) (l := x.list) (fun y _ => by have := ih y; omega)
    show (typF (typT d) x).size + 400 ≤ _
    unfold typF
    repeat' split
    all_goals (try simp only [ba_size, ba_mk, List.size_toArray, List.length_cons, List.length_nil]
               omega)
theorem fieldT_short (d : Nat) (x : T) : (fieldT (typT d) x).size + 400 ≤ 1000 * x.bulk := by
  have hb := T.bulk_eq x
  have h1 := ch_one (l := x.list) (f := typT d) (fun y _ => by have := typT_short d y; unfold Short; omega)
  simp only [fieldT, ba_size, ba_mk, List.size_toArray, List.length_cons, List.length_nil]; omega
theorem headT_short (d : Nat) (p q : T) : (headT (typT d) p q).size + 600 ≤ 1000 * p.bulk + 1000 * q.bulk := by
  have hp := T.bulk_eq p
  have hq := T.bulk_eq q
  have h1 := ch_one (l := q.list) (f := typT d) (fun y _ => by have := typT_short d y; unfold Short; omega)
  have h2 := join_bulk (l := p.list) (f := fieldT (typT d)) (fun y _ => by have := fieldT_short d y; omega)
  unfold headT
  cases q.list.length == 1 <;> simp only [cond_true, cond_false, ba_size, ba_mk, List.size_toArray, List.length_cons, List.length_nil] <;> omega

theorem goodB_in {d : Nat} {x y : T} (h : goodB d x = true) (hy : y ∈ x.list) : goodB d y = true := by
  cases d with
  | zero => simp [goodB] at h
  | succ d =>
    rw [show goodB (d + 1) x = (labelB x && (childrenB x && x.list.all (goodB d))) from rfl] at h
    simp only [Bool.and_eq_true, List.all_eq_true] at h
    exact goodB_mono d y (h.2.2 y hy)
theorem goodB_down {d : Nat} {x y : T} (h : goodB (d + 1) x = true) (hy : y ∈ x.list) : goodB d y = true := by
  rw [show goodB (d + 1) x = (labelB x && (childrenB x && x.list.all (goodB d))) from rfl] at h
  simp only [Bool.and_eq_true, List.all_eq_true] at h
  exact h.2.2 y hy
theorem goodB_kids {d : Nat} {x : T} (h : goodB d x = true) : childrenB x = true := by
  cases d with
  | zero => simp [goodB] at h
  | succ d =>
    rw [show goodB (d + 1) x = (labelB x && (childrenB x && x.list.all (goodB d))) from rfl] at h
    simp only [Bool.and_eq_true] at h
    exact h.2.1
theorem goodB_label {d : Nat} {x : T} (h : goodB d x = true) : labelB x = true := by
  cases d with
  | zero => simp [goodB] at h
  | succ d =>
    rw [show goodB (d + 1) x = (labelB x && (childrenB x && x.list.all (goodB d))) from rfl] at h
    simp only [Bool.and_eq_true] at h
    exact h.1
theorem wf_in {x y : T} (h : x.wf) (hy : y ∈ x.list) : y.wf := by
  obtain ⟨i, hi⟩ := List.getElem?_of_mem hy
  exact T.wf_at ((T.wf_eq x).1 h).2.2 hi
theorem kindsB_length {l : List T} {ws : List Int} (h : kindsB l ws = true) : l.length = ws.length := by
  by_cases e : l.length = ws.length
  · exact e
  · rw [kindsB_len e] at h; cases h
theorem headC_rest {bl : T → ByteArray} {l : List T} (d : Nat) (h : ∀ y ∈ l, Short bl y) : (headC (typT d) l).size + (ch bl l 2).size ≤ 1000 * T.bulks l := by
  have e : (⟨#[]⟩ : ByteArray).size = 0 := rfl
  match l, h with
  | [], _ => simp [headC, ch, e]
  | [a], _ => simp [headC, ch, e]
  | [a, b], _ => have := headT_short d a b; simp [headC, ch, e, T.bulks]; omega
  | a :: b :: c :: l, h =>
    have := headT_short d a b
    have h3 := h c (by simp)
    unfold Short at h3
    simp [headC, ch, T.bulks]; omega
theorem tabsT_size (n : Nat) : (tabsT n).size = n := by simp [tabsT, ba_mk]
theorem caseF_short (d n : Nat) (c : T) (hg : goodB d c = true) (hk : 43 ≤ c.kind ∧ c.kind ≤ 45) (hn : n ≤ 200)
    (he : ∀ y ∈ c.list, (exprT d n y).size + 600 ≤ 1000 * y.bulk) (hs : ∀ b ∈ c.list, ∀ y ∈ b.list, (stmtT d (n + 1) y).size + 600 ≤ 1000 * y.bulk) :
    (caseF n (exprT d n) (stmtT d (n + 1)) c).size + 100 ≤ 1000 * c.bulk := by
  have hb := T.bulk_eq c
  have hch := goodB_kids hg
  have hl : ∀ b ∈ c.list, Short (fun b => linesF (n + 1) (stmtT d (n + 1)) b.list) b := fun b hb2 => by
    have h1 : (linesF (n + 1) (stmtT d (n + 1)) b.list).size ≤ 1000 * T.bulks b.list := cat_bulk (f := fun y => tabsT (n + 1) ++ stmtT d (n + 1) y ++ (⟨#[10]⟩ : ByteArray)) (l := b.list) (fun y hy => by
      have := hs b hb2 y hy
      simp only [ba_size, ba_mk, tabsT_size, List.size_toArray, List.length_cons, List.length_nil]; omega)
    have h2 := T.bulk_eq b
    show (linesF (n + 1) (stmtT d (n + 1)) b.list).size + 300 ≤ _; omega
  have hE : ∀ y ∈ c.list, Short (exprT d n) y := fun y hy => by have := he y hy; unfold Short; omega
  have hW : ∀ y ∈ c.list, Short (fun y => wrapT (twoB y) (exprT d n y)) y := fun y hy => short_wrap (by have := he y hy; omega)
  have hkk : c.kind = 43 ∨ c.kind = 44 ∨ c.kind = 45 := by omega
  unfold caseF branchF
  rcases hkk with h | h | h
  · have hlen : c.list.length = 2 := by simp [childrenB, h] at hch; exact kindsB_length hch
    have h3 := ch_two (l := c.list) hW hl
    rw [hlen]
    simp only [Nat.reduceSub, h, show ¬ (43 : Int) = 45 by decide, show ¬ (43 : Int) = 44 by decide, if_false]
    cases emptyB c.text <;> simp only [cond_true, cond_false, ba_size, ba_mk, tabsT_size, List.size_toArray, List.length_cons, List.length_nil] <;> omega
  · have hlen : c.list.length = 3 := by simp [childrenB, h] at hch; exact kindsB_length hch
    have h3 := ch_bulk (l := c.list) hE hE hl
    rw [hlen]
    simp only [Nat.reduceSub, h, show ¬ (44 : Int) = 45 by decide, if_false, if_true, ba_size, ba_mk, tabsT_size, List.size_toArray, List.length_cons, List.length_nil]; omega
  · have hlen : c.list.length = 1 := by simp [childrenB, h] at hch; exact kindsB_length hch
    have h3 := ch_one (l := c.list) hl
    rw [hlen]
    simp only [Nat.reduceSub, h, if_true, ba_size, ba_mk, tabsT_size, List.size_toArray, List.length_cons, List.length_nil]; omega
set_option maxHeartbeats 1000000 in
theorem txt_short (d : Nat) : ∀ (x : T) (n : Nat), goodB d x = true → x.wf → n + d ≤ 200 →
    (exprT d n x).size + 600 ≤ 1000 * x.bulk ∧ (blockT d n x).size + 600 ≤ 1000 * x.bulk ∧ (stmtT d n x).size + 600 ≤ 1000 * x.bulk := by
  induction d with
  | zero => intro x n h; simp [goodB] at h
  | succ d ih =>
    intro x n hg hw hn
    have hb := T.bulk_eq x
    have hE0 : ∀ y ∈ x.list, (exprT d n y).size + 600 ≤ 1000 * y.bulk := fun y hy => (ih y n (goodB_down hg hy) (wf_in hw hy) (by omega)).1
    have hE : ∀ y ∈ x.list, Short (exprT d n) y := fun y hy => by have := hE0 y hy; unfold Short; omega
    have hB : ∀ y ∈ x.list, Short (blockT d n) y := fun y hy => by have := (ih y n (goodB_down hg hy) (wf_in hw hy) (by omega)).2.1; unfold Short; omega
    have hS : ∀ y ∈ x.list, Short (stmtT d n) y := fun y hy => by have := (ih y n (goodB_down hg hy) (wf_in hw hy) (by omega)).2.2; unfold Short; omega
    have hT : ∀ y ∈ x.list, Short (typT d) y := fun y _ => by have := typT_short d y; unfold Short; omega
    have hP : ∀ y ∈ x.list, Short (partT (typT d) (exprT d n)) y := fun y hy => by
      have h1 := hT y hy
      have h2 := hE y hy
      unfold Short partT at *
      split <;> omega
    have hW : ∀ g : T → Bool, ∀ y ∈ x.list, Short (fun y => wrapT (g y) (exprT d n y)) y := fun g y hy => short_wrap (by have := hE0 y hy; omega)
    have hlines : (linesF (n + 1) (stmtT d (n + 1)) x.list).size ≤ 1000 * T.bulks x.list :=
      cat_bulk (f := fun y => tabsT (n + 1) ++ stmtT d (n + 1) y ++ (⟨#[10]⟩ : ByteArray)) (l := x.list) (fun y hy => by
        have := (ih y (n + 1) (goodB_down hg hy) (wf_in hw hy) (by omega)).2.2
        simp only [ba_size, ba_mk, tabsT_size, List.size_toArray, List.length_cons, List.length_nil]; omega)
    have hblock : (blockF n (stmtT d (n + 1)) x).size + 600 ≤ 1000 * x.bulk := by
      simp only [blockF, ba_size, ba_mk, tabsT_size, List.size_toArray, List.length_cons, List.length_nil]; omega
    refine ⟨?_, hblock, ?_⟩
    · have e1 := ch_one (l := x.list) (hW twoB)
      have e2 := ch_two (l := x.list) (hW fun y => twoB y && decide (bindsT y.text < bindsT x.text)) (hW fun y => twoB y && decide (bindsT y.text ≤ bindsT x.text))
      have e3 := ch_rest (l := x.list) (hW stemB) hP
      have e4 := ch_one (l := x.list) (hW stemB)
      have e5 := join_bulk (l := x.list) (f := partT (typT d) (exprT d n)) (fun y hy => by have := hP y hy; unfold Short at this; omega)
      have e6 := headC_rest (l := x.list) d hB
      have e7 := ch_two (l := x.list) hT hE
      have e8 : (digT x.num.toNat).size ≤ 20 := by
        have h := (T.wf_eq x).1 hw
        have := digT_size (u := x.num.toNat) (by omega)
        simpa [digT, ba_mk] using this
      show (exprF (typT d) (exprT d n) (blockT d n) x).size + 600 ≤ _
      unfold exprF
      by_cases k33 : x.kind = 33
      · cases h : x.list.length == 1 <;> simp only [k33, show ¬ (33 : Int) = 31 by decide, show ¬ (33 : Int) = 32 by decide, if_false, if_true, cond_true, cond_false, ba_size, ba_mk, List.size_toArray, List.length_cons, List.length_nil] <;> omega
      · by_cases k32 : x.kind = 32
        · cases h : x.num == 1 <;> simp only [k32, show ¬ (32 : Int) = 31 by decide, if_false, if_true, cond_true, cond_false, ba_mk, List.size_toArray, List.length_cons, List.length_nil] <;> omega
        · simp only [k33, k32, if_false]
          repeat' split
          all_goals (try simp only [ba_size, ba_mk, List.size_toArray, List.length_cons, List.length_nil]
                     omega)
    · have e1 := ch_one (l := x.list) hE
      have e2 := ch_one (l := x.list) hT
      have e3 := ch_two (l := x.list) hE hE
      have e4 := ch_bulk (l := x.list) (hW T.lits) hB hS
      have e5 := ch_two (l := x.list) (hW T.lits) hB
      show (stmtF n (typT d) (exprT d n) (blockT d n) (stmtT d n) (stmtT d (n + 1)) x).size + 600 ≤ _
      unfold stmtF
      by_cases k20 : x.kind = 20
      · rw [if_pos k20]
        exact hblock
      rw [if_neg k20]
      by_cases k21 : x.kind = 21
      · rw [if_pos k21]
        simp only [ba_size, ba_mk, List.size_toArray, List.length_cons, List.length_nil]; omega
      rw [if_neg k21]
      by_cases k22 : x.kind = 22
      · rw [if_pos k22]
        simp only [ba_size, ba_mk, List.size_toArray, List.length_cons, List.length_nil]; omega
      rw [if_neg k22]
      by_cases k23 : x.kind = 23
      · rw [if_pos k23]
        simp only [ba_size, ba_mk, List.size_toArray, List.length_cons, List.length_nil]; omega
      rw [if_neg k23]
      by_cases k25 : x.kind = 25
      · rw [if_pos k25]
        cases x.list.length == 3
        · rw [cond_false]; simp only [ba_size, ba_mk, List.size_toArray, List.length_cons, List.length_nil]; omega
        · rw [cond_true]; simp only [ba_size, ba_mk, List.size_toArray, List.length_cons, List.length_nil]; omega
      rw [if_neg k25]
      by_cases k26 : x.kind = 26
      · rw [if_pos k26]
        simp only [ba_size, ba_mk, List.size_toArray, List.length_cons, List.length_nil]; omega
      rw [if_neg k26]
      by_cases k27 : x.kind = 27
      · rw [if_pos k27]
        cases x.num == 1
        · rw [cond_false]; simp only [ba_mk, List.size_toArray, List.length_cons, List.length_nil]; omega
        · rw [cond_true]; simp only [ba_mk, List.size_toArray, List.length_cons, List.length_nil]; omega
      rw [if_neg k27]
      by_cases k28 : x.kind = 28
      · rw [if_pos k28]
        cases x.list.length == 0
        · rw [cond_false]; simp only [ba_size, ba_mk, List.size_toArray, List.length_cons, List.length_nil]; omega
        · rw [cond_true]; simp only [ba_mk, List.size_toArray, List.length_cons, List.length_nil]; omega
      rw [if_neg k28]
      by_cases k29 : x.kind = 29
      · rw [if_pos k29]
        cases x.num == 1
        · rw [cond_false]; simp only [ba_size, ba_mk, List.size_toArray, List.length_cons, List.length_nil]; omega
        · rw [cond_true]; simp only [ba_size, ba_mk, List.size_toArray, List.length_cons, List.length_nil]; omega
      rw [if_neg k29]
      by_cases k41 : x.kind = 41
      · rw [if_pos k41]
        simp only [ba_size, ba_mk, List.size_toArray, List.length_cons, List.length_nil]; omega
      rw [if_neg k41]
      by_cases k42 : x.kind = 42
      · rw [if_pos k42]
        have hch := goodB_kids hg
        simp [childrenB, k42] at hch
        have e6 := cat_bulk (l := x.list) (f := caseF n (exprT d n) (stmtT d (n + 1))) (fun c hc => by
          have hk := hch.2
          simp only [allB, List.all_eq_true] at hk
          have hk := hk c hc
          have := caseF_short d n c (goodB_down hg hc) (by simpa using hk) (by omega) (fun y hy => (ih y n (goodB_in (goodB_down hg hc) hy) (wf_in (wf_in hw hc) hy) (by omega)).1)
            (fun b hb y hy => (ih y (n + 1) (goodB_in (goodB_in (goodB_down hg hc) hb) hy) (wf_in (wf_in (wf_in hw hc) hb) hy) (by omega)).2.2)
          omega)
        simp only [ba_size, ba_mk, tabsT_size, List.size_toArray, List.length_cons, List.length_nil]
        omega
      rw [if_neg k42]
      omega
end Go.Proofs.YtoemljgkofhhpaaGreatDoor
