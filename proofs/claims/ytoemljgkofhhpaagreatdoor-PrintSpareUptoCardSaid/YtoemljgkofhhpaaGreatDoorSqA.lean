import Derived.Test.YtoemljgkofhhpaaGreatDoorText
import Derived.Lib.TrimUEq
import Derived.Lib.TrimAscii
import Derived.Test.YtoemljgkofhhpaaGreatDoorPgA
import Derived.Test.YtoemljgkofhhpaaGreatDoorNamesP
import Derived.Test.YtoemljgkofhhpaaGreatDoorOwn
import Derived.Deep.RegionHeld3
namespace Go.Proofs.YtoemljgkofhhpaaGreatDoor
open Go.RowKit

/-! The text of a plain expression as pieces. -/
/-- A piece: a name, a number or a flag (k: its token's kind), an operator of one, one of two, the brackets, the dot. -/
inductive Pc where
  | atom (k : Int) (s : ByteArray)
  | un (s : ByteArray)
  | bin (s : ByteArray)
  | lp
  | rp
  | dot
/-- Where a reader stands: ahead of an operand, behind one, behind a dot. -/
inductive St where
  | a
  | b
  | d
  deriving DecidableEq
def nxt : St → Pc → Option St
  | .a, .atom _ _ => some .b
  | .a, .un _ => some .a
  | .a, .lp => some .a
  | .b, .rp => some .b
  | .b, .bin _ => some .a
  | .b, .dot => some .d
  | .d, .atom k _ => if k = 1 then some .b else none
  | _, _ => none
def runS : St → List Pc → Option St
  | s, [] => some s
  | s, p :: l => (nxt s p).bind fun s' => runS s' l
theorem runS_append (s : St) (l m : List Pc) : runS s (l ++ m) = (runS s l).bind fun s' => runS s' m := by
  induction l generalizing s with
  | nil => rfl
  | cons p l ih =>
    simp only [List.cons_append, runS]
    cases nxt s p with
    | none => rfl
    | some s' => simp [ih]
/-- How deep in brackets; none: a bracket is shut that was not opened. -/
def dep : Nat → List Pc → Option Nat
  | n, [] => some n
  | n, .lp :: l => dep (n + 1) l
  | 0, .rp :: _ => none
  | n + 1, .rp :: l => dep n l
  | n, .atom _ _ :: l => dep n l
  | n, .un _ :: l => dep n l
  | n, .bin _ :: l => dep n l
  | n, .dot :: l => dep n l
theorem dep_append (n : Nat) (l m : List Pc) : dep n (l ++ m) = (dep n l).bind fun k => dep k m := by
  induction l generalizing n with
  | nil => rfl
  | cons p l ih =>
    cases p <;> simp only [List.cons_append, dep, ih]
    cases n <;> simp only [dep, ih, Option.bind_none]
theorem dep_more {n k : Nat} {l : List Pc} (h : dep n l = some k) (j : Nat) : dep (n + j) l = some (k + j) := by
  induction l generalizing n with
  | nil => simp [dep] at h ⊢; omega
  | cons p l ih =>
    cases p with
    | rp =>
      cases n with
      | zero => simp [dep] at h
      | succ n =>
        rw [show n + 1 + j = n + j + 1 from by omega]
        simp only [dep] at h ⊢
        exact ih h
    | lp =>
      simp only [dep] at h ⊢
      rw [show n + j + 1 = n + 1 + j from by omega]; exact ih h
    | _ => simp only [dep] at h ⊢; exact ih h
/-- How many brackets are opened. -/
def lps : List Pc → Nat
  | [] => 0
  | .lp :: l => lps l + 1
  | _ :: l => lps l
theorem lps_append (l m : List Pc) : lps (l ++ m) = lps l + lps m := by
  induction l with
  | nil => simp [lps]
  | cons p l ih => cases p <;> simp only [List.cons_append, lps, ih]; omega
def rend : Pc → ByteArray
  | .atom _ s => s
  | .un s => s
  | .bin s => ⟨#[32]⟩ ++ s ++ ⟨#[32]⟩
  | .lp => ⟨#[40]⟩
  | .rp => ⟨#[41]⟩
  | .dot => ⟨#[46]⟩
def rends : List Pc → ByteArray
  | [] => ⟨#[]⟩
  | p :: l => rend p ++ rends l
theorem rends_append (l m : List Pc) : rends (l ++ m) = rends l ++ rends m := by
  induction l with
  | nil => simp [rends, ba_nil]
  | cons p l ih => simp only [List.cons_append, rends, ih, ba_assoc]
/-! The pieces of a tree's text. -/
def wrapP (need : Bool) (p : List Pc) : List Pc := cond need (.lp :: p ++ [.rp]) p
def chP (f : T → List Pc) (l : List T) (i : Nat) : List Pc :=
  match l[i]? with
  | some y => f y
  | none => []
def pcsF (ex : T → List Pc) (x : T) : List Pc :=
  if x.kind = 31 then [.atom 2 (digT x.num.toNat)]
  else if x.kind = 32 then [.atom 3 (cond (x.num == 1) ⟨#[116, 114, 117, 101]⟩ ⟨#[102, 97, 108, 115, 101]⟩)]
  else if x.kind = 33 then
    cond (x.list.length == 1) (.un x.text :: chP (fun y => wrapP (twoB y) (ex y)) x.list 0)
      (chP (fun y => wrapP (twoB y && decide (bindsT y.text < bindsT x.text)) (ex y)) x.list 0 ++ (.bin x.text ::
        chP (fun y => wrapP (twoB y && decide (bindsT y.text ≤ bindsT x.text)) (ex y)) x.list 1))
  else if x.kind = 35 then chP (fun y => wrapP (stemB y) (ex y)) x.list 0 ++ [.dot, .atom 1 x.text]
  else if x.kind = 39 then .un ⟨#[60, 45]⟩ :: chP (fun y => wrapP (twoB y) (ex y)) x.list 0
  else [.atom 1 x.text]
def pcs : Nat → T → List Pc
  | 0, _ => []
  | d + 1, x => pcsF (pcs d) x
def plainK (k : Int) : Bool := k == 30 || (k == 31 || (k == 32 || (k == 33 || (k == 39 || k == 35))))
mutual
def T.plain : T → Bool
  | .mk k _ _ _ l => plainK k && T.plains l
def T.plains : List T → Bool
  | [] => true
  | x :: l => x.plain && T.plains l
end
theorem T.plain_eq (x : T) : x.plain = (plainK x.kind && T.plains x.list) := by cases x; simp [T.plain]
theorem T.plains_all (l : List T) : T.plains l = l.all T.plain := by
  induction l with
  | nil => rfl
  | cons x l ih => simp only [T.plains, List.all_cons, ih]
theorem T.plain_at {x y : T} {i : Nat} (h : x.plain = true) (hy : x.list[i]? = some y) : y.plain = true := by
  rw [T.plain_eq, T.plains_all] at h
  simp only [Bool.and_eq_true, List.all_eq_true] at h
  exact h.2 y (List.mem_of_getElem? hy)
theorem rends_wrap (b : Bool) (p : List Pc) : rends (wrapP b p) = wrapT b (rends p) := by
  cases b
  · rfl
  · simp only [wrapP, wrapT, cond_true, rends, rends_append, rend, ba_nil', List.cons_append, ba_assoc]
theorem rends_ch {f : T → List Pc} {g : T → ByteArray} {l : List T} {i : Nat} (h : ∀ y, l[i]? = some y → rends (f y) = g y) : rends (chP f l i) = ch g l i := by
  unfold chP ch
  cases hl : l[i]? with
  | none => rfl
  | some y => exact h y hl
theorem rends_pcs (d n : Nat) : ∀ x : T, x.plain = true → rends (pcs d x) = exprT d n x := by
  induction d with
  | zero => intro x _; rfl
  | succ d ih =>
    intro x hp
    have hk := hp
    rw [T.plain_eq] at hk
    simp only [Bool.and_eq_true] at hk
    have key : ∀ (g : T → Bool) (i : Nat), rends (chP (fun y => wrapP (g y) (pcs d y)) x.list i) = ch (fun y => wrapT (g y) (exprT d n y)) x.list i := fun g i =>
      rends_ch fun y hy => by rw [rends_wrap, ih y (T.plain_at hp hy)]
    simp only [pcs, exprT, pcsF, exprF]
    by_cases h31 : x.kind = 31
    · simp [h31, rends, rend, ba_nil']
    by_cases h32 : x.kind = 32
    · simp [h32, rends, rend, ba_nil']
    by_cases h33 : x.kind = 33
    · simp only [h33, if_true, show ¬ ((33 : Int) = 31) from by decide, show ¬ ((33 : Int) = 32) from by decide, if_false]
      cases x.list.length == 1
      · simp only [cond_false, rends_append, rends, rend, key, ba_assoc]
      · simp only [cond_true, rends, rend, key]
    by_cases h35 : x.kind = 35
    · simp only [h35, if_true, show ¬ ((35 : Int) = 31) from by decide, show ¬ ((35 : Int) = 32) from by decide, show ¬ ((35 : Int) = 33) from by decide, show ¬ ((35 : Int) = 34) from by decide, if_false, rends_append, rends, rend, key, ba_nil', ba_assoc]
    by_cases h39 : x.kind = 39
    · simp only [h39, if_true, show ¬ ((39 : Int) = 31) from by decide, show ¬ ((39 : Int) = 32) from by decide, show ¬ ((39 : Int) = 33) from by decide, show ¬ ((39 : Int) = 34) from by decide, show ¬ ((39 : Int) = 35) from by decide,
        show ¬ ((39 : Int) = 36) from by decide, show ¬ ((39 : Int) = 37) from by decide, show ¬ ((39 : Int) = 38) from by decide, if_false, rends, rend, key]
    · have h30 : x.kind = 30 := by
        have := hk.1
        simp [plainK, h31, h32, h33, h35, h39] at this
        exact this
      simp [h30, rends, rend, ba_nil']
/-- Is a piece such? -/
def okPc : Pc → Prop
  | .atom k s => (k = 1 ∧ nameB s = true) ∨ (k = 2 ∧ ∃ u, u < 18446744073709551616 ∧ s = digT u) ∨ (k = 3 ∧ (s = ⟨#[116, 114, 117, 101]⟩ ∨ s = ⟨#[102, 97, 108, 115, 101]⟩))
  | .un s => unaryB s = true ∨ s = ⟨#[60, 45]⟩
  | .bin s => 0 < bindsT s
  | _ => True
def b2n (b : Bool) : Nat := cond b 1 0
/-- Does child number i of a node stand in brackets? -/
def brk (k : Int) (t : ByteArray) (m i : Nat) (y : T) : Nat :=
  if k = 33 then
    if m = 1 then b2n (twoB y)
    else if i = 0 then b2n (twoB y && decide (bindsT y.text < bindsT t))
    else b2n (twoB y && decide (bindsT y.text ≤ bindsT t))
  else if k = 35 then b2n (stemB y)
  else if k = 39 then b2n (twoB y)
  else 0
mutual
/-- How many brackets a text of a tree has to have. -/
def T.need : T → Nat
  | .mk k t _ _ l => T.needs k t l.length 0 l
def T.needs (k : Int) (t : ByteArray) (m : Nat) : Nat → List T → Nat
  | _, [] => 0
  | i, y :: l => y.need + brk k t m i y + T.needs k t m (i + 1) l
end
theorem T.need_eq (x : T) : x.need = T.needs x.kind x.text x.list.length 0 x.list := by cases x; rfl
theorem len_one {l : List T} (h : l.length = 1) : ∃ y, l = [y] := by
  match l, h with
  | [y], _ => exact ⟨y, rfl⟩
theorem len_two {l : List T} (h : l.length = 2) : ∃ y z, l = [y, z] := by
  match l, h with
  | [y, z], _ => exact ⟨y, z, rfl⟩
/-- What a sound plain node is. -/
inductive Plain (d : Nat) (x : T) : Prop
  | name (hk : x.kind = 30) (hl : x.list = []) (ht : nameB x.text = true)
  | num (hk : x.kind = 31) (hl : x.list = [])
  | flag (hk : x.kind = 32) (hl : x.list = [])
  | one (y : T) (hk : x.kind = 33) (hl : x.list = [y]) (ht : unaryB x.text = true) (hy : goodB d y = true)
  | two (y z : T) (hk : x.kind = 33) (hl : x.list = [y, z]) (ht : 0 < bindsT x.text) (hy : goodB d y = true) (hz : goodB d z = true)
  | sel (y : T) (hk : x.kind = 35) (hl : x.list = [y]) (ht : nameB x.text = true) (hy : goodB d y = true)
  | recv (y : T) (hk : x.kind = 39) (hl : x.list = [y]) (hy : goodB d y = true)
theorem kinds_len {l : List T} {ws : List Int} (h : kindsB l ws = true) : l.length = ws.length := by
  by_cases e : l.length = ws.length
  · exact e
  · rw [kindsB_len e] at h; cases h
theorem plain_of {d : Nat} {x : T} (h : goodB (d + 1) x = true) (hp : x.plain = true) : Plain d x := by
  rw [show goodB (d + 1) x = (labelB x && (childrenB x && x.list.all (goodB d))) from rfl] at h
  rw [T.plain_eq] at hp
  simp only [Bool.and_eq_true, List.all_eq_true, labelB] at h hp
  obtain ⟨⟨ht, -⟩, hc, ha⟩ := h
  have hk := hp.1
  simp only [plainK, Bool.or_eq_true, beq_iff_eq] at hk
  rcases hk with hk | hk | hk | hk | hk | hk
  · refine .name hk ?_ ?_
    · simp [childrenB, hk] at hc; exact hc
    · simp [textB, hk] at ht; exact ht
  · refine .num hk ?_
    simp [childrenB, hk] at hc; exact hc
  · refine .flag hk ?_
    simp [childrenB, hk] at hc; exact hc
  · simp [textB, hk] at ht
    rcases ht with ⟨hl, hu⟩ | ⟨hl, hb⟩
    · obtain ⟨y, hy⟩ := len_one hl
      exact .one y hk hy hu (ha y (by rw [hy]; simp))
    · obtain ⟨y, z, hy⟩ := len_two hl
      exact .two y z hk hy hb (ha y (by rw [hy]; simp)) (ha z (by rw [hy]; simp))
  · simp [childrenB, hk] at hc
    obtain ⟨y, hy⟩ := len_one (kinds_len hc)
    exact .recv y hk hy (ha y (by rw [hy]; simp))
  · simp [childrenB, hk] at hc
    simp [textB, hk] at ht
    obtain ⟨y, hy⟩ := len_one (kinds_len hc)
    exact .sel y hk hy ht (ha y (by rw [hy]; simp))
/-- What holds of the pieces of a tree's text. -/
structure Fit (l : List Pc) (n : Nat) : Prop where
  run : runS .a l = some .b
  ok : ∀ p ∈ l, okPc p
  lps : lps l = n
  dep : ∀ k, dep k l = some k
theorem Fit.wrap {l : List Pc} {n : Nat} (h : Fit l n) (b : Bool) : Fit (wrapP b l) (n + b2n b) := by
  cases b
  · exact h
  · refine ⟨?_, ?_, ?_, fun k => ?_⟩
    · simp only [wrapP, cond_true, List.cons_append, runS, nxt, Option.bind_some, runS_append, h.run]
    · intro p hp
      simp only [wrapP, cond_true, List.cons_append, List.mem_cons, List.mem_append, List.not_mem_nil, or_false] at hp
      rcases hp with rfl | hp | rfl
      · trivial
      · exact h.ok p hp
      · trivial
    · simp [wrapP, YtoemljgkofhhpaaGreatDoor.lps, lps_append, h.lps, b2n]
    · simp only [wrapP, cond_true, List.cons_append, YtoemljgkofhhpaaGreatDoor.dep, dep_append, h.dep, Option.bind_some]
theorem Fit.un {l : List Pc} {n : Nat} (h : Fit l n) (s : ByteArray) (hs : okPc (.un s)) : Fit (.un s :: l) n := by
  refine ⟨?_, ?_, ?_, fun k => ?_⟩
  · simp only [runS, nxt, Option.bind_some, h.run]
  · intro p hp
    simp only [List.mem_cons] at hp
    rcases hp with rfl | hp
    · exact hs
    · exact h.ok p hp
  · simp only [YtoemljgkofhhpaaGreatDoor.lps, h.lps]
  · simp only [YtoemljgkofhhpaaGreatDoor.dep, h.dep]
theorem Fit.two {l m : List Pc} {n k : Nat} (h : Fit l n) (g : Fit m k) (s : ByteArray) (hs : okPc (.bin s)) : Fit (l ++ (.bin s :: m)) (n + k) := by
  refine ⟨?_, ?_, ?_, fun k => ?_⟩
  · simp only [runS_append, h.run, Option.bind_some, runS, nxt, g.run]
  · intro p hp
    simp only [List.mem_append, List.mem_cons] at hp
    rcases hp with hp | rfl | hp
    · exact h.ok p hp
    · exact hs
    · exact g.ok p hp
  · simp only [lps_append, YtoemljgkofhhpaaGreatDoor.lps, h.lps, g.lps]
  · simp only [dep_append, h.dep, Option.bind_some, YtoemljgkofhhpaaGreatDoor.dep, g.dep]
theorem Fit.dot {l : List Pc} {n : Nat} (h : Fit l n) (s : ByteArray) (hs : nameB s = true) : Fit (l ++ [.dot, .atom 1 s]) n := by
  refine ⟨?_, ?_, ?_, fun k => ?_⟩
  · simp only [runS_append, h.run, Option.bind_some, runS, nxt, if_true]
  · intro p hp
    simp only [List.mem_append, List.mem_cons, List.not_mem_nil, or_false] at hp
    rcases hp with hp | rfl | rfl
    · exact h.ok p hp
    · trivial
    · exact .inl ⟨rfl, hs⟩
  · simp only [lps_append, YtoemljgkofhhpaaGreatDoor.lps, h.lps, Nat.add_zero]
  · simp only [dep_append, h.dep, Option.bind_some, YtoemljgkofhhpaaGreatDoor.dep]
theorem Fit.atom (k : Int) (s : ByteArray) (hs : okPc (.atom k s)) : Fit [.atom k s] 0 := by
  refine ⟨rfl, ?_, rfl, fun k => rfl⟩
  intro p hp
  simp only [List.mem_cons, List.not_mem_nil, or_false] at hp
  subst hp
  exact hs
theorem fit_pcs (d : Nat) : ∀ x : T, goodB d x = true → x.plain = true → x.wf → Fit (pcs d x) x.need := by
  induction d with
  | zero => intro x h; simp [goodB] at h
  | succ d ih =>
    intro x h hp hw
    have hw2 := (T.wf_eq x).1 hw
    have kid : ∀ {i : Nat} {y : T}, x.list[i]? = some y → goodB d y = true → Fit (pcs d y) y.need := fun {i y} hi hg => ih y hg (T.plain_at hp hi) (T.wf_at hw2.2.2 hi)
    rw [T.need_eq]
    cases plain_of h hp with
    | name hk hl ht =>
      have : pcs (d + 1) x = [.atom 1 x.text] := by simp [pcs, pcsF, hk]
      rw [this, hl, T.needs]
      exact .atom _ _ (.inl ⟨rfl, ht⟩)
    | num hk hl =>
      have : pcs (d + 1) x = [.atom 2 (digT x.num.toNat)] := by simp [pcs, pcsF, hk]
      rw [this, hl, T.needs]
      exact .atom _ _ (.inr (.inl ⟨rfl, _, by omega, rfl⟩))
    | flag hk hl =>
      have : pcs (d + 1) x = [.atom 3 (cond (x.num == 1) ⟨#[116, 114, 117, 101]⟩ ⟨#[102, 97, 108, 115, 101]⟩)] := by simp [pcs, pcsF, hk]
      rw [this, hl, T.needs]
      refine .atom _ _ (.inr (.inr ⟨rfl, ?_⟩))
      cases x.num == 1
      · exact .inr rfl
      · exact .inl rfl
    | one y hk hl ht hy =>
      have e : pcs (d + 1) x = .un x.text :: wrapP (twoB y) (pcs d y) := by simp [pcs, pcsF, hk, hl, chP]
      have en : T.needs x.kind x.text x.list.length 0 x.list = y.need + b2n (twoB y) := by simp [hk, hl, T.needs, brk]
      rw [e, en]
      exact ((kid (i := 0) (by rw [hl]; rfl) hy).wrap _).un _ (.inl ht)
    | two y z hk hl ht hy hz =>
      have e : pcs (d + 1) x = wrapP (twoB y && decide (bindsT y.text < bindsT x.text)) (pcs d y) ++ (.bin x.text :: wrapP (twoB z && decide (bindsT z.text ≤ bindsT x.text)) (pcs d z)) := by simp [pcs, pcsF, hk, hl, chP]
      have en : T.needs x.kind x.text x.list.length 0 x.list = (y.need + b2n (twoB y && decide (bindsT y.text < bindsT x.text))) + (z.need + b2n (twoB z && decide (bindsT z.text ≤ bindsT x.text))) := by simp [hk, hl, T.needs, brk]
      rw [e, en]
      exact ((kid (i := 0) (by rw [hl]; rfl) hy).wrap _).two ((kid (i := 1) (by rw [hl]; rfl) hz).wrap _) _ ht
    | sel y hk hl ht hy =>
      have e : pcs (d + 1) x = wrapP (stemB y) (pcs d y) ++ [.dot, .atom 1 x.text] := by simp [pcs, pcsF, hk, hl, chP]
      have en : T.needs x.kind x.text x.list.length 0 x.list = y.need + b2n (stemB y) := by simp [hk, hl, T.needs, brk]
      rw [e, en]
      exact ((kid (i := 0) (by rw [hl]; rfl) hy).wrap _).dot _ ht
    | recv y hk hl hy =>
      have e : pcs (d + 1) x = .un ⟨#[60, 45]⟩ :: wrapP (twoB y) (pcs d y) := by simp [pcs, pcsF, hk, hl, chP]
      have en : T.needs x.kind x.text x.list.length 0 x.list = y.need + b2n (twoB y) := by simp [hk, hl, T.needs, brk]
      rw [e, en]
      exact ((kid (i := 0) (by rw [hl]; rfl) hy).wrap _).un _ (.inr rfl)
/-! The same shape, the same need. -/
mutual
def sameB : T → T → Bool
  | .mk k t n _ l, y => k == y.kind && (t.toList == y.text.toList && (n == y.num && (l.length == y.list.length && sameBs l y.list)))
def sameBs : List T → List T → Bool
  | [], _ => true
  | _ :: _, [] => true
  | x :: l, y :: m => sameB x y && sameBs l m
end
theorem sameB_eq (x y : T) : sameB x y = (x.kind == y.kind && (x.text.toList == y.text.toList && (x.num == y.num && (x.list.length == y.list.length && sameBs x.list y.list)))) := by cases x; rfl
theorem text_eq {a b : ByteArray} (h : a.toList = b.toList) : a = b := by
  rw [Lib.toList_data, Lib.toList_data] at h
  cases a with
  | mk da => cases b with
    | mk db => cases da; cases db; simp at h; subst h; rfl
theorem same_brk {x y : T} (h : sameB x y = true) (k : Int) (t : ByteArray) (m i : Nat) : brk k t m i x = brk k t m i y := by
  rw [sameB_eq] at h
  simp only [Bool.and_eq_true, beq_iff_eq] at h
  have ht := text_eq h.2.1
  simp only [brk, twoB, stemB, h.1, ht, h.2.2.2.1]
mutual
theorem same_need : ∀ x y : T, sameB x y = true → x.need = y.need
  | .mk k t n a l, y, h => by
    rw [sameB_eq] at h
    simp only [T.kind_mk, T.text_mk, T.list_mk, Bool.and_eq_true, beq_iff_eq] at h
    rw [T.need_eq y, T.need, h.1, text_eq h.2.1, h.2.2.2.1]
    exact same_needs l y.list y.kind y.text y.list.length 0 h.2.2.2.1 h.2.2.2.2
theorem same_needs : ∀ (l m : List T) (k : Int) (t : ByteArray) (c i : Nat), l.length = m.length → sameBs l m = true → T.needs k t c i l = T.needs k t c i m
  | [], [], _, _, _, _, _, _ => rfl
  | [], _ :: _, _, _, _, _, h, _ => by simp at h
  | _ :: _, [], _, _, _, _, h, _ => by simp at h
  | x :: l, y :: m, k, t, c, i, hl, h => by
    simp only [sameBs, Bool.and_eq_true] at h
    simp only [T.needs, same_need x y h.1, same_brk h.1, same_needs l m k t c (i + 1) (by simpa using hl) h.2]
end
/-! Letters and digits, byte by byte. -/
inductive Aln : List UInt8 → Prop
  | nil : Aln []
  | one (c : UInt8) (l : List UInt8) (h : c.toNat < 128) (hl : (letterB (c.toNat : Int) || digitB (c.toNat : Int)) = true) (hr : Aln l) : Aln (c :: l)
  | two (c d : UInt8) (l : List UInt8) (hc : c.toNat / 32 = 6) (hd : d.toNat / 64 = 2) (hl : letterB ((c.toNat % 32 * 64 + d.toNat % 64 : Nat) : Int) = true) (hr : Aln l) : Aln (c :: d :: l)
theorem letter_lo {r : Nat} (h : letterB (r : Int) = true) : 65 ≤ r ∧ r ≤ 591 ∧ (r < 128 ∨ 192 ≤ r) := by
  simp [letterB] at h; omega
theorem digit_lo {r : Nat} (h : digitB (r : Int) = true) : 48 ≤ r ∧ r ≤ 57 := by
  simp [digitB] at h; omega
theorem decL2 (c d : UInt8) (t : List UInt8) (hc : c.toNat / 32 = 6) (hd : d.toNat / 64 = 2) (h : 128 ≤ c.toNat % 32 * 64 + d.toNat % 64) :
    Lib.decodeL (c :: d :: t) = (c.toNat % 32 * 64 + d.toNat % 64, 2) := by
  rw [Lib.decodeL_N]
  have h0 : ¬ c.toNat < 128 := by omega
  simp [Lib.decodeN, List.getD, hc, hd, h, h0]
theorem alnum_case (l : List UInt8) (hne : l ≠ []) (h : (letterB ((Lib.decodeL l).1 : Int) || digitB ((Lib.decodeL l).1 : Int)) = true) :
    (∃ c t, l = c :: t ∧ c.toNat < 128 ∧ (Lib.decodeL l) = (c.toNat, 1)) ∨
    (∃ c d t, l = c :: d :: t ∧ c.toNat / 32 = 6 ∧ d.toNat / 64 = 2 ∧ (Lib.decodeL l) = (c.toNat % 32 * 64 + d.toNat % 64, 2) ∧ letterB ((c.toNat % 32 * 64 + d.toNat % 64 : Nat) : Int) = true) := by
  have hr : (Lib.decodeL l).1 ≤ 591 := by
    simp only [Bool.or_eq_true] at h
    rcases h with h | h
    · exact (letter_lo h).2.1
    · have := (digit_lo h).2; omega
  match l, hne with
  | c :: t, _ =>
    by_cases hc : c.toNat < 128
    · exact .inl ⟨c, t, rfl, hc, Lib.decodeL_ascii _ _ hc⟩
    · refine .inr ?_
      rw [Lib.decodeL_N] at hr h
      rw [Lib.decodeL_N]
      unfold Lib.decodeN at hr h ⊢
      simp only [List.getD_cons_zero, hc, if_false] at hr h ⊢
      split at hr
      · rename_i h2
        rw [if_pos h2] at h ⊢
        match t, h2 with
        | d :: t, h2 =>
          simp only [List.getD_cons_succ, List.getD_cons_zero] at h h2 hr ⊢
          split at hr
          · rename_i h3
            rw [if_pos h3] at h ⊢
            refine ⟨c, d, t, rfl, h2.1, h2.2.2, rfl, ?_⟩
            simp only [Bool.or_eq_true] at h
            rcases h with h | h
            · exact h
            · have := digit_lo h; omega
          · simp at hr
        | [], h2 => simp at h2
      · split at hr
        · split at hr
          · simp only at hr; omega
          · simp at hr
        · split at hr
          · split at hr
            · simp only at hr; omega
            · simp at hr
          · simp at hr
theorem aln_name (s : ByteArray) (f : Nat) : ∀ p, s.size < p + f → nameFrom s f p = true → Aln (s.data.toList.drop p) := by
  have hsz : s.data.toList.length = s.size := by rw [Array.length_toList]; rfl
  induction f with
  | zero =>
    intro p hp _
    rw [List.drop_eq_nil_of_le (by omega)]; exact .nil
  | succ f ih =>
    intro p hp h
    by_cases hlt : p < s.size
    · rw [nameFrom_step hlt] at h
      simp only [Bool.and_eq_true] at h
      have hz := decode_pos s p
      have hr := ih (p + (Utf8.decode s p).2) (by omega) h.2
      have hne : s.data.toList.drop p ≠ [] := by simp; omega
      rw [← Lib.decodeL_drop] at h hr
      rw [← List.drop_drop] at hr
      have hl : (letterB ((Lib.decodeL (s.data.toList.drop p)).1 : Int) || digitB ((Lib.decodeL (s.data.toList.drop p)).1 : Int)) = true := by
        have := h.1
        simp only [Bool.or_eq_true, Bool.and_eq_true] at this ⊢
        rcases this with h | h
        · exact .inl h
        · exact .inr h.2
      rcases alnum_case _ hne hl with ⟨c, t, e, hc, hd⟩ | ⟨c, d, t, e, hc, hd, hde, hlt⟩
      · rw [hd] at hr hl
        rw [e] at hr ⊢
        exact .one c t hc hl (by simpa using hr)
      · rw [hde] at hr
        rw [e] at hr ⊢
        exact .two c d t hc hd hlt (by simpa using hr)
    · rw [List.drop_eq_nil_of_le (by omega)]; exact .nil
theorem aln_nameB {s : ByteArray} (h : nameB s = true) : Aln s.data.toList := by
  simp only [nameB, name0, Bool.and_eq_true] at h
  have := aln_name s (s.size + 1) 0 (by omega) h.1.1
  simpa using this
theorem digits_lo (u : Nat) : ∀ c ∈ Lib.decDigits u, 48 ≤ c.toNat ∧ c.toNat ≤ 57 := by
  induction u using Nat.strongRecOn with
  | _ u ih =>
    by_cases h : u < 10
    · rw [decDigits_small h]
      intro c hc
      simp only [List.mem_cons, List.not_mem_nil, or_false] at hc
      subst hc
      simp [UInt8.toNat_ofNat']; omega
    · rw [decDigits_big h]
      intro c hc
      simp only [List.mem_append, List.mem_cons, List.not_mem_nil, or_false] at hc
      rcases hc with hc | hc
      · exact ih (u / 10) (by omega) c hc
      · subst hc
        simp [UInt8.toNat_ofNat']; omega
theorem digits_ne (u : Nat) : Lib.decDigits u ≠ [] := by
  by_cases h : u < 10
  · rw [decDigits_small h]; simp
  · rw [decDigits_big h]; simp
theorem aln_digits {l : List UInt8} (h : ∀ c ∈ l, 48 ≤ c.toNat ∧ c.toNat ≤ 57) : Aln l := by
  induction l with
  | nil => exact .nil
  | cons c l ih =>
    have hc := h c (by simp)
    refine .one c l (by omega) ?_ (ih fun d hd => h d (by simp [hd]))
    simp [digitB]; omega
theorem Aln.nobr {l : List UInt8} (h : Aln l) : ∀ c ∈ l, c ≠ 40 ∧ c ≠ 41 := by
  induction h with
  | nil => intro c hc; simp at hc
  | one c l h hl _ ih =>
    intro d hd
    simp only [List.mem_cons] at hd
    rcases hd with rfl | hd
    · have : 48 ≤ d.toNat := by
        simp only [Bool.or_eq_true] at hl
        rcases hl with hl | hl
        · have := letter_lo hl; omega
        · have := digit_lo hl; omega
      constructor <;> (rintro rfl; simp at this)
    · exact ih d hd
  | two c d l hc hd _ _ ih =>
    intro e he
    simp only [List.mem_cons] at he
    rcases he with rfl | rfl | he
    · constructor <;> (rintro rfl; simp at hc)
    · constructor <;> (rintro rfl; simp at hd)
    · exact ih e he
/-- The operators of two. -/
def opsL : List ByteArray := opsTab.flatten
theorem ops_of_binds {s : ByteArray} (h : 0 < bindsT s) : s ∈ opsL := by
  have key : ∀ i, i < 5 → Lib.containsS (opsRow i) s = true → s ∈ opsL := by
    intro i hi hc
    have hm : s ∈ opsRow i := (Lib.containsS_iff _ _).1 hc
    have hr : opsRow i ∈ opsTab := by
      have hi' : i = 0 ∨ i = 1 ∨ i = 2 ∨ i = 3 ∨ i = 4 := by omega
      rcases hi' with rfl | rfl | rfl | rfl | rfl <;> simp [opsRow, opsTab]
    exact List.mem_flatten.2 ⟨_, hr, hm⟩
  unfold bindsT at h
  split at h
  · exact key 0 (by omega) (by assumption)
  split at h
  · exact key 1 (by omega) (by assumption)
  split at h
  · exact key 2 (by omega) (by assumption)
  split at h
  · exact key 3 (by omega) (by assumption)
  split at h
  · exact key 4 (by omega) (by assumption)
  · omega
/-! The bytes of pieces. -/
def rb (p : Pc) : List UInt8 := (rend p).data.toList
def rbs (l : List Pc) : List UInt8 := (rends l).data.toList
theorem rbs_nil : rbs [] = [] := rfl
theorem rbs_cons (p : Pc) (l : List Pc) : rbs (p :: l) = rb p ++ rbs l := by simp [rbs, rb, rends, ByteArray.data_append]
theorem rbs_append (l m : List Pc) : rbs (l ++ m) = rbs l ++ rbs m := by simp [rbs, rends_append, ByteArray.data_append]
theorem rb_un (s : ByteArray) : rb (.un s) = s.data.toList := rfl
theorem rb_bin (s : ByteArray) : rb (.bin s) = 32 :: s.data.toList ++ [32] := by simp [rb, rend, ByteArray.data_append]
def nobr (l : List UInt8) : Bool := l.all fun c => c != 40 && c != 41
theorem ops_nobr : (opsL.all fun s => nobr s.data.toList) = true := by decide +kernel
/-- No piece but the brackets holds a bracket. -/
theorem nobr_of {p : Pc} (h : okPc p) (hl : p ≠ .lp) (hr : p ≠ .rp) : nobr (rb p) = true := by
  cases p with
  | lp => exact absurd rfl hl
  | rp => exact absurd rfl hr
  | dot => decide
  | atom k s =>
    have key : Aln s.data.toList → nobr s.data.toList = true := fun ha => by
      simp only [nobr, List.all_eq_true, Bool.and_eq_true, bne_iff_ne]
      exact ha.nobr
    rcases h with ⟨-, h⟩ | ⟨-, u, -, rfl⟩ | ⟨-, rfl | rfl⟩
    · exact key (aln_nameB h)
    · exact key (aln_digits (digits_lo u))
    · exact (by decide : nobr [116, 114, 117, 101] = true)
    · exact (by decide : nobr [102, 97, 108, 115, 101] = true)
  | un s =>
    rcases h with h | rfl
    · simp only [unaryB, Bool.or_eq_true, beq_iff_eq, Lib.toList_data] at h
      rw [rb_un]
      rcases h with h | h | h <;> (rw [h]; decide)
    · decide
  | bin s =>
    have := List.all_eq_true.1 ops_nobr s (ops_of_binds h)
    rw [rb_bin]
    simp only [nobr, List.all_cons, List.all_append, List.all_nil] at this ⊢
    simp [this]
/-- Brackets opened less brackets shut. -/
def lvl : List UInt8 → Int
  | [] => 0
  | c :: l => (if c = 40 then 1 else if c = 41 then -1 else 0) + lvl l
theorem lvl_append (l m : List UInt8) : lvl (l ++ m) = lvl l + lvl m := by
  induction l with
  | nil => simp [lvl]
  | cons c l ih => simp only [List.cons_append, lvl, ih]; omega
theorem lvl_nobr {l : List UInt8} (h : nobr l = true) : lvl l = 0 := by
  induction l with
  | nil => rfl
  | cons c l ih =>
    simp only [nobr, List.all_cons, Bool.and_eq_true, bne_iff_ne] at h
    simp only [lvl, h.1.1, h.1.2, if_false, ih (by simpa [nobr] using h.2)]; rfl
def lvP : List Pc → Int
  | [] => 0
  | .lp :: l => 1 + lvP l
  | .rp :: l => -1 + lvP l
  | _ :: l => lvP l
theorem lvl_rbs {l : List Pc} (h : ∀ p ∈ l, okPc p) : lvl (rbs l) = lvP l := by
  induction l with
  | nil => rfl
  | cons p l ih =>
    have ih := ih fun q hq => h q (by simp [hq])
    rw [rbs_cons, lvl_append, ih]
    by_cases hl : p = .lp
    · subst hl; simp only [lvP, rb, rend]; rfl
    by_cases hr : p = .rp
    · subst hr; simp only [lvP, rb, rend]; rfl
    rw [lvl_nobr (nobr_of (h p (by simp)) hl hr)]
    cases p <;> simp_all [lvP]
theorem dep_lv {n k : Nat} {l : List Pc} (h : dep n l = some k) : (k : Int) = n + lvP l := by
  induction l generalizing n with
  | nil => simp [dep] at h; simp [lvP, h]
  | cons p l ih =>
    cases p with
    | rp =>
      cases n with
      | zero => simp [dep] at h
      | succ n => simp only [dep] at h; have := ih h; simp only [lvP]; omega
    | lp => simp only [dep] at h; have := ih h; simp only [lvP]; omega
    | _ => simp only [dep] at h; have := ih h; simp only [lvP]; omega
theorem dep_of {n : Nat} {l : List Pc} (h : ∀ a b, l = a ++ b → 0 ≤ (n : Int) + lvP a) : ∃ k, dep n l = some k := by
  induction l generalizing n with
  | nil => exact ⟨n, rfl⟩
  | cons p l ih =>
    cases p with
    | rp =>
      cases n with
      | zero => have := h [.rp] l rfl; simp [lvP] at this
      | succ n => exact ih fun a b e => by have := h (.rp :: a) b (by rw [e]; rfl); simp only [lvP] at this; omega
    | lp => exact ih fun a b e => by have := h (.lp :: a) b (by rw [e]; rfl); simp only [lvP] at this; omega
    | atom k s => exact ih fun a b e => by have := h (.atom k s :: a) b (by rw [e]; rfl); simpa only [lvP] using this
    | un s => exact ih fun a b e => by have := h (.un s :: a) b (by rw [e]; rfl); simpa only [lvP] using this
    | bin s => exact ih fun a b e => by have := h (.bin s :: a) b (by rw [e]; rfl); simpa only [lvP] using this
    | dot => exact ih fun a b e => by have := h (.dot :: a) b (by rw [e]; rfl); simpa only [lvP] using this
/-- A bracket's byte is a bracket's piece. -/
theorem split_at {P : Pc} {β : UInt8} (hP : rb P = [β]) : ∀ {l : List Pc} {pre post : List UInt8}, (∀ p ∈ l, β ∈ rb p → p = P) → rbs l = pre ++ β :: post →
    ∃ p q, l = p ++ P :: q ∧ rbs p = pre ∧ rbs q = post
  | [], pre, post, _, h => by simp [rbs_nil] at h
  | x :: l, pre, post, hb, h => by
    rw [rbs_cons] at h
    rcases List.append_eq_append_iff.1 h with ⟨a, h1, h2⟩ | ⟨c, h1, h2⟩
    · obtain ⟨p, q, rfl, e1, e2⟩ := split_at hP (fun p hp => hb p (by simp [hp])) h2
      exact ⟨x :: p, q, rfl, by rw [rbs_cons, e1, h1], e2⟩
    · cases c with
      | nil =>
        obtain ⟨p, q, rfl, e1, e2⟩ := split_at hP (pre := []) (fun p hp => hb p (by simp [hp])) h2.symm
        exact ⟨x :: p, q, rfl, by rw [rbs_cons, e1, h1]; simp, e2⟩
      | cons d c =>
        simp only [List.cons_append, List.cons.injEq] at h2
        obtain ⟨rfl, h2⟩ := h2
        have hx := hb x (by simp) (by rw [h1]; simp)
        subst hx
        rw [hP] at h1
        cases pre with
        | nil =>
          simp at h1
          subst h1
          exact ⟨[], l, rfl, rfl, by simpa using h2.symm⟩
        | cons e pre => simp at h1
theorem only_lp {p : Pc} (h : okPc p) (hb : (40 : UInt8) ∈ rb p) : p = .lp := by
  by_cases hl : p = .lp
  · exact hl
  by_cases hr : p = .rp
  · subst hr; simp [rb, rend] at hb
  · have := nobr_of h hl hr
    simp only [nobr, List.all_eq_true] at this
    have := this _ hb
    simp at this
theorem only_rp {p : Pc} (h : okPc p) (hb : (41 : UInt8) ∈ rb p) : p = .rp := by
  by_cases hr : p = .rp
  · exact hr
  by_cases hl : p = .lp
  · subst hl; simp [rb, rend] at hb
  · have := nobr_of h hl hr
    simp only [nobr, List.all_eq_true] at this
    have := this _ hb
    simp at this
/-- A text of pieces, and the law's pair of brackets in it. -/
structure Pair (l : List UInt8) (i j : Nat) : Prop where
  lt : i < j
  hi : l[i]? = some 40
  hj : l[j]? = some 41
  deep : ∀ k, i < k → k ≤ j → 1 ≤ lvl ((l.take k).drop i)
  shut : lvl ((l.take (j + 1)).drop i) = 0
/-- What is left without the pair: pieces of a text that is as sound, with one bracket less. -/
structure Rest (t : List UInt8) (n : Nat) (ps : List Pc) : Prop where
  txt : rbs ps = t
  run : runS .a ps = some .b
  ok : ∀ p ∈ ps, okPc p
  dep : dep 0 ps = some 0
  lps : lps ps + 1 = n
theorem nxt_lp {s s' : St} (h : nxt s .lp = some s') : s = .a ∧ s' = .a := by cases s <;> simp [nxt] at h; exact ⟨rfl, h.symm⟩
theorem nxt_rp {s s' : St} (h : nxt s .rp = some s') : s = .b ∧ s' = .b := by cases s <;> simp [nxt] at h; exact ⟨rfl, h.symm⟩
theorem rest_of {l : List Pc} {n : Nat} (h : Fit l n) {i j : Nat} (hp : Pair (rbs l) i j) : ∃ ps, Rest ((rbs l).take i ++ ((rbs l).take j).drop (i + 1) ++ (rbs l).drop (j + 1)) n ps := by
  obtain ⟨hlt, hi, hj, hdeep, hshut⟩ := hp
  have hil := (List.getElem?_eq_some_iff.1 hi).1
  have hjl := (List.getElem?_eq_some_iff.1 hj).1
  have e0 : rbs l = (rbs l).take i ++ 40 :: (rbs l).drop (i + 1) := by
    rw [← (List.getElem?_eq_some_iff.1 hi).2, List.getElem_cons_drop, List.take_append_drop]
  obtain ⟨p, q', hl, e1, e2⟩ := split_at (P := .lp) (β := 40) rfl (fun p hp hb => only_lp (h.ok p hp) hb) e0
  have hj2 : (rbs q')[j - i - 1]? = some 41 := by
    rw [e2, List.getElem?_drop, show i + 1 + (j - i - 1) = j from by omega]; exact hj
  have e3 : rbs q' = (rbs q').take (j - i - 1) ++ 41 :: (rbs q').drop (j - i - 1 + 1) := by
    rw [← (List.getElem?_eq_some_iff.1 hj2).2, List.getElem_cons_drop, List.take_append_drop]
  have hok : ∀ p ∈ q', okPc p := fun x hx => h.ok x (by rw [hl]; simp [hx])
  obtain ⟨q, r, hq, e4, e5⟩ := split_at (P := .rp) (β := 41) rfl (fun p hp hb => only_rp (hok p hp) hb) e3
  subst hq
  have hlen1 : (rbs p).length = i := by rw [e1, List.length_take]; omega
  have hlenq : (rbs q).length = j - i - 1 := by
    rw [e4, List.length_take]
    have := (List.getElem?_eq_some_iff.1 hj2).1
    omega
  have hall : rbs l = rbs p ++ (40 :: (rbs q ++ (41 :: rbs r))) := by
    rw [hl, rbs_append, rbs_cons, rbs_append, rbs_cons]; rfl
  have hok1 : ∀ x ∈ p ++ q ++ r, okPc x := fun x hx => h.ok x (by
    rw [hl]
    simp only [List.mem_append, List.mem_cons] at hx ⊢
    rcases hx with (hx | hx) | hx <;> simp [hx])
  have hokq : ∀ x ∈ q, okPc x := fun x hx => hok1 x (by simp [hx])
  -- the levels inside
  have hdq : dep 0 q = some 0 := by
    have hpre : ∀ a b, q = a ++ b → 0 ≤ ((0 : Nat) : Int) + lvP a := by
      intro a b hab
      have hoka : ∀ x ∈ a, okPc x := fun x hx => hokq x (by rw [hab]; simp [hx])
      have hla : (rbs a).length ≤ (rbs q).length := by rw [hab, rbs_append]; simp
      have hd := hdeep (i + 1 + (rbs a).length) (by omega) (by omega)
      have : ((rbs l).take (i + 1 + (rbs a).length)).drop i = 40 :: rbs a := by
        rw [hall, hab, rbs_append, List.take_append, List.take_of_length_le (by omega), hlen1, show i + 1 + (rbs a).length - i = (rbs a).length + 1 from by omega,
          List.take_succ_cons, List.append_assoc, List.take_append_of_le_length (by omega), List.take_length, ← hlen1, List.drop_left]
      rw [this] at hd
      simp only [lvl, if_true, lvl_rbs hoka] at hd
      omega
    obtain ⟨k, hk⟩ := dep_of hpre
    have hs : ((rbs l).take (j + 1)).drop i = 40 :: (rbs q ++ [41]) := by
      rw [hall, List.take_append, List.take_of_length_le (by omega), hlen1, show j + 1 - i = (j - i - 1) + 1 + 1 from by omega,
        List.take_succ_cons, List.take_append, List.take_of_length_le (by omega), hlenq, show j - i - 1 + 1 - (j - i - 1) = 0 + 1 from by omega, List.take_succ_cons, List.take_zero, ← hlen1, List.drop_left]
    rw [hs] at hshut
    simp only [lvl, lvl_append, if_true, lvl_rbs hokq] at hshut
    have := dep_lv hk
    simp at hshut
    have : k = 0 := by omega
    rw [hk, this]
  refine ⟨p ++ q ++ r, ?_, ?_, hok1, ?_, ?_⟩
  · rw [rbs_append, rbs_append]
    congr 1
    · congr 1
      · have h2 : (rbs l).take j = rbs p ++ 40 :: rbs q := by
          rw [hall, List.take_append, List.take_of_length_le (by omega), hlen1, show j - i = (j - i - 1) + 1 from by omega, List.take_succ_cons, List.take_append_of_le_length (by omega),
            List.take_of_length_le (by omega)]
        rw [h2, List.drop_append, List.drop_of_length_le (by omega), hlen1, show i + 1 - i = 1 from by omega]
        rfl
    · rw [hall, List.drop_append, List.drop_of_length_le (by omega), hlen1, show j + 1 - i = (j - i - 1) + 1 + 1 from by omega, List.drop_succ_cons, List.drop_append, List.drop_of_length_le (by omega), hlenq,
        show j - i - 1 + 1 - (j - i - 1) = 1 from by omega]
      rfl
  · have hr := h.run
    rw [hl, runS_append] at hr
    cases h1 : runS .a p with
    | none => simp [h1] at hr
    | some s1 =>
      simp only [h1, Option.bind_some, runS] at hr
      cases h2 : nxt s1 .lp with
      | none => simp [h2] at hr
      | some s2 =>
        obtain ⟨rfl, rfl⟩ := nxt_lp h2
        simp only [h2, Option.bind_some, runS_append] at hr
        cases h3 : runS .a q with
        | none => simp [h3] at hr
        | some s3 =>
          simp only [h3, Option.bind_some, runS] at hr
          cases h4 : nxt s3 .rp with
          | none => simp [h4] at hr
          | some s4 =>
            obtain ⟨rfl, rfl⟩ := nxt_rp h4
            simp only [h4, Option.bind_some] at hr
            simp only [runS_append, h1, Option.bind_some, h3, hr]
  · have hd := h.dep 0
    rw [hl, dep_append] at hd
    cases h1 : dep 0 p with
    | none => simp [h1] at hd
    | some a =>
      have hqa : ∀ k, dep k q = some k := fun k => by simpa using dep_more hdq k
      simp only [h1, Option.bind_some, dep, dep_append, hqa] at hd
      simp only [dep_append, h1, Option.bind_some, hqa, hd]
  · have := h.lps
    rw [hl, lps_append] at this
    simp only [lps, lps_append] at this ⊢
    omega
/-- The bracket that shuts is found. -/
theorem level_end {l : List Pc} {n : Nat} (h : Fit l n) {i : Nat} (hi : (rbs l)[i]? = some 40) : lvl ((rbs l).drop i) ≤ 0 := by
  have e0 : rbs l = (rbs l).take i ++ 40 :: (rbs l).drop (i + 1) := by
    rw [← (List.getElem?_eq_some_iff.1 hi).2, List.getElem_cons_drop, List.take_append_drop]
  obtain ⟨p, q, hl, e1, e2⟩ := split_at (P := .lp) (β := 40) rfl (fun p hp hb => only_lp (h.ok p hp) hb) e0
  have hd := h.dep 0
  have e3 : (rbs l).drop i = 40 :: rbs q := by
    rw [e2, ← (List.getElem?_eq_some_iff.1 hi).2, List.getElem_cons_drop]
  have hok : ∀ x ∈ q, okPc x := fun x hx => h.ok x (by rw [hl]; simp [hx])
  rw [e3]
  simp only [lvl, if_true, lvl_rbs hok]
  rw [hl, dep_append] at hd
  cases h1 : dep 0 p with
  | none => simp [h1] at hd
  | some a =>
    simp only [h1, Option.bind_some] at hd
    have := dep_lv hd
    simp only [lvP] at this
    omega
/-! The reader in memory. -/
structure Tk where
  kind : Int
  text : ByteArray
  n : Int
  at_ : Int
abbrev tv (t : Tk) : Value := .agg #[.int .i64 t.kind, .string t.text, .int .u64 t.n, .int .i64 t.at_]
/-- Tokens in memory. -/
def TkAt (w : World) (b o : Nat) (ts : List Tk) : Prop :=
  ∀ i t, ts[i]? = some t → w.cell? ⟨b, o + i * 4, none⟩ = some (.int .i64 t.kind) ∧ w.cell? ⟨b, o + i * 4 + 1, none⟩ = some (.string t.text) ∧
    w.cell? ⟨b, o + i * 4 + 2, none⟩ = some (.int .u64 t.n) ∧ w.cell? ⟨b, o + i * 4 + 3, none⟩ = some (.int .i64 t.at_)
/-- All that was is as it was, but for one block. -/
structure Par (r : Nat) (w w' : World) : Prop where
  os : w'.os = w.os
  tape : w'.tape = w.tape
  output : w'.output = w.output
  size : w.heap.size ≤ w'.heap.size
  block : ∀ k, k < w.heap.size → k ≠ r → w'.heap[k]? = w.heap[k]?
theorem Par.refl (r : Nat) (w : World) : Par r w w := ⟨rfl, rfl, rfl, Nat.le_refl _, fun _ _ _ => rfl⟩
theorem Par.of {r : Nat} {w w' : World} (h : Below w.heap.size w w') : Par r w w' := ⟨h.os, h.tape, h.output, h.size, fun k hk _ => h.block k hk⟩
theorem Par.trans {r : Nat} {a b c : World} (h : Par r a b) (k : Par r b c) : Par r a c :=
  ⟨k.os.trans h.os, k.tape.trans h.tape, k.output.trans h.output, Nat.le_trans h.size k.size, fun i hi hne => (k.block i (Nat.lt_of_lt_of_le hi h.size) hne).trans (h.block i hi hne)⟩
theorem Par.set {r : Nat} {w w' : World} (h : Par r w w') (o : Nat) (v : Value) : Par r w (w'.setCell ⟨r, o, none⟩ v) :=
  ⟨h.os, h.tape, h.output, by have := h.size; simpa [World.setCell] using this, fun i hi hne => by rw [Below.heap_setCell w' ⟨r, o, none⟩ v i hne]; exact h.block i hi hne⟩
theorem Par.cell {r : Nat} {w w' : World} (h : Par r w w') {a : Addr} {v : Value} (hc : w.cell? a = some v) (hne : a.block ≠ r) : w'.cell? a = some v := by
  have hl := World.block_lt_of_cell? w _ hc
  have hb := h.block a.block hl hne
  unfold World.cell? at hc ⊢
  rw [hb]; exact hc
theorem TkAt.par {r : Nat} {w w' : World} {b o : Nat} {ts : List Tk} (h : TkAt w b o ts) (hp : Par r w w') (hne : b ≠ r) : TkAt w' b o ts := fun i t ht =>
  let ⟨h0, h1, h2, h3⟩ := h i t ht
  ⟨hp.cell h0 hne, hp.cell h1 hne, hp.cell h2 hne, hp.cell h3 hne⟩
theorem TkAt.tail {w : World} {b o : Nat} {t : Tk} {ts : List Tk} (h : TkAt w b o (t :: ts)) : TkAt w b (o + 4) ts := fun i u hu => by
  have := h (i + 1) u (by simpa using hu)
  rw [show o + (i + 1) * 4 = o + 4 + i * 4 from by omega] at this
  exact this
/-- The reader at block r. -/
structure Rdr (w : World) (r tb o c : Nat) (e : Int) (ts : List Tk) : Prop where
  blk : w.heap[r]? = some (.cells #[.slice (some ⟨tb, o, none⟩) ts.length c, .int .i64 e, .bool false] 83 (0, 0))
  below : tb < r
  tks : TkAt w tb o ts
  len : ts.length ≤ c
theorem Rdr.ne {w : World} {r tb o c : Nat} {e : Int} {ts : List Tk} (h : Rdr w r tb o c e ts) : tb ≠ r := Nat.ne_of_lt h.below
theorem Rdr.lt {w : World} {r tb o c : Nat} {e : Int} {ts : List Tk} (h : Rdr w r tb o c e ts) : r < w.heap.size := (Array.getElem?_eq_some_iff.1 h.blk).1
theorem Rdr.keep {w w' : World} {r tb o c : Nat} {e : Int} {ts : List Tk} (h : Rdr w r tb o c e ts) (hb : Below w.heap.size w w') : Rdr w' r tb o c e ts :=
  ⟨by rw [hb.block r h.lt]; exact h.blk, h.below, h.tks.par (Par.of hb) h.ne, h.len⟩
theorem Rdr.low {w w' : World} {r tb o c : Nat} {e : Int} {ts : List Tk} (h : Rdr w r tb o c e ts) (hb : Below (r + 1) w w') : Rdr w' r tb o c e ts :=
  ⟨by rw [hb.block r (by omega)]; exact h.blk, h.below, fun i t ht =>
    have hl : tb < r + 1 := Nat.lt_succ_of_lt h.below
    ⟨(hb.cell (p := ⟨tb, _, none⟩) hl).trans (h.tks i t ht).1, (hb.cell (p := ⟨tb, _, none⟩) hl).trans (h.tks i t ht).2.1, (hb.cell (p := ⟨tb, _, none⟩) hl).trans (h.tks i t ht).2.2.1, (hb.cell (p := ⟨tb, _, none⟩) hl).trans (h.tks i t ht).2.2.2⟩, h.len⟩
theorem Rdr.c0 {w : World} {r tb o c : Nat} {e : Int} {ts : List Tk} (h : Rdr w r tb o c e ts) : w.cell? ⟨r, 0, none⟩ = some (.slice (some ⟨tb, o, none⟩) ts.length c) := cell_of_row w r 0 _ 83 (0, 0) h.blk
theorem Rdr.c2 {w : World} {r tb o c : Nat} {e : Int} {ts : List Tk} (h : Rdr w r tb o c e ts) : w.cell? ⟨r, 2, none⟩ = some (.bool false) := cell_of_row w r 2 _ 83 (0, 0) h.blk
theorem Rdr.fz {w : World} {r tb o c : Nat} {e : Int} {ts : List Tk} (h : Rdr w r tb o c e ts) (k : Nat) : w.frozen? ⟨r, k, none⟩ = false := by
  unfold World.frozen?
  simp [h.blk]
theorem Rdr.next {w : World} {r tb o c : Nat} {e : Int} {t : Tk} {ts : List Tk} (h : Rdr w r tb o c e (t :: ts)) : Rdr (w.setCell ⟨r, 0, none⟩ (.slice (some ⟨tb, o + 4, none⟩) ts.length (c - 1))) r tb (o + 4) (c - 1) e ts := by
  refine ⟨?_, h.below, ?_, by have := h.len; simp at this; omega⟩
  · have hl := h.lt
    have hb := h.blk
    simp [World.setCell, hb, Array.getElem?_modify]
  · exact h.tks.tail.par ((Par.refl r w).set 0 _) h.ne
set_option maxRecDepth 100000 in
set_option maxHeartbeats 2000000 in
theorem at_any {w : World} {r tb o c : Nat} {e : Int} {t : Tk} {ts : List Tk} (h : Rdr w r tb o c e (t :: ts)) :
    Calls Tryz.prog 82 #[.pointer (some ⟨r, 0, none⟩)] w fun e w' => e = .returned (.int .i64 t.at_) ∧ w = w' := by
  have h0 := h.c0
  have h3 : w.cell? ⟨tb, o + 3, none⟩ = some (.int .i64 t.at_) := by simpa using (h.tks 0 t rfl).2.2.2
  have hl := h.len
  simp only [List.length_cons] at h0 hl
  clear h
  go_enter Tryz.func82, Tryz.ntmps82
  go_wp2_with fail
  go_ret
  exact ⟨rfl, rfl⟩
set_option maxRecDepth 100000 in
set_option maxHeartbeats 2000000 in
theorem peek_any {w : World} {r tb o c : Nat} {e : Int} {t : Tk} {ts : List Tk} (h : Rdr w r tb o c e (t :: ts)) :
    Calls Tryz.prog 58 #[.pointer (some ⟨r, 0, none⟩)] w fun e w' => e = .returned (tv t) ∧ Below w.heap.size w w' := by
  have h0 := h.c0
  obtain ⟨k0, k1, k2, k3⟩ := h.tks 0 t rfl
  simp only [Nat.zero_mul, Nat.add_zero] at k0 k1 k2 k3
  have hl := h.len
  simp only [List.length_cons] at h0 hl
  have hlt := h.lt
  have htb := World.block_lt_of_cell? w _ k0
  clear h
  go_enter Tryz.func58, Tryz.ntmps58
  go_wp2_with fail
  refine bodyPost_ret (results_cell_row rfl _ _ w.heap.size 85 #[.int .i64 t.kind, .string t.text, .int .u64 t.n, .int .i64 t.at_] (0, 0) _ rfl (heap_alloc_new w _) Tryz.underlying85 rfl (by kernel_rfl)) rfl ?_
  exact ⟨rfl, one_below⟩
/-- Is a token this word or sign? -/
def isB (t : Tk) (s : ByteArray) : Bool := (t.kind == 3 || t.kind == 4) && t.text.toList == s.toList
theorem box4 {w wr : World} {v0 v1 v2 v3 : Value} {ty : TypeId} (h : Below (w.heap.size + 1) (w.alloc (.cells #[v0, v1, v2, v3] ty)) wr) :
    wr.cell? ⟨w.heap.size, 0, none⟩ = some v0 ∧ wr.cell? ⟨w.heap.size, 1, none⟩ = some v1 ∧ wr.cell? ⟨w.heap.size, 2, none⟩ = some v2 ∧ wr.cell? ⟨w.heap.size, 3, none⟩ = some v3 := by
  have hs : w.heap.size < w.heap.size + 1 := by omega
  have e : ∀ j, wr.cell? ⟨w.heap.size, j, none⟩ = #[v0, v1, v2, v3][j]? := fun j =>
    (h.cell (p := ⟨w.heap.size, j, none⟩) (by exact hs)).trans (cell_of_row (w.alloc (.cells #[v0, v1, v2, v3] ty)) w.heap.size j _ ty (0, 0) (heap_alloc_new w _))
  exact ⟨e 0, e 1, e 2, e 3⟩
set_option maxRecDepth 100000 in
set_option maxHeartbeats 2000000 in
theorem is_any {w : World} {r tb o c : Nat} {e : Int} {t : Tk} {ts : List Tk} (s : ByteArray) (h : Rdr w r tb o c e (t :: ts)) :
    Calls Tryz.prog 149 #[.pointer (some ⟨r, 0, none⟩), .string s] w fun e w' => e = .returned (.bool (isB t s)) ∧ Below w.heap.size w w' := by
  have C1 := Lib.hid (peek_any h)
  clear h
  go_enter Tryz.func149, Tryz.ntmps149
  go_wp2_with fail
  refine C1.out.mono ?_
  rintro e w1 ⟨rfl, hb⟩
  have HB := Lib.hid hb
  clear hb
  by_cases k3 : t.kind = 3
  · by_cases ht : t.text.toList = s.toList
    · go_wp2_with fail
      go_ret
      exact ⟨ret_bool (by simp [isB, *]), below_then HB.out HB.out.size one_below⟩
    · go_wp2_with fail
      go_ret
      exact ⟨ret_bool (by simp [isB, *]), below_then HB.out HB.out.size one_below⟩
  · by_cases k4 : t.kind = 4
    · by_cases ht : t.text.toList = s.toList
      · go_wp2_with fail
        go_ret
        exact ⟨ret_bool (by simp [isB, *]), below_then HB.out HB.out.size one_below⟩
      · go_wp2_with fail
        go_ret
        exact ⟨ret_bool (by simp [isB, *]), below_then HB.out HB.out.size one_below⟩
    · go_wp2_with fail
      go_ret
      exact ⟨ret_bool (by simp [isB, *]), below_then HB.out HB.out.size one_below⟩
set_option maxRecDepth 100000 in
set_option maxHeartbeats 2000000 in
theorem take_miss {w : World} {r tb o c : Nat} {e : Int} {t : Tk} {ts : List Tk} (s : ByteArray) (h : Rdr w r tb o c e (t :: ts)) (hs : isB t s = false) :
    Calls Tryz.prog 115 #[.pointer (some ⟨r, 0, none⟩), .string s] w fun e w' => e = .returned (.bool false) ∧ Below w.heap.size w w' := by
  have C1 := is_any s h
  rw [hs] at C1
  have C1 := Lib.hid C1
  clear h hs
  go_enter Tryz.func115, Tryz.ntmps115
  go_wp2_with fail
  refine C1.out.mono ?_
  rintro e w1 ⟨rfl, hb⟩
  have HB := Lib.hid hb
  clear hb
  go_wp2_with fail
  go_ret
  exact ⟨rfl, HB.out⟩
set_option maxRecDepth 100000 in
set_option maxHeartbeats 2000000 in
theorem take_hit {w : World} {r tb o c : Nat} {e : Int} {t : Tk} {ts : List Tk} (s : ByteArray) (h : Rdr w r tb o c e (t :: ts)) (hs : isB t s = true) (hne : 0 < ts.length) :
    Calls Tryz.prog 115 #[.pointer (some ⟨r, 0, none⟩), .string s] w fun e1 w' => e1 = .returned (.bool true) ∧ Par r w w' ∧ Rdr w' r tb (o + 4) (c - 1) e ts := by
  have C1 := is_any s h
  rw [hs] at C1
  have C1 := Lib.hid C1
  have H := Lib.hid h
  have hl := h.len
  simp only [List.length_cons] at hl
  have hc1 : ¬ c = 1 := by omega
  clear h hs
  go_enter Tryz.func115, Tryz.ntmps115
  go_wp2_with fail
  refine C1.out.mono ?_
  rintro e w1 ⟨rfl, hb⟩
  have h1 := H.out.keep hb
  have h0 := h1.c0
  have hf := h1.fz 0
  simp only [List.length_cons] at h0
  have H1 := Lib.hid h1
  have HB := Lib.hid hb
  clear hb h1
  go_wp2_with fail
  go_ret
  exact ⟨rfl, (Par.of HB.out).set _ _, H1.out.next⟩
set_option maxRecDepth 100000 in
set_option maxHeartbeats 2000000 in
theorem want_hit {w : World} {r tb o c : Nat} {e : Int} {t : Tk} {ts : List Tk} (s : ByteArray) (h : Rdr w r tb o c e (t :: ts)) (hs : isB t s = true) (hne : 0 < ts.length) :
    Calls Tryz.prog 157 #[.pointer (some ⟨r, 0, none⟩), .string s] w fun e1 w' => e1 = .returned (.int .i64 t.at_) ∧ Par r w w' ∧ Rdr w' r tb (o + 4) (c - 1) e ts := by
  have C1 := Lib.hid (at_any h)
  have C2 := Lib.hid (take_hit s h hs hne)
  clear h hs
  go_enter Tryz.func157, Tryz.ntmps157
  go_wp2_with fail
  refine C1.out.mono ?_
  rintro e1 w1 ⟨rfl, rfl⟩
  go_wp2_with fail
  refine C2.out.mono ?_
  rintro e1 w1 ⟨rfl, hp, hr⟩
  have HP := Lib.hid hp
  have HR := Lib.hid hr
  clear hp hr
  go_wp2_with fail
  go_ret
  exact ⟨rfl, HP.out, HR.out⟩
set_option maxRecDepth 100000 in
set_option maxHeartbeats 2000000 in
theorem name_hit {w : World} {r tb o c : Nat} {e : Int} {t : Tk} {ts : List Tk} (h : Rdr w r tb o c e (t :: ts)) (hk : t.kind = 1) (hne : 0 < ts.length) :
    Calls Tryz.prog 118 #[.pointer (some ⟨r, 0, none⟩)] w fun e1 w' => e1 = .returned (.tuple #[.string t.text, .int .i64 t.at_]) ∧ Par r w w' ∧ Rdr w' r tb (o + 4) (c - 1) e ts := by
  have C1 := Lib.hid (peek_any h)
  have H := Lib.hid h
  have hl := h.len
  simp only [List.length_cons] at hl
  have hc1 : ¬ c = 1 := by omega
  clear h
  go_enter Tryz.func118, Tryz.ntmps118
  go_wp2_with fail
  refine C1.out.mono ?_
  rintro e1 w1 ⟨rfl, hb⟩
  have h1 := H.out.keep hb
  have h0 := h1.c0
  have hf := h1.fz 0
  simp only [List.length_cons] at h0
  have hr2 : r < w1.heap.size := h1.lt
  have H1 := Lib.hid h1
  have HB := Lib.hid hb
  clear hb h1
  go_wp2_with fail
  go_quiet (fail)
  go_wp2_with fail
  go_ret2
  have hx := ((Par.of (r := r) HB.out).set 0 (.slice (some ⟨tb, o + 4, none⟩) ts.length (c - 1))).trans (Par.of (drewN_below (one_below (o1 := .cells #[.int .i64 1, .string t.text, .int .u64 t.n, .int .i64 t.at_] 85)) nq))
  exact ⟨rfl, hx, H1.out.next.keep (drewN_below one_below nq)⟩
set_option maxRecDepth 100000 in
set_option maxHeartbeats 2000000 in
theorem shut_hit {w : World} {r tb o c : Nat} {e : Int} {t : Tk} {ts : List Tk} (s : ByteArray) (h : Rdr w r tb o c e (t :: ts)) (hk : t.kind = 4) (hs : t.text = s) (hne : 0 < ts.length) :
    Calls Tryz.prog 152 #[.pointer (some ⟨r, 0, none⟩), .string s] w fun e1 w' => e1 = .returned (.tuple #[]) ∧ Par r w w' ∧ Rdr w' r tb (o + 4) (c - 1) e ts := by
  have C1 := Lib.hid (peek_any h)
  have H := Lib.hid h
  have hB : isB t s = true := by simp [isB, hk, hs]
  have HB2 := Lib.hid hB
  clear h hs hB
  go_enter Tryz.func152, Tryz.ntmps152
  go_wp2_with fail
  refine C1.out.mono ?_
  rintro e1 w1 ⟨rfl, hb⟩
  have C2 := Lib.hid (want_hit s (H.out.keep (below_then hb hb.size (one_below (o1 := .cells #[.int .i64 4, .string t.text, .int .u64 t.n, .int .i64 t.at_] 85)))) HB2.out hne)
  have HB := Lib.hid hb
  clear hb
  go_wp2_with fail
  refine C2.out.mono ?_
  rintro e1 w2 ⟨rfl, hp, hr⟩
  have HP := Lib.hid hp
  have HR := Lib.hid hr
  clear hp hr
  go_wp2_with fail
  go_end0
  exact ⟨rfl, (Par.of (below_then HB.out HB.out.size one_below)).trans HP.out, HR.out⟩
/-! The reader over pieces. -/
def keyP : Pc → Int × ByteArray
  | .atom k s => (k, s)
  | .un s => (4, s)
  | .bin s => (4, s)
  | .lp => (4, ⟨#[40]⟩)
  | .rp => (4, ⟨#[41]⟩)
  | .dot => (4, ⟨#[46]⟩)
def hdK : List Pc → Int × ByteArray
  | [] => (5, ⟨#[]⟩)
  | p :: _ => keyP p
def isK (k : Int × ByteArray) (s : ByteArray) : Bool := (k.1 == 3 || k.1 == 4) && k.2.toList == s.toList
def Mt (ps : List Pc) (ts : List Tk) : Prop := ts.map (fun t => (t.kind, t.text)) = ps.map keyP ++ [(5, ⟨#[]⟩)]
/-- The reader at block r has these pieces left (and the semicolon). -/
structure RP (w : World) (r : Nat) (ps : List Pc) : Prop where
  rdr : ∃ tb o c e ts, Mt ps ts ∧ Rdr w r tb o c e ts
  base : ∃ w0 : World, Env w0 ∧ w0.heap.size ≤ r ∧ Below w0.heap.size w0 w
theorem RP.lt {w : World} {r : Nat} {ps : List Pc} (h : RP w r ps) : r < w.heap.size := by obtain ⟨_, _, _, _, _, _, h⟩ := h.rdr; exact h.lt
theorem RP.c2 {w : World} {r : Nat} {ps : List Pc} (h : RP w r ps) : w.cell? ⟨r, 2, none⟩ = some (.bool false) ∧ w.frozen? ⟨r, 2, none⟩ = false := by obtain ⟨_, _, _, _, _, _, h⟩ := h.rdr; exact ⟨h.c2, h.fz 2⟩
theorem base_par {w w' : World} {r : Nat} (h : ∃ w0 : World, Env w0 ∧ w0.heap.size ≤ r ∧ Below w0.heap.size w0 w) (hp : Par r w w') : ∃ w0 : World, Env w0 ∧ w0.heap.size ≤ r ∧ Below w0.heap.size w0 w' := by
  obtain ⟨w0, he, hl, hb⟩ := h
  exact ⟨w0, he, hl, hp.os.trans hb.os, hp.tape.trans hb.tape, hp.output.trans hb.output, Nat.le_trans hb.size hp.size, fun k hk => (hp.block k (Nat.lt_of_lt_of_le hk hb.size) (by omega)).trans (hb.block k hk)⟩
theorem RP.keep {w w' : World} {r : Nat} {ps : List Pc} (h : RP w r ps) (hb : Below w.heap.size w w') : RP w' r ps := by
  obtain ⟨tb, o, c, e, ts, hm, hr⟩ := h.rdr
  exact ⟨⟨tb, o, c, e, ts, hm, hr.keep hb⟩, base_par h.base (Par.of hb)⟩
theorem RP.ops {w : World} {r : Nat} {ps : List Pc} (h : RP w r ps) : ∃ b o c t fr, OpsAt w b o c t fr := by
  obtain ⟨w0, he, hl, hb⟩ := h.base
  obtain ⟨b, o, c, t, fr, ho⟩ := he.ops
  exact ⟨b, o, c, t, fr, ho.keep hb⟩
theorem mt_cons {p : Pc} {ps : List Pc} {ts : List Tk} (h : Mt (p :: ps) ts) : ∃ t ts', ts = t :: ts' ∧ t.kind = (keyP p).1 ∧ t.text = (keyP p).2 ∧ Mt ps ts' ∧ 0 < ts'.length := by
  cases ts with
  | nil => simp [Mt] at h
  | cons t ts =>
    simp only [Mt, List.map_cons, List.cons_append, List.cons.injEq] at h
    refine ⟨t, ts, rfl, ?_, ?_, h.2, ?_⟩
    · rw [← h.1]
    · rw [← h.1]
    · have := congrArg List.length h.2
      simp at this; omega
theorem mt_any {ps : List Pc} {ts : List Tk} (h : Mt ps ts) : ∃ t ts', ts = t :: ts' ∧ t.kind = (hdK ps).1 ∧ t.text = (hdK ps).2 := by
  cases ps with
  | cons p ps => obtain ⟨t, ts', e, h1, h2, _⟩ := mt_cons h; exact ⟨t, ts', e, h1, h2⟩
  | nil =>
    cases ts with
    | nil => simp [Mt] at h
    | cons t ts =>
      simp only [Mt, List.map_cons, List.map_nil, List.nil_append, List.cons.injEq] at h
      exact ⟨t, ts, rfl, by rw [hdK, ← h.1], by rw [hdK, ← h.1]⟩
theorem rp_at {w : World} {r : Nat} {ps : List Pc} (h : RP w r ps) : Calls Tryz.prog 82 #[.pointer (some ⟨r, 0, none⟩)] w fun e w' => (∃ a, e = .returned (.int .i64 a)) ∧ w = w' := by
  obtain ⟨tb, o, c, e, ts, hm, hr⟩ := h.rdr
  obtain ⟨t, ts', rfl, -, -⟩ := mt_any hm
  exact (at_any hr).mono fun e w' ⟨h1, h2⟩ => ⟨⟨_, h1⟩, h2⟩
theorem rp_peek {w : World} {r : Nat} {ps : List Pc} (h : RP w r ps) :
    Calls Tryz.prog 58 #[.pointer (some ⟨r, 0, none⟩)] w fun e w' => ∃ n a, e = .returned (.agg #[.int .i64 (hdK ps).1, .string (hdK ps).2, .int .u64 n, .int .i64 a]) ∧ Below w.heap.size w w' := by
  obtain ⟨tb, o, c, e, ts, hm, hr⟩ := h.rdr
  obtain ⟨t, ts', rfl, h1, h2⟩ := mt_any hm
  rw [← h1, ← h2]
  exact (peek_any hr).mono fun e w' ⟨h1, h2⟩ => ⟨_, _, h1, h2⟩
theorem rp_miss {w : World} {r : Nat} {ps : List Pc} (s : ByteArray) (h : RP w r ps) (hs : isK (hdK ps) s = false) :
    Calls Tryz.prog 115 #[.pointer (some ⟨r, 0, none⟩), .string s] w fun e w' => e = .returned (.bool false) ∧ Below w.heap.size w w' := by
  obtain ⟨tb, o, c, e, ts, hm, hr⟩ := h.rdr
  obtain ⟨t, ts', rfl, h1, h2⟩ := mt_any hm
  exact take_miss s hr (by rw [isB, h1, h2]; exact hs)
theorem rp_hit {w : World} {r : Nat} {p : Pc} {ps : List Pc} (s : ByteArray) (h : RP w r (p :: ps)) (hs : isK (keyP p) s = true) :
    Calls Tryz.prog 115 #[.pointer (some ⟨r, 0, none⟩), .string s] w fun e w' => e = .returned (.bool true) ∧ Par r w w' ∧ RP w' r ps := by
  obtain ⟨tb, o, c, e, ts, hm, hr⟩ := h.rdr
  obtain ⟨t, ts', rfl, h1, h2, hm', hne⟩ := mt_cons hm
  exact (take_hit s hr (by rw [isB, h1, h2]; exact hs) hne).mono fun e w' ⟨h1, h2, h3⟩ => ⟨h1, h2, ⟨⟨_, _, _, _, _, hm', h3⟩, base_par h.base h2⟩⟩
theorem rp_name {w : World} {r : Nat} {s : ByteArray} {ps : List Pc} (h : RP w r (.atom 1 s :: ps)) :
    Calls Tryz.prog 118 #[.pointer (some ⟨r, 0, none⟩)] w fun e w' => (∃ a, e = .returned (.tuple #[.string s, .int .i64 a])) ∧ Par r w w' ∧ RP w' r ps := by
  obtain ⟨tb, o, c, e, ts, hm, hr⟩ := h.rdr
  obtain ⟨t, ts', rfl, h1, h2, hm', hne⟩ := mt_cons hm
  obtain rfl : s = t.text := h2.symm
  exact (name_hit hr h1 hne).mono fun e w' ⟨h1, h3, h4⟩ => ⟨⟨_, h1⟩, h3, ⟨⟨_, _, _, _, _, hm', h4⟩, base_par h.base h3⟩⟩
theorem rp_shut {w : World} {r : Nat} {ps : List Pc} (h : RP w r (.rp :: ps)) :
    Calls Tryz.prog 152 #[.pointer (some ⟨r, 0, none⟩), .string ⟨#[41]⟩] w fun e w' => e = .returned (.tuple #[]) ∧ Par r w w' ∧ RP w' r ps := by
  obtain ⟨tb, o, c, e, ts, hm, hr⟩ := h.rdr
  obtain ⟨t, ts', rfl, h1, h2, hm', hne⟩ := mt_cons hm
  exact (shut_hit ⟨#[41]⟩ hr h1 h2 hne).mono fun e w' ⟨h1, h3, h4⟩ => ⟨h1, h3, ⟨⟨_, _, _, _, _, hm', h4⟩, base_par h.base h3⟩⟩
theorem RP.low {w w' : World} {r : Nat} {ps : List Pc} (h : RP w r ps) (hb : Below (r + 1) w w') : RP w' r ps := by
  obtain ⟨tb, o, c, e, ts, hm, hr⟩ := h.rdr
  obtain ⟨w0, he, hl, hb0⟩ := h.base
  exact ⟨⟨tb, o, c, e, ts, hm, hr.low hb⟩, w0, he, hl, hb0.trans (hb.mono (by omega))⟩
/-- Below a number nothing turns but one block. -/
theorem Par.low {r : Nat} {w w1 w2 : World} (h : Par r w w1) (hb : Below w.heap.size w1 w2) : Par r w w2 :=
  ⟨hb.os.trans h.os, hb.tape.trans h.tape, hb.output.trans h.output, Nat.le_trans h.size hb.size, fun k hk hne => (hb.block k hk).trans (h.block k hk hne)⟩
/-- A list of trees that lies in the blocks from B on and ahead of E. -/
def RdIn (B E : Nat) (w : World) (l : List T) (A : Option Addr) (c : Nat) : Prop := ∀ w' : World, (∀ k, B ≤ k → k < E → w'.heap[k]? = w.heap[k]?) → Rd w' l A c
theorem RdIn.nil (B E : Nat) (w : World) : RdIn B E w [] none 0 := fun w' _ => Rd.nil w'
theorem RdIn.rd {B E : Nat} {w : World} {l : List T} {A : Option Addr} {c : Nat} (h : RdIn B E w l A c) : Rd w l A c := h w fun _ _ _ => rfl
theorem RdIn.wide {B E B' E' : Nat} {w w' : World} {l : List T} {A : Option Addr} {c : Nat} (h : RdIn B E w l A c) (hB : B' ≤ B) (hE : E ≤ E') (hw : ∀ k, B ≤ k → k < E → w'.heap[k]? = w.heap[k]?) : RdIn B' E' w' l A c :=
  fun w'' hk => h w'' fun k h1 h2 => (hk k (by omega) (by omega)).trans (hw k h1 h2)
/-! What the parser's functions promise. -/
/-- What may stand behind an expression of operators that bind at least k. -/
def stopP (k : Int) : List Pc → Prop
  | [] => True
  | .rp :: _ => True
  | .bin s :: _ => bindsT s < k
  | _ => False
/-- A tree was read. -/
structure Got (w w' : World) (r n : Nat) (ps : List Pc) (x : T) (A : Option Addr) (c : Nat) (used rest : List Pc) : Prop where
  par : Par r w w'
  rp : RP w' r rest
  rd : RdIn w.heap.size w'.heap.size w' x.list A c
  split : ps = used ++ rest
  run : runS .b rest = some .b
  dep : dep n rest = some 0
  size : x.size ≤ used.length
/-- What is to be read. -/
structure Ask (w : World) (r n : Nat) (ps : List Pc) : Prop where
  rp : RP w r ps
  run : runS .a ps = some .b
  ok : ∀ p ∈ ps, okPc p
  dep : dep n ps = some 0
def OperandC (ps : List Pc) : Prop := ∀ (w : World) (r n : Nat), Ask w r n ps → (∀ s l, ps ≠ .un s :: l) →
  Calls Tryz.prog 116 #[.pointer (some ⟨r, 0, none⟩)] w fun e w' => ∃ x A c used rest, e = .returned (nv x A c) ∧ Got w w' r n ps x A c used rest ∧ x.need + b2n (stemB x) ≤ lps used
def UnaryC (ps : List Pc) : Prop := ∀ (w : World) (r n : Nat), Ask w r n ps →
  Calls Tryz.prog 83 #[.pointer (some ⟨r, 0, none⟩)] w fun e w' => ∃ x A c used rest, e = .returned (nv x A c) ∧ Got w w' r n ps x A c used rest ∧ x.need + b2n (twoB x) ≤ lps used ∧ stopP 100 rest
def ExprC (ps : List Pc) : Prop := ∀ (w : World) (r n : Nat) (k : Int), Ask w r n ps → 1 ≤ k → k ≤ 6 →
  Calls Tryz.prog 63 #[.pointer (some ⟨r, 0, none⟩), .int .i64 k] w fun e w' => ∃ x A c used rest, e = .returned (nv x A c) ∧ Got w w' r n ps x A c used rest ∧
    x.need + b2n (twoB x && decide (bindsT x.text < k)) ≤ lps used ∧ stopP k rest
/-- A node of zeros. -/
abbrev zbox : Obj := .cells #[.int .i64 0, .string ⟨#[]⟩, .int .u64 0, .int .i64 0, .slice none 0 0] 25
abbrev zrow : Option Obj := some (.cells #[.int .i64 0, .string ⟨#[]⟩, .int .u64 0, .int .i64 0, .slice none 0 0] 25 (0, 0))
theorem zero_facts {W : World} {g : Nat} (h : W.heap[g]? = zrow) :
    (W.cell? ⟨g, 0, none⟩ = some (.int .i64 0) ∧ W.cell? ⟨g, 1, none⟩ = some (.string ⟨#[]⟩) ∧ W.cell? ⟨g, 2, none⟩ = some (.int .u64 0) ∧ W.cell? ⟨g, 3, none⟩ = some (.int .i64 0) ∧ W.cell? ⟨g, 4, none⟩ = some (.slice none 0 0)) ∧
      ∀ k, W.frozen? ⟨g, k, none⟩ = false :=
  ⟨⟨Lib.cell_of_heap h 0, Lib.cell_of_heap h 1, Lib.cell_of_heap h 2, Lib.cell_of_heap h 3, Lib.cell_of_heap h 4⟩, fun k => Lib.frozen_of_heap h k⟩
/-- The two boxes that operand makes. -/
abbrev opW (w : World) (r : Nat) : World := (w.alloc (.cells #[.pointer (some ⟨r, 0, none⟩)] 50)).alloc zbox
theorem opW_below (w : World) (r : Nat) : Below w.heap.size w (opW w r) := below_then one_below one_below.size one_below
theorem opW_size (w : World) (r : Nat) : (opW w r).heap.size = w.heap.size + 2 := by rw [size_alloc, size_alloc]
theorem opW_cap (w : World) (r : Nat) : (opW w r).cell? ⟨w.heap.size, 0, none⟩ = some (.pointer (some ⟨r, 0, none⟩)) :=
  keep_cell one_below (cell_of_row (w.alloc (.cells #[.pointer (some ⟨r, 0, none⟩)] 50)) w.heap.size 0 _ 50 (0, 0) (heap_alloc_new w _))
theorem opW_res (w : World) (r : Nat) : (opW w r).heap[w.heap.size + 1]? = zrow := by
  have := heap_alloc_new (w.alloc (.cells #[.pointer (some ⟨r, 0, none⟩)] 50)) zbox
  rw [size_alloc] at this
  exact this
/-- What holds of operand's boxes later on. -/
structure OpB (w : World) (r : Nat) (W : World) : Prop where
  par : Par r w W
  cap : W.cell? ⟨w.heap.size, 0, none⟩ = some (.pointer (some ⟨r, 0, none⟩))
  res : W.heap[w.heap.size + 1]? = zrow
  size : w.heap.size + 2 ≤ W.heap.size
  lt : r < w.heap.size
theorem opB0 {w : World} {r : Nat} (h : r < w.heap.size) : OpB w r (opW w r) := ⟨Par.of (opW_below w r), opW_cap w r, opW_res w r, by rw [opW_size]; exact Nat.le_refl _, h⟩
theorem OpB.step {w W W' : World} {r : Nat} (h : OpB w r W) (hp : Par r W W') : OpB w r W' :=
  have hs := h.size
  have hl := h.lt
  ⟨h.par.trans hp, hp.cell h.cap (by simp; omega), (hp.block (w.heap.size + 1) (by omega) (by omega)).trans h.res, Nat.le_trans hs hp.size, hl⟩
/-- operand's end: a node without children was stored. -/
theorem op_end {w W : World} {r n : Nat} {k : Int} {s : ByteArray} {ps : List Pc} (hA : Ask w r n (.atom k s :: ps)) (hB : OpB w r W) (hr : RP W r ps) (x : T) (hx : x.list = []) :
    Got w (put5 W (w.heap.size + 1) (.int .i64 x.kind) (.string x.text) (.int .u64 x.num) (.int .i64 x.place) (.slice none 0 0)) r n (.atom k s :: ps) x none 0 [.atom k s] ps :=
  have hl := hB.lt
  ⟨hB.par.low (put5_below (Below.refl _ _) (by omega) _ _ _ _ _), hr.low (put5_below (Below.refl _ _) (by omega) _ _ _ _ _), by rw [hx]; exact RdIn.nil _ _ _, rfl, by simpa [runS, nxt] using hA.run,
    by simpa [dep] using hA.dep, by rw [T.size_eq, hx]; simp [T.sizes]⟩
theorem fin116 {tmps : Array Value} {W : World} {g : Nat} {x : T} {A : Option Addr} {c : Nat} {R : Ending → World → Prop} (hz : W.heap[g]? = zrow) (hp : tmps.getD 2 undef = .pointer (some ⟨g, 0, none⟩))
    (h : R (.returned (nv x A c)) (put5 W g (.int .i64 x.kind) (.string x.text) (.int .u64 x.num) (.int .i64 x.place) (.slice A x.list.length c))) :
    bodyPost Tryz.prog Tryz.f116 R Exit.ret { tmps := tmps, defers := [] } (put5 W g (.int .i64 x.kind) (.string x.text) (.int .u64 x.num) (.int .i64 x.place) (.slice A x.list.length c)) :=
  bodyPost_ret (results_cell_row rfl _ _ g 25 #[.int .i64 x.kind, .string x.text, .int .u64 x.num, .int .i64 x.place, .slice A x.list.length c] (0, 0) _ hp (put5_same _ _ _ _ _ hz) Tryz.underlying25 rfl (by kernel_rfl)) rfl h
theorem below2 {w : World} {o1 o2 : Obj} : Below w.heap.size w ((w.alloc o1).alloc o2) := below_then one_below one_below.size one_below
theorem cell_two {w w' : World} {o1 o2 : Obj} (hb : Below ((w.alloc o1).alloc o2).heap.size ((w.alloc o1).alloc o2) w') : (∀ {k : Nat} {v : Value}, ((w.alloc o1).alloc o2).cell? ⟨w.heap.size, k, none⟩ = some v → w'.cell? ⟨w.heap.size, k, none⟩ = some v) := fun h => keep_cell hb h
theorem cap_cell {w w' : World} {v : Value} {ty : TypeId} {o2 : Obj} (hb : Below ((w.alloc (.cells #[v] ty)).alloc o2).heap.size ((w.alloc (.cells #[v] ty)).alloc o2) w') : w'.cell? ⟨w.heap.size, 0, none⟩ = some v := by
  refine keep_cell hb ?_
  have h1 : (w.alloc (.cells #[v] ty)).cell? ⟨w.heap.size, 0, none⟩ = some v := cell_of_row (w.alloc (.cells #[v] ty)) w.heap.size 0 _ ty (0, 0) (heap_alloc_new w _)
  exact keep_cell one_below h1
set_option maxRecDepth 100000 in
set_option maxHeartbeats 2000000 in
theorem operand_int (s : ByteArray) (ps : List Pc) : OperandC (.atom 2 s :: ps) := by
  intro w r n hA _
  obtain ⟨tb, o, c, e, ts, hm, hr⟩ := hA.rp.rdr
  obtain ⟨t, ts', rfl, hk, -, hm', hne⟩ := mt_cons hm
  replace hk : t.kind = 2 := hk
  have hr2 := hr.keep (opW_below w r)
  have HR0 := Lib.hid hr.lt
  have C1 := Lib.hid (peek_any hr2)
  have HA := Lib.hid hA
  have hl := hr.len
  simp only [List.length_cons] at hl
  have hc1 : ¬ c = 1 := by omega
  have HR := Lib.hid hr2
  have HM := Lib.hid hm'
  have hlt := hr.lt
  clear hA hm hm' hr hr2
  go_enter Tryz.func116, Tryz.ntmps116
  go_wp2_with fail
  refine C1.out.mono ?_
  rintro e1 w1 ⟨rfl, hb⟩
  have hr1 := HR.out.keep hb
  have h0 := hr1.c0
  have hf := hr1.fz 0
  have hcap := cap_cell hb
  simp only [List.length_cons] at h0
  have hs1 := hb.size
  simp only [size_alloc] at hs1
  have HR1 := Lib.hid hr1
  have HB := Lib.hid hb
  clear hb hr1
  go_wp2_with fail
  have hg := HR1.out.keep (one_below (o1 := .cells #[.int .i64 2, .string t.text, .int .u64 t.n, .int .i64 t.at_] 85))
  have hf2 := hg.fz 0
  have h02 := hg.c0
  have hcap2 := keep_cell (one_below (o1 := .cells #[.int .i64 2, .string t.text, .int .u64 t.n, .int .i64 t.at_] 85)) hcap
  simp only [List.length_cons] at h02
  clear hg
  go_region
  have hP : Par r (w1.alloc (.cells #[.int .i64 2, .string t.text, .int .u64 t.n, .int .i64 t.at_] 85)) (((w1.alloc (.cells #[.int .i64 2, .string t.text, .int .u64 t.n, .int .i64 t.at_] 85)).setCell ⟨r, 0, none⟩ (.slice (some ⟨tb, o + 4, none⟩) ts'.length (c - 1))).drew) :=
    ((Par.refl _ _).set 0 _).trans (Par.of (Below.refl _ _).drew)
  have hOB : OpB w r w1 := (opB0 HR0.out).step (Par.of HB.out)
  have hRP := (HR1.out.keep (one_below (o1 := .cells #[.int .i64 2, .string t.text, .int .u64 t.n, .int .i64 t.at_] 85))).next.keep (Below.refl _ _).drew
  have hO3 := (hOB.step (Par.of one_below)).step hP
  obtain ⟨b0, b1, b2, b3⟩ := box4 (w := w1) (Below.refl _ (w1.alloc (.cells #[.int .i64 2, .string t.text, .int .u64 t.n, .int .i64 t.at_] 85)))
  have hsz := hOB.size
  have b2 := hP.cell b2 (by simp; omega)
  have b3 := hP.cell b3 (by simp; omega)
  generalize World.drew _ = W3 at *
  obtain ⟨⟨r0, r1, r2, r3, r4⟩, f1⟩ := zero_facts hO3.res
  have HO3 := Lib.hid hO3
  have HRP := Lib.hid hRP
  clear hO3 hRP hP hOB
  go_wp2_with fail
  refine fin116 (x := .mk 31 ⟨#[]⟩ t.n t.at_ []) (A := none) (c := 0) HO3.out.res rfl ?_
  exact ⟨_, _, _, _, _, rfl, op_end HA.out HO3.out ⟨⟨_, _, _, _, _, HM.out, HRP.out⟩, base_par HA.out.rp.base HO3.out.par⟩ _ rfl, by simp [T.need, T.needs, stemB, b2n, lps]⟩
/-- The text of a flag. -/
def flagT (b : Bool) : ByteArray := cond b ⟨#[116, 114, 117, 101]⟩ ⟨#[102, 97, 108, 115, 101]⟩
set_option maxRecDepth 100000 in
set_option maxHeartbeats 2000000 in
theorem operand_flag (f : Bool) (ps : List Pc) : OperandC (.atom 3 (flagT f) :: ps) := by
  intro w r n hA _
  have hO := opB0 hA.rp.lt
  have hrp := hA.rp.keep (opW_below w r)
  have C1 := rp_peek hrp
  simp only [hdK, keyP] at C1
  have C1 := Lib.hid C1
  have HA := Lib.hid hA
  have HO := Lib.hid hO
  have HP := Lib.hid hrp
  clear hA hO hrp
  go_enter Tryz.func116, Tryz.ntmps116
  go_wp2_with fail
  refine C1.out.mono ?_
  rintro e1 w1 ⟨nn, a, rfl, hb⟩
  have hO1 := (HO.out.step (Par.of hb)).step (Par.of (one_below (o1 := .cells #[.int .i64 3, .string (flagT f), .int .u64 nn, .int .i64 a] 85)))
  have hP1 := (HP.out.keep hb).keep (one_below (o1 := .cells #[.int .i64 3, .string (flagT f), .int .u64 nn, .int .i64 a] 85))
  obtain ⟨b0, b1, b2, b3⟩ := box4 (w := w1) (Below.refl _ (w1.alloc (.cells #[.int .i64 3, .string (flagT f), .int .u64 nn, .int .i64 a] 85)))
  have hsz := HO.out.size
  have hs1 := hb.size
  have hlt := HO.out.lt
  have hcap := hO1.cap
  clear hb
  cases f with
  | true =>
    have C2 := Lib.hid (rp_hit ⟨#[116, 114, 117, 101]⟩ hP1 (show isK (3, flagT true) _ = true by decide +kernel))
    have HO1 := Lib.hid hO1
    clear hP1 hO1
    go_wp2_with fail
    refine C2.out.mono ?_
    rintro e1 w2 ⟨rfl, hp, hr⟩
    have hO2 := HO1.out.step hp
    have b3 := hp.cell b3 (by simp; omega)
    obtain ⟨⟨r0, r1, r2, r3, r4⟩, f1⟩ := zero_facts hO2.res
    have HO2 := Lib.hid hO2
    have HR2 := Lib.hid hr
    clear hp hr hO2
    go_wp2_with fail
    refine fin116 (x := .mk 32 ⟨#[]⟩ 1 a []) (A := none) (c := 0) HO2.out.res rfl ?_
    exact ⟨_, _, _, _, _, rfl, op_end HA.out HO2.out HR2.out _ rfl, by simp [T.need, T.needs, stemB, b2n, lps]⟩
  | false =>
    have C2 := Lib.hid (rp_miss ⟨#[116, 114, 117, 101]⟩ hP1 (show isK (3, flagT false) _ = false by decide +kernel))
    have HO1 := Lib.hid hO1
    have HP1 := Lib.hid hP1
    clear hP1 hO1
    go_wp2_with fail
    refine C2.out.mono ?_
    rintro e1 w2 ⟨rfl, hb2⟩
    have hO2 := HO1.out.step (Par.of hb2)
    have C3 := Lib.hid (rp_hit ⟨#[102, 97, 108, 115, 101]⟩ (HP1.out.keep hb2) (show isK (3, flagT false) _ = true by decide +kernel))
    have b3 := keep_cell hb2 b3
    have hcap := hO2.cap
    have HO2 := Lib.hid hO2
    clear hb2 hO2
    go_wp2_with fail
    refine C3.out.mono ?_
    rintro e1 w3 ⟨rfl, hp, hr⟩
    have hO3 := HO2.out.step hp
    have hsz1 := HO1.out.size
    have b3 := hp.cell b3 (by simp; omega)
    obtain ⟨⟨r0, r1, r2, r3, r4⟩, f1⟩ := zero_facts hO3.res
    have HO3 := Lib.hid hO3
    have HR3 := Lib.hid hr
    clear hp hr hO3
    go_wp2_with fail
    refine fin116 (x := .mk 32 ⟨#[]⟩ 0 a []) (A := none) (c := 0) HO3.out.res rfl ?_
    exact ⟨_, _, _, _, _, rfl, op_end HA.out HO3.out HR3.out _ rfl, by simp [T.need, T.needs, stemB, b2n, lps]⟩
/-- Nothing behind an operand is this sign. -/
theorem behind_miss {ps : List Pc} (h : runS .b ps = some .b) (hok : ∀ p ∈ ps, okPc p) (s : ByteArray) (hs : ((opsL.all fun y => y.toList != s.toList) && ([41] != s.toList && [46] != s.toList)) = true) : isK (hdK ps) s = false := by
  simp only [Bool.and_eq_true, List.all_eq_true] at hs
  cases ps with
  | nil => simp [hdK, isK]
  | cons p ps =>
    cases p with
    | atom k t => simp [runS, nxt] at h
    | un t => simp [runS, nxt] at h
    | lp => simp [runS, nxt] at h
    | rp =>
      have := hs.2.1
      simp [hdK, keyP, isK, Lib.toList_data] at this ⊢
      exact this
    | dot =>
      have := hs.2.2
      simp [hdK, keyP, isK, Lib.toList_data] at this ⊢
      exact this
    | bin t =>
      have := hs.1 t (ops_of_binds (hok (.bin t) (by simp)))
      simp [hdK, keyP, isK] at this ⊢
      exact this
set_option maxRecDepth 100000 in
set_option maxHeartbeats 4000000 in
theorem operand_name (s : ByteArray) (ps : List Pc) : OperandC (.atom 1 s :: ps) := by
  intro w r n hA _
  have hO := opB0 hA.rp.lt
  have hrp := hA.rp.keep (opW_below w r)
  have C1 := rp_peek hrp
  simp only [hdK, keyP] at C1
  have C1 := Lib.hid C1
  have HA := Lib.hid hA
  have HO := Lib.hid hO
  have HP := Lib.hid hrp
  have hrun : runS .b ps = some .b := by simpa [runS, nxt] using hA.run
  have hok : ∀ p ∈ ps, okPc p := fun p hp => hA.ok p (by simp [hp])
  have HM1 := Lib.hid (behind_miss hrun hok ⟨#[40]⟩ (by decide +kernel))
  have HM2 := Lib.hid (behind_miss hrun hok ⟨#[123]⟩ (by decide +kernel))
  clear hA hO hrp hrun hok
  go_enter Tryz.func116, Tryz.ntmps116
  go_wp2_with fail
  refine C1.out.mono ?_
  rintro e1 w1 ⟨nn, a, rfl, hb⟩
  have hO1 := (HO.out.step (Par.of hb)).step (Par.of (one_below (o1 := .cells #[.int .i64 1, .string s, .int .u64 nn, .int .i64 a] 85)))
  have hP1 := (HP.out.keep hb).keep (one_below (o1 := .cells #[.int .i64 1, .string s, .int .u64 nn, .int .i64 a] 85))
  obtain ⟨b0, b1, b2, b3⟩ := box4 (w := w1) (Below.refl _ (w1.alloc (.cells #[.int .i64 1, .string s, .int .u64 nn, .int .i64 a] 85)))
  have hsz := HO.out.size
  have hs1 := hb.size
  have hlt := HO.out.lt
  have hcap := hO1.cap
  clear hb
  have C2 := Lib.hid (rp_miss ⟨#[116, 114, 117, 101]⟩ hP1 (show isK (1, s) _ = false by simp [isK]))
  have HO1 := Lib.hid hO1
  have HP1 := Lib.hid hP1
  clear hP1 hO1
  go_wp2_with fail
  refine C2.out.mono ?_
  rintro e1 w2 ⟨rfl, hb2⟩
  have hO2 := HO1.out.step (Par.of hb2)
  have hP2 := HP1.out.keep hb2
  have C3 := Lib.hid (rp_miss ⟨#[102, 97, 108, 115, 101]⟩ hP2 (show isK (1, s) _ = false by simp [isK]))
  have b3 := keep_cell hb2 b3
  have hcap := hO2.cap
  have HO2 := Lib.hid hO2
  have HP2 := Lib.hid hP2
  clear hb2 hO2 hP2
  go_wp2_with fail
  refine C3.out.mono ?_
  rintro e1 w3 ⟨rfl, hb3⟩
  have hO3 := HO2.out.step (Par.of hb3)
  have hP3 := HP2.out.keep hb3
  have C4 := Lib.hid (rp_miss ⟨#[40]⟩ hP3 (show isK (1, s) _ = false by simp [isK]))
  have b3 := keep_cell hb3 b3
  have hcap := hO3.cap
  have HO3 := Lib.hid hO3
  have HP3 := Lib.hid hP3
  clear hb3 hO3 hP3
  go_wp2_with fail
  refine C4.out.mono ?_
  rintro e1 w4 ⟨rfl, hb4⟩
  have hO4 := HO3.out.step (Par.of hb4)
  have hP4 := HP3.out.keep hb4
  have C5 := Lib.hid (rp_miss ⟨#[102, 117, 110, 99]⟩ hP4 (show isK (1, s) _ = false by simp [isK]))
  have b3 := keep_cell hb4 b3
  have hcap := hO4.cap
  have HO4 := Lib.hid hO4
  have HP4 := Lib.hid hP4
  clear hb4 hO4 hP4
  go_wp2_with fail
  refine C5.out.mono ?_
  rintro e1 w5 ⟨rfl, hb5⟩
  have hO5 := HO4.out.step (Par.of hb5)
  have hP5 := HP4.out.keep hb5
  have C6 := Lib.hid (rp_name hP5)
  have b3 := keep_cell hb5 b3
  have hcap := hO5.cap
  have HO5 := Lib.hid hO5
  clear hb5 hO5 hP5
  go_wp2_with fail
  refine C6.out.mono ?_
  rintro e1 w6 ⟨⟨a2, rfl⟩, hp6, hr6⟩
  have hO6 := HO5.out.step hp6
  have b3 := hp6.cell b3 (by simp; omega)
  have hcap := hO6.cap
  obtain ⟨h2, hf2⟩ := hr6.c2
  have C7 := Lib.hid (rp_miss ⟨#[40]⟩ hr6 HM1.out)
  have C8 := Lib.hid (rp_miss ⟨#[123]⟩ hr6 HM2.out)
  have HO6 := Lib.hid hO6
  have HR6 := Lib.hid hr6
  clear hp6 hr6 hO6
  by_cases hmk : s.toList = [109, 97, 107, 101]
  · clear C8
    go_wp2_with fail
    refine C7.out.mono ?_
    rintro e1 w7 ⟨rfl, hb7⟩
    have hO7 := HO6.out.step (Par.of hb7)
    have hP7 := HR6.out.keep hb7
    have b3 := keep_cell hb7 b3
    have hcap := hO7.cap
    obtain ⟨h2, hf2⟩ := hP7.c2
    have C8 := Lib.hid (rp_miss ⟨#[123]⟩ hP7 HM2.out)
    have HO7 := Lib.hid hO7
    have HR7 := Lib.hid hP7
    clear hb7 hO7 hP7
    go_wp2_with fail
    refine C8.out.mono ?_
    rintro e1 w8 ⟨rfl, hb8⟩
    have hO8 := HO7.out.step (Par.of hb8)
    have hP8 := HR7.out.keep hb8
    have b3 := keep_cell hb8 b3
    obtain ⟨⟨r0, r1, r2, r3, r4⟩, f1⟩ := zero_facts hO8.res
    have HO8 := Lib.hid hO8
    have HR8 := Lib.hid hP8
    clear hb8 hO8 hP8
    go_wp2_with fail
    refine fin116 (x := .mk 30 s 0 a []) (A := none) (c := 0) HO8.out.res rfl ?_
    exact ⟨_, _, _, _, _, rfl, op_end HA.out HO8.out HR8.out _ rfl, by simp [T.need, T.needs, stemB, b2n, lps]⟩
  · clear C7
    go_wp2_with fail
    refine C8.out.mono ?_
    rintro e1 w8 ⟨rfl, hb8⟩
    have hO8 := HO6.out.step (Par.of hb8)
    have hP8 := HR6.out.keep hb8
    have b3 := keep_cell hb8 b3
    obtain ⟨⟨r0, r1, r2, r3, r4⟩, f1⟩ := zero_facts hO8.res
    have HO8 := Lib.hid hO8
    have HR8 := Lib.hid hP8
    clear hb8 hO8 hP8
    go_wp2_with fail
    refine fin116 (x := .mk 30 s 0 a []) (A := none) (c := 0) HO8.out.res rfl ?_
    exact ⟨_, _, _, _, _, rfl, op_end HA.out HO8.out HR8.out _ rfl, by simp [T.need, T.needs, stemB, b2n, lps]⟩
theorem Rdr.set2 {w : World} {r tb o c : Nat} {e : Int} {ts : List Tk} (h : Rdr w r tb o c e ts) : Rdr (w.setCell ⟨r, 2, none⟩ (.bool false)) r tb o c e ts := by
  refine ⟨?_, h.below, ?_, h.len⟩
  · have hb := h.blk
    simp [World.setCell, hb, Array.getElem?_modify]
  · exact h.tks.par ((Par.refl r w).set 2 _) h.ne
theorem RP.set2 {w : World} {r : Nat} {ps : List Pc} (h : RP w r ps) : RP (w.setCell ⟨r, 2, none⟩ (.bool false)) r ps := by
  obtain ⟨tb, o, c, e, ts, hm, hr⟩ := h.rdr
  exact ⟨⟨tb, o, c, e, ts, hm, hr.set2⟩, base_par h.base ((Par.refl r w).set 2 _)⟩
/-- What the closure in brackets has done. -/
structure Ins (w w' : World) (r g n : Nat) (ps : List Pc) (x : T) (A : Option Addr) (c : Nat) (used rest : List Pc) : Prop where
  os : w'.os = w.os
  tape : w'.tape = w.tape
  output : w'.output = w.output
  size : w.heap.size ≤ w'.heap.size
  block : ∀ k, k < w.heap.size → k ≠ r → k ≠ g → w'.heap[k]? = w.heap[k]?
  box : w'.heap[g]? = some (.cells #[.int .i64 x.kind, .string x.text, .int .u64 x.num, .int .i64 x.place, .slice A x.list.length c] 25 (0, 0))
  rp : RP w' r rest
  rd : RdIn w.heap.size w'.heap.size w' x.list A c
  split : ps = used ++ .rp :: rest
  run : runS .b rest = some .b
  dep : dep n rest = some 0
  sz : x.size ≤ used.length
  need : x.need ≤ lps used
theorem run_rest {used rest ps : List Pc} (hs : ps = used ++ rest) (hok : ∀ p ∈ ps, okPc p) : ∀ p ∈ rest, okPc p := fun p hp => hok p (by rw [hs]; simp [hp])
set_option maxRecDepth 100000 in
set_option maxHeartbeats 4000000 in
theorem closure_any {ps : List Pc} (hE : ExprC ps) (w : World) (r g0 g n : Nat) (hA : Ask w r (n + 1) ps) (hc : w.cell? ⟨g0, 0, none⟩ = some (.pointer (some ⟨r, 0, none⟩))) (h0 : r < g0) (hg : r < g) (hg2 : g0 ≠ g) (hz : w.heap[g]? = zrow) :
    Calls Tryz.prog 151 #[.pointer (some ⟨g0, 0, none⟩), .pointer (some ⟨g, 0, none⟩)] w fun e w' => ∃ x A c used rest, e = .returned (.tuple #[]) ∧ Ins w w' r g n ps x A c used rest := by
  have C1 := Lib.hid (hE w r (n + 1) 1 hA (by omega) (by omega))
  have HA := Lib.hid hA
  have hgl : g < w.heap.size := (Array.getElem?_eq_some_iff.1 hz).1
  have HZ := Lib.hid hz
  clear hA hE hz
  go_enter Tryz.func151, Tryz.ntmps151
  go_wp2_with fail
  refine C1.out.mono ?_
  rintro e1 w1 ⟨x, A, c, used, rest, rfl, hG, hn, hstop⟩
  have hz1 := (hG.par.block g hgl (by omega)).trans HZ.out
  obtain ⟨⟨r0, r1, r2, r3, r4⟩, f1⟩ := zero_facts hz1
  have hcap := hG.par.cell hc (by simp; omega)
  have hd := hG.dep
  have hrun := hG.run
  obtain ⟨rest, rfl⟩ : ∃ q, rest = .rp :: q := by
    cases rest with
    | nil => simp [dep] at hd
    | cons p q =>
      cases p with
      | rp => exact ⟨q, rfl⟩
      | bin s =>
        have h1 : 0 < bindsT s := run_rest hG.split HA.out.ok (.bin s) (by simp)
        simp only [stopP] at hstop
        omega
      | atom k s => exact hstop.elim
      | un s => exact hstop.elim
      | lp => exact hstop.elim
      | dot => exact hstop.elim
  have HG := Lib.hid hG
  have HZ1 := Lib.hid hz1
  have hrp2 := hG.rp.low (put5_below (Below.refl _ _) hg (.int .i64 x.kind) (.string x.text) (.int .u64 x.num) (.int .i64 x.place) (.slice A x.list.length c))
  have C2 := Lib.hid (rp_shut hrp2)
  have hcap2 : (put5 w1 g (.int .i64 x.kind) (.string x.text) (.int .u64 x.num) (.int .i64 x.place) (.slice A x.list.length c)).cell? ⟨g0, 0, none⟩ = some (.pointer (some ⟨r, 0, none⟩)) := by
    unfold World.cell? at hcap ⊢
    rw [put5_other _ _ _ _ _ _ _ hg2]; exact hcap
  clear hG hz1 hrp2
  have hrl : r < w.heap.size := HA.out.rp.lt
  go_wp2_with fail
  refine C2.out.mono ?_
  rintro e1 w2 ⟨rfl, hp, hr⟩
  have HP := Lib.hid hp
  have HR := Lib.hid hr
  clear hp hr hcap2
  go_wp2_with fail
  go_end0
  have hG := HG.out
  have hp := HP.out
  have hps : w1.heap.size ≤ w2.heap.size := by have := hp.size; rw [put5_size] at this; exact this
  have hs1 := hG.par.size
  refine ⟨x, A, c, used, rest, rfl, ⟨hp.os.trans hG.par.os, hp.tape.trans hG.par.tape, hp.output.trans hG.par.output, by omega, fun k hk h1 h2 => ?_, ?_, HR.out, ?_, hG.split, by simpa [runS, nxt] using hrun, by simpa [dep] using hd, hG.size, ?_⟩⟩
  · rw [hp.block k (by rw [put5_size]; omega) h1, put5_other _ _ _ _ _ _ _ h2, hG.par.block k hk h1]
  · rw [hp.block g (by rw [put5_size]; omega) (by omega), put5_same _ _ _ _ _ HZ1.out]
  · refine hG.rd.wide (Nat.le_refl _) hps fun k h1 h2 => ?_
    rw [hp.block k (by rw [put5_size]; omega) (by omega), put5_other _ _ _ _ _ _ _ (by omega)]
  · omega
set_option maxRecDepth 100000 in
set_option maxHeartbeats 4000000 in
theorem within_any {ps : List Pc} (hE : ExprC ps) (w : World) (r g0 g n : Nat) (hA : Ask w r (n + 1) ps) (hc : w.cell? ⟨g0, 0, none⟩ = some (.pointer (some ⟨r, 0, none⟩))) (h0 : r < g0) (hg : r < g) (hg2 : g0 ≠ g) (hz : w.heap[g]? = zrow) :
    Calls Tryz.prog 150 #[.pointer (some ⟨r, 0, none⟩), .func (.func 151) #[] #[.pointer (some ⟨g0, 0, none⟩), .pointer (some ⟨g, 0, none⟩)]] w fun e w' => ∃ x A c used rest, e = .returned (.tuple #[]) ∧ Ins w w' r g n ps x A c used rest := by
  have hA2 : Ask (w.setCell ⟨r, 2, none⟩ (.bool false)) r (n + 1) ps := ⟨hA.rp.set2, hA.run, hA.ok, hA.dep⟩
  have C1 := Lib.hid (closure_any hE (w.setCell ⟨r, 2, none⟩ (.bool false)) r g0 g n hA2 (((Par.refl r w).set 2 _).cell hc (by simp; omega)) h0 hg hg2 (by rw [((Par.refl r w).set 2 _).block g (Array.getElem?_eq_some_iff.1 hz).1 (by omega)]; exact hz))
  obtain ⟨h2, hf2⟩ := hA.rp.c2
  have hgl : g < w.heap.size := (Array.getElem?_eq_some_iff.1 hz).1
  have hrl : r < w.heap.size := hA.rp.lt
  clear hA hA2 hE hz hc
  go_enter Tryz.func150, Tryz.ntmps150
  go_wp2_with fail
  refine C1.out.mono ?_
  rintro e1 w1 ⟨x, A, c, used, rest, rfl, hI⟩
  obtain ⟨k2, kf2⟩ := hI.rp.c2
  have HI := Lib.hid hI
  clear hI
  go_wp2_with fail
  go_end0
  have hI := HI.out
  have hsz : (w.setCell ⟨r, 2, none⟩ (.bool false)).heap.size = w.heap.size := by simp [World.setCell]
  have hsz1 : (w1.setCell ⟨r, 2, none⟩ (.bool false)).heap.size = w1.heap.size := by simp [World.setCell]
  have hs := hI.size
  rw [hsz] at hs
  have hrd := hI.rd
  rw [hsz] at hrd
  refine ⟨x, A, c, used, rest, rfl, ⟨hI.os, hI.tape, hI.output, by rw [hsz1]; exact hs, fun k hk h1 h2 => ?_, ?_, hI.rp.set2, ?_, hI.split, hI.run, hI.dep, hI.sz, hI.need⟩⟩
  · rw [Below.heap_setCell w1 ⟨r, 2, none⟩ _ k h1, hI.block k (by rw [hsz]; exact hk) h1 h2, Below.heap_setCell w ⟨r, 2, none⟩ _ k h1]
  · rw [Below.heap_setCell w1 ⟨r, 2, none⟩ _ g (by simp; omega)]; exact hI.box
  · rw [hsz1]
    exact hrd.wide (Nat.le_refl _) (Nat.le_refl _) fun k h1 h2 => Below.heap_setCell w1 ⟨r, 2, none⟩ _ k (by simp; omega)
theorem makes (fn : Fn) (first cap : Array Value) (w : World) : (Instr.makeFunc fn first cap).run Tryz.prog w = .ok (.func fn first cap) w := rfl
theorem Ask.lp {w : World} {r n : Nat} {ps : List Pc} (h : Ask w r n (.lp :: ps)) {w' : World} (hr : RP w' r ps) : Ask w' r (n + 1) ps :=
  ⟨hr, by simpa [runS, nxt] using h.run, fun p hp => h.ok p (by simp [hp]), by simpa [YtoemljgkofhhpaaGreatDoor.dep] using h.dep⟩
/-- operand's end behind a bracket. -/
theorem op_lp {w w4 w5 : World} {r n : Nat} {ps used rest : List Pc} {x : T} {A : Option Addr} {c : Nat} (hO : OpB w r w4) (hI : Ins (w4.alloc zbox) w5 r w4.heap.size n ps x A c used rest) :
    w5.heap[w.heap.size + 1]? = zrow ∧ Got w (put5 w5 (w.heap.size + 1) (.int .i64 x.kind) (.string x.text) (.int .u64 x.num) (.int .i64 x.place) (.slice A x.list.length c)) r n (.lp :: ps) x A c (.lp :: used ++ [.rp]) rest := by
  have hs := hO.size
  have hl := hO.lt
  have hsa := size_alloc w4 zbox
  have hsz := hI.size
  rw [hsa] at hsz
  have hblk : ∀ k, k < w4.heap.size → k ≠ r → w5.heap[k]? = w4.heap[k]? := fun k hk hne =>
    (hI.block k (by rw [hsa]; omega) hne (by omega)).trans (((Below.refl w4.heap.size w4).alloc (Nat.le_refl _) zbox).block k hk)
  have hp5 : Par r w w5 := ⟨hI.os.trans hO.par.os, hI.tape.trans hO.par.tape, hI.output.trans hO.par.output, by omega, fun k hk hne => (hblk k (by omega) hne).trans (hO.par.block k hk hne)⟩
  refine ⟨(hblk (w.heap.size + 1) (by omega) (by omega)).trans hO.res, ⟨hp5.low (put5_below (Below.refl _ _) (by omega) _ _ _ _ _), hI.rp.low (put5_below (Below.refl _ _) (by omega) _ _ _ _ _), ?_, ?_, hI.run, hI.dep, ?_⟩⟩
  · refine hI.rd.wide (by rw [hsa]; omega) (by rw [put5_size]; exact Nat.le_refl _) fun k h1 h2 => put5_other _ _ _ _ _ _ _ (by rw [hsa] at h1; omega)
  · rw [hI.split]; simp
  · have := hI.sz; simp; omega
theorem lps_brk (used : List Pc) : lps (.lp :: used ++ [.rp]) = lps used + 1 := by simp [lps, lps_append]
set_option maxRecDepth 100000 in
set_option maxHeartbeats 4000000 in
theorem operand_lp {ps : List Pc} (hE : ExprC ps) : OperandC (.lp :: ps) := by
  intro w r n hA _
  have hO := opB0 hA.rp.lt
  have hrp := hA.rp.keep (opW_below w r)
  have C1 := rp_peek hrp
  simp only [hdK, keyP] at C1
  have C1 := Lib.hid C1
  have HA := Lib.hid hA
  have HO := Lib.hid hO
  have HP := Lib.hid hrp
  have HE := Lib.hid hE
  have hmk := makes
  clear hA hO hrp hE
  go_enter Tryz.func116, Tryz.ntmps116
  go_wp2_with fail
  refine C1.out.mono ?_
  rintro e1 w1 ⟨nn, a, rfl, hb⟩
  have hO1 := (HO.out.step (Par.of hb)).step (Par.of (one_below (o1 := .cells #[.int .i64 4, .string ⟨#[40]⟩, .int .u64 nn, .int .i64 a] 85)))
  have hP1 := (HP.out.keep hb).keep (one_below (o1 := .cells #[.int .i64 4, .string ⟨#[40]⟩, .int .u64 nn, .int .i64 a] 85))
  obtain ⟨b0, b1, b2, b3⟩ := box4 (w := w1) (Below.refl _ (w1.alloc (.cells #[.int .i64 4, .string ⟨#[40]⟩, .int .u64 nn, .int .i64 a] 85)))
  have hcap := hO1.cap
  clear hb b1 b2 b3
  have C2 := Lib.hid (rp_miss ⟨#[116, 114, 117, 101]⟩ hP1 (show isK (4, ⟨#[40]⟩) _ = false by decide +kernel))
  have HO1 := Lib.hid hO1
  have HP1 := Lib.hid hP1
  clear hP1 hO1
  go_wp2_with fail
  refine C2.out.mono ?_
  rintro e1 w2 ⟨rfl, hb2⟩
  have hO2 := HO1.out.step (Par.of hb2)
  have hP2 := HP1.out.keep hb2
  have C3 := Lib.hid (rp_miss ⟨#[102, 97, 108, 115, 101]⟩ hP2 (show isK (4, ⟨#[40]⟩) _ = false by decide +kernel))
  have hcap := hO2.cap
  have HO2 := Lib.hid hO2
  have HP2 := Lib.hid hP2
  clear hb2 hO2 hP2
  go_wp2_with fail
  refine C3.out.mono ?_
  rintro e1 w3 ⟨rfl, hb3⟩
  have hO3 := HO2.out.step (Par.of hb3)
  have hP3 := HP2.out.keep hb3
  have C4 := Lib.hid (rp_hit ⟨#[40]⟩ hP3 (show isK (4, ⟨#[40]⟩) _ = true by decide +kernel))
  have hcap := hO3.cap
  have HO3 := Lib.hid hO3
  clear hb3 hO3 hP3
  go_wp2_with fail
  refine C4.out.mono ?_
  rintro e1 w4 ⟨rfl, hp4, hr4⟩
  have hO4 := HO3.out.step hp4
  have hO5 := hO4.step (Par.of (one_below (o1 := zbox)))
  have hl := hO4.lt
  have hs4 := hO4.size
  have hcap := hO5.cap
  have C5 := Lib.hid (within_any HE.out (w4.alloc zbox) r w.heap.size w4.heap.size n (HA.out.lp (hr4.keep one_below)) hO5.cap (by omega) (by omega) (by omega) (heap_alloc_new w4 zbox))
  have HO4 := Lib.hid hO4
  clear hp4 hr4 hO4 hO5
  go_wp2_with fail
  refine C5.out.mono ?_
  rintro e1 w5 ⟨x, A, c, used, rest, rfl, hI⟩
  obtain ⟨hz, hG⟩ := op_lp HO4.out hI
  obtain ⟨⟨r0, r1, r2, r3, r4⟩, f1⟩ := zero_facts hz
  have hbx := hI.box
  have k0 := Lib.cell_of_heap hbx 0
  have k1 := Lib.cell_of_heap hbx 1
  have k2 := Lib.cell_of_heap hbx 2
  have k3 := Lib.cell_of_heap hbx 3
  have k4 := Lib.cell_of_heap hbx 4
  have hn := hI.need
  have HZ := Lib.hid hz
  have HG := Lib.hid hG
  have HN := Lib.hid hn
  clear hz hG hbx hI hn
  go_wp2_with fail
  refine fin116 (x := x) (A := A) (c := c) HZ.out rfl ?_
  refine ⟨_, _, _, _, _, rfl, HG.out, ?_⟩
  rw [lps_brk]
  have := HN.out
  have : b2n (stemB x) ≤ 1 := by cases stemB x <;> simp [b2n]
  omega
/-- An operand, whatever its beginning. -/
theorem operand_any (ps : List Pc) (ih : ∀ qs : List Pc, qs.length < ps.length → ExprC qs) : OperandC ps := by
  intro w r n hA hun
  have hrun := hA.run
  cases ps with
  | nil => simp [runS] at hrun
  | cons p ps =>
    cases p with
    | un s => exact absurd rfl (hun s ps)
    | rp => simp [runS, nxt] at hrun
    | bin s => simp [runS, nxt] at hrun
    | dot => simp [runS, nxt] at hrun
    | lp => exact operand_lp (ih ps (by simp)) w r n hA hun
    | atom k s =>
      rcases hA.ok (.atom k s) (by simp) with ⟨rfl, -⟩ | ⟨rfl, -⟩ | ⟨rfl, rfl | rfl⟩
      · exact operand_name s ps w r n hA hun
      · exact operand_int s ps w r n hA hun
      · exact operand_flag true ps w r n hA hun
      · exact operand_flag false ps w r n hA hun
/-- The strings that unary's first loop tries. -/
def uns : List ByteArray := [⟨#[45]⟩, ⟨#[94]⟩, ⟨#[33]⟩]
/-- What holds of the box of the result later on. -/
structure UnB (w : World) (r : Nat) (W : World) : Prop where
  par : Par r w W
  res : W.heap[w.heap.size]? = zrow
  size : w.heap.size + 1 ≤ W.heap.size
  lt : r < w.heap.size
theorem unB0 {w : World} {r : Nat} (h : r < w.heap.size) : UnB w r (w.alloc zbox) :=
  ⟨Par.of one_below, heap_alloc_new w zbox, by rw [size_alloc]; exact Nat.le_refl _, h⟩
theorem UnB.step {w W W' : World} {r : Nat} (h : UnB w r W) (hp : Par r W W') : UnB w r W' :=
  have hs := h.size
  have hl := h.lt
  ⟨h.par.trans hp, (hp.block w.heap.size (by omega) (by omega)).trans h.res, Nat.le_trans hs hp.size, hl⟩
theorem fin83 {tmps : Array Value} {W : World} {g : Nat} {x : T} {A : Option Addr} {c : Nat} {R : Ending → World → Prop} (hz : W.heap[g]? = zrow) (hp : tmps.getD 2 undef = .pointer (some ⟨g, 0, none⟩))
    (h : R (.returned (nv x A c)) (put5 W g (.int .i64 x.kind) (.string x.text) (.int .u64 x.num) (.int .i64 x.place) (.slice A x.list.length c))) :
    bodyPost Tryz.prog Tryz.f83 R Exit.ret { tmps := tmps, defers := [] } (put5 W g (.int .i64 x.kind) (.string x.text) (.int .u64 x.num) (.int .i64 x.place) (.slice A x.list.length c)) :=
  bodyPost_ret (results_cell_row rfl _ _ g 25 #[.int .i64 x.kind, .string x.text, .int .u64 x.num, .int .i64 x.place, .slice A x.list.length c] (0, 0) _ hp (put5_same _ _ _ _ _ hz) Tryz.underlying25 rfl (by kernel_rfl)) rfl h
/-- A list of one tree in a block of its own. -/
theorem rdIn_one {B E bl c t : Nat} {fr : Nat × Nat} {w : World} {x : T} {A : Option Addr} (h1 : B ≤ bl) (h2 : bl < E) (hb : w.heap[bl]? = some (.cells #[.int .i64 x.kind, .string x.text, .int .u64 x.num, .int .i64 x.place, .slice A x.list.length c] t fr))
    (hx : RdIn B E w x.list A c) : RdIn B E w [x] (some ⟨bl, 0, none⟩) 1 := by
  intro w' hk
  have hb' := (hk bl h1 h2).trans hb
  have e := fun j => Lib.cell_of_heap hb' j
  refine .mk [x] _ 1 bl 0 (fun _ => A) (fun _ => c) (by simp) (fun _ => rfl) (fun i y hy => ?_) (fun i y hy => ?_)
  · cases i with
    | zero => simp at hy; subst hy; exact ⟨e 0, e 1, e 2, e 3, e 4⟩
    | succ i => simp at hy
  · cases i with
    | zero => simp at hy; subst hy; exact hx w' hk
    | succ i => simp at hy
theorem put5_cell {w : World} {g : Nat} {a : Addr} {v : Value} (v0 v1 v2 v3 v4 : Value) (h : w.cell? a = some v) (hne : a.block ≠ g) :
    (((((w.setCell ⟨g, 0, none⟩ v0).setCell ⟨g, 1, none⟩ v1).setCell ⟨g, 2, none⟩ v2).setCell ⟨g, 3, none⟩ v3).setCell ⟨g, 4, none⟩ v4).cell? a = some v := by
  have := put5_other w g v0 v1 v2 v3 v4 hne
  unfold put5 at this
  unfold World.cell? at h ⊢
  rw [this]; exact h
theorem isK_hd {ps : List Pc} {s : ByteArray} (h : isK (hdK ps) s = true) : ∃ p l, ps = p :: l ∧ isK (keyP p) s = true := by
  cases ps with
  | nil => simp [hdK, isK] at h
  | cons p l => exact ⟨p, l, rfl, h⟩
/-- Where an operator of one is taken, it is the piece ahead. -/
theorem un_of {ps : List Pc} {s : ByteArray} (hr : runS .a ps = some .b) (hok : ∀ p ∈ ps, okPc p) (hs : s = ⟨#[45]⟩ ∨ s = ⟨#[94]⟩ ∨ s = ⟨#[33]⟩ ∨ s = ⟨#[60, 45]⟩) (h : isK (hdK ps) s = true) : ∃ l, ps = .un s :: l := by
  obtain ⟨p, l, rfl, hk⟩ := isK_hd h
  have hp := hok p (by simp)
  cases p with
  | rp => simp [runS, nxt] at hr
  | bin t => simp [runS, nxt] at hr
  | dot => simp [runS, nxt] at hr
  | lp => rcases hs with rfl | rfl | rfl | rfl <;> exact absurd hk (by decide +kernel)
  | un t =>
    have : t = s := by
      simp only [isK, keyP, Bool.and_eq_true, beq_iff_eq] at hk
      exact text_eq hk.2
    exact ⟨l, by rw [this]⟩
  | atom k t =>
    rcases hp with ⟨rfl, -⟩ | ⟨rfl, -⟩ | ⟨rfl, rfl | rfl⟩
    · simp [isK, keyP] at hk
    · simp [isK, keyP] at hk
    · rcases hs with rfl | rfl | rfl | rfl <;> exact absurd hk (by decide +kernel)
    · rcases hs with rfl | rfl | rfl | rfl <;> exact absurd hk (by decide +kernel)
theorem Ask.un {w : World} {r n : Nat} {s : ByteArray} {ps : List Pc} (h : Ask w r n (.un s :: ps)) {w' : World} (hr : RP w' r ps) : Ask w' r n ps :=
  ⟨hr, by simpa [runS, nxt] using h.run, fun p hp => h.ok p (by simp [hp]), by simpa [YtoemljgkofhhpaaGreatDoor.dep] using h.dep⟩
/-- unary's end behind an operator of one. -/
theorem un_end {w W2 W3 : World} {r n : Nat} {s t : ByteArray} {ps used rest : List Pc} {x : T} {A : Option Addr} {c : Nat} {k a : Int} (hB : UnB w r W2) (hG : Got W2 W3 r n ps x A c used rest) :
    (W3.alloc (nbox x A c)).heap[w.heap.size]? = zrow ∧
      Got w (put5 (W3.alloc (nbox x A c)) w.heap.size (.int .i64 k) (.string t) (.int .u64 (0 : Int)) (.int .i64 a) (.slice (some ⟨W3.heap.size, 0, none⟩) 1 1)) r n (.un s :: ps) (T.mk k t 0 a [x]) (some ⟨W3.heap.size, 0, none⟩) 1 (.un s :: used) rest := by
  have hs := hB.size
  have hl := hB.lt
  have hp := hG.par
  have hsz := hp.size
  have hB3 := (hB.step hp).step (Par.of (one_below (o1 := nbox x A c)))
  refine ⟨hB3.res, ⟨hB3.par.low (put5_below (Below.refl _ _) (Nat.le_refl _) _ _ _ _ _), (hG.rp.keep one_below).low (put5_below (Below.refl _ _) (by omega) _ _ _ _ _), ?_, by rw [hG.split]; rfl, hG.run, hG.dep, ?_⟩⟩
  · rw [put5_size, size_alloc]
    refine rdIn_one (by omega) (by omega) (by rw [put5_other _ _ _ _ _ _ _ (by omega)]; exact heap_alloc_new W3 _) ?_
    refine hG.rd.wide (by omega) (by omega) fun k h1 h2 => ?_
    rw [put5_other _ _ _ _ _ _ _ (by omega)]
    exact ((Below.refl W3.heap.size W3).alloc (Nat.le_refl _) _).block k (by omega)
  · have := hG.size
    simp only [T.size, T.sizes, List.length_cons]; omega
/-- What holds of the loop over what follows an operand. -/
structure Dots (w wr : World) (r n g : Nat) (ps : List Pc) (x : T) (A : Option Addr) (c : Nat) (used rest : List Pc) : Prop where
  un : UnB w r wr
  box : wr.heap[g]? = some (.cells #[.int .i64 x.kind, .string x.text, .int .u64 x.num, .int .i64 x.place, .slice A x.list.length c] 25 (0, 0))
  low : w.heap.size < g
  rp : RP wr r rest
  rd : ∀ w' : World, (∀ k, w.heap.size < k → k < wr.heap.size → k ≠ g → w'.heap[k]? = wr.heap[k]?) → Rd w' x.list A c
  split : ps = used ++ rest
  run : runS .b rest = some .b
  dep : dep n rest = some 0
  size : x.size ≤ used.length
  need : x.need + b2n (stemB x) ≤ lps used
theorem Dots.lt {w wr : World} {r n g : Nat} {ps : List Pc} {x : T} {A : Option Addr} {c : Nat} {used rest : List Pc} (h : Dots w wr r n g ps x A c used rest) : g < wr.heap.size := (Array.getElem?_eq_some_iff.1 h.box).1
theorem dots0 {w w2 w3 : World} {r n : Nat} {ps : List Pc} {x : T} {A : Option Addr} {c : Nat} {used rest : List Pc} (hB : UnB w r w2) (hG : Got w2 w3 r n ps x A c used rest) (hn : x.need + b2n (stemB x) ≤ lps used) :
    Dots w (w3.alloc (nbox x A c)) r n w3.heap.size ps x A c used rest := by
  have hs := hB.size
  have hsz := hG.par.size
  refine ⟨(hB.step hG.par).step (Par.of one_below), heap_alloc_new w3 _, by omega, hG.rp.keep one_below, fun w' hk => ?_, hG.split, hG.run, hG.dep, hG.size, hn⟩
  refine hG.rd w' fun k h1 h2 => ?_
  rw [hk k (by omega) (by rw [size_alloc]; omega) (by omega)]
  exact ((Below.refl w3.heap.size w3).alloc (Nat.le_refl _) _).block k h2
theorem Dots.keep {w wr w' : World} {r n g : Nat} {ps : List Pc} {x : T} {A : Option Addr} {c : Nat} {used rest : List Pc} (h : Dots w wr r n g ps x A c used rest) (hb : Below wr.heap.size wr w') : Dots w w' r n g ps x A c used rest :=
  ⟨h.un.step (Par.of hb), (hb.block g h.lt).trans h.box, h.low, h.rp.keep hb, fun w'' hk => h.rd w'' fun k h1 h2 h3 => (hk k h1 (Nat.lt_of_lt_of_le h2 hb.size) h3).trans (hb.block k h2), h.split, h.run, h.dep, h.size, h.need⟩
/-- Behind a dot and a name. -/
theorem Dots.dot {w wr w4 : World} {r n g : Nat} {ps : List Pc} {x : T} {A : Option Addr} {c : Nat} {used rest : List Pc} {s : ByteArray} {a : Int} (h : Dots w wr r n g ps x A c used (.dot :: .atom 1 s :: rest)) (hp : Par r wr w4) (hr : RP w4 r rest) :
    Dots w (put5 (w4.alloc (nbox x A c)) g (.int .i64 35) (.string s) (.int .u64 (0 : Int)) (.int .i64 a) (.slice (some ⟨w4.heap.size, 0, none⟩) 1 1)) r n g ps (T.mk 35 s 0 a [x]) (some ⟨w4.heap.size, 0, none⟩) 1 (used ++ [.dot, .atom 1 s]) rest := by
  have hlt := h.lt
  have hlow := h.low
  have hul := h.un.lt
  have hsz := hp.size
  have hb4 : w4.heap[g]? = some (.cells #[.int .i64 x.kind, .string x.text, .int .u64 x.num, .int .i64 x.place, .slice A x.list.length c] 25 (0, 0)) := (hp.block g hlt (by omega)).trans h.box
  have hb5 : (w4.alloc (nbox x A c)).heap[g]? = some (.cells #[.int .i64 x.kind, .string x.text, .int .u64 x.num, .int .i64 x.place, .slice A x.list.length c] 25 (0, 0)) := (((Below.refl w4.heap.size w4).alloc (Nat.le_refl _) _).block g (by omega)).trans hb4
  have hU := (h.un.step hp).step (Par.of (one_below (o1 := nbox x A c)))
  have hpb : Below g (w4.alloc (nbox x A c)) (put5 (w4.alloc (nbox x A c)) g (.int .i64 35) (.string s) (.int .u64 (0 : Int)) (.int .i64 a) (.slice (some ⟨w4.heap.size, 0, none⟩) 1 1)) := put5_below (Below.refl _ _) (Nat.le_refl _) _ _ _ _ _
  have hus := hU.size
  refine ⟨⟨hU.par.low (hpb.mono (by omega)), (hpb.block _ (by omega)).trans hU.res, by rw [put5_size]; exact hus, hul⟩, put5_same _ _ _ _ _ hb5, hlow, (hr.keep one_below).low (hpb.mono (by omega)), fun w' hk => ?_, by rw [h.split]; simp, ?_, ?_, ?_, ?_⟩
  · rw [put5_size, size_alloc] at hk
    have hnew : w'.heap[w4.heap.size]? = some (.cells #[.int .i64 x.kind, .string x.text, .int .u64 x.num, .int .i64 x.place, .slice A x.list.length c] 25 (0, 0)) := by
      rw [hk _ (by omega) (by omega) (by omega), put5_other _ _ _ _ _ _ _ (by omega)]
      exact heap_alloc_new w4 _
    have e := fun j => Lib.cell_of_heap hnew j
    refine .mk [x] _ 1 w4.heap.size 0 (fun _ => A) (fun _ => c) (by simp) (fun _ => rfl) (fun i y hy => ?_) (fun i y hy => ?_)
    · cases i with
      | zero => simp at hy; subst hy; exact ⟨e 0, e 1, e 2, e 3, e 4⟩
      | succ i => simp at hy
    · cases i with
      | zero =>
        simp at hy; subst hy
        refine h.rd w' fun k h1 h2 h3 => ?_
        rw [hk k h1 (by omega) h3, put5_other _ _ _ _ _ _ _ h3, ((Below.refl w4.heap.size w4).alloc (Nat.le_refl _) _).block k (by omega), hp.block k h2 (by omega)]
      | succ i => simp at hy
  · have := h.run; simpa [runS, nxt] using this
  · have := h.dep; simpa [YtoemljgkofhhpaaGreatDoor.dep] using this
  · have := h.size
    simp only [T.size, T.sizes, List.length_append, List.length_cons, List.length_nil]; omega
  · have := h.need
    simp only [T.need, T.needs, brk, stemB, T.kind_mk, lps_append, lps, Nat.add_zero, List.length_cons, List.length_nil] at this ⊢
    simp [b2n] at this ⊢
    omega
/-- The end of the loop. -/
theorem Dots.fin {w wr : World} {r n g : Nat} {ps : List Pc} {x : T} {A : Option Addr} {c : Nat} {used rest : List Pc} (h : Dots w wr r n g ps x A c used rest) :
    Got w (put5 wr w.heap.size (.int .i64 x.kind) (.string x.text) (.int .u64 x.num) (.int .i64 x.place) (.slice A x.list.length c)) r n ps x A c used rest := by
  have hpb : Below w.heap.size wr (put5 wr w.heap.size (.int .i64 x.kind) (.string x.text) (.int .u64 x.num) (.int .i64 x.place) (.slice A x.list.length c)) := put5_below (Below.refl _ _) (Nat.le_refl _) _ _ _ _ _
  have hul := h.un.lt
  refine ⟨h.un.par.low hpb, h.rp.low (hpb.mono (by omega)), fun w' hk => ?_, h.split, h.run, h.dep, h.size⟩
  rw [put5_size] at hk
  refine h.rd w' fun k h1 h2 h3 => ?_
  rw [hk k (by omega) h2, put5_other _ _ _ _ _ _ _ (by omega)]
theorem binds_le (s : ByteArray) : bindsT s ≤ 5 := by
  unfold bindsT
  repeat (split; · omega)
  omega
theorem two_stem (x : T) : b2n (twoB x) ≤ b2n (stemB x) := by
  unfold twoB stemB
  cases x.kind == 33 <;> cases x.list.length == 2 <;> simp [b2n]
set_option maxRecDepth 100000 in
set_option maxHeartbeats 4000000 in
theorem unary_any (ps : List Pc) (hO : OperandC ps) (hU : ∀ s l, ps = .un s :: l → UnaryC l) : UnaryC ps := by
  intro w r n hA
  have hB := unB0 hA.rp.lt
  have hrp := hA.rp.keep (one_below (o1 := zbox))
  have C1 := rp_peek hrp
  generalize hk0 : (hdK ps).1 = k0 at C1
  generalize hs0 : (hdK ps).2 = s0 at C1
  have HKS := Lib.hid (And.intro hk0 hs0)
  have C1 := Lib.hid C1
  have HA := Lib.hid hA
  have HB := Lib.hid hB
  have HP := Lib.hid hrp
  have HOP := Lib.hid hO
  have HU := Lib.hid hU
  clear hA hB hrp hk0 hs0 hO hU
  go_enter Tryz.func83, Tryz.ntmps83
  go_wp2_with fail
  refine C1.out.mono ?_
  rintro e1 w1 ⟨nn, a, rfl, hb⟩
  have hB0 := ((HB.out.step (Par.of hb)).step (Par.of (one_below (o1 := .cells #[.int .i64 k0, .string s0, .int .u64 nn, .int .i64 a] 85)))).step (Par.of (one_below (o1 := .cells #[.string ⟨#[45]⟩, .string ⟨#[94]⟩, .string ⟨#[33]⟩] 9)))
  have hP0 := ((HP.out.keep hb).keep (one_below (o1 := .cells #[.int .i64 k0, .string s0, .int .u64 nn, .int .i64 a] 85))).keep (one_below (o1 := .cells #[.string ⟨#[45]⟩, .string ⟨#[94]⟩, .string ⟨#[33]⟩] 9))
  obtain ⟨-, -, -, b3⟩ := box4 (w := w1) (Below.refl _ (w1.alloc (.cells #[.int .i64 k0, .string s0, .int .u64 nn, .int .i64 a] 85)))
  have b3 := keep_cell (one_below (o1 := .cells #[.string ⟨#[45]⟩, .string ⟨#[94]⟩, .string ⟨#[33]⟩] 9)) b3
  have hst : ∀ j s, uns[j]? = some s → ((w1.alloc (.cells #[.int .i64 k0, .string s0, .int .u64 nn, .int .i64 a] 85)).alloc (.cells #[.string ⟨#[45]⟩, .string ⟨#[94]⟩, .string ⟨#[33]⟩] 9)).cell? ⟨w1.heap.size + 1, j, none⟩ = some (.string s) := fun j s h => by
    have e := cell_of_row ((w1.alloc (.cells #[.int .i64 k0, .string s0, .int .u64 nn, .int .i64 a] 85)).alloc (.cells #[.string ⟨#[45]⟩, .string ⟨#[94]⟩, .string ⟨#[33]⟩] 9)) (w1.alloc (.cells #[.int .i64 k0, .string s0, .int .u64 nn, .int .i64 a] 85)).heap.size j _ 9 (0, 0) (heap_alloc_new _ _)
    rw [size_alloc] at e
    rw [e]
    match j, h with
    | 0, h => simp [uns] at h; subst h; rfl
    | 1, h => simp [uns] at h; subst h; rfl
    | 2, h => simp [uns] at h; subst h; rfl
    | j + 3, h => simp [uns] at h
  have hwz : w.heap.size + 1 ≤ w1.heap.size := by have := hb.size; rw [size_alloc] at this; exact this
  generalize hWb : ((w1.alloc (.cells #[.int .i64 k0, .string s0, .int .u64 nn, .int .i64 a] 85)).alloc (.cells #[.string ⟨#[45]⟩, .string ⟨#[94]⟩, .string ⟨#[33]⟩] 9)) = Wb at hB0 hP0 b3 hst
  have hsb : w1.heap.size + 2 ≤ Wb.heap.size := by rw [← hWb, size_alloc, size_alloc]; exact Nat.le_refl _
  have HWb := Lib.hid hWb
  have HB0 := Lib.hid hB0
  have HP0 := Lib.hid hP0
  have HST := Lib.hid hst
  have HB3 := Lib.hid b3
  clear hb hB0 hP0 hst hWb b3
  go_wp2_with fail
  rw [HWb.out]
  go_loopw [14] (fun i wr => ∃ j : Nat, j ≤ 3 ∧ i = .int .i64 j ∧ Below Wb.heap.size Wb wr ∧ ∀ k s, k < j → uns[k]? = some s → isK (hdK ps) s = false) (fun i _ => 3 - (intOf i).toNat)
  case atStart => exact ⟨0, by omega, rfl, Below.refl _ _, fun k s h => absurd h (Nat.not_lt_zero k)⟩
  case round =>
    obtain ⟨j, hj, rfl, hB, hmiss⟩ := hrel
    have HMS := Lib.hid hmiss
    clear hmiss
    have hBr := HB0.out.step (Par.of hB)
    have hPr := HP0.out.keep hB
    have b3 := keep_cell hB HB3.out
    by_cases hlt : j < 3
    · obtain ⟨s, hs⟩ : ∃ s, uns[j]? = some s := ⟨uns[j]'hlt, by simp [uns]⟩
      have hcs := keep_cell hB (HST.out j s hs)
      have hsu : s = ⟨#[45]⟩ ∨ s = ⟨#[94]⟩ ∨ s = ⟨#[33]⟩ ∨ s = ⟨#[60, 45]⟩ := by
        have := List.mem_of_getElem? hs
        simp [uns] at this
        rcases this with h | h | h <;> simp [h]
      have HS := Lib.hid hs
      cases hq : isK (hdK ps) s with
      | false =>
        have C2 := Lib.hid (rp_miss s hPr hq)
        have HBl := Lib.hid hB
        have HQ := Lib.hid hq
        clear hq hPr hBr hB hs
        go_wp2_with fail
        refine C2.out.mono ?_
        rintro e1 w2 ⟨rfl, hb2⟩
        have HB2 := Lib.hid (below_then HBl.out HBl.out.size hb2)
        clear hb2
        go_wp2_with fail
        go_roundw
        case rel => 
          refine ⟨j + 1, by omega, by go_num, HB2.out, fun k t hk ht => ?_⟩
          by_cases e : k = j
          · subst e
            rw [HS.out] at ht
            cases ht
            exact HQ.out
          · exact HMS.out k t (by omega) ht
        case measure => simp [intOf]; omega
      | true =>
        obtain ⟨l, rfl⟩ := un_of HA.out.run HA.out.ok hsu hq
        have C2 := Lib.hid (rp_hit s hPr (show isK (keyP (.un s)) s = true by simp [isK, keyP]))
        have HBr := Lib.hid hBr
        clear hq hPr hBr hB hs HKS
        go_wp2_with fail
        refine C2.out.mono ?_
        rintro e1 w2 ⟨rfl, hp2, hr2⟩
        have b3 := hp2.cell b3 (by simp; have := HBr.out.lt; omega)
        have hB2 := HBr.out.step hp2
        have CU := Lib.hid (fun W (h : Below w2.heap.size w2 W) => HU.out s l rfl W r n (HA.out.un (hr2.keep h)))
        have HB2 := Lib.hid hB2
        have HD := Lib.hid (show Below w2.heap.size w2 w2.drew from (Below.refl _ _).drew)
        have HB2d := Lib.hid (HB2.out.step (Par.of HD.out))
        have hk2 := keep_cell HD.out b3
        have hg1 : w1.heap.size ≠ r := by have := HBr.out.lt; omega
        clear hp2 hr2 hB2
        go_wp2_with fail
        have hg2 : w1.heap.size ≠ w.heap.size := by omega
        have hx0 := hg2.symm
        go_region_held3 (fun w' => w'.cell? ⟨w1.heap.size, 3, none⟩ = some (.int .i64 a))
          (first | (with_reducible exact hk2) | (with_reducible exact hk3) | (with_reducible exact hk4) | (with_reducible exact hk5))
          (first | (go_at_call 83; refine (CU.out _ HD.out).mono ?_; rintro e1 w3 ⟨x, A, c, used, rest, rfl, hG, hn, hst⟩; have hE := Lib.hid (un_end (t := s) (k := 33) (a := a) (s := s) HB2d.out hG); obtain ⟨⟨z0, z1, z2, z3, z4⟩, zf⟩ := zero_facts hE.out.1; have hk3 := hG.par.cell hk2 (by simpa using hg1); have hk4 := keep_cell (one_below (o1 := nbox x A c)) hk3; have hk5 := put5_cell (.int .i64 33) (.string s) (.int .u64 0) (.int .i64 a) (.slice (some ⟨w3.heap.size, 0, none⟩) 1 1) (g := w.heap.size) hk4 hg2; have HX := Lib.hid (And.intro hn hst); clear hG hn hst))
        go_wp2_with fail
        refine fin83 (x := .mk 33 s 0 a [x]) (A := some ⟨w3.heap.size, 0, none⟩) (c := 1) hE.out.1 rfl ?_
        refine ⟨_, _, _, _, _, rfl, hE.out.2, ?_, HX.out.2⟩
        have := HX.out.1
        simp only [T.need, T.needs, brk, twoB, T.kind_mk, T.list_mk, lps] at this ⊢
        simp [b2n] at this ⊢
        omega
    · have hj3 : j = 3 := by omega
      subst hj3
      cases hq : isK (hdK ps) ⟨#[60, 45]⟩ with
      | true =>
        obtain ⟨l, rfl⟩ := un_of HA.out.run HA.out.ok (by simp) hq
        have C2 := Lib.hid (rp_hit ⟨#[60, 45]⟩ hPr (show isK (keyP (.un ⟨#[60, 45]⟩)) ⟨#[60, 45]⟩ = true by decide +kernel))
        have HBr := Lib.hid hBr
        clear hq hPr hBr hB HKS
        go_wp2_with fail
        refine C2.out.mono ?_
        rintro e1 w2 ⟨rfl, hp2, hr2⟩
        have b3 := hp2.cell b3 (by simp; have := HBr.out.lt; omega)
        have hB2 := HBr.out.step hp2
        have CU := Lib.hid (fun W (h : Below w2.heap.size w2 W) => HU.out _ l rfl W r n (HA.out.un (hr2.keep h)))
        have HB2 := Lib.hid hB2
        have HD := Lib.hid (show Below w2.heap.size w2 w2.drew from (Below.refl _ _).drew)
        have HB2d := Lib.hid (HB2.out.step (Par.of HD.out))
        have hk2 := keep_cell HD.out b3
        have hg1 : w1.heap.size ≠ r := by have := HBr.out.lt; omega
        clear hp2 hr2 hB2
        go_wp2_with fail
        have hg2 : w1.heap.size ≠ w.heap.size := by omega
        have hx0 := hg2.symm
        go_region_held3 (fun w' => w'.cell? ⟨w1.heap.size, 3, none⟩ = some (.int .i64 a))
          (first | (with_reducible exact hk2) | (with_reducible exact hk3) | (with_reducible exact hk4) | (with_reducible exact hk5))
          (first | (go_at_call 83; refine (CU.out _ HD.out).mono ?_; rintro e1 w3 ⟨x, A, c, used, rest, rfl, hG, hn, hst⟩; have hE := Lib.hid (un_end (t := ⟨#[]⟩) (k := 39) (a := a) (s := ⟨#[60, 45]⟩) HB2d.out hG); obtain ⟨⟨z0, z1, z2, z3, z4⟩, zf⟩ := zero_facts hE.out.1; have hk3 := hG.par.cell hk2 (by simpa using hg1); have hk4 := keep_cell (one_below (o1 := nbox x A c)) hk3; have hk5 := put5_cell (.int .i64 39) (.string ⟨#[]⟩) (.int .u64 0) (.int .i64 a) (.slice (some ⟨w3.heap.size, 0, none⟩) 1 1) (g := w.heap.size) hk4 hg2; have HX := Lib.hid (And.intro hn hst); clear hG hn hst))
        go_wp2_with fail
        refine fin83 (x := .mk 39 ⟨#[]⟩ 0 a [x]) (A := some ⟨w3.heap.size, 0, none⟩) (c := 1) hE.out.1 rfl ?_
        refine ⟨_, _, _, _, _, rfl, hE.out.2, ?_, HX.out.2⟩
        have := HX.out.1
        simp only [T.need, T.needs, brk, twoB, T.kind_mk, T.list_mk, lps] at this ⊢
        simp [b2n] at this ⊢
        omega
      | false =>
        have hnu : ∀ s l, ps ≠ .un s :: l := by
          rintro s l rfl
          have hk : ∀ t, t = s → isK (hdK (.un s :: l)) t = true := fun t ht => by subst ht; simp [isK, hdK, keyP]
          rcases HA.out.ok (.un s) (by simp) with h | h
          · simp only [unaryB, Bool.or_eq_true, beq_iff_eq] at h
            rcases h with h | h | h
            · have := HMS.out 0 ⟨#[45]⟩ (by omega) rfl; rw [hk _ (text_eq (by rw [h, Lib.toList_data]))] at this; cases this
            · have := HMS.out 1 ⟨#[94]⟩ (by omega) rfl; rw [hk _ (text_eq (by rw [h, Lib.toList_data]))] at this; cases this
            · have := HMS.out 2 ⟨#[33]⟩ (by omega) rfl; rw [hk _ (text_eq (by rw [h, Lib.toList_data]))] at this; cases this
          · rw [hk _ h.symm] at hq; cases hq
        have C2 := Lib.hid (rp_miss ⟨#[60, 45]⟩ hPr hq)
        have HBr := Lib.hid hBr
        have HPr := Lib.hid hPr
        have HNU := Lib.hid hnu
        clear hq hPr hBr hB hnu b3
        go_wp2_with fail
        refine C2.out.mono ?_
        rintro e1 w2 ⟨rfl, hb2⟩
        have hB2 := HBr.out.step (Par.of hb2)
        have C3 := Lib.hid (HOP.out w2 r n ⟨HPr.out.keep hb2, HA.out.run, HA.out.ok, HA.out.dep⟩ HNU.out)
        have HB2 := Lib.hid hB2
        clear hb2 hB2
        go_wp2_with fail
        refine C3.out.mono ?_
        rintro e1 w3 ⟨x, A, c, used, rest, rfl, hG, hn⟩
        have HDT := Lib.hid (dots0 HB2.out hG hn)
        clear hG hn
        go_wp2_with fail
        go_loopg [7] (rest.length) (fun k _ wr => ∃ x A c used rest, k = rest.length ∧ Dots w wr r n w3.heap.size ps x A c used rest)
        case atStart => exact ⟨_, _, _, _, _, rfl, HDT.out⟩
        case round =>
          obtain ⟨x, A, c, used, rest, rfl, hD⟩ := hrel
          have hrest := run_rest hD.split HA.out.ok
          have C4 := Lib.hid (rp_at hD.rp)
          have C5 := Lib.hid (rp_miss ⟨#[40]⟩ hD.rp (behind_miss hD.run hrest ⟨#[40]⟩ (by decide +kernel)))
          have HD := Lib.hid hD
          have HR := Lib.hid hrest
          clear hD hrest
          go_wp2_with fail
          refine C4.out.mono ?_
          rintro e1 w4 ⟨⟨a4, rfl⟩, rfl⟩
          go_wp2_with fail
          refine C5.out.mono ?_
          rintro e1 w5 ⟨rfl, hb5⟩
          have hD5 := HD.out.keep hb5
          clear hb5
          by_cases hdt : ∃ l, rest = .dot :: l
          · obtain ⟨l, rfl⟩ := hdt
            obtain ⟨s, l, rfl⟩ : ∃ s l', l = .atom 1 s :: l' := by
              have hr := hD5.run
              cases l with
              | nil => simp [runS, nxt] at hr
              | cons p l =>
                cases p with
                | atom k s =>
                  by_cases hk : k = 1
                  · subst hk; exact ⟨s, l, rfl⟩
                  · simp [runS, nxt, hk] at hr
                | _ => simp [runS, nxt] at hr
            have C6 := Lib.hid (rp_hit ⟨#[46]⟩ hD5.rp (show isK (keyP .dot) ⟨#[46]⟩ = true by decide +kernel))
            have HD5 := Lib.hid hD5
            clear hD5
            go_wp2_with fail
            refine C6.out.mono ?_
            rintro e1 w6 ⟨rfl, hp6, hr6⟩
            have C7 := Lib.hid (rp_name hr6)
            have HP6 := Lib.hid hp6
            clear hp6 hr6
            go_wp2_with fail
            refine C7.out.mono ?_
            rintro e1 w7 ⟨⟨a7, rfl⟩, hp7, hr7⟩
            have hp := HP6.out.trans hp7
            have hlt := HD5.out.lt
            have hlow := HD5.out.low
            have hul := HD5.out.un.lt
            have hbx := (hp.block w3.heap.size hlt (by omega)).trans HD5.out.box
            have k0 := Lib.cell_of_heap hbx 0
            have k1 := Lib.cell_of_heap hbx 1
            have k2 := Lib.cell_of_heap hbx 2
            have k3 := Lib.cell_of_heap hbx 3
            have k4 := Lib.cell_of_heap hbx 4
            have kf := fun k => Lib.frozen_of_heap hbx k
            have HN := Lib.hid (HD5.out.dot (a := a4) hp hr7)
            have hbx2 := (((Below.refl w7.heap.size w7).alloc (Nat.le_refl _) (nbox x A c)).block w3.heap.size (by have := hp.size; omega)).trans hbx
            have m0 := Lib.cell_of_heap hbx2 0
            have m1 := Lib.cell_of_heap hbx2 1
            have m2 := Lib.cell_of_heap hbx2 2
            have m3 := Lib.cell_of_heap hbx2 3
            have m4 := Lib.cell_of_heap hbx2 4
            have mf := fun k => Lib.frozen_of_heap hbx2 k
            clear hp7 hr7 hp hbx hbx2
            go_wp2_with fail
            go_roundg l.length
            case measure => simp; omega
            case rel => exact ⟨_, _, _, _, _, rfl, HN.out⟩
          · have hq : isK (hdK rest) ⟨#[46]⟩ = false := by
              cases rest with
              | nil => simp [hdK, isK]
              | cons p l =>
                have hr := hD5.run
                cases p with
                | dot => exact absurd ⟨l, rfl⟩ hdt
                | atom k s => simp [runS, nxt] at hr
                | un s => simp [runS, nxt] at hr
                | lp => simp [runS, nxt] at hr
                | rp => exact (show isK (4, ⟨#[41]⟩) ⟨#[46]⟩ = false by decide +kernel)
                | bin s =>
                  have h1 := ops_of_binds (HR.out (.bin s) (by simp))
                  have h2 : (opsL.all fun y => y.toList != [46]) = true := by decide +kernel
                  have h3 := List.all_eq_true.1 h2 s h1
                  simp [hdK, keyP, isK, Lib.toList_data] at h3 ⊢
                  exact h3
            have hstop : stopP 100 rest := by
              cases rest with
              | nil => trivial
              | cons p l =>
                have hr := hD5.run
                cases p with
                | dot => exact absurd ⟨l, rfl⟩ hdt
                | atom k s => simp [runS, nxt] at hr
                | un s => simp [runS, nxt] at hr
                | lp => simp [runS, nxt] at hr
                | rp => trivial
                | bin s => have := binds_le s; simp only [stopP]; omega
            have C6 := Lib.hid (rp_miss ⟨#[46]⟩ hD5.rp hq)
            have HD5 := Lib.hid hD5
            have HST := Lib.hid hstop
            clear hD5 hq hstop hdt
            go_wp2_with fail
            refine C6.out.mono ?_
            rintro e1 w6 ⟨rfl, hb6⟩
            have hD6 := HD5.out.keep hb6
            have C7 := Lib.hid (rp_miss ⟨#[91]⟩ hD6.rp (behind_miss hD6.run HR.out ⟨#[91]⟩ (by decide +kernel)))
            have HD6 := Lib.hid hD6
            clear hb6 hD6
            go_wp2_with fail
            refine C7.out.mono ?_
            rintro e1 w7 ⟨rfl, hb7⟩
            have hD7 := HD6.out.keep hb7
            have hbx := hD7.box
            have k0 := Lib.cell_of_heap hbx 0
            have k1 := Lib.cell_of_heap hbx 1
            have k2 := Lib.cell_of_heap hbx 2
            have k3 := Lib.cell_of_heap hbx 3
            have k4 := Lib.cell_of_heap hbx 4
            obtain ⟨⟨z0, z1, z2, z3, z4⟩, zf⟩ := zero_facts hD7.un.res
            have HD7 := Lib.hid hD7
            clear hb7 hD7 hbx
            go_wp2_with fail
            refine fin83 (x := x) (A := A) (c := c) HD7.out.un.res rfl ?_
            refine ⟨_, _, _, _, _, rfl, HD7.out.fin, ?_, HST.out⟩
            have := HD7.out.need
            have := two_stem x
            omega
end Go.Proofs.YtoemljgkofhhpaaGreatDoor
