import Derived.Test.YtoemljgkofhhpaaGreatDoorProg
import Derived.WalkKit
import Derived.WalkLawsBesides
import Derived.WalkSpells
import Derived.Laws.EntriesVeiled
import Derived.Laws.Rows
import Derived.Outline
import Derived.Handy
import Derived.Lib.Hide
import Derived.Lib.Strings
import Derived.Deep.RegionWith
import Derived.Deep.DeepFit
import Derived.Deep.LoopGhost
import Derived.Deep.QuietTactic
import Derived.BigQuiet
namespace Go.Proofs.YtoemljgkofhhpaaGreatDoor
open Go.RowKit

/-- A tree as data. -/
inductive T where
  | mk (kind : Int) (text : ByteArray) (num : Int) (place : Int) (list : List T)
namespace T
def kind : T → Int | mk k _ _ _ _ => k
def text : T → ByteArray | mk _ t _ _ _ => t
def num : T → Int | mk _ _ n _ _ => n
def place : T → Int | mk _ _ _ a _ => a
def list : T → List T | mk _ _ _ _ l => l
@[simp] theorem kind_mk (k t n a l) : (mk k t n a l).kind = k := rfl
@[simp] theorem text_mk (k t n a l) : (mk k t n a l).text = t := rfl
@[simp] theorem num_mk (k t n a l) : (mk k t n a l).num = n := rfl
@[simp] theorem place_mk (k t n a l) : (mk k t n a l).place = a := rfl
@[simp] theorem list_mk (k t n a l) : (mk k t n a l).list = l := rfl
end T

/-- A node as a value: its list's address and room. -/
abbrev nv (x : T) (A : Option Addr) (c : Nat) : Value := .agg #[.int .i64 x.kind, .string x.text, .int .u64 x.num, .int .i64 x.place, .slice A x.list.length c]
/-- The box that a node by value lies in. -/
abbrev nbox (x : T) (A : Option Addr) (c : Nat) : Obj := .cells #[.int .i64 x.kind, .string x.text, .int .u64 x.num, .int .i64 x.place, .slice A x.list.length c] 25

/-- The five cells of an element at b, o. -/
structure Cells (w : World) (b o : Nat) (x : T) (A : Option Addr) (c : Nat) : Prop where
  c0 : w.cell? ⟨b, o, none⟩ = some (.int .i64 x.kind)
  c1 : w.cell? ⟨b, o + 1, none⟩ = some (.string x.text)
  c2 : w.cell? ⟨b, o + 2, none⟩ = some (.int .u64 x.num)
  c3 : w.cell? ⟨b, o + 3, none⟩ = some (.int .i64 x.place)
  c4 : w.cell? ⟨b, o + 4, none⟩ = some (.slice A x.list.length c)
/-- A slice reads as a list of trees. -/
inductive Rd (w : World) : List T → Option Addr → Nat → Prop
  | mk (l : List T) (A : Option Addr) (c b o : Nat) (f : Nat → Option Addr) (g : Nat → Nat) (hc : l.length ≤ c) (hA : 0 < l.length → A = some ⟨b, o, none⟩)
      (hcell : ∀ i x, l[i]? = some x → Cells w b (o + i * 5) x (f i) (g i)) (hsub : ∀ i x, l[i]? = some x → Rd w x.list (f i) (g i)) : Rd w l A c

theorem Cells.below {w w' : World} {b o : Nat} {x : T} {A : Option Addr} {c : Nat} (h : Cells w b o x A c) (hb : Below w.heap.size w w') : Cells w' b o x A c :=
  ⟨(hb.cell (World.block_lt_of_cell? w _ h.c0)).trans h.c0, (hb.cell (World.block_lt_of_cell? w _ h.c1)).trans h.c1, (hb.cell (World.block_lt_of_cell? w _ h.c2)).trans h.c2,
    (hb.cell (World.block_lt_of_cell? w _ h.c3)).trans h.c3, (hb.cell (World.block_lt_of_cell? w _ h.c4)).trans h.c4⟩
theorem Rd.keep {w w' : World} {l : List T} {A : Option Addr} {c : Nat} (h : Rd w l A c) (hb : Below w.heap.size w w') : Rd w' l A c := by
  induction h with
  | mk l A c b o f g hc hA hcell hsub ih => exact .mk l A c b o f g hc hA (fun i x hx => (hcell i x hx).below hb) ih
theorem Rd.len {w : World} {l : List T} {A : Option Addr} {c : Nat} (h : Rd w l A c) : l.length ≤ c := by cases h; assumption
theorem Rd.at_ {w : World} {l : List T} {A : Option Addr} {c : Nat} (h : Rd w l A c) {i : Nat} {x : T} (hx : l[i]? = some x) :
    ∃ b o A' c', A = some ⟨b, o, none⟩ ∧ Cells w b (o + i * 5) x A' c' ∧ Rd w x.list A' c' := by
  cases h with
  | mk l A c b o f g hc hA hcell hsub =>
    have hi : i < l.length := (List.getElem?_eq_some_iff.1 hx).1
    exact ⟨b, o, f i, g i, hA (by omega), hcell i x hx, hsub i x hx⟩
theorem Rd.nil (w : World) : Rd w [] none 0 := .mk [] none 0 0 0 (fun _ => none) (fun _ => 0) (Nat.le_refl _) (fun h => absurd h (by simp)) (fun i x h => by simp at h) (fun i x h => by simp at h)

mutual
/-- How many nodes. -/
def T.size : T → Nat
  | .mk _ _ _ _ l => 1 + T.sizes l
def T.sizes : List T → Nat
  | [] => 0
  | x :: l => x.size + T.sizes l
end
theorem T.size_eq (x : T) : x.size = 1 + T.sizes x.list := by cases x; simp [T.size]
theorem T.sizes_append (l m : List T) : T.sizes (l ++ m) = T.sizes l + T.sizes m := by
  induction l with
  | nil => simp [T.sizes]
  | cons x l ih => simp only [List.cons_append, T.sizes, ih]; omega
theorem T.size_le {l : List T} {i : Nat} {x : T} (h : l[i]? = some x) : x.size ≤ T.sizes l := by
  induction l generalizing i with
  | nil => simp at h
  | cons y l ih =>
    cases i with
    | zero => simp at h; subst h; simp [T.sizes]
    | succ i => simp at h; have := ih h; simp only [T.sizes]; omega
theorem T.sizes_take {l : List T} {i : Nat} {x : T} (h : l[i]? = some x) : T.sizes (l.take (i + 1)) = T.sizes (l.take i) + x.size := by
  have hi : i < l.length := (List.getElem?_eq_some_iff.1 h).1
  rw [List.take_add_one, h, T.sizes_append]; simp [T.sizes]
theorem T.sizes_take_le (l : List T) (i : Nat) : T.sizes (l.take i) ≤ T.sizes l := by
  have h := T.sizes_append (l.take i) (l.drop i)
  rw [List.take_append_drop] at h; omega
theorem T.size_pos (x : T) : 1 ≤ x.size := by rw [T.size_eq]; omega
theorem T.length_le (l : List T) : l.length ≤ T.sizes l := by
  induction l with
  | nil => simp
  | cons x l ih => have := T.size_pos x; simp only [List.length_cons, T.sizes]; omega

theorem below_alloc' {B : Nat} {w W : World} (h : Below B w W) (hB : B ≤ W.heap.size) (o : Obj) : Below B w (W.alloc o) := h.alloc hB o
theorem below_then {B : Nat} {w w1 w2 : World} (h : Below B w w1) (hB : B ≤ w1.heap.size) (k : Below w1.heap.size w1 w2) : Below B w w2 :=
  h.trans ⟨k.os, k.tape, k.output, k.size, fun i hi => k.block i (Nat.lt_of_lt_of_le hi hB)⟩
theorem ret_int {k : IntKind} {a b : Int} (h : a = b) : Ending.returned (.int k a) = Ending.returned (.int k b) := by rw [h]
theorem ret_bool {a b : Bool} (h : a = b) : Ending.returned (.bool a) = Ending.returned (.bool b) := by rw [h]
theorem ret_str {a b : ByteArray} (h : a = b) : Ending.returned (.string a) = Ending.returned (.string b) := by rw [h]
end Go.Proofs.YtoemljgkofhhpaaGreatDoor
