import Derived.Test.YtoemljgkofhhpaaGreatDoorRight
import Derived.Test.YtoemljgkofhhpaaGreatDoorDigits
import Derived.Lib.Join
namespace Go.Proofs.YtoemljgkofhhpaaGreatDoor
open Go.RowKit

/-! The texts, once for both sides. -/
theorem ba_nil (a : ByteArray) : (⟨#[]⟩ : ByteArray) ++ a = a := by apply ByteArray.ext; simp [ByteArray.data_append]
theorem ba_nil' (a : ByteArray) : a ++ (⟨#[]⟩ : ByteArray) = a := by apply ByteArray.ext; simp [ByteArray.data_append]
theorem ba_assoc (a b c : ByteArray) : a ++ b ++ c = a ++ (b ++ c) := by apply ByteArray.ext; simp [ByteArray.data_append, Array.append_assoc]
theorem ba_size (a b : ByteArray) : (a ++ b).size = a.size + b.size := by simp [ByteArray.size_append]
theorem ba_mk (l : Array UInt8) : (ByteArray.mk l).size = l.size := rfl

def tabsT (n : Nat) : ByteArray := ⟨Array.replicate n 9⟩
/-- Texts, one behind the other. -/
def catT : List ByteArray → ByteArray
  | [] => ⟨#[]⟩
  | a :: l => a ++ catT l
/-- With a comma and a blank between. -/
def joinT : List ByteArray → ByteArray
  | [] => ⟨#[]⟩
  | a :: l => a ++ catT (l.map fun b => ⟨#[44, 32]⟩ ++ b)
theorem catT_append (l m : List ByteArray) : catT (l ++ m) = catT l ++ catT m := by
  induction l with
  | nil => simp [catT, ba_nil]
  | cons a l ih => simp only [List.cons_append, catT, ih, ba_assoc]
theorem catT_take {ts : List ByteArray} {j : Nat} {a : ByteArray} (h : ts[j]? = some a) : catT (ts.take (j + 1)) = catT (ts.take j) ++ a := by
  rw [List.take_add_one, h, catT_append]; simp [catT, ba_nil']
theorem joinT_first {ts : List ByteArray} {a : ByteArray} (h : ts[0]? = some a) : joinT (ts.take 1) = a := by
  cases ts with
  | nil => simp at h
  | cons b l => simp at h; subst h; simp [joinT, catT, ba_nil']
theorem joinT_take {ts : List ByteArray} {j : Nat} {a : ByteArray} (h1 : 1 ≤ j) (h : ts[j]? = some a) : joinT (ts.take (j + 1)) = joinT (ts.take j) ++ ⟨#[44, 32]⟩ ++ a := by
  cases ts with
  | nil => simp at h
  | cons b l =>
    cases j with
    | zero => omega
    | succ j =>
      simp only [List.take_succ_cons, joinT]
      have h2 : (l.map fun b => (⟨#[44, 32]⟩ : ByteArray) ++ b)[j]? = some (⟨#[44, 32]⟩ ++ a) := by
        simp at h; simp [h]
      have h3 := catT_take h2
      rw [← List.map_take, ← List.map_take] at h3
      rw [h3]
      simp only [ba_assoc]
theorem joinT_lib (ts : List ByteArray) : (⟨(Lib.join (ts.map (·.data.toList)) [44, 32]).toArray⟩ : ByteArray) = joinT ts := by
  cases ts with
  | nil => rfl
  | cons a l =>
    have key : ∀ l : List ByteArray, (⟨(Lib.joinTail [44, 32] (l.map (·.data.toList))).toArray⟩ : ByteArray) = catT (l.map fun b => ⟨#[44, 32]⟩ ++ b) := by
      intro l
      induction l with
      | nil => rfl
      | cons b l ih =>
        simp only [List.map_cons, catT, ← ih, Lib.joinTail, List.flatten_cons]
        apply ByteArray.ext
        simp [ByteArray.data_append]
    simp only [List.map_cons, joinT, ← key]
    rw [Lib.join_cons]
    apply ByteArray.ext
    simp [ByteArray.data_append]

/-- The text of child number i. -/
def ch (f : T → ByteArray) (l : List T) (i : Nat) : ByteArray :=
  match l[i]? with
  | some y => f y
  | none => ⟨#[]⟩
theorem ch_at {f : T → ByteArray} {l : List T} {i : Nat} {y : T} (h : l[i]? = some y) : ch f l i = f y := by unfold ch; rw [h]
/-- In brackets, if need be. -/
def wrapT (need : Bool) (t : ByteArray) : ByteArray := cond need (⟨#[40]⟩ ++ t ++ ⟨#[41]⟩) t
def twoB (x : T) : Bool := x.kind == 33 && x.list.length == 2
def stemB (x : T) : Bool := x.kind == 33 || (x.kind == 39 || x.kind == 38)
mutual
def T.lits : T → Bool
  | .mk k _ _ _ l => k == 37 || T.litss l
def T.litss : List T → Bool
  | [] => false
  | x :: l => x.lits || T.litss l
end
def typF (ty : T → ByteArray) (x : T) : ByteArray :=
  if x.kind = 11 then ⟨#[91, 93]⟩ ++ ch ty x.list 0
  else if x.kind = 12 then ⟨#[99, 104, 97, 110, 32]⟩ ++ ch ty x.list 0
  else if x.kind = 13 then
    if x.num = 1 then ⟨#[102, 117, 110, 99, 40]⟩ ++ joinT ((x.list.take (x.list.length - 1)).map ty) ++ ⟨#[41]⟩ ++ ⟨#[32]⟩ ++ ch ty x.list (x.list.length - 1)
    else ⟨#[102, 117, 110, 99, 40]⟩ ++ joinT (x.list.map ty) ++ ⟨#[41]⟩
  else x.text
def typT : Nat → T → ByteArray
  | 0, _ => ⟨#[]⟩
  | d + 1, x => typF (typT d) x
/-- A name, a blank, a type. -/
def fieldT (ty : T → ByteArray) (x : T) : ByteArray := x.text ++ ⟨#[32]⟩ ++ ch ty x.list 0
def headT (ty : T → ByteArray) (p q : T) : ByteArray :=
  cond (q.list.length == 1) (⟨#[40]⟩ ++ joinT (p.list.map (fieldT ty)) ++ ⟨#[41, 32]⟩ ++ ch ty q.list 0 ++ ⟨#[32]⟩) (⟨#[40]⟩ ++ joinT (p.list.map (fieldT ty)) ++ ⟨#[41, 32]⟩)
def headC (ty : T → ByteArray) (l : List T) : ByteArray :=
  match l[0]?, l[1]? with
  | some p, some q => headT ty p q
  | _, _ => ⟨#[]⟩
def partT (ty ex : T → ByteArray) (x : T) : ByteArray := if x.kind < 20 then ty x else ex x
def exprF (ty ex bl : T → ByteArray) (x : T) : ByteArray :=
  if x.kind = 31 then digT x.num.toNat
  else if x.kind = 32 then cond (x.num == 1) ⟨#[116, 114, 117, 101]⟩ ⟨#[102, 97, 108, 115, 101]⟩
  else if x.kind = 33 then
    cond (x.list.length == 1) (x.text ++ ch (fun y => wrapT (twoB y) (ex y)) x.list 0)
      (ch (fun y => wrapT (twoB y && decide (bindsT y.text < bindsT x.text)) (ex y)) x.list 0 ++ ⟨#[32]⟩ ++ x.text ++ ⟨#[32]⟩ ++
        ch (fun y => wrapT (twoB y && decide (bindsT y.text ≤ bindsT x.text)) (ex y)) x.list 1)
  else if x.kind = 34 then ch (fun y => wrapT (stemB y) (ex y)) x.list 0 ++ ⟨#[40]⟩ ++ joinT (x.list.tail.map (partT ty ex)) ++ ⟨#[41]⟩
  else if x.kind = 35 then ch (fun y => wrapT (stemB y) (ex y)) x.list 0 ++ ⟨#[46]⟩ ++ x.text
  else if x.kind = 36 then ch (fun y => wrapT (stemB y) (ex y)) x.list 0 ++ ⟨#[91]⟩ ++ joinT (x.list.tail.map (partT ty ex)) ++ ⟨#[93]⟩
  else if x.kind = 37 then x.text ++ ⟨#[123]⟩ ++ joinT (x.list.map (partT ty ex)) ++ ⟨#[125]⟩
  else if x.kind = 38 then ⟨#[102, 117, 110, 99]⟩ ++ headC ty x.list ++ ch bl x.list 2
  else if x.kind = 39 then ⟨#[60, 45]⟩ ++ ch (fun y => wrapT (twoB y) (ex y)) x.list 0
  else if x.kind = 40 then ⟨#[109, 97, 107, 101, 40]⟩ ++ ch ty x.list 0 ++ ⟨#[44, 32]⟩ ++ ch ex x.list 1 ++ ⟨#[41]⟩
  else x.text
def linesF (n : Nat) (st : T → ByteArray) (l : List T) : ByteArray := catT (l.map fun y => tabsT n ++ st y ++ ⟨#[10]⟩)
def blockF (n : Nat) (st : T → ByteArray) (x : T) : ByteArray := ⟨#[123, 10]⟩ ++ linesF (n + 1) st x.list ++ tabsT n ++ ⟨#[125]⟩
def branchF (ex : T → ByteArray) (c : T) : ByteArray :=
  if c.kind = 45 then ⟨#[100, 101, 102, 97, 117, 108, 116]⟩
  else if c.kind = 44 then ⟨#[99, 97, 115, 101, 32]⟩ ++ ch ex c.list 0 ++ ⟨#[32, 60, 45, 32]⟩ ++ ch ex c.list 1
  else cond (emptyB c.text) ⟨#[99, 97, 115, 101, 32]⟩ (⟨#[99, 97, 115, 101, 32]⟩ ++ c.text ++ ⟨#[32, 58, 61, 32]⟩) ++ ⟨#[60, 45]⟩ ++ ch (fun y => wrapT (twoB y) (ex y)) c.list 0
def caseF (n : Nat) (ex st1 : T → ByteArray) (c : T) : ByteArray :=
  tabsT n ++ branchF ex c ++ ⟨#[58, 10]⟩ ++ ch (fun b => linesF (n + 1) st1 b.list) c.list (c.list.length - 1)
def stmtF (n : Nat) (ty ex bl st st1 : T → ByteArray) (x : T) : ByteArray :=
  if x.kind = 20 then blockF n st1 x
  else if x.kind = 21 then x.text ++ ⟨#[32, 58, 61, 32]⟩ ++ ch ex x.list 0
  else if x.kind = 22 then ⟨#[118, 97, 114, 32]⟩ ++ x.text ++ ⟨#[32]⟩ ++ ch ty x.list 0
  else if x.kind = 23 then ch ex x.list 0 ++ ⟨#[32, 61, 32]⟩ ++ ch ex x.list 1
  else if x.kind = 25 then
    cond (x.list.length == 3) (⟨#[105, 102, 32]⟩ ++ ch (fun y => wrapT y.lits (ex y)) x.list 0 ++ ⟨#[32]⟩ ++ ch bl x.list 1 ++ ⟨#[32, 101, 108, 115, 101, 32]⟩ ++ ch st x.list 2)
      (⟨#[105, 102, 32]⟩ ++ ch (fun y => wrapT y.lits (ex y)) x.list 0 ++ ⟨#[32]⟩ ++ ch bl x.list 1)
  else if x.kind = 26 then ⟨#[102, 111, 114, 32]⟩ ++ ch (fun y => wrapT y.lits (ex y)) x.list 0 ++ ⟨#[32]⟩ ++ ch bl x.list 1
  else if x.kind = 27 then cond (x.num == 1) ⟨#[99, 111, 110, 116, 105, 110, 117, 101]⟩ ⟨#[98, 114, 101, 97, 107]⟩
  else if x.kind = 28 then cond (x.list.length == 0) ⟨#[114, 101, 116, 117, 114, 110]⟩ (⟨#[114, 101, 116, 117, 114, 110, 32]⟩ ++ ch ex x.list 0)
  else if x.kind = 29 then cond (x.num == 1) ⟨#[100, 101, 102, 101, 114, 32]⟩ ⟨#[103, 111, 32]⟩ ++ ch ex x.list 0
  else if x.kind = 41 then ch ex x.list 0 ++ ⟨#[32, 60, 45, 32]⟩ ++ ch ex x.list 1
  else if x.kind = 42 then ⟨#[115, 101, 108, 101, 99, 116, 32, 123, 10]⟩ ++ catT (x.list.map (caseF n ex st1)) ++ tabsT n ++ ⟨#[125]⟩
  else ch ex x.list 0
mutual
def exprT : Nat → Nat → T → ByteArray
  | 0, _, _ => ⟨#[]⟩
  | d + 1, n, x => exprF (typT d) (exprT d n) (blockT d n) x
def blockT : Nat → Nat → T → ByteArray
  | 0, _, _ => ⟨#[]⟩
  | d + 1, n, x => blockF n (stmtT d (n + 1)) x
def stmtT : Nat → Nat → T → ByteArray
  | 0, _, _ => ⟨#[]⟩
  | d + 1, n, x => stmtF n (typT d) (exprT d n) (blockT d n) (stmtT d n) (stmtT d (n + 1)) x
end
def limT (n : Int) : ByteArray := if n = 1 then ⟨#[97, 110, 121]⟩ else if n = 2 then ⟨#[99, 111, 109, 112, 97, 114, 97, 98, 108, 101]⟩ else ⟨#[105, 110, 116, 101, 103, 101, 114]⟩
def genT (g : List T) : ByteArray := cond (g.length == 0) ⟨#[]⟩ (⟨#[91]⟩ ++ joinT (g.map fun y => y.text ++ ⟨#[32]⟩ ++ limT y.num) ++ ⟨#[93]⟩)
def declT (x : T) : ByteArray :=
  if x.kind = 2 then ⟨#[116, 121, 112, 101, 32]⟩ ++ x.text ++ ⟨#[32, 115, 116, 114, 117, 99, 116, 32, 123, 10]⟩ ++ catT (x.list.map fun f => ⟨#[9]⟩ ++ fieldT (typT 65) f ++ ⟨#[10]⟩) ++ ⟨#[125, 10]⟩
  else match x.list[0]?, x.list[1]?, x.list[2]?, x.list[3]? with
    | some g, some p, some q, some b => ⟨#[102, 117, 110, 99, 32]⟩ ++ x.text ++ genT g.list ++ headT (typT 65) p q ++ blockT 65 0 b ++ ⟨#[10]⟩
    | _, _, _, _ => ⟨#[]⟩
def programT (x : T) : ByteArray := catT (x.list.map declT)

theorem goodB_mono (d : Nat) : ∀ x, goodB d x = true → goodB (d + 1) x = true := by
  induction d with
  | zero => intro x h; simp [goodB] at h
  | succ d ih =>
    intro x h
    rw [show goodB (d + 1) x = (labelB x && (childrenB x && x.list.all (goodB d))) from rfl] at h
    rw [show goodB (d + 1 + 1) x = (labelB x && (childrenB x && x.list.all (goodB (d + 1)))) from rfl]
    simp only [Bool.and_eq_true, List.all_eq_true] at h ⊢
    exact ⟨h.1, h.2.1, fun y hy => ih y (h.2.2 y hy)⟩
end Go.Proofs.YtoemljgkofhhpaaGreatDoor
