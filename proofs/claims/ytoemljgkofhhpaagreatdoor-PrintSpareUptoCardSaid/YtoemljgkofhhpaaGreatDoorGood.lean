import Derived.Test.YtoemljgkofhhpaaGreatDoorBinds
import Derived.Test.YtoemljgkofhhpaaGreatDoorLists
namespace Go.Proofs.YtoemljgkofhhpaaGreatDoor
open Go.RowKit

def unaryB (t : ByteArray) : Bool := t.toList == [45] || (t.toList == [94] || t.toList == [33])
def emptyB (t : ByteArray) : Bool := t.toList == []
/-- Is the text what the kind says? -/
def textB (x : T) : Bool :=
  if [2, 3, 5, 8, 10, 21, 22, 30, 35, 37].contains x.kind then nameB x.text
  else if x.kind = 43 then emptyB x.text || nameB x.text
  else if x.kind = 33 then (x.list.length == 1 && unaryB x.text) || (x.list.length == 2 && decide (0 < bindsT x.text))
  else emptyB x.text
/-- Is the number? -/
def numB (x : T) : Bool :=
  if x.kind = 8 then decide (1 ≤ x.num) && decide (x.num ≤ 3)
  else if [13, 27, 29, 32].contains x.kind then decide (x.num ≤ 1)
  else if x.kind = 31 then true
  else x.num == 0
theorem textB_mk (k : Int) (t : ByteArray) (n p : Int) (l : List T) : textB (T.mk k t n p l) =
    if [2, 3, 5, 8, 10, 21, 22, 30, 35, 37].contains k then nameB t else if k = 43 then emptyB t || nameB t
    else if k = 33 then (l.length == 1 && unaryB t) || (l.length == 2 && decide (0 < bindsT t)) else emptyB t := rfl
theorem numB_mk (k : Int) (t : ByteArray) (n p : Int) (l : List T) : numB (T.mk k t n p l) =
    if k = 8 then decide (1 ≤ n) && decide (n ≤ 3) else if [13, 27, 29, 32].contains k then decide (n ≤ 1) else if k = 31 then true else n == 0 := rfl
def labelB (x : T) : Bool := textB x && numB x
/-- Are the nodes in it? -/
def childrenB (x : T) : Bool :=
  if x.kind = 1 then allB x.list (fun k => k == 2 || k == 3)
  else if x.kind = 2 ∨ x.kind = 6 then allB x.list (· == 5) && decide (x.list.length ≤ 16)
  else if x.kind = 3 then kindsB x.list [4, 6, 7, 20]
  else if x.kind = 4 then allB x.list (· == 8) && decide (x.list.length ≤ 16)
  else if x.kind = 5 ∨ x.kind = 11 ∨ x.kind = 12 ∨ x.kind = 22 then kindsB x.list [-2]
  else if x.kind = 7 then x.list.length == 0 || kindsB x.list [-2]
  else if x.kind = 8 ∨ x.kind = 10 ∨ x.kind = 27 ∨ x.kind = 30 ∨ x.kind = 31 ∨ x.kind = 32 then x.list.length == 0
  else if x.kind = 13 then allB x.list isTypeB && (decide (x.num ≤ x.list.length) && decide (x.list.length ≤ 16 + x.num))
  else if x.kind = 20 then allB x.list isStmtB
  else if x.kind = 21 ∨ x.kind = 35 ∨ x.kind = 39 then kindsB x.list [-1]
  else if x.kind = 23 then kindsB x.list [-1, -1] && [30, 35, 36].contains (x.list.headD (.mk 0 ⟨#[]⟩ 0 0 [])).kind
  else if x.kind = 24 then kindsB x.list [34] || kindsB x.list [39]
  else if x.kind = 25 then kindsB x.list [-1, 20] || (kindsB x.list [-1, 20, 20] || kindsB x.list [-1, 20, 25])
  else if x.kind = 26 ∨ x.kind = 43 then kindsB x.list [-1, 20]
  else if x.kind = 28 then x.list.length == 0 || kindsB x.list [-1]
  else if x.kind = 29 then kindsB x.list [34]
  else if x.kind = 33 then kindsB x.list [-1] || kindsB x.list [-1, -1]
  else if x.kind = 34 then decide (1 ≤ x.list.length) && (decide (x.list.length ≤ 17) && allB x.list isExprB)
  else if x.kind = 36 then decide (2 ≤ x.list.length) && (decide (x.list.length ≤ 17) && (isExprB (x.list.headD (.mk 0 ⟨#[]⟩ 0 0 [])).kind && allB x.list.tail (fun k => isExprB k || (k == 11 || k == 12))))
  else if x.kind = 37 then allB x.list isExprB && decide (x.list.length ≤ 16)
  else if x.kind = 38 then kindsB x.list [6, 7, 20]
  else if x.kind = 40 then kindsB x.list [-2, -1]
  else if x.kind = 41 then kindsB x.list [-1, -1]
  else if x.kind = 42 then decide ((x.list.filter fun y => y.kind == 45).length ≤ 1) && allB x.list (fun k => decide (43 ≤ k) && decide (k ≤ 45))
  else if x.kind = 44 then kindsB x.list [-1, -1, 20]
  else if x.kind = 45 then kindsB x.list [20]
  else false
def goodB : Nat → T → Bool
  | 0, _ => false
  | d + 1, x => labelB x && (childrenB x && x.list.all (goodB d))
end Go.Proofs.YtoemljgkofhhpaaGreatDoor
