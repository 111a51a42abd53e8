import Derived.Test.YtoemljgkofhhpaaGreatDoorNode
import GoSem.Core.Utf8
namespace Go.Proofs.YtoemljgkofhhpaaGreatDoor
open Go.RowKit

/-! What a sound tree is. -/
def isExprB (k : Int) : Bool := decide (30 ≤ k) && decide (k ≤ 40)
def isTypeB (k : Int) : Bool := decide (10 ≤ k) && decide (k ≤ 13)
def isStmtB (k : Int) : Bool := (decide (20 ≤ k) && decide (k ≤ 29)) || (k == 41 || k == 42)
/-- w: a kind, or a sort: -1 an expression, -2 a type, -3 a statement. -/
def okKind (k w : Int) : Bool := if w = -1 then isExprB k else if w = -2 then isTypeB k else if w = -3 then isStmtB k else k == w
def kindsB : List T → List Int → Bool
  | [], [] => true
  | x :: l, w :: ws => okKind x.kind w && kindsB l ws
  | _, _ => false
def allB (l : List T) (p : Int → Bool) : Bool := l.all fun x => p x.kind

def opsTab : List (List ByteArray) :=
  [[⟨#[42]⟩, ⟨#[47]⟩, ⟨#[37]⟩, ⟨#[60, 60]⟩, ⟨#[62, 62]⟩, ⟨#[38]⟩, ⟨#[38, 94]⟩], [⟨#[43]⟩, ⟨#[45]⟩, ⟨#[124]⟩, ⟨#[94]⟩],
   [⟨#[61, 61]⟩, ⟨#[33, 61]⟩, ⟨#[60]⟩, ⟨#[60, 61]⟩, ⟨#[62]⟩, ⟨#[62, 61]⟩], [⟨#[38, 38]⟩], [⟨#[124, 124]⟩]]
def opsRow (i : Nat) : List ByteArray := opsTab.getD i []

def letterB (r : Int) : Bool := (decide (65 ≤ r) && decide (r ≤ 90)) || ((decide (97 ≤ r) && decide (r ≤ 122)) || (r == 95 || (decide (192 ≤ r) && (decide (r ≤ 591) && (r != 215 && r != 247)))))
def digitB (r : Int) : Bool := decide (48 ≤ r) && decide (r ≤ 57)
/-- From a place on: letters, and (not at the begin) digits. -/
def nameFrom (s : ByteArray) : Nat → Nat → Bool
  | 0, _ => true
  | f + 1, p => if p < s.size then (letterB (Utf8.decode s p).1 || (decide (0 < p) && digitB (Utf8.decode s p).1)) && nameFrom s f (p + (Utf8.decode s p).2) else true
def name0 (s : ByteArray) : Bool := nameFrom s (s.size + 1) 0 && (decide (1 ≤ s.size) && decide (s.size ≤ 64))
def wordsL : List (List UInt8) := [[102, 117, 110, 99], [116, 121, 112, 101], [115, 116, 114, 117, 99, 116], [105, 102], [101, 108, 115, 101], [102, 111, 114], [98, 114, 101, 97, 107], [99, 111, 110, 116, 105, 110, 117, 101], [114, 101, 116, 117, 114, 110], [103, 111], [100, 101, 102, 101, 114], [115, 101, 108, 101, 99, 116], [99, 97, 115, 101], [100, 101, 102, 97, 117, 108, 116], [99, 104, 97, 110], [118, 97, 114], [116, 114, 117, 101], [102, 97, 108, 115, 101]]
def wordB (s : ByteArray) : Bool := wordsL.contains s.toList
def nameB (s : ByteArray) : Bool := name0 s && !wordB s

end Go.Proofs.YtoemljgkofhhpaaGreatDoor
