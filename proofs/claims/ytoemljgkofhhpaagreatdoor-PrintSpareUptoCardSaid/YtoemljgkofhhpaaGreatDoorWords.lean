import Derived.Test.YtoemljgkofhhpaaGreatDoorNamesR
import Derived.Lib.IndexMore
import Derived.Lib.Bytealg
namespace Go.Proofs.YtoemljgkofhhpaaGreatDoor
open Go.RowKit

def wordsS : List UInt8 := [32, 102, 117, 110, 99, 32, 116, 121, 112, 101, 32, 115, 116, 114, 117, 99, 116, 32, 105, 102, 32, 101, 108, 115, 101, 32, 102, 111, 114, 32, 98, 114, 101, 97, 107, 32, 99, 111, 110, 116, 105, 110, 117, 101, 32, 114, 101, 116, 117, 114, 110, 32, 103, 111, 32, 100, 101, 102, 101, 114, 32, 115, 101, 108, 101, 99, 116, 32, 99, 97, 115, 101, 32, 100, 101, 102, 97, 117, 108, 116, 32, 99, 104, 97, 110, 32, 118, 97, 114, 32, 116, 114, 117, 101, 32, 102, 97, 108, 115, 101, 32]

theorem index_some {s sub : List UInt8} (h : 0 ≤ Lib.index s sub) : ∃ i, i ≤ s.length ∧ sub.isPrefixOf (s.drop i) = true := by
  induction s with
  | nil =>
    unfold Lib.index at h
    split at h
    · rename_i he
      exact ⟨0, Nat.le_refl _, by cases sub <;> simp_all⟩
    · omega
  | cons b l ih =>
    unfold Lib.index at h
    split at h
    · rename_i hp
      exact ⟨0, by omega, hp⟩
    · split at h
      · omega
      · rename_i hne
        have hge := Lib.index_ge l sub
        have : 0 ≤ Lib.index l sub := by
          have : ¬ Lib.index l sub = -1 := by simpa using hne
          omega
        obtain ⟨i, hi, hp⟩ := ih this
        exact ⟨i + 1, by simp; omega, by simpa using hp⟩
theorem indexByte_some {s : List UInt8} {c : UInt8} : 0 ≤ Lib.indexByte s c ↔ c ∈ s := by
  induction s with
  | nil => simp [Lib.indexByte]
  | cons b l ih =>
    unfold Lib.indexByte
    by_cases hb : b = c
    · subst hb; simp
    · have hb' : (b == c) = false := by simpa using hb
      rw [hb']
      simp only [Bool.false_eq_true, if_false, List.mem_cons]
      have hc : ¬ c = b := fun e => hb e.symm
      by_cases h1 : Lib.indexByte l c = -1
      · have : ¬ c ∈ l := by rw [← ih]; omega
        simp [h1, hc, this]
      · have h2 : (Lib.indexByte l c == -1) = false := by simpa using h1
        rw [h2]
        have : c ∈ l := by
          rw [← ih]
          have key : ∀ l : List UInt8, -1 ≤ Lib.indexByte l c := by
            intro l
            induction l with
            | nil => simp [Lib.indexByte]
            | cons x l ihl =>
              unfold Lib.indexByte
              split
              · omega
              · split <;> omega
          have := key l
          omega
        simp [hc, this]
        exact (by have := ih.2 this; omega)
/-- What stands up to the next blank. -/
def nextWord (l : List UInt8) : List UInt8 := l.takeWhile (· != 32)
theorem nextWord_of {s l : List UInt8} (hs : 32 ∉ s) (h : (s ++ [32]).isPrefixOf l = true) : nextWord l = s := by
  induction s generalizing l with
  | nil =>
    cases l with
    | nil => simp at h
    | cons b l => simp at h; subst h; rfl
  | cons b s ih =>
    cases l with
    | nil => simp at h
    | cons b' l =>
      simp at h
      obtain ⟨rfl, h⟩ := h
      have hb : (b != 32) = true := by simp at hs ⊢; exact fun e => hs.1 e.symm
      rw [nextWord, List.takeWhile_cons, hb]
      simp only [if_true]
      rw [show l.takeWhile (· != 32) = nextWord l from rfl, ih (fun hm => hs (List.mem_cons_of_mem _ hm)) (by simpa using h)]
theorem words_all : ((List.range 102).all fun i => (wordsS.drop i).head? != some 32 || wordsL.contains (nextWord (wordsS.drop (i + 1))) || nextWord (wordsS.drop (i + 1)) == []) = true := by decide +kernel
theorem words_in : (wordsL.all fun s => decide (0 ≤ Lib.index wordsS (32 :: s ++ [32])) && !s.contains 32 && s != []) = true := by decide +kernel
/-- The search in the text of all words tells just the words. -/
theorem word_search (l : List UInt8) : (l != [] && !decide (0 ≤ Lib.indexByte l 32) && decide (0 ≤ Lib.index wordsS (32 :: l ++ [32]))) = wordsL.contains l := by
  rw [Bool.eq_iff_iff]
  constructor
  · intro h
    simp only [Bool.and_eq_true, Bool.not_eq_true', decide_eq_false_iff_not, decide_eq_true_eq, bne_iff_ne, indexByte_some] at h
    obtain ⟨⟨hne, hb⟩, hi⟩ := h
    obtain ⟨i, hle, hp⟩ := index_some hi
    have hlen : wordsS.length = 101 := rfl
    have := List.all_eq_true.1 words_all i (List.mem_range.2 (by omega))
    cases hd : wordsS.drop i with
    | nil => rw [hd] at hp; simp at hp
    | cons b r =>
      rw [hd] at hp this
      simp at hp
      obtain ⟨hb32, hp⟩ := hp
      have hr : r = wordsS.drop (i + 1) := by
        have := congrArg List.tail hd
        simpa using this.symm
      have hw := nextWord_of hb (l := r) (by simpa using hp)
      rw [← hr, hw] at this
      subst hb32
      simpa [hne] using this
  · intro h
    have hm : l ∈ wordsL := by simpa using h
    have := List.all_eq_true.1 words_in l hm
    simp only [Bool.and_eq_true, Bool.not_eq_true', decide_eq_true_eq, bne_iff_ne] at this
    simp only [Bool.and_eq_true, Bool.not_eq_true', decide_eq_false_iff_not, decide_eq_true_eq, bne_iff_ne, indexByte_some]
    exact ⟨⟨this.2, by simpa using this.1.2⟩, this.1.1⟩
end Go.Proofs.YtoemljgkofhhpaaGreatDoor
