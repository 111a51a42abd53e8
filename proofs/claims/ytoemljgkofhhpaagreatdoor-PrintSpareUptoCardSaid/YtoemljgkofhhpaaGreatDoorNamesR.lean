import Derived.Test.YtoemljgkofhhpaaGreatDoorNames
import Derived.Laws.RangeAny
namespace Go.Proofs.YtoemljgkofhhpaaGreatDoor
open Go.RowKit

theorem decode_pos (s : ByteArray) (p : Nat) : 1 ≤ (Utf8.decode s p).2 := by
  simp only [Utf8.decode]
  repeat' split
  all_goals simp
theorem nameFrom_end {s : ByteArray} {f p : Nat} (h : ¬ p < s.size) : nameFrom s f p = true := by
  cases f with
  | zero => rfl
  | succ f => rw [nameFrom, if_neg h]
theorem nameFrom_step {s : ByteArray} {f p : Nat} (h : p < s.size) : nameFrom s (f + 1) p = ((letterB (Utf8.decode s p).1 || (decide (0 < p) && digitB (Utf8.decode s p).1)) && nameFrom s f (p + (Utf8.decode s p).2)) := by
  rw [nameFrom, if_pos h]
theorem iter_below (w : World) (s : ByteArray) (p : Nat) : Below w.heap.size w (w.iter s p) := (Below.refl _ _).alloc (Nat.le_refl _) _

set_option maxRecDepth 100000 in
set_option maxHeartbeats 2000000 in
theorem nameR0_any (s : ByteArray) (w : World) (hs : s.size ≤ 9223372036854775807) : Calls Tryz.prog 134 #[.string s] w fun e w' => e = .returned (.bool (name0 s)) ∧ Below w.heap.size w w' := by
  go_enter Tryz.func134, Tryz.ntmps134
  go_wp2_with fail
  go_loopw [3] (fun _ wr => ∃ f p, wr = w.iter s p ∧ s.size < p + f ∧ Hid (nameFrom s (s.size + 1) 0 = nameFrom s f p)) (fun _ wr => s.size + 1 - wr.iterPos w.heap.size)
  case atStart => exact ⟨s.size + 1, 0, rfl, by omega, rfl⟩
  case round =>
    obtain ⟨f, p, rfl, hf, HN⟩ := hrel
    by_cases hp : p < s.size
    · have hd := decode_pos s p
      have hdl := decode_le s p
      obtain ⟨f, rfl⟩ : ∃ g, f = g + 1 := ⟨f - 1, by omega⟩
      have hN := HN.out
      rw [nameFrom_step hp] at hN
      have hn := fun ty => run_next_any (P := Tryz.prog) w s p ty hp
      generalize hr : (Utf8.decode s p).1 = r at *
      generalize hz : (Utf8.decode s p).2 = z at *
      clear hr hz HN
      cases hL : letterB r with
      | true =>
        have hN2 : nameFrom s (s.size + 1) 0 = nameFrom s f (p + z) := by rw [hN, hL]; simp
        have HN := Lib.hid hN2
        have HL := Lib.hid hL
        clear hN hN2 hL
        go_wp2_with fail
        refine (letterR_any _ _).mono ?_
        rintro e w' ⟨rfl, rfl⟩
        rw [HL.out]
        go_wp2_with fail
        go_roundw
        case rel => exact ⟨f, p + z, rfl, by omega, HN.out⟩
        case measure => simp; omega
      | false =>
        by_cases h0 : 0 < p
        · by_cases h48 : 48 ≤ r
          · by_cases h57 : r ≤ 57
            · have hN2 : nameFrom s (s.size + 1) 0 = nameFrom s f (p + z) := by rw [hN, hL]; simp [digitB, h0]; omega
              have HN := Lib.hid hN2
              have HL := Lib.hid hL
              clear hN hN2 hL
              go_wp2_with fail
              refine (letterR_any _ _).mono ?_
              rintro e w' ⟨rfl, rfl⟩
              rw [HL.out]
              go_wp2_with fail
              go_roundw
              case rel => exact ⟨f, p + z, rfl, by omega, HN.out⟩
              case measure => simp; omega
            · have hN2 : nameFrom s (s.size + 1) 0 = false := by rw [hN, hL]; simp [digitB]; omega
              have HN := Lib.hid hN2
              have HL := Lib.hid hL
              clear hN hN2 hL
              go_wp2_with fail
              refine (letterR_any _ _).mono ?_
              rintro e w' ⟨rfl, rfl⟩
              rw [HL.out]
              go_wp2_with fail
              go_ret
              exact ⟨ret_bool (by rw [name0, HN.out]; rfl), iter_below _ _ _⟩
          · have hN2 : nameFrom s (s.size + 1) 0 = false := by rw [hN, hL]; simp [digitB]; omega
            have HN := Lib.hid hN2
            have HL := Lib.hid hL
            clear hN hN2 hL
            go_wp2_with fail
            refine (letterR_any _ _).mono ?_
            rintro e w' ⟨rfl, rfl⟩
            rw [HL.out]
            go_wp2_with fail
            go_ret
            exact ⟨ret_bool (by rw [name0, HN.out]; rfl), iter_below _ _ _⟩
        · have hN2 : nameFrom s (s.size + 1) 0 = false := by rw [hN, hL]; simp [h0]
          have HN := Lib.hid hN2
          have HL := Lib.hid hL
          clear hN hN2 hL
          go_wp2_with fail
          refine (letterR_any _ _).mono ?_
          rintro e w' ⟨rfl, rfl⟩
          rw [HL.out]
          go_wp2_with fail
          go_ret
          exact ⟨ret_bool (by rw [name0, HN.out]; rfl), iter_below _ _ _⟩
    · have hN2 : nameFrom s (s.size + 1) 0 = true := by rw [HN.out, nameFrom_end hp]
      have HN2 := Lib.hid hN2
      have hn := fun ty => run_next_end (P := Tryz.prog) w s p ty hp
      clear hN2 HN
      by_cases h1 : 1 ≤ s.size
      · by_cases h64 : s.size ≤ 64
        · go_wp2_with fail
          go_ret
          exact ⟨ret_bool (by rw [name0, HN2.out]; simp [h1, h64] <;> omega), iter_below _ _ _⟩
        · go_wp2_with fail
          go_ret
          exact ⟨ret_bool (by rw [name0, HN2.out]; simp [h64] <;> omega), iter_below _ _ _⟩
      · go_wp2_with fail
        go_ret
        exact ⟨ret_bool (by rw [name0, HN2.out]; simp [h1]), iter_below _ _ _⟩

/-! The words of the language. -/
def inB (l : List ByteArray) (s : ByteArray) : Bool := l.any fun x => x.toList == s.toList
theorem inB_take {l : List ByteArray} {j : Nat} {x s : ByteArray} (h : l[j]? = some x) : inB (l.take (j + 1)) s = (inB (l.take j) s || x.toList == s.toList) := by
  unfold inB
  rw [List.take_add_one, h, List.any_append]; simp
set_option maxRecDepth 100000 in
set_option maxHeartbeats 1000000 in
theorem inR_any (l : List ByteArray) (b o c : Nat) (s : ByteArray) (w : World) (hl : l.length ≤ 1048576) (hc : ∀ j x, l[j]? = some x → w.cell? ⟨b, o + j, none⟩ = some (.string x)) :
    Calls Tryz.prog 171 #[.slice (some ⟨b, o, none⟩) l.length c, .string s] w fun e w' => e = .returned (.bool (inB l s)) ∧ w = w' := by
  have HC := Lib.hid hc
  clear hc
  go_enter Tryz.func171, Tryz.ntmps171
  go_wp2_with fail
  go_loop [5] (fun i => ∃ j : Nat, j ≤ l.length ∧ i = .int .i64 j ∧ Hid (inB (l.take j) s = false)) (fun i => l.length - (intOf i).toNat)
  case atStart => exact ⟨0, Nat.zero_le _, rfl, rfl⟩
  case round =>
    obtain ⟨j, hj, rfl, HI⟩ := hrel
    by_cases hlt : j < l.length
    · obtain ⟨x, hx⟩ : ∃ x, l[j]? = some x := ⟨l[j], by simp [hlt]⟩
      have hcell := HC.out j x hx
      cases he : (x.toList == s.toList) with
      | true =>
        have hr : inB l s = true := by
          unfold inB
          exact List.any_eq_true.2 ⟨x, List.mem_of_getElem? hx, he⟩
        have HRR := Lib.hid hr
        clear hr hx
        go_wp2_with fail
        go_ret
        exact ⟨ret_bool HRR.out.symm, rfl⟩
      | false =>
        have hn : inB (l.take (j + 1)) s = false := by rw [inB_take hx, HI.out, he]; rfl
        have HN := Lib.hid hn
        clear hn hx
        go_wp2_with fail
        go_round
        case rel => exact ⟨j + 1, by omega, by go_num, HN.out⟩
        case measure => simp [intOf]; omega
    · go_wp2_with fail
      go_ret
      exact ⟨ret_bool (by have : j = l.length := by omega
                          subst this; have := HI.out; rw [List.take_length] at this; exact this.symm), rfl⟩

def wordsA : List ByteArray := wordsL.map fun l => ⟨l.toArray⟩
theorem inB_words (s : ByteArray) : inB wordsA s = wordB s := by
  unfold inB wordB wordsA
  rw [List.any_map, Bool.eq_iff_iff, List.any_eq_true, List.contains_iff_mem]
  constructor
  · rintro ⟨x, hx, he⟩
    have : x = s.toList := by
      have h2 : (⟨x.toArray⟩ : ByteArray).toList = s.toList := by simpa using he
      rw [Lib.toList_data] at h2
      simpa using h2
    exact this ▸ hx
  · intro h
    exact ⟨s.toList, h, by simp [Lib.toList_data]⟩
set_option maxRecDepth 100000 in
set_option maxHeartbeats 1000000 in
theorem wordR_any (s : ByteArray) (w : World) : Calls Tryz.prog 135 #[.string s] w fun e w' => e = .returned (.bool (wordB s)) ∧ Below w.heap.size w w' := by
  have key : ∀ w1 : World, w1 = w.alloc (.cells (wordsA.map Value.string).toArray 9) → Calls Tryz.prog 171 #[.slice (some ⟨w.heap.size, 0, none⟩) 18 18, .string s] w1 fun e w' => e = .returned (.bool (wordB s)) ∧ w1 = w' := by
    intro w1 h1
    have hc := inR_any wordsA w.heap.size 0 18 s w1 (by decide) (fun j x hx => by
      subst h1
      rw [Nat.zero_add, cell_of_row _ w.heap.size j _ 9 (0, 0) (heap_alloc_new w _)]
      simp [hx])
    rw [inB_words] at hc
    exact hc
  have KEY := Lib.hid key
  clear key
  go_enter Tryz.func135, Tryz.ntmps135
  go_wp2_with fail
  refine (KEY.out _ rfl).mono ?_
  rintro e w' ⟨rfl, rfl⟩
  go_wp2_with fail
  go_ret
  exact ⟨rfl, (Below.refl _ _).alloc (Nat.le_refl _) _⟩

set_option maxRecDepth 100000 in
set_option maxHeartbeats 1000000 in
theorem nameR_any (s : ByteArray) (w : World) (hs : s.size ≤ 9223372036854775807) : Calls Tryz.prog 93 #[.string s] w fun e w' => e = .returned (.bool (nameB s)) ∧ Below w.heap.size w w' := by
  have HS := Lib.hid hs
  clear hs
  cases hn : name0 s with
  | true =>
    have HN := Lib.hid hn
    clear hn
    go_enter Tryz.func93, Tryz.ntmps93
    go_wp2_with fail
    refine (nameR0_any _ _ HS.out).mono ?_
    rintro e w1 ⟨rfl, hb⟩
    rw [HN.out]
    have HB := Lib.hid hb
    clear hb
    go_wp2_with fail
    refine (wordR_any _ _).mono ?_
    rintro e w2 ⟨rfl, hb⟩
    have HB2 := Lib.hid hb
    clear hb
    go_wp2_with fail
    all_goals go_ret
    all_goals exact ⟨ret_bool (by rw [nameB, HN.out]; simp_all), below_then HB.out HB.out.size HB2.out⟩
  | false =>
    have HN := Lib.hid hn
    clear hn
    go_enter Tryz.func93, Tryz.ntmps93
    go_wp2_with fail
    refine (nameR0_any _ _ HS.out).mono ?_
    rintro e w1 ⟨rfl, hb⟩
    rw [HN.out]
    have HB := Lib.hid hb
    clear hb
    go_wp2_with fail
    go_ret
    exact ⟨ret_bool (by rw [nameB, HN.out]; rfl), HB.out⟩
end Go.Proofs.YtoemljgkofhhpaaGreatDoor
