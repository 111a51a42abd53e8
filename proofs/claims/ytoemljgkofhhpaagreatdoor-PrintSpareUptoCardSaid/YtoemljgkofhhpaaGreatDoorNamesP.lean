import Derived.Test.YtoemljgkofhhpaaGreatDoorWords
import Derived.Test.YtoemljgkofhhpaaGreatDoorShelfB
import Derived.Test.YtoemljgkofhhpaaGreatDoorShelfFull
import Derived.Lib.ValidLaws
import Derived.Lib.TrimUEq
import Derived.Lib.LaidTab
import Derived.Lib.ItoaMem
namespace Go.Proofs.YtoemljgkofhhpaaGreatDoor
open Go.RowKit

/-- The table of operators as it lies. -/
structure OpsAt (w : World) (b o c : Nat → Nat) (t : Nat) (fr : Nat × Nat) : Prop where
  row : w.heap[0]? = some (.cells #[.slice (some ⟨b 0, o 0, none⟩) 7 (c 0), .slice (some ⟨b 1, o 1, none⟩) 4 (c 1), .slice (some ⟨b 2, o 2, none⟩) 6 (c 2), .slice (some ⟨b 3, o 3, none⟩) 1 (c 3), .slice (some ⟨b 4, o 4, none⟩) 1 (c 4)] t fr)
  cell : ∀ i j, i < 5 → j < (opsRow i).length → w.cell? ⟨b i, o i + j, none⟩ = some (.string ((opsRow i).getD j ByteArray.empty))
theorem OpsAt.keep {w w' : World} {b o c : Nat → Nat} {t : Nat} {fr : Nat × Nat} (h : OpsAt w b o c t fr) (hb : Below w.heap.size w w') : OpsAt w' b o c t fr := by
  have h0 : 0 < w.heap.size := (Array.getElem?_eq_some_iff.1 h.row).1
  exact ⟨by rw [hb.block 0 h0]; exact h.row, fun i j hi hj => (hb.cell (World.block_lt_of_cell? w _ (h.cell i j hi hj))).trans (h.cell i j hi hj)⟩
/-- What the package-level variables hold. -/
structure Env (w : World) : Prop where
  tabs : Lib.Utf8Tabs 3 4 w
  most : ∃ m, w.cell? ⟨5, 0, none⟩ = some (.int .i64 m)
  ops : ∃ b o c t fr, OpsAt w b o c t fr
  pow : Lib.TabIs Tryz.prog w "internal/strconv.uint64pow10" .u64 Lib.pow10Tab
theorem keep_cell {w w' : World} (hb : Below w.heap.size w w') {a : Addr} {v : Value} (h : w.cell? a = some v) : w'.cell? a = some v := (hb.cell (World.block_lt_of_cell? w _ h)).trans h
theorem tabIs_below {w w' : World} {name : String} {k : IntKind} {zs : List Int} (h : Lib.TabIs Tryz.prog w name k zs) (hb : Below w.heap.size w w') : Lib.TabIs Tryz.prog w' name k zs := by
  unfold Lib.TabIs World.var? at *
  cases hg : Tryz.prog.globalNamed name with
  | none => simp [hg] at h
  | some g =>
    simp only [hg, Option.bind_some] at h ⊢
    have hlt : g < w.heap.size := by
      rcases Nat.lt_or_ge g w.heap.size with h' | h'
      · exact h'
      · rw [Array.getElem?_eq_none h'] at h; simp at h
    rw [hb.block g hlt]
    exact h
theorem Env.keep {w w' : World} (h : Env w) (hb : Below w.heap.size w w') : Env w' :=
  ⟨⟨fun c hc => keep_cell hb (h.tabs.1 c hc), fun i hi => ⟨keep_cell hb (h.tabs.2 i hi).1, keep_cell hb (h.tabs.2 i hi).2⟩⟩, h.most.imp fun _ hm => keep_cell hb hm,
    by obtain ⟨b, o, c, t, fr, ho⟩ := h.ops; exact ⟨b, o, c, t, fr, ho.keep hb⟩, tabIs_below h.pow hb⟩

theorem nameFrom_valid (s : ByteArray) (f : Nat) : ∀ p, s.size < p + f → nameFrom s f p = true → Lib.validD (s.data.toList.drop p) = true := by
  have hsz : s.data.toList.length = s.size := by rw [Array.length_toList]; rfl
  induction f with
  | zero =>
    intro p hp _
    rw [List.drop_eq_nil_of_le (by omega)]; rfl
  | succ f ih =>
    intro p hp h
    by_cases hlt : p < s.size
    · rw [nameFrom_step hlt] at h
      simp only [Bool.and_eq_true] at h
      have hz := decode_pos s p
      have hne : s.data.toList.drop p ≠ [] := by simp; omega
      rw [Lib.validD_step _ hne, Lib.decodeL_drop, if_neg]
      · rw [List.drop_drop]
        exact ih _ (by omega) h.2
      · rintro ⟨hr, _⟩
        rw [hr] at h
        simp [letterB, digitB] at h
    · rw [List.drop_eq_nil_of_le (by omega)]; rfl

set_option maxRecDepth 100000 in
set_option maxHeartbeats 2000000 in
theorem nameP0_any (s : ByteArray) (w : World) (hs : s.size ≤ 9223372036854775807) (hE : Env w) : Calls Tryz.prog 159 #[.string s] w fun e w' => e = .returned (.bool (name0 s)) ∧ Below w.heap.size w w' := by
  have HE := Lib.hid hE
  clear hE
  go_enter Tryz.func159, Tryz.ntmps159
  go_wp2_with fail
  go_loopw [3] (fun _ wr => ∃ f p, wr = w.iter s p ∧ s.size < p + f ∧ Hid (nameFrom s (s.size + 1) 0 = nameFrom s f p)) (fun _ wr => s.size + 1 - wr.iterPos w.heap.size)
  case atStart => exact ⟨s.size + 1, 0, rfl, by omega, rfl⟩
  case round =>
    obtain ⟨f, p, rfl, hf, HN⟩ := hrel
    by_cases hp : p < s.size
    · have hd := decode_pos s p
      have hdl := decode_le s p
      obtain ⟨f, rfl⟩ : ∃ g, f = g + 1 := ⟨f - 1, by omega⟩
      have hN := HN.out
      rw [nameFrom_step hp] at hN
      have hn := fun ty => run_next_any (P := Tryz.prog) w s p ty hp
      generalize hr : (Utf8.decode s p).1 = r at *
      generalize hz : (Utf8.decode s p).2 = z at *
      clear hr hz HN
      cases hL : letterB r with
      | true =>
        have hN2 : nameFrom s (s.size + 1) 0 = nameFrom s f (p + z) := by rw [hN, hL]; simp
        have HN := Lib.hid hN2
        have HL := Lib.hid hL
        clear hN hN2 hL
        go_wp2_with fail
        refine (letterP_any _ _).mono ?_
        rintro e w' ⟨rfl, rfl⟩
        rw [HL.out]
        go_wp2_with fail
        go_roundw
        case rel => exact ⟨f, p + z, rfl, by omega, HN.out⟩
        case measure => simp; omega
      | false =>
        by_cases h0 : 0 < p
        · cases hD : digitB r with
          | true =>
            have hN2 : nameFrom s (s.size + 1) 0 = nameFrom s f (p + z) := by rw [hN, hL, hD]; simp [h0]
            have HN := Lib.hid hN2
            have HL := Lib.hid hL
            have HD := Lib.hid hD
            clear hN hN2 hL hD
            go_wp2_with fail
            refine (letterP_any _ _).mono ?_
            rintro e w' ⟨rfl, rfl⟩
            rw [HL.out]
            go_wp2_with fail
            refine (digitP_any _ _).mono ?_
            rintro e w' ⟨rfl, rfl⟩
            rw [HD.out]
            go_wp2_with fail
            go_roundw
            case rel => exact ⟨f, p + z, rfl, by omega, HN.out⟩
            case measure => simp; omega
          | false =>
            have hN2 : nameFrom s (s.size + 1) 0 = false := by rw [hN, hL, hD]; simp
            have HN := Lib.hid hN2
            have HL := Lib.hid hL
            have HD := Lib.hid hD
            clear hN hN2 hL hD
            go_wp2_with fail
            refine (letterP_any _ _).mono ?_
            rintro e w' ⟨rfl, rfl⟩
            rw [HL.out]
            go_wp2_with fail
            refine (digitP_any _ _).mono ?_
            rintro e w' ⟨rfl, rfl⟩
            rw [HD.out]
            go_wp2_with fail
            go_ret
            exact ⟨ret_bool (by rw [name0, HN.out]; rfl), iter_below _ _ _⟩
        · have hN2 : nameFrom s (s.size + 1) 0 = false := by rw [hN, hL]; simp [h0]
          have HN := Lib.hid hN2
          have HL := Lib.hid hL
          clear hN hN2 hL
          go_wp2_with fail
          refine (letterP_any _ _).mono ?_
          rintro e w' ⟨rfl, rfl⟩
          rw [HL.out]
          go_wp2_with fail
          go_ret
          exact ⟨ret_bool (by rw [name0, HN.out]; rfl), iter_below _ _ _⟩
    · have hN2 : nameFrom s (s.size + 1) 0 = true := by rw [HN.out, nameFrom_end hp]
      have hV : Lib.validD s.data.toList = true := by have := nameFrom_valid s (s.size + 1) 0 (by omega) hN2; simpa using this
      have HN2 := Lib.hid hN2
      have HV := Lib.hid hV
      have HS := Lib.hid hs
      have hn := fun ty => run_next_end (P := Tryz.prog) w s p ty hp
      clear hN2 HN hV hs
      by_cases h1 : 1 ≤ s.size
      · have hne : s.toList.isEmpty = false := by
          rw [Lib.toList_data]
          have hsz : s.data.toList.length = s.size := by rw [Array.length_toList]; rfl
          cases h : s.data.toList with
          | nil => rw [h] at hsz; simp at hsz; omega
          | cons => rfl
        have hne2 : (s.toList == []) = false := by
          cases h : s.toList <;> simp_all
        by_cases h64 : s.size ≤ 64
        · go_wp2_with fail
          refine (Tryz.utf8_ValidString s _ HS.out ((HE.out.keep (iter_below _ _ _)).tabs)).mono ?_
          rintro e w' ⟨rfl, hb⟩
          have HB := Lib.hid hb
          clear hb
          rw [HV.out]
          go_wp2_with fail
          go_ret
          exact ⟨ret_bool (by rw [name0, HN2.out]; simp [h1, h64]), below_then (iter_below w s p) (iter_below w s p).size HB.out⟩
        · go_wp2_with fail
          go_ret
          exact ⟨ret_bool (by rw [name0, HN2.out]; simp [h64]), iter_below _ _ _⟩
      · have hem : s.toList.isEmpty = true := by
          rw [Lib.toList_data]
          have hsz : s.data.toList.length = s.size := by rw [Array.length_toList]; rfl
          cases h : s.data.toList with
          | nil => rfl
          | cons => rw [h] at hsz; simp at hsz; omega
        have hem2 : s.toList = [] := by simpa using hem
        go_wp2_with fail
        go_ret
        exact ⟨ret_bool (by rw [name0, HN2.out]; simp [h1]), iter_below _ _ _⟩

theorem data_len (s : ByteArray) : s.data.toList.length = s.size := by rw [Array.length_toList]; rfl
theorem empty_facts {s : ByteArray} (h : ¬ 1 ≤ s.size) : s.toList.isEmpty = true ∧ s.toList = [] := by
  have : s.toList = [] := by
    rw [Lib.toList_data]
    exact List.eq_nil_of_length_eq_zero (by rw [data_len]; omega)
  exact ⟨by rw [this]; rfl, this⟩
theorem nonempty_facts {s : ByteArray} (h : 1 ≤ s.size) : s.toList.isEmpty = false ∧ (s.toList == []) = false := by
  have : s.toList ≠ [] := by
    intro he
    rw [Lib.toList_data] at he
    have := data_len s
    rw [he] at this; simp at this; omega
  exact ⟨by cases h : s.toList <;> simp_all, by simpa using this⟩
theorem space_data (s : ByteArray) : ((⟨#[32]⟩ ++ s ++ ⟨#[32]⟩ : ByteArray)).data.toList = 32 :: s.data.toList ++ [32] := by
  simp [ByteArray.data_append]
theorem wordB_eq (s : ByteArray) : wordB s = (s.data.toList != [] && !decide (0 ≤ Lib.indexByte s.data.toList 32) && decide (0 ≤ Lib.index wordsS (32 :: s.data.toList ++ [32]))) := by
  rw [word_search, wordB, Lib.toList_data]

set_option maxRecDepth 100000 in
set_option maxHeartbeats 2000000 in
theorem wordP_any (s : ByteArray) (w : World) (hs : s.size ≤ 64) (hE : Env w) : Calls Tryz.prog 112 #[.string s] w fun e w' => e = .returned (.bool (wordB s)) ∧ w = w' := by
  have hw := wordB_eq s
  obtain ⟨m, hm⟩ := hE.most
  have HE := Lib.hid hE
  clear hE
  by_cases h1 : 1 ≤ s.size
  · obtain ⟨hne, hne2⟩ := nonempty_facts h1
    have hne3 : (s.data.toList != []) = true := by rw [← Lib.toList_data]; simp at hne2; simpa using hne2
    have c2 : Calls Tryz.prog 147 #[.string ⟨wordsS.toArray⟩, .string (⟨#[32]⟩ ++ s ++ ⟨#[32]⟩)] w fun e w' => e = .returned (.bool (decide (0 ≤ Lib.index wordsS (32 :: s.data.toList ++ [32])))) ∧ w' = w := by
      have := Tryz.strings_Contains ⟨wordsS.toArray⟩ (⟨#[32]⟩ ++ s ++ ⟨#[32]⟩) m w (by decide) hm
      rw [space_data] at this
      exact this
    have C1 := Lib.hid (Tryz.strings_Contains_one s 32 w)
    have C2 := Lib.hid c2
    clear c2
    cases hb : decide (0 ≤ Lib.indexByte s.data.toList 32) with
    | true =>
      have hz : wordB s = false := by rw [hw, hb]; simp
      have HZ := Lib.hid hz
      have HB := Lib.hid hb
      have HM := Lib.hid hm
      clear hz hb hw hne3 hm
      go_enter Tryz.func112, Tryz.ntmps112
      go_wp2_with fail
      refine C1.out.mono ?_
      rintro e w' ⟨rfl, rfl⟩
      rw [HB.out]
      go_wp2_with fail
      go_ret
      exact ⟨ret_bool HZ.out.symm, rfl⟩
    | false =>
      have hz : wordB s = decide (0 ≤ Lib.index wordsS (32 :: s.data.toList ++ [32])) := by rw [hw, hb, hne3]; simp
      have HZ := Lib.hid hz
      have HB := Lib.hid hb
      have HM := Lib.hid hm
      clear hz hb hw hne3 hm
      go_enter Tryz.func112, Tryz.ntmps112
      go_wp2_with fail
      refine C1.out.mono ?_
      rintro e w' ⟨rfl, rfl⟩
      rw [HB.out]
      go_wp2_with fail
      refine C2.out.mono ?_
      rintro e w' ⟨rfl, rfl⟩
      rw [← HZ.out]
      go_wp2_with fail
      all_goals go_ret
      all_goals exact ⟨ret_bool (by simp_all), rfl⟩
  · obtain ⟨hem, hem2⟩ := empty_facts h1
    have hz : wordB s = false := by rw [hw, ← Lib.toList_data, hem2]; rfl
    have HZ := Lib.hid hz
    clear hz hw hm
    go_enter Tryz.func112, Tryz.ntmps112
    go_wp2_with fail
    go_ret
    exact ⟨ret_bool HZ.out.symm, rfl⟩

theorem name0_size {s : ByteArray} (h : name0 s = true) : 1 ≤ s.size ∧ s.size ≤ 64 := by
  simp [name0] at h; omega
set_option maxRecDepth 100000 in
set_option maxHeartbeats 1000000 in
theorem nameP_any (s : ByteArray) (w : World) (hs : s.size ≤ 9223372036854775807) (hE : Env w) : Calls Tryz.prog 120 #[.string s] w fun e w' => e = .returned (.bool (nameB s)) ∧ Below w.heap.size w w' := by
  have HS := Lib.hid hs
  have HE := Lib.hid hE
  clear hs hE
  cases hn : name0 s with
  | true =>
    have HN := Lib.hid hn
    clear hn
    go_enter Tryz.func120, Tryz.ntmps120
    go_wp2_with fail
    refine (nameP0_any _ _ HS.out HE.out).mono ?_
    rintro e w1 ⟨rfl, hb⟩
    rw [HN.out]
    have HB := Lib.hid hb
    clear hb
    go_wp2_with fail
    refine (wordP_any _ _ (name0_size HN.out).2 (HE.out.keep HB.out)).mono ?_
    rintro e w2 ⟨rfl, rfl⟩
    go_wp2_with fail
    all_goals go_ret
    all_goals exact ⟨ret_bool (by rw [nameB, HN.out]; simp_all), HB.out⟩
  | false =>
    have HN := Lib.hid hn
    clear hn
    go_enter Tryz.func120, Tryz.ntmps120
    go_wp2_with fail
    refine (nameP0_any _ _ HS.out HE.out).mono ?_
    rintro e w1 ⟨rfl, hb⟩
    rw [HN.out]
    have HB := Lib.hid hb
    clear hb
    go_wp2_with fail
    go_ret
    exact ⟨ret_bool (by rw [nameB, HN.out]; rfl), HB.out⟩
end Go.Proofs.YtoemljgkofhhpaaGreatDoor
