import Derived.Test.YtoemljgkofhhpaaGreatDoorNamesP
namespace Go.Proofs.YtoemljgkofhhpaaGreatDoor
open Go.RowKit Go.Shelf

/-- How strong an operator binds. -/
def bindsT (x : ByteArray) : Int := if Lib.containsS (opsRow 0) x then 5 else if Lib.containsS (opsRow 1) x then 4 else if Lib.containsS (opsRow 2) x then 3 else if Lib.containsS (opsRow 3) x then 2 else if Lib.containsS (opsRow 4) x then 1 else 0

theorem contains_row {w : World} {b o c : Nat → Nat} {t : Nat} {fr : Nat × Nat} (h : OpsAt w b o c t fr) (x : ByteArray) (i n : Nat) (hi : i < 5) (hn : n = (opsRow i).length) :
    Calls Tryz.prog 75 #[.slice (some ⟨b i, o i, none⟩) n (c i), .string x] w fun e w' => e = .returned (.bool (Lib.containsS (opsRow i) x)) ∧ w = w' := by
  have hcon := Tryz.slices_Contains_string (b i) (o i) n (c i) (opsRow i) x w (by omega) (by subst hn; have : i = 0 ∨ i = 1 ∨ i = 2 ∨ i = 3 ∨ i = 4 := by omega
                                                                                             rcases this with rfl | rfl | rfl | rfl | rfl <;> decide) (fun j hj => h.cell i j hi hj)
  refine hcon.mono ?_
  rintro e w' ⟨rfl, rfl⟩
  exact ⟨by rw [hn, List.take_length], rfl⟩

set_option maxHeartbeats 1000000 in
theorem binds_any (x : ByteArray) (w : World) (b o c : Nat → Nat) (t : Nat) (fr : Nat × Nat) (h : OpsAt w b o c t fr) :
    Calls Tryz.prog 55 #[.string x] w fun e w' => e = .returned (.int .i64 (bindsT x)) ∧ w = w' := by
  have hg := Lib.hid h.row
  have i0 : ∀ (v0 v1 v2 v3 v4 : Value) w, (Instr.index 93 (.agg #[v0, v1, v2, v3, v4]) (.int .i64 0)).run Tryz.prog w = .ok v0 w := fun _ _ _ _ _ _ => by kernel_rfl
  have i1 : ∀ (v0 v1 v2 v3 v4 : Value) w, (Instr.index 93 (.agg #[v0, v1, v2, v3, v4]) (.int .i64 1)).run Tryz.prog w = .ok v1 w := fun _ _ _ _ _ _ => by kernel_rfl
  have i2 : ∀ (v0 v1 v2 v3 v4 : Value) w, (Instr.index 93 (.agg #[v0, v1, v2, v3, v4]) (.int .i64 2)).run Tryz.prog w = .ok v2 w := fun _ _ _ _ _ _ => by kernel_rfl
  have i3 : ∀ (v0 v1 v2 v3 v4 : Value) w, (Instr.index 93 (.agg #[v0, v1, v2, v3, v4]) (.int .i64 3)).run Tryz.prog w = .ok v3 w := fun _ _ _ _ _ _ => by kernel_rfl
  have i4 : ∀ (v0 v1 v2 v3 v4 : Value) w, (Instr.index 93 (.agg #[v0, v1, v2, v3, v4]) (.int .i64 4)).run Tryz.prog w = .ok v4 w := fun _ _ _ _ _ _ => by kernel_rfl
  go_enter Tryz.func55, Tryz.ntmps55
  go_wp2_with (refine wpList_load_row rfl 93 _ rfl 0 rfl t _ fr _ hg.out Tryz.underlying93 rfl (by kernel_rfl) ?_)
  refine wp_loop_rounds 6 ?_
  rw [rounds_succ]
  go_wp2_with (go_at_call_of 75 (b 0); refine (contains_row h x 0 _ (by decide) rfl).mono ?_; rintro e w' ⟨rfl, rfl⟩)
  · rename_i h0
    go_ret
    exact ⟨ret_int (by rw [bindsT, if_pos h0]), rfl⟩
  rename_i h0
  rw [rounds_succ]
  go_wp2_with (go_at_call_of 75 (b 1); refine (contains_row h x 1 _ (by decide) rfl).mono ?_; rintro e w' ⟨rfl, rfl⟩)
  · rename_i h1
    go_ret
    exact ⟨ret_int (by rw [bindsT, if_neg (by simp [h0]), if_pos h1]), rfl⟩
  rename_i h1
  rw [rounds_succ]
  go_wp2_with (go_at_call_of 75 (b 2); refine (contains_row h x 2 _ (by decide) rfl).mono ?_; rintro e w' ⟨rfl, rfl⟩)
  · rename_i h2
    go_ret
    exact ⟨ret_int (by rw [bindsT, if_neg (by simp [h0]), if_neg (by simp [h1]), if_pos h2]), rfl⟩
  rename_i h2
  rw [rounds_succ]
  go_wp2_with (go_at_call_of 75 (b 3); refine (contains_row h x 3 _ (by decide) rfl).mono ?_; rintro e w' ⟨rfl, rfl⟩)
  · rename_i h3
    go_ret
    exact ⟨ret_int (by rw [bindsT, if_neg (by simp [h0]), if_neg (by simp [h1]), if_neg (by simp [h2]), if_pos h3]), rfl⟩
  rename_i h3
  rw [rounds_succ]
  go_wp2_with (go_at_call_of 75 (b 4); refine (contains_row h x 4 _ (by decide) rfl).mono ?_; rintro e w' ⟨rfl, rfl⟩)
  · rename_i h4
    go_ret
    exact ⟨ret_int (by rw [bindsT, if_neg (by simp [h0]), if_neg (by simp [h1]), if_neg (by simp [h2]), if_neg (by simp [h3]), if_pos h4]), rfl⟩
  rename_i h4
  rw [rounds_succ]
  go_wp2
  go_ret
  exact ⟨ret_int (by rw [bindsT, if_neg (by simp [h0]), if_neg (by simp [h1]), if_neg (by simp [h2]), if_neg (by simp [h3]), if_neg (by simp [h4])]), rfl⟩

theorem printBinds_any (x : ByteArray) (w : World) (b o c : Nat → Nat) (t : Nat) (fr : Nat × Nat) (h : OpsAt w b o c t fr) :
    Calls Tryz.prog 24 #[.string x] w fun e w' => e = .returned (.int .i64 (bindsT x)) ∧ w = w' := by
  go_enter Tryz.func24, Tryz.ntmps24
  go_wp2_with (go_at_call 55; refine (binds_any x w b o c t fr h).mono ?_; rintro e w' ⟨rfl, rfl⟩)
  go_ret
  exact ⟨rfl, rfl⟩

theorem ba_eq {x : ByteArray} {l : List UInt8} (h : x.toList = l) : x = ⟨l.toArray⟩ := by
  have : x.data.toList = l := by rw [← h, Lib.toList_data]
  cases x with
  | mk d => cases d with
    | mk l' => simp at this; subst this; rfl
theorem binds_off {x : ByteArray} (h : ∀ i j, i < 5 → j < (opsRow i).length → x.toList ≠ ((opsRow i).getD j ByteArray.empty).toList) : bindsT x = 0 := by
  have key : ∀ i, i < 5 → Lib.containsS (opsRow i) x = false := by
    intro i hi
    rw [Bool.eq_false_iff]
    intro hc
    rw [Lib.containsS_iff] at hc
    obtain ⟨j, hj, he⟩ := List.getElem_of_mem hc
    exact h i j hi hj (by rw [← he, List.getD_eq_getElem?_getD, List.getElem?_eq_getElem hj]; rfl)
  rw [bindsT, if_neg (by simp [key 0]), if_neg (by simp [key 1]), if_neg (by simp [key 2]), if_neg (by simp [key 3]), if_neg (by simp [key 4])]

set_option maxHeartbeats 4000000 in
theorem strength_any (x : ByteArray) (w : World) :
    Calls Tryz.prog 43 #[.string x] w fun e w' => e = .returned (.int .i64 (bindsT x)) ∧ w = w' := by
  by_cases h0 : x.toList = [42]
  · obtain rfl := ba_eq h0
    clear h0
    go_enter Tryz.func43, Tryz.ntmps43
    go_wp2
    go_ret
    exact ⟨ret_int (by decide +kernel), rfl⟩
  replace h0 : (x.toList == [42]) = false := by simpa using h0
  by_cases h1 : x.toList = [47]
  · obtain rfl := ba_eq h1
    clear h1
    go_enter Tryz.func43, Tryz.ntmps43
    go_wp2
    go_ret
    exact ⟨ret_int (by decide +kernel), rfl⟩
  replace h1 : (x.toList == [47]) = false := by simpa using h1
  by_cases h2 : x.toList = [37]
  · obtain rfl := ba_eq h2
    clear h2
    go_enter Tryz.func43, Tryz.ntmps43
    go_wp2
    go_ret
    exact ⟨ret_int (by decide +kernel), rfl⟩
  replace h2 : (x.toList == [37]) = false := by simpa using h2
  by_cases h3 : x.toList = [60, 60]
  · obtain rfl := ba_eq h3
    clear h3
    go_enter Tryz.func43, Tryz.ntmps43
    go_wp2
    go_ret
    exact ⟨ret_int (by decide +kernel), rfl⟩
  replace h3 : (x.toList == [60, 60]) = false := by simpa using h3
  by_cases h4 : x.toList = [62, 62]
  · obtain rfl := ba_eq h4
    clear h4
    go_enter Tryz.func43, Tryz.ntmps43
    go_wp2
    go_ret
    exact ⟨ret_int (by decide +kernel), rfl⟩
  replace h4 : (x.toList == [62, 62]) = false := by simpa using h4
  by_cases h5 : x.toList = [38]
  · obtain rfl := ba_eq h5
    clear h5
    go_enter Tryz.func43, Tryz.ntmps43
    go_wp2
    go_ret
    exact ⟨ret_int (by decide +kernel), rfl⟩
  replace h5 : (x.toList == [38]) = false := by simpa using h5
  by_cases h6 : x.toList = [38, 94]
  · obtain rfl := ba_eq h6
    clear h6
    go_enter Tryz.func43, Tryz.ntmps43
    go_wp2
    go_ret
    exact ⟨ret_int (by decide +kernel), rfl⟩
  replace h6 : (x.toList == [38, 94]) = false := by simpa using h6
  by_cases h7 : x.toList = [43]
  · obtain rfl := ba_eq h7
    clear h7
    go_enter Tryz.func43, Tryz.ntmps43
    go_wp2
    go_ret
    exact ⟨ret_int (by decide +kernel), rfl⟩
  replace h7 : (x.toList == [43]) = false := by simpa using h7
  by_cases h8 : x.toList = [45]
  · obtain rfl := ba_eq h8
    clear h8
    go_enter Tryz.func43, Tryz.ntmps43
    go_wp2
    go_ret
    exact ⟨ret_int (by decide +kernel), rfl⟩
  replace h8 : (x.toList == [45]) = false := by simpa using h8
  by_cases h9 : x.toList = [124]
  · obtain rfl := ba_eq h9
    clear h9
    go_enter Tryz.func43, Tryz.ntmps43
    go_wp2
    go_ret
    exact ⟨ret_int (by decide +kernel), rfl⟩
  replace h9 : (x.toList == [124]) = false := by simpa using h9
  by_cases h10 : x.toList = [94]
  · obtain rfl := ba_eq h10
    clear h10
    go_enter Tryz.func43, Tryz.ntmps43
    go_wp2
    go_ret
    exact ⟨ret_int (by decide +kernel), rfl⟩
  replace h10 : (x.toList == [94]) = false := by simpa using h10
  by_cases h11 : x.toList = [61, 61]
  · obtain rfl := ba_eq h11
    clear h11
    go_enter Tryz.func43, Tryz.ntmps43
    go_wp2
    go_ret
    exact ⟨ret_int (by decide +kernel), rfl⟩
  replace h11 : (x.toList == [61, 61]) = false := by simpa using h11
  by_cases h12 : x.toList = [33, 61]
  · obtain rfl := ba_eq h12
    clear h12
    go_enter Tryz.func43, Tryz.ntmps43
    go_wp2
    go_ret
    exact ⟨ret_int (by decide +kernel), rfl⟩
  replace h12 : (x.toList == [33, 61]) = false := by simpa using h12
  by_cases h13 : x.toList = [60]
  · obtain rfl := ba_eq h13
    clear h13
    go_enter Tryz.func43, Tryz.ntmps43
    go_wp2
    go_ret
    exact ⟨ret_int (by decide +kernel), rfl⟩
  replace h13 : (x.toList == [60]) = false := by simpa using h13
  by_cases h14 : x.toList = [60, 61]
  · obtain rfl := ba_eq h14
    clear h14
    go_enter Tryz.func43, Tryz.ntmps43
    go_wp2
    go_ret
    exact ⟨ret_int (by decide +kernel), rfl⟩
  replace h14 : (x.toList == [60, 61]) = false := by simpa using h14
  by_cases h15 : x.toList = [62]
  · obtain rfl := ba_eq h15
    clear h15
    go_enter Tryz.func43, Tryz.ntmps43
    go_wp2
    go_ret
    exact ⟨ret_int (by decide +kernel), rfl⟩
  replace h15 : (x.toList == [62]) = false := by simpa using h15
  by_cases h16 : x.toList = [62, 61]
  · obtain rfl := ba_eq h16
    clear h16
    go_enter Tryz.func43, Tryz.ntmps43
    go_wp2
    go_ret
    exact ⟨ret_int (by decide +kernel), rfl⟩
  replace h16 : (x.toList == [62, 61]) = false := by simpa using h16
  by_cases h17 : x.toList = [38, 38]
  · obtain rfl := ba_eq h17
    clear h17
    go_enter Tryz.func43, Tryz.ntmps43
    go_wp2
    go_ret
    exact ⟨ret_int (by decide +kernel), rfl⟩
  replace h17 : (x.toList == [38, 38]) = false := by simpa using h17
  by_cases h18 : x.toList = [124, 124]
  · obtain rfl := ba_eq h18
    clear h18
    go_enter Tryz.func43, Tryz.ntmps43
    go_wp2
    go_ret
    exact ⟨ret_int (by decide +kernel), rfl⟩
  replace h18 : (x.toList == [124, 124]) = false := by simpa using h18
  have hz : bindsT x = 0 := by
    refine binds_off fun i j hi hj => ?_
    have hi' : i = 0 ∨ i = 1 ∨ i = 2 ∨ i = 3 ∨ i = 4 := by omega
    rcases hi' with rfl | rfl | rfl | rfl | rfl
    · have hj' : j = 0 ∨ j = 1 ∨ j = 2 ∨ j = 3 ∨ j = 4 ∨ j = 5 ∨ j = 6 := by have : (opsRow 0).length = 7 := rfl; omega
      rcases hj' with rfl | rfl | rfl | rfl | rfl | rfl | rfl <;> simp_all [opsRow, opsTab]
    · have hj' : j = 0 ∨ j = 1 ∨ j = 2 ∨ j = 3 := by have : (opsRow 1).length = 4 := rfl; omega
      rcases hj' with rfl | rfl | rfl | rfl <;> simp_all [opsRow, opsTab]
    · have hj' : j = 0 ∨ j = 1 ∨ j = 2 ∨ j = 3 ∨ j = 4 ∨ j = 5 := by have : (opsRow 2).length = 6 := rfl; omega
      rcases hj' with rfl | rfl | rfl | rfl | rfl | rfl <;> simp_all [opsRow, opsTab]
    · have hj' : j = 0 := by have : (opsRow 3).length = 1 := rfl; omega
      subst hj'; simp_all [opsRow, opsTab]
    · have hj' : j = 0 := by have : (opsRow 4).length = 1 := rfl; omega
      subst hj'; simp_all [opsRow, opsTab]
  have HZ := Lib.hid hz
  clear hz
  go_enter Tryz.func43, Tryz.ntmps43
  go_wp2
  go_ret
  exact ⟨ret_int HZ.out.symm, rfl⟩
end Go.Proofs.YtoemljgkofhhpaaGreatDoor
