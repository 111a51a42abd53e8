import Derived.Test.YtoemljgkofhhpaaGreatDoorNamesP
import Derived.Test.YtoemljgkofhhpaaGreatDoorSizes
namespace Go.Proofs.YtoemljgkofhhpaaGreatDoor
open Go.RowKit

/-- The sort of a kind, as a letter. -/
def sortC (k : Int) : Int := if isStmtB k then 115 else if isExprB k then 101 else if isTypeB k then 116 else 45
set_option maxRecDepth 100000 in
set_option maxHeartbeats 2000000 in
theorem sortR_any (k : Int) (w : World) : Calls Tryz.prog 37 #[.int .i64 k] w fun e w' => e = .returned (.int .u8 (sortC k)) ∧ w = w' := by
  by_cases h41 : k = 41
  · subst h41
    go_enter Tryz.func37, Tryz.ntmps37
    go_wp2
    go_ret
    exact ⟨rfl, rfl⟩
  by_cases h42 : k = 42
  · subst h42
    go_enter Tryz.func37, Tryz.ntmps37
    go_wp2
    go_ret
    exact ⟨rfl, rfl⟩
  have e41 : (k == 41) = false := by simpa using h41
  have e42 : (k == 42) = false := by simpa using h42
  by_cases hs : 20 ≤ k ∧ k ≤ 29
  · obtain ⟨a, b⟩ := hs
    have hz : sortC k = 115 := by rw [sortC, if_pos]; simp [isStmtB]; omega
    have HZ := Lib.hid hz
    clear hz
    go_enter Tryz.func37, Tryz.ntmps37
    go_wp2
    go_ret
    exact ⟨ret_int HZ.out.symm, rfl⟩
  by_cases he : 30 ≤ k ∧ k ≤ 40
  · obtain ⟨a, b⟩ := he
    have hz : sortC k = 101 := by rw [sortC, if_neg, if_pos] <;> simp [isStmtB, isExprB] <;> omega
    have HZ := Lib.hid hz
    clear hz hs
    go_enter Tryz.func37, Tryz.ntmps37
    go_wp2
    go_ret
    exact ⟨ret_int HZ.out.symm, rfl⟩
  by_cases ht : 10 ≤ k ∧ k ≤ 13
  · obtain ⟨a, b⟩ := ht
    have hz : sortC k = 116 := by rw [sortC, if_neg, if_neg, if_pos] <;> simp [isStmtB, isExprB, isTypeB] <;> omega
    have HZ := Lib.hid hz
    clear hz hs he
    go_enter Tryz.func37, Tryz.ntmps37
    go_wp2
    go_ret
    exact ⟨ret_int HZ.out.symm, rfl⟩
  have hz : sortC k = 45 := by rw [sortC, if_neg, if_neg, if_neg] <;> simp [isStmtB, isExprB, isTypeB] <;> omega
  have HZ := Lib.hid hz
  have c : k < 10 ∨ (13 < k ∧ k < 20) ∨ 42 < k := by omega
  clear hz hs he ht
  rcases c with c | ⟨c, d⟩ | c
  · go_enter Tryz.func37, Tryz.ntmps37
    go_wp2
    go_ret
    exact ⟨ret_int HZ.out.symm, rfl⟩
  · go_enter Tryz.func37, Tryz.ntmps37
    go_wp2
    go_ret
    exact ⟨ret_int HZ.out.symm, rfl⟩
  · go_enter Tryz.func37, Tryz.ntmps37
    go_wp2
    go_ret
    exact ⟨ret_int HZ.out.symm, rfl⟩
theorem sortR_same (k : Int) (w : World) : Calls Tryz.prog 37 #[.int .i64 k] w fun e w' => e = .returned (.int .u8 (sortC k)) ∧ w' = w := (sortR_any k w).mono (fun _ _ h => ⟨h.1, h.2.symm⟩)
theorem sortC_115 (k : Int) : (sortC k == 115) = isStmtB k := by
  unfold sortC; cases isStmtB k <;> simp; repeat' split
  all_goals simp
theorem sortC_101 (k : Int) : (sortC k == 101) = isExprB k := by
  unfold sortC
  by_cases h : isStmtB k = true
  · have : isExprB k = false := by simp [isStmtB, isExprB] at h ⊢; omega
    simp [h, this]
  · cases isExprB k <;> simp [h]; repeat' split
    all_goals simp
theorem sortC_116 (k : Int) : (sortC k == 116) = isTypeB k := by
  unfold sortC
  by_cases h : isStmtB k = true
  · have : isTypeB k = false := by simp [isStmtB, isTypeB] at h ⊢; omega
    simp [h, this]
  · by_cases h2 : isExprB k = true
    · have : isTypeB k = false := by simp [isExprB, isTypeB] at h2 ⊢; omega
      simp [h, h2, this]
    · cases isTypeB k <;> simp [h, h2]

theorem all_take {p : T → Bool} {l : List T} {j : Nat} {x : T} (h : l[j]? = some x) : (l.take (j + 1)).all p = ((l.take j).all p && p x) := by
  rw [List.take_add_one, h, List.all_append]; simp
theorem all_miss {p : T → Bool} {l : List T} {j : Nat} {x : T} (h : l[j]? = some x) (hp : p x = false) : l.all p = false := by
  rw [Bool.eq_false_iff]
  intro ha
  have := List.all_eq_true.1 ha x (List.mem_of_getElem? h)
  rw [hp] at this; cases this

set_option maxRecDepth 100000 in
set_option maxHeartbeats 1000000 in
theorem runR_any (l : List T) (A : Option Addr) (c : Nat) (s : Int) (w : World) (hl : l.length ≤ 1048576) (hR : Rd w l A c) :
    Calls Tryz.prog 96 #[.slice A l.length c, .int .i64 0, .int .u8 s] w fun e w' => e = .returned (.bool (l.all fun x => sortC x.kind == s)) ∧ w = w' := by
  have HR := Lib.hid hR
  clear hR
  go_enter Tryz.func96, Tryz.ntmps96
  go_wp2_with fail
  go_loop [7] (fun i => ∃ j : Nat, j ≤ l.length ∧ i = .int .i64 j ∧ Hid ((l.take j).all (fun x => sortC x.kind == s) = true)) (fun i => l.length - (intOf i).toNat)
  case atStart => exact ⟨0, Nat.zero_le _, rfl, rfl⟩
  case round =>
    obtain ⟨j, hj, rfl, HI⟩ := hrel
    by_cases hlt : j < l.length
    · obtain ⟨y, hy⟩ : ∃ y, l[j]? = some y := ⟨l[j], by simp [hlt]⟩
      obtain ⟨b, o, A', c', rfl, hc, hr⟩ := HR.out.at_ hy
      have h0 := hc.c0
      cases hk : (sortC y.kind == s) with
      | true =>
        have hn : (l.take (j + 1)).all (fun x => sortC x.kind == s) = true := by rw [all_take hy, HI.out, hk]; rfl
        have HN := Lib.hid hn
        have hk2 : (sortC y.kind != s) = false := by simpa [bne] using hk
        clear hn hc hr hy
        go_wp2_with (go_at_call 37; refine (sortR_any _ _).mono ?_; rintro e w' ⟨rfl, rfl⟩)
        go_round
        case rel => exact ⟨j + 1, by omega, by go_num, HN.out⟩
        case measure => simp [intOf]; omega
      | false =>
        have hn : l.all (fun x => sortC x.kind == s) = false := all_miss hy hk
        have HN := Lib.hid hn
        have hk2 : (sortC y.kind != s) = true := by simpa [bne] using hk
        clear hn hc hr hy
        go_wp2_with (go_at_call 37; refine (sortR_any _ _).mono ?_; rintro e w' ⟨rfl, rfl⟩)
        go_ret
        exact ⟨ret_bool HN.out.symm, rfl⟩
    · go_wp2_with fail
      go_ret
      exact ⟨ret_bool (by have : j = l.length := by omega
                          subst this; have := HI.out; rw [List.take_length] at this; exact this.symm), rfl⟩

set_option maxRecDepth 100000 in
set_option maxHeartbeats 1000000 in
theorem sameR_any (l : List T) (A : Option Addr) (c : Nat) (s : Int) (w : World) (hl : l.length ≤ 1048576) (hR : Rd w l A c) :
    Calls Tryz.prog 94 #[.slice A l.length c, .int .i64 s] w fun e w' => e = .returned (.bool (l.all fun x => x.kind == s)) ∧ w = w' := by
  have HR := Lib.hid hR
  clear hR
  go_enter Tryz.func94, Tryz.ntmps94
  go_wp2_with fail
  go_loop [5] (fun i => ∃ j : Nat, j ≤ l.length ∧ i = .int .i64 j ∧ Hid ((l.take j).all (fun x => x.kind == s) = true)) (fun i => l.length - (intOf i).toNat)
  case atStart => exact ⟨0, Nat.zero_le _, rfl, rfl⟩
  case round =>
    obtain ⟨j, hj, rfl, HI⟩ := hrel
    by_cases hlt : j < l.length
    · obtain ⟨y, hy⟩ : ∃ y, l[j]? = some y := ⟨l[j], by simp [hlt]⟩
      obtain ⟨b, o, A', c', rfl, hc, hr⟩ := HR.out.at_ hy
      have h0 := hc.c0
      cases hk : (y.kind == s) with
      | true =>
        have hn : (l.take (j + 1)).all (fun x => x.kind == s) = true := by rw [all_take hy, HI.out, hk]; rfl
        have HN := Lib.hid hn
        have hk2 : (y.kind != s) = false := by simpa [bne] using hk
        clear hn hc hr hy
        go_wp2_with fail
        go_round
        case rel => exact ⟨j + 1, by omega, by go_num, HN.out⟩
        case measure => simp [intOf]; omega
      | false =>
        have hn : l.all (fun x => x.kind == s) = false := all_miss hy hk
        have HN := Lib.hid hn
        have hk2 : (y.kind != s) = true := by simpa [bne] using hk
        clear hn hc hr hy
        go_wp2_with fail
        go_ret
        exact ⟨ret_bool HN.out.symm, rfl⟩
    · go_wp2_with fail
      go_ret
      exact ⟨ret_bool (by have : j = l.length := by omega
                          subst this; have := HI.out; rw [List.take_length] at this; exact this.symm), rfl⟩

theorem drewN_below {B : Nat} {w W : World} (h : Below B w W) (n : Nat) : Below B w (W.drewN n) := ⟨h.os, h.tape, h.output, h.size, h.block⟩
theorem pw_drewN (w : World) (n : Nat) : Below w.heap.size w (w.drewN n) := by
  induction n with
  | zero => exact Below.refl _ _
  | succ n ih => rw [← World.drew_drewN]; exact ih.drew
/-- What a letter of the reference's lists stands for. -/
def codeOf (c : UInt8) : Int := if c = 98 then 20 else if c = 105 then 25 else if c = 99 then 34 else if c = 114 then 39 else if c = 112 then 6 else if c = 113 then 7 else if c = 103 then 4 else if c = 101 then -1 else if c = 116 then -2 else -3
def isLetter (c : UInt8) : Prop := c = 98 ∨ c = 105 ∨ c = 99 ∨ c = 114 ∨ c = 112 ∨ c = 113 ∨ c = 103 ∨ c = 101 ∨ c = 116 ∨ c = 115
theorem kindsB_take {l : List T} {ws : List Int} {j : Nat} {x : T} {v : Int} (h : l[j]? = some x) (hw : ws[j]? = some v) :
    kindsB (l.take (j + 1)) (ws.take (j + 1)) = (kindsB (l.take j) (ws.take j) && okKind x.kind v) := by
  induction l generalizing ws j with
  | nil => simp at h
  | cons y l ih =>
    cases ws with
    | nil => simp at hw
    | cons u ws =>
      cases j with
      | zero => simp at h hw; subst h; subst hw; simp [kindsB]
      | succ j =>
        simp only [List.getElem?_cons_succ] at h hw
        simp only [List.take_succ_cons, kindsB]
        rw [ih h hw, Bool.and_assoc]
theorem kindsB_miss {l : List T} {ws : List Int} {j : Nat} {x : T} {v : Int} (h : l[j]? = some x) (hw : ws[j]? = some v) (hk : okKind x.kind v = false) : kindsB l ws = false := by
  induction l generalizing ws j with
  | nil => simp at h
  | cons y l ih =>
    cases ws with
    | nil => rfl
    | cons u ws =>
      cases j with
      | zero => simp at h hw; subst h; subst hw; simp [kindsB, hk]
      | succ j =>
        simp only [List.getElem?_cons_succ] at h hw
        simp only [kindsB]
        rw [ih h hw, Bool.and_false]
theorem kindsB_len {l : List T} {ws : List Int} (h : l.length ≠ ws.length) : kindsB l ws = false := by
  induction l generalizing ws with
  | nil => cases ws <;> simp_all [kindsB]
  | cons y l ih =>
    cases ws with
    | nil => rfl
    | cons u ws => simp only [kindsB]; rw [ih (by simpa using h), Bool.and_false]
theorem byte_at {u : List UInt8} {j : Nat} {c : UInt8} (h : u[j]? = some c) : ∀ (t : TypeId) (w : World), Tryz.prog.underlying t = some .string → (Instr.index t (.string ⟨u.toArray⟩) (.int .i64 (j : Int))).run Tryz.prog w = .ok (.int .u8 (c.toNat : Int)) w := by
  intro t w ht
  have hj : j < u.length := (List.getElem?_eq_some_iff.1 h).1
  have hc : u[j] = c := (List.getElem?_eq_some_iff.1 h).2
  have hsz : (⟨u.toArray⟩ : ByteArray).size = u.length := by show u.toArray.size = _; simp
  rw [run_index_string _ t _ _ _ ht, dif_pos ⟨by omega, by rw [hsz]; omega⟩]
  have key : ∀ h : ((j : Int)).toNat < (⟨u.toArray⟩ : ByteArray).size, (⟨u.toArray⟩ : ByteArray)[((j : Int)).toNat]'h = c := by
    intro h
    show u.toArray[((j : Int)).toNat]'_ = c
    simpa using hc
  rw [key]

set_option maxRecDepth 100000 in
set_option maxHeartbeats 8000000 in
theorem listR_any (l : List T) (A : Option Addr) (c : Nat) (u : List UInt8) (w : World) (hl : l.length ≤ 1048576) (_hu : u.length ≤ 64) (hlet : ∀ x ∈ u, isLetter x) (hR : Rd w l A c) :
    Calls Tryz.prog 95 #[.slice A l.length c, .string ⟨u.toArray⟩] w fun e w' => e = .returned (.bool (kindsB l (u.map codeOf))) ∧ Below w.heap.size w w' := by
  have HR := Lib.hid hR
  have HL := Lib.hid hlet
  clear hR hlet
  by_cases hlen : l.length = u.length
  case neg =>
    have hz : kindsB l (u.map codeOf) = false := kindsB_len (by simpa using hlen)
    have HZ := Lib.hid hz
    have hn : ((l.length : Int) != (u.length : Int)) = true := by simp; omega
    clear hz
    go_enter Tryz.func95, Tryz.ntmps95
    go_wp2_with fail
    go_ret
    exact ⟨ret_bool HZ.out.symm, Below.refl _ _⟩
  have hn : ((l.length : Int) != (u.length : Int)) = false := by simp; omega
  have HLen := Lib.hid hlen
  clear hlen
  go_enter Tryz.func95, Tryz.ntmps95
  go_wp2_with fail
  go_loopw [5] (fun i wr => ∃ j : Nat, j ≤ l.length ∧ i = .int .i64 j ∧ Hid (Below w.heap.size w wr) ∧ Hid (kindsB (l.take j) ((u.map codeOf).take j) = true)) (fun i _ => l.length - (intOf i).toNat)
  case atStart => exact ⟨0, Nat.zero_le _, rfl, Below.refl _ _, by simp [Hid, kindsB]⟩
  case round =>
    obtain ⟨j, hj, rfl, HB, HI⟩ := hrel
    by_cases hlt : j < l.length
    · obtain ⟨y, hy⟩ : ∃ y, l[j]? = some y := ⟨l[j], by simp [hlt]⟩
      obtain ⟨x, hx⟩ : ∃ x, u[j]? = some x := ⟨u[j]'(by have := HLen.out; omega), by have := HLen.out; simp [List.getElem?_eq_getElem (show j < u.length by omega)]⟩
      obtain ⟨b, o, A', c', rfl, hc, hr⟩ := HR.out.at_ hy
      have h0 := keep_cell HB.out hc.c0
      have hxl := HL.out x (List.mem_of_getElem? hx)
      have hcode : (u.map codeOf)[j]? = some (codeOf x) := by simp [hx]
      have hok1 : okKind y.kind (codeOf x) = true → kindsB (l.take (j + 1)) ((u.map codeOf).take (j + 1)) = true := fun h => by rw [kindsB_take hy hcode, HI.out, h]; rfl
      have hok2 : okKind y.kind (codeOf x) = false → kindsB l (u.map codeOf) = false := kindsB_miss hy hcode
      have HO1 := Lib.hid hok1
      have HO2 := Lib.hid hok2
      have hul : u.length = l.length := HLen.out.symm
      have hju : j < u.length := by omega
      have HX := Lib.hid hx
      clear hok1 hok2 hcode hx hy hr hc hul
      unfold isLetter at hxl
      rcases hxl with rfl | rfl | rfl | rfl | rfl | rfl | rfl | rfl | rfl | rfl
      · have hix : ∀ w, (Instr.index 9 (.string ⟨u.toArray⟩) (.int .i64 (j : Int))).run Tryz.prog w = .ok (.int .u8 98) w := fun w => byte_at HX.out 9 w Tryz.underlying9
        cases hk : (y.kind == 20) with
        | true =>
          have HK := Lib.hid (HO1.out (by rw [show codeOf 98 = 20 from rfl]; simpa [okKind] using hk))
          go_wp2_with fail
          go_quiet ((go_at_call 37; exact Calls.quiet_of_same (sortR_same _ _)))
          go_wp2_with fail
          go_roundw
          case rel => exact ⟨j + 1, by omega, by go_num, drewN_below HB.out _, HK.out⟩
          case measure => simp [intOf]; omega
        | false =>
          have HK := Lib.hid (HO2.out (by rw [show codeOf 98 = 20 from rfl]; simpa [okKind] using hk))
          go_wp2_with fail
          go_quiet ((go_at_call 37; exact Calls.quiet_of_same (sortR_same _ _)))
          go_wp2_with fail
          go_ret
          exact ⟨ret_bool HK.out.symm, drewN_below HB.out _⟩
      · have hix : ∀ w, (Instr.index 9 (.string ⟨u.toArray⟩) (.int .i64 (j : Int))).run Tryz.prog w = .ok (.int .u8 105) w := fun w => byte_at HX.out 9 w Tryz.underlying9
        cases hk : (y.kind == 25) with
        | true =>
          have HK := Lib.hid (HO1.out (by rw [show codeOf 105 = 25 from rfl]; simpa [okKind] using hk))
          go_wp2_with fail
          go_quiet ((go_at_call 37; exact Calls.quiet_of_same (sortR_same _ _)))
          go_wp2_with fail
          go_roundw
          case rel => exact ⟨j + 1, by omega, by go_num, drewN_below HB.out _, HK.out⟩
          case measure => simp [intOf]; omega
        | false =>
          have HK := Lib.hid (HO2.out (by rw [show codeOf 105 = 25 from rfl]; simpa [okKind] using hk))
          go_wp2_with fail
          go_quiet ((go_at_call 37; exact Calls.quiet_of_same (sortR_same _ _)))
          go_wp2_with fail
          go_ret
          exact ⟨ret_bool HK.out.symm, drewN_below HB.out _⟩
      · have hix : ∀ w, (Instr.index 9 (.string ⟨u.toArray⟩) (.int .i64 (j : Int))).run Tryz.prog w = .ok (.int .u8 99) w := fun w => byte_at HX.out 9 w Tryz.underlying9
        cases hk : (y.kind == 34) with
        | true =>
          have HK := Lib.hid (HO1.out (by rw [show codeOf 99 = 34 from rfl]; simpa [okKind] using hk))
          go_wp2_with fail
          go_quiet ((go_at_call 37; exact Calls.quiet_of_same (sortR_same _ _)))
          go_wp2_with fail
          go_roundw
          case rel => exact ⟨j + 1, by omega, by go_num, drewN_below HB.out _, HK.out⟩
          case measure => simp [intOf]; omega
        | false =>
          have HK := Lib.hid (HO2.out (by rw [show codeOf 99 = 34 from rfl]; simpa [okKind] using hk))
          go_wp2_with fail
          go_quiet ((go_at_call 37; exact Calls.quiet_of_same (sortR_same _ _)))
          go_wp2_with fail
          go_ret
          exact ⟨ret_bool HK.out.symm, drewN_below HB.out _⟩
      · have hix : ∀ w, (Instr.index 9 (.string ⟨u.toArray⟩) (.int .i64 (j : Int))).run Tryz.prog w = .ok (.int .u8 114) w := fun w => byte_at HX.out 9 w Tryz.underlying9
        cases hk : (y.kind == 39) with
        | true =>
          have HK := Lib.hid (HO1.out (by rw [show codeOf 114 = 39 from rfl]; simpa [okKind] using hk))
          go_wp2_with fail
          go_quiet ((go_at_call 37; exact Calls.quiet_of_same (sortR_same _ _)))
          go_wp2_with fail
          go_roundw
          case rel => exact ⟨j + 1, by omega, by go_num, drewN_below HB.out _, HK.out⟩
          case measure => simp [intOf]; omega
        | false =>
          have HK := Lib.hid (HO2.out (by rw [show codeOf 114 = 39 from rfl]; simpa [okKind] using hk))
          go_wp2_with fail
          go_quiet ((go_at_call 37; exact Calls.quiet_of_same (sortR_same _ _)))
          go_wp2_with fail
          go_ret
          exact ⟨ret_bool HK.out.symm, drewN_below HB.out _⟩
      · have hix : ∀ w, (Instr.index 9 (.string ⟨u.toArray⟩) (.int .i64 (j : Int))).run Tryz.prog w = .ok (.int .u8 112) w := fun w => byte_at HX.out 9 w Tryz.underlying9
        cases hk : (y.kind == 6) with
        | true =>
          have HK := Lib.hid (HO1.out (by rw [show codeOf 112 = 6 from rfl]; simpa [okKind] using hk))
          go_wp2_with fail
          go_quiet ((go_at_call 37; exact Calls.quiet_of_same (sortR_same _ _)))
          go_wp2_with fail
          go_roundw
          case rel => exact ⟨j + 1, by omega, by go_num, drewN_below HB.out _, HK.out⟩
          case measure => simp [intOf]; omega
        | false =>
          have HK := Lib.hid (HO2.out (by rw [show codeOf 112 = 6 from rfl]; simpa [okKind] using hk))
          go_wp2_with fail
          go_quiet ((go_at_call 37; exact Calls.quiet_of_same (sortR_same _ _)))
          go_wp2_with fail
          go_ret
          exact ⟨ret_bool HK.out.symm, drewN_below HB.out _⟩
      · have hix : ∀ w, (Instr.index 9 (.string ⟨u.toArray⟩) (.int .i64 (j : Int))).run Tryz.prog w = .ok (.int .u8 113) w := fun w => byte_at HX.out 9 w Tryz.underlying9
        cases hk : (y.kind == 7) with
        | true =>
          have HK := Lib.hid (HO1.out (by rw [show codeOf 113 = 7 from rfl]; simpa [okKind] using hk))
          go_wp2_with fail
          go_quiet ((go_at_call 37; exact Calls.quiet_of_same (sortR_same _ _)))
          go_wp2_with fail
          go_roundw
          case rel => exact ⟨j + 1, by omega, by go_num, drewN_below HB.out _, HK.out⟩
          case measure => simp [intOf]; omega
        | false =>
          have HK := Lib.hid (HO2.out (by rw [show codeOf 113 = 7 from rfl]; simpa [okKind] using hk))
          go_wp2_with fail
          go_quiet ((go_at_call 37; exact Calls.quiet_of_same (sortR_same _ _)))
          go_wp2_with fail
          go_ret
          exact ⟨ret_bool HK.out.symm, drewN_below HB.out _⟩
      · have hix : ∀ w, (Instr.index 9 (.string ⟨u.toArray⟩) (.int .i64 (j : Int))).run Tryz.prog w = .ok (.int .u8 103) w := fun w => byte_at HX.out 9 w Tryz.underlying9
        cases hk : (y.kind == 4) with
        | true =>
          have HK := Lib.hid (HO1.out (by rw [show codeOf 103 = 4 from rfl]; simpa [okKind] using hk))
          go_wp2_with fail
          go_quiet ((go_at_call 37; exact Calls.quiet_of_same (sortR_same _ _)))
          go_wp2_with fail
          go_roundw
          case rel => exact ⟨j + 1, by omega, by go_num, drewN_below HB.out _, HK.out⟩
          case measure => simp [intOf]; omega
        | false =>
          have HK := Lib.hid (HO2.out (by rw [show codeOf 103 = 4 from rfl]; simpa [okKind] using hk))
          go_wp2_with fail
          go_quiet ((go_at_call 37; exact Calls.quiet_of_same (sortR_same _ _)))
          go_wp2_with fail
          go_ret
          exact ⟨ret_bool HK.out.symm, drewN_below HB.out _⟩
      · have hix : ∀ w, (Instr.index 9 (.string ⟨u.toArray⟩) (.int .i64 (j : Int))).run Tryz.prog w = .ok (.int .u8 101) w := fun w => byte_at HX.out 9 w Tryz.underlying9
        cases hk : (sortC y.kind == 101) with
        | true =>
          have HK := Lib.hid (HO1.out (by rw [show codeOf 101 = -1 from rfl]; rw [sortC_101] at hk; simpa [okKind] using hk))
          go_wp2_with fail
          go_quiet ((go_at_call 37; exact Calls.quiet_of_same (sortR_same _ _)))
          go_wp2_with fail
          go_roundw
          case rel => exact ⟨j + 1, by omega, by go_num, drewN_below HB.out _, HK.out⟩
          case measure => simp [intOf]; omega
        | false =>
          have HK := Lib.hid (HO2.out (by rw [show codeOf 101 = -1 from rfl]; rw [sortC_101] at hk; simpa [okKind] using hk))
          go_wp2_with fail
          go_quiet ((go_at_call 37; exact Calls.quiet_of_same (sortR_same _ _)))
          go_wp2_with fail
          go_ret
          exact ⟨ret_bool HK.out.symm, drewN_below HB.out _⟩
      · have hix : ∀ w, (Instr.index 9 (.string ⟨u.toArray⟩) (.int .i64 (j : Int))).run Tryz.prog w = .ok (.int .u8 116) w := fun w => byte_at HX.out 9 w Tryz.underlying9
        cases hk : (sortC y.kind == 116) with
        | true =>
          have HK := Lib.hid (HO1.out (by rw [show codeOf 116 = -2 from rfl]; rw [sortC_116] at hk; simpa [okKind] using hk))
          go_wp2_with fail
          go_quiet ((go_at_call 37; exact Calls.quiet_of_same (sortR_same _ _)))
          go_wp2_with fail
          go_roundw
          case rel => exact ⟨j + 1, by omega, by go_num, drewN_below HB.out _, HK.out⟩
          case measure => simp [intOf]; omega
        | false =>
          have HK := Lib.hid (HO2.out (by rw [show codeOf 116 = -2 from rfl]; rw [sortC_116] at hk; simpa [okKind] using hk))
          go_wp2_with fail
          go_quiet ((go_at_call 37; exact Calls.quiet_of_same (sortR_same _ _)))
          go_wp2_with fail
          go_ret
          exact ⟨ret_bool HK.out.symm, drewN_below HB.out _⟩
      · have hix : ∀ w, (Instr.index 9 (.string ⟨u.toArray⟩) (.int .i64 (j : Int))).run Tryz.prog w = .ok (.int .u8 115) w := fun w => byte_at HX.out 9 w Tryz.underlying9
        cases hk : (sortC y.kind == 115) with
        | true =>
          have HK := Lib.hid (HO1.out (by rw [show codeOf 115 = -3 from rfl]; rw [sortC_115] at hk; simpa [okKind] using hk))
          go_wp2_with fail
          go_quiet ((go_at_call 37; exact Calls.quiet_of_same (sortR_same _ _)))
          go_wp2_with fail
          go_roundw
          case rel => exact ⟨j + 1, by omega, by go_num, drewN_below HB.out _, HK.out⟩
          case measure => simp [intOf]; omega
        | false =>
          have HK := Lib.hid (HO2.out (by rw [show codeOf 115 = -3 from rfl]; rw [sortC_115] at hk; simpa [okKind] using hk))
          go_wp2_with fail
          go_quiet ((go_at_call 37; exact Calls.quiet_of_same (sortR_same _ _)))
          go_wp2_with fail
          go_ret
          exact ⟨ret_bool HK.out.symm, drewN_below HB.out _⟩
    · go_wp2_with fail
      go_ret
      exact ⟨ret_bool (by have : j = l.length := by omega
                          subst this; have := HI.out; rw [List.take_length, List.take_of_length_le (by have := HLen.out; simp; omega)] at this; exact this.symm), HB.out⟩
end Go.Proofs.YtoemljgkofhhpaaGreatDoor
