import Derived.Test.YtoemljgkofhhpaaGreatDoorSqB
import Derived.Lib.ParseIntB
import Derived.Test.YtoemljgkofhhpaaGreatDoorShelfS
import Derived.Lib.AtoiErrMem
import Derived.Test.YtoemljgkofhhpaaGreatDoorJoinP
import Derived.Recover
import Derived.Test.YtoemljgkofhhpaaGreatDoorLaw3
namespace Go.Proofs.YtoemljgkofhhpaaGreatDoor
open Go.RowKit

/-! The tokens of pieces, in plain Lean. -/
/-- How many bytes of letters and digits stand at the beginning. -/
inductive Alx : List UInt8 → Prop
  | nil : Alx []
  | one (c : UInt8) (l : List UInt8) (h : c.toNat < 128) (hl : (letterB (c.toNat : Int) || digitB (c.toNat : Int)) = true) (hr : Alx l) : Alx (c :: l)
  | two (c d : UInt8) (l : List UInt8) (hc : c.toNat / 32 = 6) (hd : d.toNat / 64 = 2) (h : 128 ≤ c.toNat % 32 * 64 + d.toNat % 64) (hl : letterB ((c.toNat % 32 * 64 + d.toNat % 64 : Nat) : Int) = true) (hr : Alx l) : Alx (c :: d :: l)
theorem two_big {c d : UInt8} {t : List UInt8} (hc : c.toNat / 32 = 6) (hd : d.toNat / 64 = 2) (h : (Lib.decodeL (c :: d :: t)).2 = 2) : 128 ≤ c.toNat % 32 * 64 + d.toNat % 64 := by
  rw [Lib.decodeL_N] at h
  have h0 : ¬ c.toNat < 128 := by omega
  by_cases h1 : 128 ≤ c.toNat % 32 * 64 + d.toNat % 64
  · exact h1
  · simp [Lib.decodeN, List.getD, hc, hd, h0, h1] at h
theorem alx_name (s : ByteArray) (f : Nat) : ∀ p, s.size < p + f → nameFrom s f p = true → Alx (s.data.toList.drop p) := by
  have hsz : s.data.toList.length = s.size := by rw [Array.length_toList]; rfl
  induction f with
  | zero =>
    intro p hp _
    rw [List.drop_eq_nil_of_le (by omega)]; exact .nil
  | succ f ih =>
    intro p hp h
    by_cases hlt : p < s.size
    · rw [nameFrom_step hlt] at h
      simp only [Bool.and_eq_true] at h
      have hz := decode_pos s p
      have hr := ih (p + (Utf8.decode s p).2) (by omega) h.2
      have hne : s.data.toList.drop p ≠ [] := by simp; omega
      rw [← Lib.decodeL_drop] at h hr
      rw [← List.drop_drop] at hr
      have hl : (letterB ((Lib.decodeL (s.data.toList.drop p)).1 : Int) || digitB ((Lib.decodeL (s.data.toList.drop p)).1 : Int)) = true := by
        have := h.1
        simp only [Bool.or_eq_true, Bool.and_eq_true] at this ⊢
        rcases this with h | h
        · exact .inl h
        · exact .inr h.2
      rcases alnum_case _ hne hl with ⟨c, t, e, hc, hd⟩ | ⟨c, d, t, e, hc, hd, hde, hlt⟩
      · rw [hd] at hr hl
        rw [e] at hr ⊢
        exact .one c t hc hl (by simpa using hr)
      · rw [hde] at hr
        have hb := two_big (t := t) hc hd (by rw [← e, hde])
        rw [e] at hr ⊢
        exact .two c d t hc hd hb hlt (by simpa using hr)
    · rw [List.drop_eq_nil_of_le (by omega)]; exact .nil
theorem alx_nameB {s : ByteArray} (h : nameB s = true) : Alx s.data.toList := by
  simp only [nameB, name0, Bool.and_eq_true] at h
  have := alx_name s (s.size + 1) 0 (by omega) h.1.1
  simpa using this
theorem alx_digits {l : List UInt8} (h : ∀ c ∈ l, 48 ≤ c.toNat ∧ c.toNat ≤ 57) : Alx l := by
  induction l with
  | nil => exact .nil
  | cons c l ih =>
    have hc := h c (by simp)
    refine .one c l (by omega) ?_ (ih fun d hd => h d (by simp [hd]))
    simp [digitB]; omega
/-- Does a text end here, or go on with what is no letter and no digit? -/
def endsB (l : List UInt8) : Prop := l = [] ∨ ∃ c t, l = c :: t ∧ c.toNat < 128 ∧ (letterB (c.toNat : Int) || digitB (c.toNat : Int)) = false
/-- scan.run's number. -/
def runFrom (s : ByteArray) : Nat → Nat → Nat
  | 0, _ => s.size
  | f + 1, p => if p < s.size then (if (letterB (Utf8.decode s p).1 || digitB (Utf8.decode s p).1) = true then runFrom s f (p + (Utf8.decode s p).2) else p) else s.size
theorem runFrom_alx (s : ByteArray) {a : List UInt8} (ha : Alx a) : ∀ (f p : Nat) (t : List UInt8), s.data.toList.drop p = a ++ t → endsB t → p ≤ s.size → s.size < p + f → runFrom s f p = p + a.length := by
  have hsz : s.data.toList.length = s.size := by rw [Array.length_toList]; rfl
  induction ha with
  | nil =>
    intro f p t h ht hp hf
    cases f with
    | zero => omega
    | succ f =>
      simp only [List.nil_append] at h
      rcases ht with rfl | ⟨c, u, rfl, hc, hl⟩
      · have : s.data.toList.length ≤ p := by simpa [List.drop_eq_nil_iff] using h
        simp only [runFrom, if_neg (show ¬ p < s.size by omega), List.length_nil]; omega
      · have hlt : p < s.size := by
          by_cases e : p < s.size
          · exact e
          · rw [List.drop_eq_nil_of_le (by omega)] at h; cases h
        have hd : Utf8.decode s p = (c.toNat, 1) := by rw [← Lib.decodeL_drop, h, Lib.decodeL_ascii _ _ hc]
        simp only [runFrom, if_pos hlt, hd, hl, List.length_nil]; simp
  | one c l hc hl hr ih =>
    intro f p t h ht hp hf
    cases f with
    | zero => omega
    | succ f =>
      have hlt : p < s.size := by
        by_cases e : p < s.size
        · exact e
        · rw [List.drop_eq_nil_of_le (by omega)] at h; cases h
      have hd : Utf8.decode s p = (c.toNat, 1) := by rw [← Lib.decodeL_drop, h]; exact Lib.decodeL_ascii _ _ hc
      simp only [runFrom, if_pos hlt, hd, hl, if_true]
      rw [ih f (p + 1) t (by rw [← List.drop_drop, h]; rfl) ht (by omega) (by omega)]
      simp; omega
  | two c d l hc hd h128 hl hr ih =>
    intro f p t h ht hp hf
    cases f with
    | zero => omega
    | succ f =>
      have hlt : p + 1 < s.size := by
        have := congrArg List.length h
        simp at this; omega
      have hdc : Utf8.decode s p = (c.toNat % 32 * 64 + d.toNat % 64, 2) := by rw [← Lib.decodeL_drop, h]; exact decL2 c d _ hc hd h128
      simp only [runFrom, if_pos (show p < s.size by omega), hdc, hl, Bool.true_or, if_true]
      rw [ih f (p + 2) t (by rw [← List.drop_drop, h]; rfl) ht (by omega) (by omega)]
      simp; omega
/-! Numbers. -/
theorem magM_snoc (M : Nat) (l : List UInt8) (c : UInt8) : ∀ acc, Lib.parseUintM M acc (l ++ [c]) = (match Lib.parseUintM M acc l with | .ok a => Lib.parseUintM M a [c] | e => e) := by
  induction l with
  | nil => intro acc; rfl
  | cons d l ih =>
    intro acc
    simp only [List.cons_append, Lib.parseUintM]
    split
    · split
      · rfl
      · split
        · rfl
        · exact ih _
    · rfl
theorem mag_digits (u : Nat) : u < 18446744073709551616 → Lib.parseUintM 18446744073709551615 0 (Lib.decDigits u) = .ok u := by
  induction u using Nat.strongRecOn with
  | _ u ih =>
    intro hu
    have key : ∀ a d : Nat, d < 10 → a * 10 + d = u → Lib.parseUintM 18446744073709551615 a [UInt8.ofNat (48 + d)] = .ok u := by
      intro a d hd ha
      have hn : (UInt8.ofNat (48 + d)).toNat = 48 + d := by simp [UInt8.toNat_ofNat']; omega
      simp only [Lib.parseUintM, hn]
      rw [if_pos (by omega), if_neg (by omega), if_neg (by omega), show a * 10 + (48 + d - 48) = u from by omega]
    by_cases h : u < 10
    · rw [decDigits_small h]
      exact key 0 u h (by omega)
    · rw [decDigits_big h, magM_snoc, ih (u / 10) (by omega) (by omega)]
      exact key (u / 10) (u % 10) (by omega) (by omega)
theorem parse_digits {u : Nat} (h : u < 18446744073709551616) : Lib.parseUintB 64 (Lib.decDigits u) = .ok u := by
  rw [Lib.parseUintB, if_neg (digits_ne u)]
  exact mag_digits u h
/-- A numeral of more than one digit begins with no nought. -/
theorem digits_head (u : Nat) : 2 ≤ (Lib.decDigits u).length → ∃ c t, Lib.decDigits u = c :: t ∧ c.toNat ≠ 48 := by
  induction u using Nat.strongRecOn with
  | _ u ih =>
    intro hl
    by_cases h : u < 10
    · rw [decDigits_small h] at hl; simp at hl
    · rw [decDigits_big h] at hl ⊢
      by_cases h2 : u / 10 < 10
      · rw [decDigits_small h2]
        refine ⟨_, _, rfl, ?_⟩
        simp [UInt8.toNat_ofNat']; omega
      · obtain ⟨c, t, e, hc⟩ := ih (u / 10) (by omega) (by
          rw [decDigits_big h2]
          have := List.length_pos_iff.2 (digits_ne (u / 10 / 10))
          simp; omega)
        exact ⟨c, _, by rw [e]; rfl, hc⟩
/-! What stands ahead of a piece. -/
def blankB (c : UInt8) : Bool := c == 9 || (c == 13 || c == 32)
def kb (p : Pc) : List UInt8 := (keyP p).2.data.toList
def tlb (p : Pc) (ps : List Pc) : List UInt8 := match p with | .bin _ => 32 :: rbs ps | _ => rbs ps
/-- The rest of a text: pieces, a blank ahead of them or not. -/
def Lies (l : List UInt8) (ps : List Pc) : Prop := l = rbs ps ∨ l = 32 :: rbs ps
theorem tlb_lies (p : Pc) (ps : List Pc) : Lies (tlb p ps) ps := by cases p <;> first | exact .inl rfl | exact .inr rfl
theorem rbs_piece (p : Pc) (ps : List Pc) : rbs (p :: ps) = kb p ++ tlb p ps ∨ rbs (p :: ps) = 32 :: (kb p ++ tlb p ps) := by
  rw [rbs_cons]
  cases p with
  | bin s => right; rw [rb_bin]; simp [kb, keyP, tlb]
  | _ => left; rfl
/-- A token's first byte. -/
structure First (l : List UInt8) (c : UInt8) : Prop where
  head : l.head? = some c
  nb : blankB c = false
  nl : c ≠ 10
theorem name_ne {s : ByteArray} (h : nameB s = true) : ∃ c t, s.data.toList = c :: t := by
  have h1 : 1 ≤ s.size := by simp [nameB, name0] at h; omega
  have hsz : s.data.toList.length = s.size := by rw [Array.length_toList]; rfl
  cases e : s.data.toList with
  | nil => rw [e] at hsz; simp at hsz; omega
  | cons c t => exact ⟨c, t, rfl⟩
theorem alx_first {c : UInt8} {t : List UInt8} (h : Alx (c :: t)) : blankB c = false ∧ c ≠ 10 ∧ c ≠ 47 := by
  have h48 : 48 ≤ c.toNat := by
    cases h with
    | one _ _ hc hl _ =>
      simp only [Bool.or_eq_true] at hl
      rcases hl with hl | hl
      · have := letter_lo hl; omega
      · have := digit_lo hl; omega
    | two _ d l hc hd h hl _ => omega
  refine ⟨?_, ?_, ?_⟩
  · simp only [blankB, Bool.or_eq_false_iff, beq_eq_false_iff_ne]
    refine ⟨?_, ?_, ?_⟩ <;> (rintro rfl; simp at h48)
  · rintro rfl; simp at h48
  · rintro rfl; simp at h48
theorem ops_first : (opsL.all fun s => match s.data.toList with | c :: t => !blankB c && (c != 10 && (c != 47 || t.isEmpty)) | [] => false) = true := by decide +kernel
/-- The first byte of a token, and that no remark begins. -/
theorem kb_first {p : Pc} (h : okPc p) (ps : List Pc) : ∃ c t, kb p = c :: t ∧ blankB c = false ∧ c ≠ 10 ∧ ∀ m, kb p ++ tlb p ps ≠ 47 :: 47 :: m := by
  have easy : ∀ c t, kb p = c :: t → blankB c = false → c ≠ 10 → c ≠ 47 → ∃ c t, kb p = c :: t ∧ blankB c = false ∧ c ≠ 10 ∧ ∀ m, kb p ++ tlb p ps ≠ 47 :: 47 :: m := by
    intro c t e h1 h2 h3
    refine ⟨c, t, e, h1, h2, fun m hm => ?_⟩
    rw [e] at hm
    simp at hm
    exact h3 hm.1
  cases p with
  | lp => exact easy 40 [] rfl (by decide) (by decide) (by decide)
  | rp => exact easy 41 [] rfl (by decide) (by decide) (by decide)
  | dot => exact easy 46 [] rfl (by decide) (by decide) (by decide)
  | atom k s =>
    have key : Alx s.data.toList → (∃ c t, s.data.toList = c :: t) → ∃ c t, kb (.atom k s) = c :: t ∧ blankB c = false ∧ c ≠ 10 ∧ ∀ m, kb (.atom k s) ++ tlb (.atom k s) ps ≠ 47 :: 47 :: m := by
      rintro ha ⟨c, t, e⟩
      rw [e] at ha
      have := alx_first ha
      exact easy c t e this.1 this.2.1 this.2.2
    rcases h with ⟨-, h⟩ | ⟨-, u, -, rfl⟩ | ⟨-, rfl | rfl⟩
    · exact key (alx_nameB h) (name_ne h)
    · refine key (alx_digits (digits_lo u)) ?_
      have := digits_ne u
      cases e : Lib.decDigits u with
      | nil => exact absurd e this
      | cons c t => exact ⟨c, t, by simpa [digT] using e⟩
    · exact easy 116 [114, 117, 101] rfl (by decide) (by decide) (by decide)
    · exact easy 102 [97, 108, 115, 101] rfl (by decide) (by decide) (by decide)
  | un s =>
    rcases h with h | rfl
    · simp only [unaryB, Bool.or_eq_true, beq_iff_eq, Lib.toList_data] at h
      rcases h with h | h | h
      · exact easy 45 [] h (by decide) (by decide) (by decide)
      · exact easy 94 [] h (by decide) (by decide) (by decide)
      · exact easy 33 [] h (by decide) (by decide) (by decide)
    · exact easy 60 [45] rfl (by decide) (by decide) (by decide)
  | bin s =>
    have := List.all_eq_true.1 ops_first s (ops_of_binds h)
    cases e : s.data.toList with
    | nil => rw [e] at this; simp at this
    | cons c t =>
      rw [e] at this
      simp at this
      refine ⟨c, t, e, this.1, this.2.1, fun m hm => ?_⟩
      have e2 : kb (.bin s) = c :: t := e
      rw [e2] at hm
      rcases this.2.2 with h | h
      · simp at hm; exact h hm.1
      · subst h; simp [tlb] at hm
theorem ext_data (t : ByteArray) (i : Nat) : (t.extract i t.size).data.toList = t.data.toList.drop i := by
  have hsz : t.data.toList.length = t.size := by rw [Array.length_toList]; rfl
  rw [ByteArray.data_extract, Array.toList_extract, List.extract_eq_take_drop, List.take_of_length_le (by simp)]
theorem ext_take (t : ByteArray) (i : Nat) : (t.extract 0 i).data.toList = t.data.toList.take i := by
  rw [ByteArray.data_extract, Array.toList_extract, List.extract_eq_take_drop]; simp
theorem str_head (t : ByteArray) (h : 0 < t.size) : t.data.toList = t[0] :: (t.extract 1 t.size).data.toList := by
  have hsz : t.data.toList.length = t.size := by rw [Array.length_toList]; rfl
  rw [ext_data]
  have h2 : 0 < t.data.toList.length := by omega
  rw [← List.drop_zero (l := t.data.toList), List.drop_eq_getElem_cons h2]
  rfl
theorem trim_any (s : ByteArray) (w : World) :
    Calls Tryz.prog 77 #[.string s, .string ⟨#[9, 13, 32]⟩] w fun e w' => e = .returned (.string ⟨(s.data.toList.dropWhile blankB).toArray⟩) ∧ Below w.heap.size w w' := by
  have h := Any.strings_TrimLeft_laid Tryz.lays161 (by kernel_rfl) s ⟨#[9, 13, 32]⟩ w (by decide) (by
    intro j b h
    match j, h with
    | 0, h => simp at h; subst h; decide
    | 1, h => simp at h; subst h; decide
    | 2, h => simp at h; subst h; decide
    | j + 3, h => simp at h)
  have e : Lib.trimLeftS s.data.toList (⟨#[9, 13, 32]⟩ : ByteArray).data.toList = s.data.toList.dropWhile blankB := by
    have : (fun c : UInt8 => ([9, 13, 32] : List UInt8).contains c) = blankB := by
      funext c
      simp only [List.contains_cons, List.contains_nil, blankB, Bool.or_false]
    show s.data.toList.dropWhile (fun c : UInt8 => ([9, 13, 32] : List UInt8).contains c) = _
    rw [this]
  rw [e] at h
  exact h
theorem dec_width (s : ByteArray) (p : Nat) (h : p < s.size) : (Utf8.decode s p).2 ≤ s.size - p := by
  rw [Lib.decode_at]
  unfold Lib.decodeN
  repeat' split
  all_goals simp
  all_goals omega
theorem go_dec (t : ByteArray) (h : 0 < t.size) : Lib.decodeGo t = Utf8.decode t 0 := by rw [Lib.decodeGo, if_neg (by omega)]
set_option maxRecDepth 100000 in
set_option maxHeartbeats 2000000 in
theorem whole_any (s : ByteArray) (w : World) (hs : s.size ≤ 65536) (hE : Env w) : Calls Tryz.prog 76 #[.string s] w fun e w' => (∃ n : Int, e = .returned (.int .i64 n)) ∧ Below w.heap.size w w' := by
  have HE := Lib.hid hE
  clear hE
  go_enter Tryz.func76, Tryz.ntmps76
  go_wp2_with fail
  go_loopw [3] (fun i wr => ∃ j : Nat, j ≤ s.size ∧ i = .int .i64 j ∧ Below w.heap.size w wr) (fun i _ => s.size - (intOf i).toNat)
  case atStart => exact ⟨0, by omega, rfl, Below.refl _ _⟩
  case round =>
    obtain ⟨j, hj, rfl, hB⟩ := hrel
    have HB := Lib.hid hB
    clear hB
    by_cases hlt : j < s.size
    · have hts : (s.extract j s.size).size = s.size - j := by simp [ByteArray.size_extract]
      have C := Tryz.utf8_DecodeRuneInString (s.extract j s.size) wr (HE.out.keep HB.out).tabs
      rw [go_dec _ (by omega)] at C
      have h1 := decode_pos (s.extract j s.size) 0
      have h2 := dec_width (s.extract j s.size) 0 (by omega)
      have h2b := decode_le (s.extract j s.size) 0
      generalize hr : (Utf8.decode (s.extract j s.size) 0).1 = r at *
      generalize hz : (Utf8.decode (s.extract j s.size) 0).2 = z at *
      have h3 : j + z ≤ s.size := by omega
      have C := Lib.hid C
      clear hr hz h2 hts
      go_wp2_with fail
      refine C.out.mono ?_
      rintro e w1 ⟨rfl, hb⟩
      have HB1 := Lib.hid (below_then HB.out HB.out.size hb)
      clear hb
      go_wp2_with fail
      all_goals first
        | (go_roundw
           case rel => exact ⟨j + z, h3, by go_num, HB1.out⟩
           case measure => simp [intOf]; omega)
        | (go_ret
           exact ⟨⟨_, rfl⟩, HB1.out⟩)
    · go_wp2_with fail
      go_ret
      exact ⟨⟨_, rfl⟩, HB.out⟩
theorem runFrom_step {s : ByteArray} {f p : Nat} (h : p < s.size) : runFrom s (f + 1) p = if (letterB (Utf8.decode s p).1 || digitB (Utf8.decode s p).1) = true then runFrom s f (p + (Utf8.decode s p).2) else p := by
  simp only [runFrom, if_pos h]
theorem runFrom_end {s : ByteArray} {f p : Nat} (h : ¬ p < s.size) : runFrom s f p = s.size := by
  cases f with
  | zero => rfl
  | succ f => simp only [runFrom, if_neg h]
set_option maxRecDepth 100000 in
set_option maxHeartbeats 2000000 in
theorem run_any (s : ByteArray) (w : World) : Calls Tryz.prog 110 #[.string s] w fun e w' => e = .returned (.int .i64 (runFrom s (s.size + 1) 0)) ∧ Below w.heap.size w w' := by
  go_enter Tryz.func110, Tryz.ntmps110
  go_wp2_with fail
  go_loopw [3] (fun _ wr => ∃ f p, wr = w.iter s p ∧ s.size < p + f ∧ Hid (runFrom s (s.size + 1) 0 = runFrom s f p)) (fun _ wr => s.size + 1 - wr.iterPos w.heap.size)
  case atStart => exact ⟨s.size + 1, 0, rfl, by omega, rfl⟩
  case round =>
    obtain ⟨f, p, rfl, hf, HN⟩ := hrel
    by_cases hp : p < s.size
    · have hd := decode_pos s p
      have hdl := decode_le s p
      obtain ⟨f, rfl⟩ : ∃ g, f = g + 1 := ⟨f - 1, by omega⟩
      have hN := HN.out
      rw [runFrom_step hp] at hN
      have hn := fun ty => run_next_any (P := Tryz.prog) w s p ty hp
      generalize hr : (Utf8.decode s p).1 = r at *
      generalize hz : (Utf8.decode s p).2 = z at *
      clear hr hz HN
      cases hL : letterB r with
      | true =>
        have hN2 : runFrom s (s.size + 1) 0 = runFrom s f (p + z) := by rw [hN, hL]; simp
        have HN := Lib.hid hN2
        have HL := Lib.hid hL
        clear hN hN2 hL
        go_wp2_with fail
        refine (letterP_any _ _).mono ?_
        rintro e w' ⟨rfl, rfl⟩
        rw [HL.out]
        go_wp2_with fail
        go_roundw
        case rel => exact ⟨f, p + z, rfl, by omega, HN.out⟩
        case measure => simp; omega
      | false =>
        cases hD : digitB r with
        | true =>
          have hN2 : runFrom s (s.size + 1) 0 = runFrom s f (p + z) := by rw [hN, hL, hD]; simp
          have HN := Lib.hid hN2
          have HL := Lib.hid hL
          have HD := Lib.hid hD
          clear hN hN2 hL hD
          go_wp2_with fail
          refine (letterP_any _ _).mono ?_
          rintro e w' ⟨rfl, rfl⟩
          rw [HL.out]
          go_wp2_with fail
          refine (digitP_any _ _).mono ?_
          rintro e w' ⟨rfl, rfl⟩
          rw [HD.out]
          go_wp2_with fail
          go_roundw
          case rel => exact ⟨f, p + z, rfl, by omega, HN.out⟩
          case measure => simp; omega
        | false =>
          have hN2 : runFrom s (s.size + 1) 0 = p := by rw [hN, hL, hD]; simp
          have HN := Lib.hid hN2
          have HL := Lib.hid hL
          have HD := Lib.hid hD
          clear hN hN2 hL hD
          go_wp2_with fail
          refine (letterP_any _ _).mono ?_
          rintro e w' ⟨rfl, rfl⟩
          rw [HL.out]
          go_wp2_with fail
          refine (digitP_any _ _).mono ?_
          rintro e w' ⟨rfl, rfl⟩
          rw [HD.out]
          go_wp2_with fail
          go_ret
          exact ⟨ret_int (by rw [HN.out]), iter_below _ _ _⟩
    · have HN2 := Lib.hid (show runFrom s (s.size + 1) 0 = s.size by rw [HN.out, runFrom_end hp])
      have hn := fun ty => run_next_end (P := Tryz.prog) w s p ty hp
      clear HN
      go_wp2_with fail
      go_ret
      exact ⟨ret_int (by rw [HN2.out]), iter_below _ _ _⟩
set_option maxRecDepth 100000 in
set_option maxHeartbeats 2000000 in
theorem number_any (u : Nat) (hu : u < 18446744073709551616) (w : World) : Calls Tryz.prog 114 #[.string (digT u)] w fun e w' => e = .returned (.tuple #[.int .u64 u, .int .i64 0]) ∧ Below w.heap.size w w' := by
  have hdl : (digT u).data.toList = Lib.decDigits u := by simp [digT]
  have hsz : (digT u).data.toList.length = (digT u).size := by rw [Array.length_toList]; rfl
  have hne : 1 ≤ (digT u).size := by
    have := List.length_pos_iff.2 (digits_ne u)
    rw [hdl] at hsz; omega
  have hpre : Lib.hasPrefix (digT u).data.toList (⟨#[48, 120]⟩ : ByteArray).data.toList = false := by
    rw [hdl]
    cases h : Lib.hasPrefix (Lib.decDigits u) (⟨#[48, 120]⟩ : ByteArray).data.toList with
    | false => rfl
    | true =>
      simp only [Lib.hasPrefix, List.isPrefixOf_iff_prefix] at h
      have := digits_lo u 120 (h.subset (by simp))
      simp at this
  have hz : ∀ (h0 : 0 < (digT u).size), 1 < (digT u).size → ((((digT u)[0]'h0).toNat : Int) == 48) = false := by
    intro h0 h1
    obtain ⟨c, t, e, hc⟩ := digits_head u (by rw [← hdl, hsz]; omega)
    have := str_head (digT u) h0
    rw [hdl, e] at this
    simp at this
    rw [← this.1]
    simp; omega
  have C1 := Tryz.strings_HasPrefix (digT u) ⟨#[48, 120]⟩ w
  rw [hpre] at C1
  have C1 := Lib.hid C1
  have HZ := Lib.hid hz
  have HD := Lib.hid hdl
  obtain ⟨hne1, hne2⟩ := nonempty_facts hne
  clear hz hdl hpre hsz
  generalize hd : digT u = d at *
  have HU := Lib.hid (And.intro hu hd)
  clear hu hd
  have hconv := fun W => Lib.run_convert_string_bytes (P := Tryz.prog) W 9 52 5 d Tryz.underlying9 Tryz.underlying52 Tryz.underlying5
  have hby : ∀ j, j < d.size → ∃ c : Nat, d.data.toList.getD j 0 = UInt8.ofNat c ∧ (UInt8.ofNat c).toNat = c ∧ 48 ≤ c ∧ c ≤ 57 := fun j hj => by
    have hsz : d.data.toList.length = d.size := by rw [Array.length_toList]; rfl
    have hj2 : j < d.data.toList.length := by omega
    have hm : d.data.toList.getD j 0 ∈ Lib.decDigits u := by
      rw [← HD.out, List.getD_eq_getElem?_getD, List.getElem?_eq_getElem hj2]; exact List.getElem_mem _
    have := digits_lo u _ hm
    exact ⟨(d.data.toList.getD j 0).toNat, by simp, by simp, this⟩
  have HBY := Lib.hid hby
  have hs20 : d.size ≤ 1000 := by
    have := digT_size (u := u) HU.out.1
    rw [← HU.out.2]
    simp [digT, ba_mk] at this ⊢; omega
  have C9 := Lib.hid (fun W => Tryz.strconv_ParseUint_10_at64_ok d (by omega) u (by rw [HD.out]; exact parse_digits HU.out.1) W)
  clear hby
  have HC := Lib.hid hconv
  clear hconv
  by_cases h1 : 1 < d.size
  · have hz1 := HZ.out (by omega) h1
    have hconv := HC.out
    go_enter Tryz.func114, Tryz.ntmps114
    go_wp2_with fail
    refine C1.out.mono ?_
    rintro e w' ⟨rfl, rfl⟩
    go_wp2_with fail
    go_loopw [26] (fun i wr => ∃ j : Nat, j ≤ d.size ∧ i = .int .i64 j ∧ wr = Lib.bytesWorld w' 5 d) (fun i _ => d.size - (intOf i).toNat)
    case atStart => exact ⟨0, Nat.zero_le _, rfl, rfl⟩
    case round =>
      obtain ⟨j, hj, rfl, rfl⟩ := hrel
      by_cases hlt : j < d.size
      · obtain ⟨c, hc, hcn, hc1, hc2⟩ := HBY.out j hlt
        have hcell := Lib.bytesWorld_cell w' 5 d j hlt
        rw [hc, hcn] at hcell
        have D := digitP_any c (Lib.bytesWorld w' 5 d)
        rw [show digitB (c : Int) = true by simp [digitB]; omega] at D
        have D := Lib.hid D
        clear hc hcn
        go_wp2_with fail
        refine D.out.mono ?_
        rintro e w2 ⟨rfl, rfl⟩
        go_wp2_with fail
        go_roundw
        case rel => exact ⟨j + 1, by omega, by go_num, by trivial⟩
        case measure => simp [intOf]; omega
      · go_wp2_with fail
        refine (C9.out _).mono ?_
        rintro e w2 ⟨rfl, hw⟩
        have HB : Below w'.heap.size w' w2 := by
          rcases hw with rfl | rfl
          · exact Lib.bytesWorld_below _ _ _
          · exact below_then (Lib.bytesWorld_below _ _ _) (Lib.bytesWorld_below _ _ _).size (Lib.bytesWorld_below _ _ _)
        have HB := Lib.hid HB
        clear hw
        go_wp2_with fail
        go_ret2
        exact ⟨rfl, HB.out⟩
  · have hconv := HC.out
    go_enter Tryz.func114, Tryz.ntmps114
    go_wp2_with fail
    refine C1.out.mono ?_
    rintro e w' ⟨rfl, rfl⟩
    go_wp2_with fail
    go_loopw [26] (fun i wr => ∃ j : Nat, j ≤ d.size ∧ i = .int .i64 j ∧ wr = Lib.bytesWorld w' 5 d) (fun i _ => d.size - (intOf i).toNat)
    case atStart => exact ⟨0, Nat.zero_le _, rfl, rfl⟩
    case round =>
      obtain ⟨j, hj, rfl, rfl⟩ := hrel
      by_cases hlt : j < d.size
      · obtain ⟨c, hc, hcn, hc1, hc2⟩ := HBY.out j hlt
        have hcell := Lib.bytesWorld_cell w' 5 d j hlt
        rw [hc, hcn] at hcell
        have D := digitP_any c (Lib.bytesWorld w' 5 d)
        rw [show digitB (c : Int) = true by simp [digitB]; omega] at D
        have D := Lib.hid D
        clear hc hcn
        go_wp2_with fail
        refine D.out.mono ?_
        rintro e w2 ⟨rfl, rfl⟩
        go_wp2_with fail
        go_roundw
        case rel => exact ⟨j + 1, by omega, by go_num, by trivial⟩
        case measure => simp [intOf]; omega
      · go_wp2_with fail
        refine (C9.out _).mono ?_
        rintro e w2 ⟨rfl, hw⟩
        have HB : Below w'.heap.size w' w2 := by
          rcases hw with rfl | rfl
          · exact Lib.bytesWorld_below _ _ _
          · exact below_then (Lib.bytesWorld_below _ _ _) (Lib.bytesWorld_below _ _ _).size (Lib.bytesWorld_below _ _ _)
        have HB := Lib.hid HB
        clear hw
        go_wp2_with fail
        go_ret2
        exact ⟨rfl, HB.out⟩
/-! The signs. -/
def sgL : List ByteArray := [⟨#[60, 60]⟩, ⟨#[62, 62]⟩, ⟨#[38, 94]⟩, ⟨#[38, 38]⟩, ⟨#[124, 124]⟩, ⟨#[61, 61]⟩, ⟨#[33, 61]⟩, ⟨#[60, 61]⟩, ⟨#[62, 61]⟩, ⟨#[58, 61]⟩, ⟨#[60, 45]⟩, ⟨#[43]⟩, ⟨#[45]⟩, ⟨#[42]⟩, ⟨#[47]⟩, ⟨#[37]⟩, ⟨#[38]⟩, ⟨#[124]⟩, ⟨#[94]⟩, ⟨#[33]⟩, ⟨#[60]⟩, ⟨#[62]⟩, ⟨#[61]⟩, ⟨#[40]⟩, ⟨#[41]⟩, ⟨#[91]⟩, ⟨#[93]⟩, ⟨#[123]⟩, ⟨#[125]⟩, ⟨#[44]⟩, ⟨#[46]⟩, ⟨#[58]⟩, ⟨#[59]⟩]
abbrev sgA : Array Value := #[.string ⟨#[60, 60]⟩, .string ⟨#[62, 62]⟩, .string ⟨#[38, 94]⟩, .string ⟨#[38, 38]⟩, .string ⟨#[124, 124]⟩, .string ⟨#[61, 61]⟩, .string ⟨#[33, 61]⟩, .string ⟨#[60, 61]⟩, .string ⟨#[62, 61]⟩, .string ⟨#[58, 61]⟩, .string ⟨#[60, 45]⟩, .string ⟨#[43]⟩, .string ⟨#[45]⟩, .string ⟨#[42]⟩, .string ⟨#[47]⟩, .string ⟨#[37]⟩, .string ⟨#[38]⟩, .string ⟨#[124]⟩, .string ⟨#[94]⟩, .string ⟨#[33]⟩, .string ⟨#[60]⟩, .string ⟨#[62]⟩, .string ⟨#[61]⟩, .string ⟨#[40]⟩, .string ⟨#[41]⟩, .string ⟨#[91]⟩, .string ⟨#[93]⟩, .string ⟨#[123]⟩, .string ⟨#[125]⟩, .string ⟨#[44]⟩, .string ⟨#[46]⟩, .string ⟨#[58]⟩, .string ⟨#[59]⟩]
def sgAt (j : Nat) : ByteArray := sgL.getD j ByteArray.empty
set_option maxRecDepth 100000 in
theorem sg_index (j : Nat) (hj : j < 33) (W : World) : (Instr.index 129 (.agg sgA) (.int .i64 (j : Int))).run Tryz.prog W = .ok (.string (sgAt j)) W := by
  have h : j = 0 ∨ j = 1 ∨ j = 2 ∨ j = 3 ∨ j = 4 ∨ j = 5 ∨ j = 6 ∨ j = 7 ∨ j = 8 ∨ j = 9 ∨ j = 10 ∨ j = 11 ∨ j = 12 ∨ j = 13 ∨ j = 14 ∨ j = 15 ∨ j = 16 ∨ j = 17 ∨ j = 18 ∨ j = 19 ∨ j = 20 ∨ j = 21 ∨ j = 22 ∨ j = 23 ∨ j = 24 ∨ j = 25 ∨ j = 26 ∨ j = 27 ∨ j = 28 ∨ j = 29 ∨ j = 30 ∨ j = 31 ∨ j = 32 := by omega
  rcases h with rfl | rfl | rfl | rfl | rfl | rfl | rfl | rfl | rfl | rfl | rfl | rfl | rfl | rfl | rfl | rfl | rfl | rfl | rfl | rfl | rfl | rfl | rfl | rfl | rfl | rfl | rfl | rfl | rfl | rfl | rfl | rfl | rfl <;> (show _ = _; kernel_rfl)
theorem sg_short : (sgL.all fun s => decide (s.data.toList.length ≤ 2)) = true := by decide +kernel
theorem sgAt_mem {j : Nat} (h : j < 33) : sgAt j ∈ sgL := by
  have hl : sgL.length = 33 := rfl
  rw [sgAt, List.getD_eq_getElem?_getD, List.getElem?_eq_getElem (by omega)]
  exact List.getElem_mem _
/-- Sign number i is the first that a text begins with. -/
def Sg (l : List UInt8) (i : Nat) : Prop := i < 33 ∧ Lib.hasPrefix l (sgAt i).data.toList = true ∧ ∀ j, j < i → Lib.hasPrefix l (sgAt j).data.toList = false
def chk (l : List UInt8) (i : Nat) : Bool := decide (i < 33) && (Lib.hasPrefix l (sgAt i).data.toList && (List.range i).all fun j => !Lib.hasPrefix l (sgAt j).data.toList)
theorem prefix_app (q l t : List UInt8) (h : q.length ≤ l.length) : Lib.hasPrefix (l ++ t) q = Lib.hasPrefix l q := by
  unfold Lib.hasPrefix
  induction q generalizing l with
  | nil => simp
  | cons a q ih =>
    cases l with
    | nil => simp at h
    | cons b l =>
      simp only [List.cons_append, List.isPrefixOf, ih l (by simpa using h)]
theorem sg_of2 (l t : List UInt8) (i : Nat) (hl : 2 ≤ l.length) (h : chk l i = true) : Sg (l ++ t) i := by
  simp only [chk, Bool.and_eq_true, decide_eq_true_eq, List.all_eq_true, List.mem_range, Bool.not_eq_true'] at h
  have hs : ∀ j, j < 33 → (sgAt j).data.toList.length ≤ l.length := fun j hj => by
    have := List.all_eq_true.1 sg_short _ (sgAt_mem hj)
    simp only [decide_eq_true_eq] at this
    omega
  exact ⟨h.1, by rw [prefix_app _ _ _ (hs i h.1)]; exact h.2.1, fun j hj => by rw [prefix_app _ _ _ (hs j (by omega))]; exact h.2.2 j hj⟩
/-- Signs of which none but one begins with a byte. -/
def lone (c : UInt8) (i : Nat) : Bool := decide (i < 33) && ((sgAt i).data.toList == [c] && (List.range i).all fun j => match (sgAt j).data.toList with | d :: _ => d != c | [] => false)
theorem sg_of1 (c : UInt8) (t : List UInt8) (i : Nat) (h : lone c i = true) : Sg (c :: t) i := by
  simp only [lone, Bool.and_eq_true, decide_eq_true_eq, List.all_eq_true, List.mem_range, beq_iff_eq] at h
  refine ⟨h.1, by rw [h.2.1]; simp [Lib.hasPrefix, List.isPrefixOf], fun j hj => ?_⟩
  have := h.2.2 j hj
  cases e : (sgAt j).data.toList with
  | nil => rw [e] at this; simp at this
  | cons d q =>
    rw [e] at this
    simp at this
    simp [Lib.hasPrefix, List.isPrefixOf, this]
theorem bang_all : ((List.range 256).all fun n => n == 61 || chk [33, UInt8.ofNat n] 19) = true := by decide +kernel
theorem ops_sg : (opsL.all fun s => (List.range 32).any fun i => (sgAt i).data.toList == s.data.toList && chk (s.data.toList ++ [32]) i) = true := by decide +kernel
theorem kb_ne {p : Pc} (h : okPc p) (hb : ∀ s, p ≠ .bin s) : ∃ c t, kb p = c :: t ∧ c ≠ 61 := by
  cases p with
  | lp => exact ⟨40, [], rfl, by decide⟩
  | rp => exact ⟨41, [], rfl, by decide⟩
  | dot => exact ⟨46, [], rfl, by decide⟩
  | atom k s =>
    have key : Alx s.data.toList → (∃ c t, s.data.toList = c :: t) → ∃ c t, kb (.atom k s) = c :: t ∧ c ≠ 61 := by
      rintro ha ⟨c, t, e⟩
      rw [e] at ha
      refine ⟨c, t, e, ?_⟩
      rintro rfl
      cases ha with
      | one _ _ hc hl _ => exact absurd hl (by decide)
      | two _ d l hc hd h hl _ => exact absurd hc (by decide)
    rcases h with ⟨-, h⟩ | ⟨-, u, -, rfl⟩ | ⟨-, rfl | rfl⟩
    · exact key (alx_nameB h) (name_ne h)
    · refine key (alx_digits (digits_lo u)) ?_
      have := digits_ne u
      cases e : Lib.decDigits u with
      | nil => exact absurd e this
      | cons c t => exact ⟨c, t, by simpa [digT] using e⟩
    · exact ⟨116, [114, 117, 101], rfl, by decide⟩
    · exact ⟨102, [97, 108, 115, 101], rfl, by decide⟩
  | un s =>
    rcases h with h | rfl
    · simp only [unaryB, Bool.or_eq_true, beq_iff_eq, Lib.toList_data] at h
      rcases h with h | h | h
      · exact ⟨45, [], h, by decide⟩
      · exact ⟨94, [], h, by decide⟩
      · exact ⟨33, [], h, by decide⟩
    · exact ⟨60, [45], rfl, by decide⟩
  | bin s => exact absurd rfl (hb s)
theorem sg_un {s : ByteArray} (h : okPc (.un s)) {ps : List Pc} (hr : runS .a ps = some .b) (hok : ∀ p ∈ ps, okPc p) : ∃ i, i < 32 ∧ sgAt i = s ∧ Sg (kb (.un s) ++ tlb (.un s) ps) i := by
  have eq : ∀ {a b : ByteArray}, a.data.toList = b.data.toList → a = b := fun e => text_eq (by rw [Lib.toList_data, Lib.toList_data]; exact e)
  rcases h with h | rfl
  · simp only [unaryB, Bool.or_eq_true, beq_iff_eq, Lib.toList_data] at h
    rcases h with h | h | h
    · exact ⟨12, by omega, eq (by rw [h]; decide +kernel), by rw [show kb (.un s) = [45] from h]; exact sg_of1 45 _ 12 (by decide +kernel)⟩
    · exact ⟨18, by omega, eq (by rw [h]; decide +kernel), by rw [show kb (.un s) = [94] from h]; exact sg_of1 94 _ 18 (by decide +kernel)⟩
    · refine ⟨19, by omega, eq (by rw [h]; decide +kernel), ?_⟩
      rw [show kb (.un s) = [33] from h, show tlb (.un s) ps = rbs ps from rfl]
      cases ps with
      | nil => simp [runS] at hr
      | cons q ps =>
        have hq : ∃ c t, rbs (q :: ps) = c :: t ∧ c ≠ 61 := by
          have hnb : ∀ s, q ≠ .bin s := by rintro s rfl; simp [runS, nxt] at hr
          obtain ⟨c, t, e, hc⟩ := kb_ne (hok q (by simp)) hnb
          refine ⟨c, t ++ tlb q ps, ?_, hc⟩
          cases q with
          | bin s => exact absurd rfl (hnb s)
          | _ =>
            rw [rbs_cons, ← List.cons_append, ← e]
            rfl
        obtain ⟨c, t, e, hc⟩ := hq
        rw [e]
        have hb := List.all_eq_true.1 bang_all c.toNat (by simp; exact c.toNat_lt)
        simp at hb
        have hcn : ¬ c.toNat = 61 := fun h => hc (by have := congrArg UInt8.ofNat h; simpa using this)
        rcases hb with h1 | h1
        · exact absurd h1 hcn
        · have := sg_of2 [33, c] t 19 (by simp) h1
          exact this
  · exact ⟨10, by omega, by decide +kernel, sg_of2 [60, 45] _ 10 (by simp) (by decide +kernel)⟩
/-- A sign is the first of the table that the text begins with. -/
theorem sg_piece {p : Pc} (h : okPc p) (ha : ∀ k s, p ≠ .atom k s) {ps : List Pc} (hr : ∀ s, p = .un s → runS .a ps = some .b) (hok : ∀ p ∈ ps, okPc p) : ∃ i, i < 32 ∧ sgAt i = (keyP p).2 ∧ Sg (kb p ++ tlb p ps) i := by
  cases p with
  | atom k s => exact absurd rfl (ha k s)
  | lp => exact ⟨23, by omega, by decide +kernel, sg_of1 40 _ 23 (by decide +kernel)⟩
  | rp => exact ⟨24, by omega, by decide +kernel, sg_of1 41 _ 24 (by decide +kernel)⟩
  | dot => exact ⟨30, by omega, by decide +kernel, sg_of1 46 _ 30 (by decide +kernel)⟩
  | un s => exact sg_un h (hr s rfl) hok
  | bin s =>
    have h1 := List.all_eq_true.1 ops_sg s (ops_of_binds h)
    simp only [List.any_eq_true, List.mem_range, Bool.and_eq_true, beq_iff_eq] at h1
    obtain ⟨i, hi, h2, h3⟩ := h1
    refine ⟨i, hi, text_eq (by rw [Lib.toList_data, Lib.toList_data]; exact h2), ?_⟩
    have := sg_of2 (s.data.toList ++ [32]) (rbs ps) i (by
      obtain ⟨c, t, e, -⟩ := kb_first (p := .bin s) h []
      have e2 : s.data.toList = c :: t := e
      rw [e2]; simp) h3
    simpa [kb, keyP, tlb] using this
theorem ops_ascii : (opsL.all fun s => match s.data.toList with | c :: _ => decide (c.toNat < 128) && (!letterB (c.toNat : Int) && !digitB (c.toNat : Int)) | [] => false) = true := by decide +kernel
/-- A sign's first byte is no letter and no digit. -/
theorem sg_byte {p : Pc} (h : okPc p) (ha : ∀ k s, p ≠ .atom k s) : ∃ c t, kb p = c :: t ∧ c.toNat < 128 ∧ letterB (c.toNat : Int) = false ∧ digitB (c.toNat : Int) = false := by
  cases p with
  | atom k s => exact absurd rfl (ha k s)
  | lp => exact ⟨40, [], rfl, by decide, by decide, by decide⟩
  | rp => exact ⟨41, [], rfl, by decide, by decide, by decide⟩
  | dot => exact ⟨46, [], rfl, by decide, by decide, by decide⟩
  | un s =>
    rcases h with h | rfl
    · simp only [unaryB, Bool.or_eq_true, beq_iff_eq, Lib.toList_data] at h
      rcases h with h | h | h
      · exact ⟨45, [], h, by decide, by decide, by decide⟩
      · exact ⟨94, [], h, by decide, by decide, by decide⟩
      · exact ⟨33, [], h, by decide, by decide, by decide⟩
    · exact ⟨60, [45], rfl, by decide, by decide, by decide⟩
  | bin s =>
    have := List.all_eq_true.1 ops_ascii s (ops_of_binds h)
    cases e : s.data.toList with
    | nil => rw [e] at this; simp at this
    | cons c t =>
      rw [e] at this
      simp at this
      exact ⟨c, t, e, this.1, this.2.1, this.2.2⟩
/-- Behind an atom no letter and no digit stands. -/
theorem ends_atom {k : Int} {s : ByteArray} {ps : List Pc} (hr : runS .b ps = some .b) : endsB (tlb (.atom k s) ps) := by
  show endsB (rbs ps)
  cases ps with
  | nil => exact .inl rfl
  | cons p ps =>
    cases p with
    | atom k s => simp [runS, nxt] at hr
    | un s => simp [runS, nxt] at hr
    | lp => simp [runS, nxt] at hr
    | rp => exact .inr ⟨41, rbs ps, rfl, by decide, by decide⟩
    | dot => exact .inr ⟨46, rbs ps, rfl, by decide, by decide⟩
    | bin s => exact .inr ⟨32, s.data.toList ++ [32] ++ rbs ps, by rw [rbs_cons, rb_bin]; simp, by decide, by decide⟩
theorem alx_decode {a : List UInt8} (h : Alx a) (hne : a ≠ []) (t : List UInt8) : Lib.decodeL (a ++ t) = Lib.decodeL a := by
  cases h with
  | nil => exact absurd rfl hne
  | one c l hc hl hr => rw [List.cons_append, Lib.decodeL_ascii _ _ hc, Lib.decodeL_ascii _ _ hc]
  | two c d l hc hd hb hl hr => rw [List.cons_append, List.cons_append, decL2 c d _ hc hd hb, decL2 c d _ hc hd hb]
theorem go_decL (s : ByteArray) (h : 0 < s.size) : Lib.decodeGo s = Lib.decodeL s.data.toList := by
  rw [go_dec s h, ← Lib.decodeL_drop]; rfl
/-- A name's first letter. -/
theorem name_letter {s : ByteArray} (h : nameB s = true) : letterB ((Lib.decodeL s.data.toList).1 : Int) = true := by
  simp only [nameB, name0, Bool.and_eq_true, decide_eq_true_eq] at h
  have h1 := h.1.1
  rw [nameFrom_step (by omega)] at h1
  simp only [Bool.and_eq_true, Bool.or_eq_true, decide_eq_true_eq] at h1
  have h2 := h1.1
  rw [← Lib.decodeL_drop] at h2
  simpa using h2
abbrev tzero : Obj := .cells #[.int .i64 0, .string ⟨#[]⟩, .int .u64 0, .int .i64 0] 85
def put4 (w : World) (g : Nat) (v0 v1 v2 v3 : Value) : World := (((w.setCell ⟨g, 0, none⟩ v0).setCell ⟨g, 1, none⟩ v1).setCell ⟨g, 2, none⟩ v2).setCell ⟨g, 3, none⟩ v3
theorem put4_same {w : World} {g : Nat} {u0 u1 u2 u3 : Value} (v0 v1 v2 v3 : Value) (h : w.heap[g]? = some (.cells #[u0, u1, u2, u3] 85 (0, 0))) : (put4 w g v0 v1 v2 v3).heap[g]? = some (.cells #[v0, v1, v2, v3] 85 (0, 0)) := by
  have h0 := heap_setCell_same w g 0 _ 85 v0 h
  have h1 := heap_setCell_same _ g 1 _ 85 v1 h0
  have h2 := heap_setCell_same _ g 2 _ 85 v2 h1
  exact heap_setCell_same _ g 3 _ 85 v3 h2
theorem put4_below {B : Nat} {a w : World} (h : Below B a w) {g : Nat} (hg : B ≤ g) (v0 v1 v2 v3 : Value) : Below B a (put4 w g v0 v1 v2 v3) :=
  (((h.setCell (p := ⟨g, 0, none⟩) hg v0).setCell (p := ⟨g, 1, none⟩) hg v1).setCell (p := ⟨g, 2, none⟩) hg v2).setCell (p := ⟨g, 3, none⟩) hg v3
theorem row4 {W : World} {g t : Nat} {fr : Nat × Nat} {v0 v1 v2 v3 : Value} (h : W.heap[g]? = some (.cells #[v0, v1, v2, v3] t fr)) :
    W.cell? ⟨g, 0, none⟩ = some v0 ∧ W.cell? ⟨g, 1, none⟩ = some v1 ∧ W.cell? ⟨g, 2, none⟩ = some v2 ∧ W.cell? ⟨g, 3, none⟩ = some v3 :=
  ⟨Lib.cell_of_heap h 0, Lib.cell_of_heap h 1, Lib.cell_of_heap h 2, Lib.cell_of_heap h 3⟩
theorem res81 {tmps : Array Value} {W : World} {g : Nat} {v0 v1 v2 v3 n k : Value} (hz : W.heap[g]? = some (.cells #[v0, v1, v2, v3] 85 (0, 0))) (hp : tmps.getD 4 undef = .pointer (some ⟨g, 0, none⟩)) (h5 : tmps.getD 5 undef = n) (h6 : tmps.getD 6 undef = k) :
    (results Tryz.f81 tmps).run Tryz.prog W = .ok (.tuple #[.agg #[v0, v1, v2, v3], n, k]) W := by
  have hp' : tmps[4]?.getD undef = .pointer (some ⟨g, 0, none⟩) := by simpa using hp
  have h5' : tmps[5]?.getD undef = n := by simpa using h5
  have h6' : tmps[6]?.getD undef = k := by simpa using h6
  simp [results, hp', h5', h6', asAddr, run_loadVar_row W g 85 85 #[v0, v1, v2, v3] (0, 0) _ hz Tryz.underlying85 rfl (by kernel_rfl)]
theorem fin81 {tmps : Array Value} {W : World} {g : Nat} {v0 v1 v2 v3 n k u0 u1 u2 u3 : Value} {R : Ending → World → Prop} (hz : W.heap[g]? = some (.cells #[u0, u1, u2, u3] 85 (0, 0))) (hp : tmps.getD 4 undef = .pointer (some ⟨g, 0, none⟩)) (h5 : tmps.getD 5 undef = n) (h6 : tmps.getD 6 undef = k)
    (h : R (.returned (.tuple #[.agg #[v0, v1, v2, v3], n, k])) (put4 W g v0 v1 v2 v3)) : bodyPost Tryz.prog Tryz.f81 R Exit.ret { tmps := tmps, defers := [] } (put4 W g v0 v1 v2 v3) :=
  bodyPost_ret (res81 (put4_same _ _ _ _ hz) hp h5 h6) rfl h
set_option maxRecDepth 100000 in
set_option maxHeartbeats 2000000 in
theorem one_word {s nm : ByteArray} {t : List UInt8} (hs : s.data.toList = nm.data.toList ++ t) (hA : Alx nm.data.toList) (hL : letterB ((Lib.decodeL nm.data.toList).1 : Int) = true) (h1 : 1 ≤ nm.size) (h64 : nm.size ≤ 64) (ht : endsB t) (a : Int) (w : World) (hE : Env w) :
    Calls Tryz.prog 81 #[.string s, .int .i64 a] w fun e w' => e = .returned (.tuple #[.agg #[.int .i64 (cond (wordB nm) 3 1), .string nm, .int .u64 0, .int .i64 a], .int .i64 nm.size, .int .i64 0]) ∧ Below w.heap.size w w' := by
  have hsl : s.data.toList.length = s.size := by rw [Array.length_toList]; rfl
  have hnl : nm.data.toList.length = nm.size := by rw [Array.length_toList]; rfl
  have hlen := congrArg List.length hs
  rw [hsl, List.length_append, hnl] at hlen
  have hne : nm.data.toList ≠ [] := by intro h; rw [h] at hnl; simp at hnl; omega
  have hdec : Lib.decodeGo s = Lib.decodeL nm.data.toList := by rw [go_decL s (by omega), hs, alx_decode hA hne]
  have hrun : runFrom s (s.size + 1) 0 = nm.size := by rw [runFrom_alx s hA (s.size + 1) 0 t (by simpa using hs) ht (by omega) (by omega), hnl]; omega
  have hx : s.extract 0 nm.size = nm := text_eq (by rw [Lib.toList_data, Lib.toList_data, ext_take, hs, ← hnl, List.take_left'] ; rfl)
  have C1 := Tryz.utf8_DecodeRuneInString s (w.alloc tzero) (hE.keep one_below).tabs
  rw [hdec] at C1
  generalize hr : (Lib.decodeL nm.data.toList).1 = r at *
  generalize hz : (Lib.decodeL nm.data.toList).2 = z at *
  have C1 := Lib.hid C1
  have C2 := Lib.hid (fun W => hrun ▸ run_any s W)
  have C3 := letterP_any (r : Int)
  rw [hL] at C3
  have C3 := Lib.hid C3
  have C4 := Lib.hid (fun W hW => wordP_any nm W h64 hW)
  have HE := Lib.hid (hE.keep (one_below (o1 := tzero)))
  have hle : nm.size ≤ s.size := by omega
  clear hE hrun hdec hr hz hL hs hA ht hsl hnl hlen hne
  go_enter Tryz.func81, Tryz.ntmps81
  go_wp2_with fail
  refine C1.out.mono ?_
  rintro e w1 ⟨rfl, hb1⟩
  have HB1 := Lib.hid hb1
  clear hb1
  go_wp2_with fail
  refine (C2.out _).mono ?_
  rintro e w2 ⟨rfl, hb2⟩
  have HB2 := Lib.hid (below_then HB1.out HB1.out.size hb2)
  clear hb2
  go_wp2_with fail
  refine (C3.out _).mono ?_
  rintro e w3 ⟨rfl, rfl⟩
  have hB3 := below_then HB2.out HB2.out.size (one_below (o1 := .cells #[.int .i64 1, .string nm, .int .u64 0, .int .i64 a] 85))
  have C5 := C4.out _ (HE.out.keep hB3)
  have hsz : w.heap.size + 1 ≤ w2.heap.size := by have := HB2.out.size; rw [size_alloc] at this; exact this
  have hnw : ¬ w.heap.size = w2.heap.size := by omega
  have hnw2 : ¬ w2.heap.size = w.heap.size := by omega
  have hrow := heap_alloc_new w2 (.cells #[.int .i64 1, .string nm, .int .u64 0, .int .i64 a] 85)
  obtain ⟨k0, k1, k2, k3⟩ := row4 hrow
  have kf := fun k => Lib.frozen_of_heap hrow k
  have hres := (hB3.block w.heap.size (by rw [size_alloc]; omega)).trans (heap_alloc_new w tzero)
  obtain ⟨z0, z1, z2, z3⟩ := row4 hres
  have zf := fun k => Lib.frozen_of_heap hres k
  have HB3 := Lib.hid hB3
  have HRES := Lib.hid hres
  have hW0 : Below w.heap.size w (w.alloc tzero) := one_below
  have HW0 := Lib.hid hW0
  clear hB3 hrow hres hsz hW0
  cases hb : wordB nm with
  | true =>
    rw [hb] at C5
    have C5 := Lib.hid C5
    have hB3 := below_then HB2.out HB2.out.size (one_below (o1 := .cells #[.int .i64 3, .string nm, .int .u64 0, .int .i64 a] 85))
    have hrow3 := heap_alloc_new w2 (.cells #[.int .i64 3, .string nm, .int .u64 0, .int .i64 a] 85)
    obtain ⟨m0, m1, m2, m3⟩ := row4 hrow3
    have hres3 := (hB3.block w.heap.size (by rw [size_alloc]; omega)).trans (heap_alloc_new w tzero)
    obtain ⟨y0, y1, y2, y3⟩ := row4 hres3
    have yf := fun k => Lib.frozen_of_heap hres3 k
    have HR3 := Lib.hid hres3
    have HB4 := Lib.hid hB3
    clear hrow3 hres3 hB3
    go_wp2_with fail
    refine C5.out.mono ?_
    rintro e w4 ⟨rfl, rfl⟩
    go_wp2_with fail
    refine fin81 (v0 := .int .i64 3) (v1 := .string nm) (v2 := .int .u64 0) (v3 := .int .i64 a) (n := .int .i64 nm.size) (k := .int .i64 0) HR3.out rfl rfl rfl ?_
    exact ⟨by rw [hb]; rfl, put4_below (HW0.out.trans (HB4.out.mono (by rw [size_alloc]; omega))) (Nat.le_refl _) _ _ _ _⟩
  | false =>
    rw [hb] at C5
    have C5 := Lib.hid C5
    go_wp2_with fail
    refine C5.out.mono ?_
    rintro e w4 ⟨rfl, rfl⟩
    go_wp2_with fail
    refine fin81 (v0 := .int .i64 1) (v1 := .string nm) (v2 := .int .u64 0) (v3 := .int .i64 a) (n := .int .i64 nm.size) (k := .int .i64 0) HRES.out rfl rfl rfl ?_
    exact ⟨by rw [hb]; rfl, put4_below (HW0.out.trans (HB3.out.mono (by rw [size_alloc]; omega))) (Nat.le_refl _) _ _ _ _⟩
set_option maxRecDepth 100000 in
set_option maxHeartbeats 2000000 in
theorem one_num {s : ByteArray} {t : List UInt8} (u : Nat) (hu : u < 18446744073709551616) (hs : s.data.toList = Lib.decDigits u ++ t) (ht : endsB t) (a : Int) (w : World) (hE : Env w) :
    Calls Tryz.prog 81 #[.string s, .int .i64 a] w fun e w' => e = .returned (.tuple #[.agg #[.int .i64 2, .string (digT u), .int .u64 u, .int .i64 a], .int .i64 (digT u).size, .int .i64 0]) ∧ Below w.heap.size w w' := by
  have hsl : s.data.toList.length = s.size := by rw [Array.length_toList]; rfl
  have hnl : (digT u).size = (Lib.decDigits u).length := by simp [digT, ba_mk]
  have hlen := congrArg List.length hs
  rw [hsl, List.length_append] at hlen
  have hne := digits_ne u
  have hpos := List.length_pos_iff.2 hne
  have hA : Alx (Lib.decDigits u) := alx_digits (digits_lo u)
  obtain ⟨c, l, hcl⟩ : ∃ c l, Lib.decDigits u = c :: l := by
    cases e : Lib.decDigits u with
    | nil => exact absurd e hne
    | cons c l => exact ⟨c, l, rfl⟩
  have hc := digits_lo u c (by rw [hcl]; simp)
  have hdec : Lib.decodeGo s = (c.toNat, 1) := by rw [go_decL s (by omega), hs, hcl]; exact Lib.decodeL_ascii _ _ (by omega)
  have hrun : runFrom s (s.size + 1) 0 = (digT u).size := by rw [runFrom_alx s hA (s.size + 1) 0 t (by simpa using hs) ht (by omega) (by omega), hnl]; omega
  have hx : s.extract 0 (digT u).size = digT u := text_eq (by rw [Lib.toList_data, Lib.toList_data, ext_take, hs, hnl, List.take_left']; simp [digT]; rfl)
  have C1 := Tryz.utf8_DecodeRuneInString s (w.alloc tzero) (hE.keep one_below).tabs
  rw [hdec] at C1
  have C1 := Lib.hid C1
  have C2 := Lib.hid (fun W => hrun ▸ run_any s W)
  have C3 := letterP_any (c.toNat : Int)
  rw [show letterB (c.toNat : Int) = false by simp [letterB]; omega] at C3
  have C3 := Lib.hid C3
  have C4 := digitP_any (c.toNat : Int)
  rw [show digitB (c.toNat : Int) = true by simp [digitB]; omega] at C4
  have C4 := Lib.hid C4
  have C5 := Lib.hid (fun W => number_any u hu W)
  have hle : (digT u).size ≤ s.size := by omega
  generalize hd : digT u = d at *
  generalize hcn : c.toNat = cn at *
  clear hE hrun hdec hs hA ht hsl hnl hlen hne hu hcl hpos hd hc hcn
  go_enter Tryz.func81, Tryz.ntmps81
  go_wp2_with fail
  refine C1.out.mono ?_
  rintro e w1 ⟨rfl, hb1⟩
  have HB1 := Lib.hid hb1
  clear hb1
  go_wp2_with fail
  refine (C2.out _).mono ?_
  rintro e w2 ⟨rfl, hb2⟩
  have HB2 := Lib.hid (below_then HB1.out HB1.out.size hb2)
  clear hb2
  go_wp2_with fail
  refine (C3.out _).mono ?_
  rintro e w3 ⟨rfl, rfl⟩
  go_wp2_with fail
  refine (C4.out _).mono ?_
  rintro e w3 ⟨rfl, rfl⟩
  go_wp2_with fail
  refine (C5.out _).mono ?_
  rintro e w3 ⟨rfl, hb3⟩
  have hB3 := below_then HB2.out HB2.out.size hb3
  have hres := (hB3.block w.heap.size (by rw [size_alloc]; omega)).trans (heap_alloc_new w tzero)
  obtain ⟨z0, z1, z2, z3⟩ := row4 hres
  have zf := fun k => Lib.frozen_of_heap hres k
  have HB3 := Lib.hid hB3
  have HRES := Lib.hid hres
  clear hB3 hres hb3
  go_wp2_with fail
  refine fin81 (v0 := .int .i64 2) (v1 := .string d) (v2 := .int .u64 u) (v3 := .int .i64 a) (n := .int .i64 d.size) (k := .int .i64 0) HRES.out rfl rfl rfl ?_
  exact ⟨rfl, put4_below ((one_below (o1 := tzero)).trans (HB3.out.mono (by rw [size_alloc]; omega))) (Nat.le_refl _) _ _ _ _⟩
/-- The table of signs as it lies. -/
def SgAt (w : World) : Prop := ∃ t fr, w.heap[1]? = some (.cells sgA t fr)
theorem SgAt.keep {w w' : World} (h : SgAt w) (hb : Below w.heap.size w w') : SgAt w' := by
  obtain ⟨t, fr, h⟩ := h
  exact ⟨t, fr, by rw [hb.block 1 (Array.getElem?_eq_some_iff.1 h).1]; exact h⟩
set_option maxRecDepth 100000 in
set_option maxHeartbeats 4000000 in
theorem one_sign {s : ByteArray} {c : UInt8} {l : List UInt8} (i : Nat) (hi : i < 32) (hs : s.data.toList = c :: l) (hc : c.toNat < 128) (hL : letterB (c.toNat : Int) = false) (hD : digitB (c.toNat : Int) = false) (hS : Sg s.data.toList i) (a : Int) (w : World) (hE : Env w) (hG : SgAt w) :
    Calls Tryz.prog 81 #[.string s, .int .i64 a] w fun e w' => e = .returned (.tuple #[.agg #[.int .i64 4, .string (sgAt i), .int .u64 0, .int .i64 a], .int .i64 (sgAt i).size, .int .i64 0]) ∧ Below w.heap.size w w' := by
  have hsl : s.data.toList.length = s.size := by rw [Array.length_toList]; rfl
  have hpos : 0 < s.size := by rw [hs] at hsl; simp at hsl; omega
  have hdec : Lib.decodeGo s = (c.toNat, 1) := by rw [go_decL s hpos, hs]; exact Lib.decodeL_ascii _ _ hc
  have C1 := Tryz.utf8_DecodeRuneInString s (w.alloc tzero) (hE.keep one_below).tabs
  rw [hdec] at C1
  have C1 := Lib.hid C1
  have C2 := Lib.hid (fun W => run_any s W)
  have C3 := letterP_any (c.toNat : Int)
  rw [hL] at C3
  have C3 := Lib.hid C3
  have C4 := digitP_any (c.toNat : Int)
  rw [hD] at C4
  have C4 := Lib.hid C4
  have HG := Lib.hid (hG.keep (one_below (o1 := tzero)))
  have HS := Lib.hid hS
  have hnsemi : (sgAt i).toList ≠ [59] := by
    have h32 : ((List.range 32).all fun i => (sgAt i).data.toList != [59]) = true := by decide +kernel
    have := List.all_eq_true.1 h32 i (by simpa using hi)
    rw [Lib.toList_data]; simpa using this
  have hns1 : ((sgAt i).toList == [59]) = false := by simpa using hnsemi
  have HI := Lib.hid hi
  generalize runFrom s (s.size + 1) 0 = n at *
  generalize hcn : c.toNat = cn at *
  clear hE hG hdec hs hsl hc hL hD hS hcn hi hnsemi
  go_enter Tryz.func81, Tryz.ntmps81
  go_wp2_with fail
  refine C1.out.mono ?_
  rintro e w1 ⟨rfl, hb1⟩
  have HB1 := Lib.hid hb1
  clear hb1
  go_wp2_with fail
  refine (C2.out _).mono ?_
  rintro e w2 ⟨rfl, hb2⟩
  have HB2 := Lib.hid (below_then HB1.out HB1.out.size hb2)
  clear hb2
  go_wp2_with fail
  refine (C3.out _).mono ?_
  rintro e w3 ⟨rfl, rfl⟩
  go_wp2_with fail
  refine (C4.out _).mono ?_
  rintro e w3 ⟨rfl, rfl⟩
  obtain ⟨t, fr, hg⟩ := HG.out.keep HB2.out
  have HGG := Lib.hid hg
  clear hg
  go_wp2_with (refine wpList_load_row rfl 129 _ rfl 1 rfl t _ fr _ HGG.out Tryz.underlying129 rfl (by kernel_rfl) ?_)
  have hres := (HB2.out.block w.heap.size (by rw [size_alloc]; omega)).trans (heap_alloc_new w tzero)
  obtain ⟨z0, z1, z2, z3⟩ := row4 hres
  have zf := fun k => Lib.frozen_of_heap hres k
  have HRES := Lib.hid hres
  clear hres
  go_loopw [60] (fun v wr => ∃ j : Nat, j ≤ i ∧ v = .int .i64 j ∧ wr = w2) (fun v _ => i + 1 - (intOf v).toNat)
  case atStart => exact ⟨0, Nat.zero_le _, rfl, rfl⟩
  case round =>
    obtain ⟨j, hj, rfl, rfl⟩ := hrel
    have hj33 : j < 33 := by have := HI.out; omega
    have hix := sg_index j hj33
    have C6 := Tryz.strings_HasPrefix s (sgAt j) wr
    by_cases hlt : j < i
    · rw [HS.out.2.2 j hlt] at C6
      have C6 := Lib.hid C6
      clear z0 z1 z2 z3 zf hns1
      go_wp2_with fail
      refine C6.out.mono ?_
      rintro e w' ⟨rfl, rfl⟩
      go_wp2_with fail
      go_roundw
      case rel => exact ⟨j + 1, by omega, by go_num, by trivial⟩
      case measure => simp [intOf]; omega
    · obtain rfl : j = i := by omega
      rw [HS.out.2.1] at C6
      have C6 := Lib.hid C6
      go_wp2_with fail
      refine C6.out.mono ?_
      rintro e w' ⟨rfl, rfl⟩
      go_wp2_with fail
      refine fin81 (v0 := .int .i64 4) (v1 := .string (sgAt j)) (v2 := .int .u64 0) (v3 := .int .i64 a) (n := .int .i64 (sgAt j).size) (k := .int .i64 0) HRES.out rfl rfl rfl ?_
      exact ⟨rfl, put4_below ((one_below (o1 := tzero)).trans (HB2.out.mono (by rw [size_alloc]; omega))) (Nat.le_refl _) _ _ _ _⟩
theorem kb_size (p : Pc) : (kb p).length = (keyP p).2.size := by unfold kb; rw [Array.length_toList]; rfl
theorem flag_word : (wordB ⟨#[116, 114, 117, 101]⟩ && wordB ⟨#[102, 97, 108, 115, 101]⟩) = true := by decide +kernel
/-- scan.one at a piece. -/
theorem one_piece {s : ByteArray} {p : Pc} {ps : List Pc} {st : St} (hp : okPc p) (hr : runS st (p :: ps) = some .b) (hok : ∀ q ∈ ps, okPc q) (hs : s.data.toList = kb p ++ tlb p ps) (a : Int) (w : World) (hE : Env w) (hG : SgAt w) :
    Calls Tryz.prog 81 #[.string s, .int .i64 a] w fun e w' => (∃ v, e = .returned (.tuple #[.agg #[.int .i64 (keyP p).1, .string (keyP p).2, .int .u64 v, .int .i64 a], .int .i64 (keyP p).2.size, .int .i64 0])) ∧ Below w.heap.size w w' := by
  have hrest : ∃ st', nxt st p = some st' ∧ runS st' ps = some .b := by
    simp only [runS] at hr
    cases h : nxt st p with
    | none => simp [h] at hr
    | some st' => exact ⟨st', rfl, by simpa [h] using hr⟩
  obtain ⟨st', hn, hr'⟩ := hrest
  by_cases ha : ∃ k b, p = .atom k b
  · obtain ⟨k, b, rfl⟩ := ha
    have hst : st' = .b := by
      cases st with
      | a => simp [nxt] at hn; exact hn.symm
      | b => simp [nxt] at hn
      | d =>
        by_cases hk : k = 1
        · simp [nxt, hk] at hn; exact hn.symm
        · simp [nxt, hk] at hn
    subst hst
    have he := ends_atom (k := k) (s := b) hr'
    rcases hp with ⟨rfl, h⟩ | ⟨rfl, u, hu, rfl⟩ | ⟨rfl, h⟩
    · have hw : wordB b = false := by simp [nameB] at h; exact h.2
      have hsz : 1 ≤ b.size ∧ b.size ≤ 64 := by simp [nameB, name0] at h; omega
      refine (one_word (nm := b) hs (alx_nameB h) (name_letter h) hsz.1 hsz.2 he a w hE).mono fun e w' ⟨h1, h2⟩ => ⟨⟨0, ?_⟩, h2⟩
      rw [h1, hw]; rfl
    · refine (one_num u hu (by simpa [kb, keyP, digT] using hs) he a w hE).mono fun e w' ⟨h1, h2⟩ => ⟨⟨u, ?_⟩, h2⟩
      rw [h1]; rfl
    · have hw : wordB b = true := by
        have := flag_word
        simp only [Bool.and_eq_true] at this
        rcases h with rfl | rfl
        · exact this.1
        · exact this.2
      have hA : Alx b.data.toList ∧ letterB ((Lib.decodeL b.data.toList).1 : Int) = true ∧ 1 ≤ b.size ∧ b.size ≤ 64 := by
        rcases h with rfl | rfl
        · refine ⟨?_, ?_, by decide, by decide⟩
          · exact .one 116 _ (by decide) (by decide) (.one 114 _ (by decide) (by decide) (.one 117 _ (by decide) (by decide) (.one 101 _ (by decide) (by decide) .nil)))
          · show letterB ((Lib.decodeL (116 :: [114, 117, 101])).1 : Int) = true
            rw [Lib.decodeL_ascii _ _ (by decide)]; decide
        · refine ⟨?_, ?_, by decide, by decide⟩
          · exact .one 102 _ (by decide) (by decide) (.one 97 _ (by decide) (by decide) (.one 108 _ (by decide) (by decide) (.one 115 _ (by decide) (by decide) (.one 101 _ (by decide) (by decide) .nil))))
          · show letterB ((Lib.decodeL (102 :: [97, 108, 115, 101])).1 : Int) = true
            rw [Lib.decodeL_ascii _ _ (by decide)]; decide
      refine (one_word (nm := b) hs hA.1 hA.2.1 hA.2.2.1 hA.2.2.2 he a w hE).mono fun e w' ⟨h1, h2⟩ => ⟨⟨0, ?_⟩, h2⟩
      rw [h1, hw]; rfl
  · have ha' : ∀ k b, p ≠ .atom k b := fun k b h => ha ⟨k, b, h⟩
    obtain ⟨c, l, e, hc, hL, hD⟩ := sg_byte hp ha'
    obtain ⟨i, hi, hsi, hS⟩ := sg_piece hp ha' (ps := ps) (by
      rintro b rfl
      cases st with
      | a => simp [nxt] at hn; rw [hn]; exact hr'
      | b => simp [nxt] at hn
      | d => simp [nxt] at hn) hok
    rw [← hs] at hS
    refine (one_sign i hi (by rw [hs, e]; rfl) hc hL hD hS a w hE hG).mono fun e w' ⟨h1, h2⟩ => ⟨⟨0, ?_⟩, h2⟩
    have hk : (keyP p).1 = 4 := by
      cases p with
      | atom k b => exact absurd rfl (ha' k b)
      | _ => rfl
    rw [h1, hsi, hk]
/-! The list of tokens. -/
def cell4 (t : Tk) : List Value := [.int .i64 t.kind, .string t.text, .int .u64 t.n, .int .i64 t.at_]
def flat4 : List Tk → List Value
  | [] => []
  | t :: l => cell4 t ++ flat4 l
theorem flat4_snoc (l : List Tk) (t : Tk) : flat4 (l ++ [t]) = flat4 l ++ cell4 t := by
  induction l with
  | nil => simp [flat4]
  | cons u l ih => simp only [List.cons_append, flat4, ih, List.append_assoc]
theorem flat4_at {l : List Tk} {i k : Nat} {t : Tk} (h : l[i]? = some t) (hk : k < 4) : (flat4 l)[i * 4 + k]? = (cell4 t)[k]? := by
  induction l generalizing i with
  | nil => simp at h
  | cons u l ih =>
    have h4 : (cell4 u).length = 4 := rfl
    cases i with
    | zero =>
      simp at h; subst h
      simp only [flat4, Nat.zero_mul, Nat.zero_add]
      rw [List.getElem?_append_left (by omega)]
    | succ i =>
      simp at h
      simp only [flat4]
      rw [List.getElem?_append_right (by omega), h4, show (i + 1) * 4 + k - 4 = i * 4 + k by omega]
      exact ih h
theorem tks_own {w : World} {B : Nat} {v : Value} {ts : List Tk} (hown : w.ownsRow B 85 4 v ts.length (flat4 ts)) (hne : ts ≠ []) : ∃ g c, v = .slice (some ⟨g, 0, none⟩) ts.length c ∧ TkAt w g 0 ts ∧ ts.length ≤ c ∧ B ≤ g ∧ g < w.heap.size := by
  have hk := hown
  rcases hown.2 with ⟨rfl, h0⟩ | ⟨g, cap, cur, rfl, hB, hg, hn, hc, hcs, ht⟩
  · exact absurd (List.eq_nil_of_length_eq_zero h0) hne
  · refine ⟨g, cap, rfl, fun i t ht => ?_, hn, hB, (Array.getElem?_eq_some_iff.1 hg).1⟩
    have hi := (List.getElem?_eq_some_iff.1 ht).1
    have e : ∀ k, k < 4 → w.cell? ⟨g, 0 + i * 4 + k, none⟩ = (cell4 t)[k]? := fun k hk4 => by
      rw [Nat.zero_add, hk.cellAt (i * 4 + k) (by omega), flat4_at ht hk4]
    exact ⟨e 0 (by omega), e 1 (by omega), e 2 (by omega), e 3 (by omega)⟩
theorem infoT : (Tryz.prog.info? 85).map (fun i => (i.zero, i.size, i.bytes)) = some (some (.agg #[.int .i64 0, .string ByteArray.empty, .int .u64 0, .int .i64 0]), 4, 40) := by kernel_rfl
theorem one4 (t : Tk) : ∀ u ∈ cell4 t, u.oneCell' = true := by intro u hu; simp [cell4] at hu; rcases hu with rfl | rfl | rfl | rfl <;> rfl
theorem add_none0 (b k : Nat) : (⟨b, 0, none⟩ : Addr).add k = ⟨b, k, none⟩ := by simp only [Addr.add]; split <;> simp_all
theorem cell_new4 (w : World) (t : Tk) (ty : TypeId) : ∀ j u, (cell4 t)[j]? = some u → (w.alloc (.cells #[.int .i64 t.kind, .string t.text, .int .u64 t.n, .int .i64 t.at_] ty)).cell? ((⟨w.heap.size, 0, none⟩ : Addr).add j) = some u := by
  intro j u hj
  rw [add_none0, cell_of_row (w.alloc (.cells #[.int .i64 t.kind, .string t.text, .int .u64 t.n, .int .i64 t.at_] ty)) w.heap.size j _ ty (0, 0) (heap_alloc_new w _)]
  rw [← hj]
  simp [cell4]
theorem cell_new4g (w : World) (t : Tk) (ty : TypeId) (g : Nat) (hg : g = w.heap.size) : ∀ j u, (cell4 t)[j]? = some u → (w.alloc (.cells #[.int .i64 t.kind, .string t.text, .int .u64 t.n, .int .i64 t.at_] ty)).cell? ((⟨g, 0, none⟩ : Addr).add j) = some u := by
  subst hg; exact cell_new4 w t ty
/-- Which token ends a statement where a line ends. -/
def endP : Pc → Bool
  | .atom _ _ => true
  | .rp => true
  | _ => false
def endsL : List ByteArray := [⟨#[98, 114, 101, 97, 107]⟩, ⟨#[99, 111, 110, 116, 105, 110, 117, 101]⟩, ⟨#[114, 101, 116, 117, 114, 110]⟩, ⟨#[116, 114, 117, 101]⟩, ⟨#[102, 97, 108, 115, 101]⟩, ⟨#[41]⟩, ⟨#[93]⟩, ⟨#[125]⟩]
set_option maxRecDepth 100000 in
set_option maxHeartbeats 2000000 in
theorem ends_any {p : Pc} (hp : okPc p) (he : endP p = true) (n a : Int) (w : World) : Calls Tryz.prog 80 #[.agg #[.int .i64 (keyP p).1, .string (keyP p).2, .int .u64 n, .int .i64 a]] w fun e w' => e = .returned (.bool true) ∧ Below w.heap.size w w' := by
  by_cases h12 : (keyP p).1 = 1 ∨ (keyP p).1 = 2
  · generalize (keyP p).2 = s
    rcases h12 with h | h
    · rw [h]
      clear h
      go_enter Tryz.func80, Tryz.ntmps80
      go_wp2_with fail
      go_ret
      exact ⟨rfl, one_below⟩
    · rw [h]
      clear h
      go_enter Tryz.func80, Tryz.ntmps80
      go_wp2_with fail
      go_ret
      exact ⟨rfl, one_below⟩
  · have hk : ((keyP p).1 = 3 ∨ (keyP p).1 = 4) ∧ Lib.containsS endsL (keyP p).2 = true := by
      cases p with
      | un s => cases he
      | bin s => cases he
      | lp => cases he
      | dot => cases he
      | rp => exact ⟨.inr rfl, by decide +kernel⟩
      | atom k s =>
        rcases hp with ⟨rfl, -⟩ | ⟨rfl, -⟩ | ⟨rfl, rfl | rfl⟩
        · exact absurd (.inl rfl) h12
        · exact absurd (.inr rfl) h12
        · exact ⟨.inl rfl, by decide +kernel⟩
        · exact ⟨.inl rfl, by decide +kernel⟩
    obtain ⟨hk, hc⟩ := hk
    generalize (keyP p).2 = s at *
    generalize (keyP p).1 = k at *
    have W2 : ∀ (W : World) (g : Nat), g = W.heap.size → Calls Tryz.prog 75 #[.slice (some ⟨g, 0, none⟩) 8 8, .string s] (W.alloc (.cells #[.string ⟨#[98, 114, 101, 97, 107]⟩, .string ⟨#[99, 111, 110, 116, 105, 110, 117, 101]⟩, .string ⟨#[114, 101, 116, 117, 114, 110]⟩, .string ⟨#[116, 114, 117, 101]⟩, .string ⟨#[102, 97, 108, 115, 101]⟩, .string ⟨#[41]⟩, .string ⟨#[93]⟩, .string ⟨#[125]⟩] 9))
        fun e w' => e = .returned (.bool true) ∧ w' = (W.alloc (.cells #[.string ⟨#[98, 114, 101, 97, 107]⟩, .string ⟨#[99, 111, 110, 116, 105, 110, 117, 101]⟩, .string ⟨#[114, 101, 116, 117, 114, 110]⟩, .string ⟨#[116, 114, 117, 101]⟩, .string ⟨#[102, 97, 108, 115, 101]⟩, .string ⟨#[41]⟩, .string ⟨#[93]⟩, .string ⟨#[125]⟩] 9)) := by
      rintro W _ rfl
      have h := Tryz.slices_Contains_string W.heap.size 0 8 8 endsL s (W.alloc (.cells #[.string ⟨#[98, 114, 101, 97, 107]⟩, .string ⟨#[99, 111, 110, 116, 105, 110, 117, 101]⟩, .string ⟨#[114, 101, 116, 117, 114, 110]⟩, .string ⟨#[116, 114, 117, 101]⟩, .string ⟨#[102, 97, 108, 115, 101]⟩, .string ⟨#[41]⟩, .string ⟨#[93]⟩, .string ⟨#[125]⟩] 9)) (by decide) (by decide) (by
        intro j hj
        have e := cell_of_row (W.alloc (.cells #[.string ⟨#[98, 114, 101, 97, 107]⟩, .string ⟨#[99, 111, 110, 116, 105, 110, 117, 101]⟩, .string ⟨#[114, 101, 116, 117, 114, 110]⟩, .string ⟨#[116, 114, 117, 101]⟩, .string ⟨#[102, 97, 108, 115, 101]⟩, .string ⟨#[41]⟩, .string ⟨#[93]⟩, .string ⟨#[125]⟩] 9)) W.heap.size j _ 9 (0, 0) (heap_alloc_new W _)
        rw [Nat.zero_add, e]
        have hj8 : j < 8 := hj
        have h8 : j = 0 ∨ j = 1 ∨ j = 2 ∨ j = 3 ∨ j = 4 ∨ j = 5 ∨ j = 6 ∨ j = 7 := by omega
        rcases h8 with rfl | rfl | rfl | rfl | rfl | rfl | rfl | rfl <;> rfl)
      rw [show endsL.take 8 = endsL from rfl, hc] at h
      exact h
    have W2 := Lib.hid W2
    clear hc h12
    rcases hk with rfl | rfl
    · go_enter Tryz.func80, Tryz.ntmps80
      go_wp2_with fail
      refine (W2.out (w.alloc (.cells #[.int .i64 3, .string s, .int .u64 n, .int .i64 a] 85)) (w.heap.size + 1) (size_alloc _ _).symm).mono ?_
      rintro e w1 ⟨rfl, rfl⟩
      go_wp2_with fail
      go_ret
      exact ⟨rfl, below_then one_below one_below.size one_below⟩
    · go_enter Tryz.func80, Tryz.ntmps80
      go_wp2_with fail
      refine (W2.out (w.alloc (.cells #[.int .i64 4, .string s, .int .u64 n, .int .i64 a] 85)) (w.heap.size + 1) (size_alloc _ _).symm).mono ?_
      rintro e w1 ⟨rfl, rfl⟩
      go_wp2_with fail
      go_ret
      exact ⟨rfl, below_then one_below one_below.size one_below⟩
theorem drop_blank (b : List UInt8) (l : List UInt8) (hb : ∀ c ∈ b, blankB c = true) : (b ++ l).dropWhile blankB = l.dropWhile blankB := by
  induction b with
  | nil => rfl
  | cons c b ih => rw [List.cons_append, List.dropWhile_cons, hb c (by simp)]; simpa using ih fun d hd => hb d (by simp [hd])
theorem lies_trim {l : List UInt8} {p : Pc} {ps : List Pc} (h : Lies l (p :: ps)) (hp : okPc p) : l.dropWhile blankB = kb p ++ tlb p ps := by
  obtain ⟨c, t, e, hb, -, -⟩ := kb_first hp ps
  have base : (kb p ++ tlb p ps).dropWhile blankB = kb p ++ tlb p ps := by rw [e, List.cons_append, List.dropWhile_cons, hb]; simp
  have one : ∀ m, m = kb p ++ tlb p ps ∨ m = 32 :: (kb p ++ tlb p ps) → m.dropWhile blankB = kb p ++ tlb p ps := by
    rintro m (rfl | rfl)
    · exact base
    · rw [← List.singleton_append, drop_blank [32] _ (by simp [blankB])]
      exact base
  rcases h with rfl | rfl
  · exact one _ (rbs_piece p ps)
  · rw [← List.singleton_append, drop_blank [32] _ (by simp [blankB])]
    exact one _ (rbs_piece p ps)
theorem lies_end {l : List UInt8} (h : Lies l []) : l.dropWhile blankB = [] := by
  rcases h with rfl | rfl
  · rfl
  · rw [rbs_nil]; rfl
/-- What scan.Tokens answers for a text of pieces. -/
def TokPost (ps : List Pc) (w : World) (e : Ending) (w' : World) : Prop :=
  Below w.heap.size w w' ∧ ∃ v a k, e = .returned (.tuple #[v, .int .i64 a, .int .i64 k]) ∧ (k = 0 → ∃ g c ts, v = .slice (some ⟨g, 0, none⟩) ts.length c ∧ Mt ps ts ∧ TkAt w' g 0 ts ∧ ts.length ≤ c ∧ g < w'.heap.size)
theorem own_slice {w : World} {B : Nat} {e : TypeId} {z : Nat} {v : Value} {n : Nat} {xs : List Value} (hown : w.ownsRow B e z v n xs) : ∃ A c, v = .slice A n c := by
  rcases hown.2 with ⟨rfl, h0⟩ | ⟨g, cap, cur, rfl, hB, hg, hn, hc, hcs, ht⟩
  · exact ⟨none, 0, by rw [h0]⟩
  · exact ⟨_, _, rfl⟩
theorem grown4 {B : Nat} {w w1 w2 : World} {v : Value} {e : TypeId} {z n : Nat} {xs : List Value} (hb : Below B w w1) (hB : B ≤ w1.heap.size) (hown : w1.ownsRow B e z v n xs) (hg : w1.grownBy w2 v.ownBlock) : Below B w w2 :=
  hb.grown hg hB (fun k hk => (hown.lt k hk).1)
theorem dropWhile_drop (f : UInt8 → Bool) (l : List UInt8) (d : Nat) (h : l.length = d + (l.dropWhile f).length) : l.drop d = l.dropWhile f := by
  obtain ⟨t, ht⟩ := List.dropWhile_suffix (p := f) (l := l)
  have := congrArg List.length ht
  rw [List.length_append] at this
  have hd : d = t.length := by omega
  rw [hd]
  conv => lhs; rw [← ht]
  exact List.drop_left
def keys (ts : List Tk) : List (Int × ByteArray) := ts.map fun t => (t.kind, t.text)
/-- What holds at the head of the loop. -/
structure Toks (s : ByteArray) (w wr : World) (all dn ps : List Pc) (pos : Nat) (ts : List Tk) (v : Value) (st : St) : Prop where
  le : pos ≤ s.size
  lies : Lies (s.data.toList.drop pos) ps
  split : all = dn ++ ps
  keys : keys ts = dn.map keyP
  own : wr.ownsRow w.heap.size 85 4 v ts.length (flat4 ts)
  pre : runS .a dn = some st
  run : runS st ps = some .b
  below : Below w.heap.size w wr
  few : ts.length ≤ 16384
theorem Toks.keep {s : ByteArray} {w wr w' : World} {all dn ps : List Pc} {pos : Nat} {ts : List Tk} {v : Value} {st : St} (h : Toks s w wr all dn ps pos ts v st) (hb : Below wr.heap.size wr w') : Toks s w w' all dn ps pos ts v st :=
  ⟨h.le, h.lies, h.split, h.keys, owns5_below h.own hb, h.pre, h.run, below_then h.below h.below.size hb, h.few⟩
/-- The last piece of a text ends it. -/
theorem last_end {dn : List Pc} (h : runS .a dn = some .b) : ∃ l p, dn = l ++ [p] ∧ endP p = true := by
  have hc : dn = [] ∨ ∃ l p, dn = l ++ [p] := by
    cases dn with
    | nil => exact .inl rfl
    | cons a l => exact .inr ⟨(a :: l).dropLast, (a :: l).getLast (by simp), (List.dropLast_concat_getLast _).symm⟩
  rcases hc with rfl | ⟨l, p, rfl⟩
  · simp [runS] at h
  · refine ⟨l, p, rfl, ?_⟩
    rw [runS_append] at h
    cases hr : runS .a l with
    | none => simp [hr] at h
    | some s =>
      simp only [hr, Option.bind_some, runS] at h
      cases hn : nxt s p with
      | none => simp [hn] at h
      | some s' =>
        simp [hn] at h
        subst h
        cases p with
        | atom k b => rfl
        | rp => rfl
        | un b => cases s <;> simp [nxt] at hn
        | bin b => cases s <;> simp [nxt] at hn
        | lp => cases s <;> simp [nxt] at hn
        | dot => cases s <;> simp [nxt] at hn
set_option maxRecDepth 100000 in
set_option maxHeartbeats 4000000 in
theorem tokens_any (s : ByteArray) (ps : List Pc) (hs : s.data.toList = rbs ps) (hrun : runS .a ps = some .b) (hok : ∀ p ∈ ps, okPc p) (w : World) (hE : Env w) (hG : SgAt w) : Calls Tryz.prog 56 #[.string s] w (TokPost ps w) := by
  by_cases hsz : s.size ≤ 65536
  · have C1 := Lib.hid (whole_any s w hsz hE)
    have HE := Lib.hid hE
    have HG := Lib.hid hG
    have HS := Lib.hid (And.intro hs (And.intro hrun hok))
    clear hs hrun hok hE hG
    go_enter Tryz.func56, Tryz.ntmps56
    go_wp2_with fail
    refine C1.out.mono ?_
    rintro e w1 ⟨⟨n, rfl⟩, hb1⟩
    have HB1 := Lib.hid hb1
    clear hb1
    by_cases hn : n < s.size
    · go_wp2_with fail
      go_ret3
      exact ⟨HB1.out, _, _, _, rfl, fun h => by cases h⟩
    · go_wp2_with fail
      go_loopg [6, 7, 8] (ps.length) (fun k lv li at_ wr => ∃ pos dn qs ts st v, k = qs.length ∧ at_ = .int .i64 ((pos : Nat) : Int) ∧ li = .int .i64 0 ∧ lv = v ∧ Toks s w wr ps dn qs pos ts v st)
      case atStart => exact ⟨0, [], ps, [], .a, _, rfl, rfl, rfl, rfl, Nat.zero_le _, .inl (by simpa using HS.out.1), rfl, rfl, World.ownsRow_nil _ _ _ _, rfl, HS.out.2.1, HB1.out, Nat.zero_le _⟩
      case round =>
        obtain ⟨pos, dn, qs, ts, st, v, rfl, rfl, rfl, rfl, hT⟩ := hrel
        have hle := hT.le
        obtain ⟨L, hL⟩ : ∃ L, s.extract pos s.size = L := ⟨_, rfl⟩
        obtain ⟨M, hM⟩ : ∃ M : ByteArray, M = ⟨(L.data.toList.dropWhile blankB).toArray⟩ := ⟨_, rfl⟩
        have hLd : L.data.toList = s.data.toList.drop pos := by rw [← hL, ext_data]
        have hLs : L.size = s.size - pos := by rw [← hL]; simp [ByteArray.size_extract]
        obtain ⟨d, hd⟩ : ∃ d, L.size = d + M.size := by
          have h1 : L.data.toList.length = L.size := by rw [Array.length_toList]; rfl
          have h2 : M.size = (L.data.toList.dropWhile blankB).length := by rw [hM]; simp [ba_mk]
          have h3 : (L.data.toList.dropWhile blankB).length ≤ L.data.toList.length := List.Sublist.length_le (List.dropWhile_sublist blankB)
          exact ⟨L.size - M.size, by omega⟩
        have HT := Lib.hid hT
        have HL := Lib.hid hL
        have C2 := fun k : Ext wr => k.call (trim_any L k.v)
        rw [← hM] at C2
        have HLM := Lib.hid (And.intro hM (And.intro hLd (And.intro hLs hd)))
        have hw1 : IntKind.i64.wrap ((L.size : Int) - (M.size : Int)) = (d : Int) := by rw [Go.IntWalk.i64_in _ (by omega)]; omega
        have hw2 : IntKind.i64.wrap ((pos : Int) + (d : Int)) = ((pos + d : Nat) : Int) := by rw [Go.IntWalk.i64_in _ (by omega)]; omega
        have hne := Ext.ne wr
        have C2 := Lib.hid C2
        clear hT hM hLd hLs hd
        go_wp2_with fail
        refine wp_region_ext (by kernel_rfl) (by kernel_rfl) ?_
        repeat (quiet_step (exact C2.out _))
        refine wpQuiet_nil ?_
        rintro _ ⟨k1, rfl⟩
        have hTk := HT.out.keep k1.b
        clear hw1 hw2 hne hL
        obtain ⟨q, hq⟩ : ∃ q, q = pos + d := ⟨_, rfl⟩
        have hpd : (pos : Int) + (d : Int) = (q : Int) := by omega
        rw [hpd]
        have HQ := Lib.hid hq
        clear hpd
        cases qs with
        | nil =>
          have hM0 : M.size = 0 := by
            rw [HLM.out.1, HLM.out.2.1, lies_end HT.out.lies]; rfl
          obtain rfl : q = s.size := by have := HLM.out.2.2; omega
          clear hq
          have C3 := Tryz.strings_HasPrefix ByteArray.empty ⟨#[47, 47]⟩ k1.v
          rw [show ByteArray.empty.data.toList = [] from rfl] at C3
          rw [show Lib.hasPrefix [] (⟨#[47, 47]⟩ : ByteArray).data.toList = false by rfl] at C3
          have C3 := Lib.hid C3
          have hst : st = .b := by have := HT.out.run; simpa [runS] using this
          subst hst
          obtain ⟨l, p, hdn, hend⟩ := last_end HT.out.pre
          have hokp : okPc p := HS.out.2.2 p (by rw [HT.out.split, hdn]; simp)
          have hk := HT.out.keys
          rw [hdn, List.map_append] at hk
          obtain ⟨ts0, t, rfl⟩ : ∃ ts0 t, ts = ts0 ++ [t] := by
            cases ts with
            | nil => simp [keys] at hk
            | cons a l2 => exact ⟨(a :: l2).dropLast, (a :: l2).getLast (by simp), (List.dropLast_concat_getLast _).symm⟩
          have hkt : t.kind = (keyP p).1 ∧ t.text = (keyP p).2 := by
            simp only [keys, List.map_append, List.map_cons, List.map_nil] at hk
            have := (List.append_inj' hk rfl).2
            simp at this
            rw [← this]; exact ⟨rfl, rfl⟩
          obtain ⟨g, c, rfl, htk, hlc, hgB, hgl⟩ := tks_own hTk.own (by simp)
          obtain ⟨m0, m1, m2, m3⟩ := htk ts0.length t (by simp)
          have C4 := fun W => ends_any hokp hend t.n t.at_ W
          rw [← hkt.1, ← hkt.2] at C4
          have C4 := Lib.hid C4
          have hfw := hTk.few
          have HTK := Lib.hid hTk
          have HKE := Lib.hid (And.intro hdn (And.intro hokp (And.intro hkt hk)))
          simp only [List.length_append, List.length_cons, List.length_nil, Nat.zero_add] at hfw m0 m1 m2 m3 hlc ⊢
          clear hTk htk hkt hk hdn hend hokp hM0 hgB hgl
          go_wp2_with fail
          refine C3.out.mono ?_
          rintro e w2 ⟨rfl, rfl⟩
          go_wp2_with fail
          refine (C4.out _).mono ?_
          rintro e w3 ⟨rfl, hb3⟩
          have hT3 := HTK.out.keep hb3
          have hown3 := hT3.own
          have HT3 := Lib.hid hT3
          have HO3 := Lib.hid hown3
          clear hb3 hT3 hown3 m0 m1 m2 m3
          by_cases hfull : 16384 ≤ ts0.length + 1
          · go_wp2_with fail
            go_ret3
            exact ⟨HT3.out.below, _, _, _, rfl, fun h => by cases h⟩
          · obtain ⟨i0, hi, hz0, hz1, hz2⟩ := info_parts infoT
            have ho : w3.ownsRow w.heap.size 85 4 (.slice (some ⟨g, 0, none⟩) (ts0.length + 1) c) (ts0.length + 1) (flat4 (ts0 ++ [t])) := by
              have := HO3.out
              simp only [List.length_append, List.length_cons, List.length_nil, Nat.zero_add] at this
              exact this
            have HO := Lib.hid ho
            have hwl : w.heap.size ≤ w3.heap.size := HT3.out.below.size
            clear ho
            go_wp2_with (at_builtin; refine wpList_append_own _ rfl _ _ 76 rfl w.heap.size 85 i0 (.agg #[.int .i64 0, .string ByteArray.empty, .int .u64 0, .int .i64 0]) 4 40 Tryz.underlying76 hi hz0 hz1 hz2 rfl (by decide) _ _ _ rfl (HO.out.alloc _) ⟨w3.heap.size, 0, none⟩ 1 1 (cell4 ⟨5, ⟨#[]⟩, 0, s.size⟩) rfl rfl (cell_new4 _ _ _) ?c2 ?c3 ?c4 ?c5 ?_)
            case c2 => exact one4 _
            case c3 => unfold maxLen; omega
            case c4 => omega
            case c5 => rw [size_alloc]; omega
            intro v' w4 hown' hgrow _
            have ho4 : w4.ownsRow w.heap.size 85 4 v' (ts0 ++ [t] ++ [(⟨5, ⟨#[]⟩, 0, (s.size : Int)⟩ : Tk)]).length (flat4 (ts0 ++ [t] ++ [(⟨5, ⟨#[]⟩, 0, (s.size : Int)⟩ : Tk)])) := by rw [flat4_snoc]; simpa using hown'
            have HB4 := Lib.hid (grown4 (HT3.out.below.alloc hwl _) (by rw [size_alloc]; omega) (HO.out.alloc _) hgrow)
            obtain ⟨g4, c4, rfl, htk4, hlc4, -, hgl4⟩ := tks_own ho4 (by simp)
            have hmt : Mt ps (ts0 ++ [t] ++ [(⟨5, ⟨#[]⟩, 0, (s.size : Int)⟩ : Tk)]) := by
              have hk := HKE.out.2.2.2
              have e1 : ps.map keyP = l.map keyP ++ [p].map keyP := by rw [HT.out.split, List.append_nil, HKE.out.1, List.map_append]
              unfold Mt
              rw [e1, ← hk, List.map_append]; rfl
            have HF := Lib.hid (And.intro hmt (And.intro htk4 (And.intro hlc4 hgl4)))
            clear hmt htk4 hlc4 hgl4 ho4 hown' hgrow hi hz0 hz1 hz2
            generalize hte : ts0 ++ [t] ++ [(⟨5, ⟨#[]⟩, 0, (s.size : Int)⟩ : Tk)] = te at *
            clear hte
            go_wp2_with fail
            go_ret3
            exact ⟨HB4.out, _, _, _, rfl, fun _ => ⟨g4, c4, te, rfl, HF.out.1, HF.out.2.1, HF.out.2.2.1, HF.out.2.2.2⟩⟩
        | cons p qs =>
          have hokp : okPc p := HS.out.2.2 p (by rw [HT.out.split]; simp)
          have hokq : ∀ x ∈ qs, okPc x := fun x hx => HS.out.2.2 x (by rw [HT.out.split]; simp [hx])
          have hMd : M.data.toList = kb p ++ tlb p qs := by
            have h1 := lies_trim HT.out.lies hokp
            rw [← HLM.out.2.1] at h1
            rw [HLM.out.1, ← h1]
          have hLl : L.data.toList.length = L.size := by rw [Array.length_toList]; rfl
          have hMl : M.data.toList.length = M.size := by rw [Array.length_toList]; rfl
          have hMw : M.data.toList = L.data.toList.dropWhile blankB := by rw [HLM.out.1]
          have hsq : s.data.toList.drop q = M.data.toList := by
            rw [hq, ← List.drop_drop, ← HLM.out.2.1, hMw]
            exact dropWhile_drop _ _ _ (by rw [← hMw, hLl, hMl]; exact HLM.out.2.2.2)
          have hqM : q + M.size = s.size := by have := HLM.out.2.2; omega
          obtain ⟨c0, t0, hkb, -, hc10, hno⟩ := kb_first hokp qs
          have hMpos : 0 < M.size := by rw [← hMl, hMd, hkb]; simp
          have hx2 : s.extract q s.size = M := text_eq (by rw [Lib.toList_data, Lib.toList_data, ext_data, hsq])
          have hnl : ∀ h : q < s.size, (((s[q]'h).toNat : Int) == 10) = false := by
            intro h
            have h2 : s.data.toList[q]? = some c0 := by
              have : (s.data.toList.drop q)[0]? = some c0 := by rw [hsq, hMd, hkb]; rfl
              simpa using this
            have h3 : s[q]'h = c0 := by
              have hl : q < s.data.toList.length := by rw [Array.length_toList]; exact h
              rw [List.getElem?_eq_getElem hl] at h2
              exact Option.some.inj h2
            rw [h3]
            have : c0.toNat ≠ 10 := fun h => hc10 (by have := congrArg UInt8.ofNat h; simpa using this)
            simp; omega
          have C3 := Tryz.strings_HasPrefix M ⟨#[47, 47]⟩ k1.v
          rw [show Lib.hasPrefix M.data.toList (⟨#[47, 47]⟩ : ByteArray).data.toList = false by
            cases h : Lib.hasPrefix M.data.toList (⟨#[47, 47]⟩ : ByteArray).data.toList with
            | false => rfl
            | true =>
              simp only [Lib.hasPrefix, List.isPrefixOf_iff_prefix] at h
              obtain ⟨m, hm⟩ := h
              exact absurd (hMd ▸ hm.symm) (hno m)] at C3
          have C3 := Lib.hid C3
          have C5 := Lib.hid (fun W hW hG => one_piece (s := M) hokp HT.out.run hokq hMd q W hW hG)
          obtain ⟨A0, c1, rfl⟩ := own_slice hTk.own
          have hql : q < s.size := by omega
          have hnl2 := hnl hql
          have hqsz : (q : Int) + ((keyP p).2.size : Int) = ((q + (keyP p).2.size : Nat) : Int) := by omega
          have hle2 : q + (keyP p).2.size ≤ s.size := by
            have h1 := congrArg List.length hMd
            rw [List.length_append, kb_size, hMl] at h1
            omega
          have hlies2 : Lies (s.data.toList.drop (q + (keyP p).2.size)) qs := by
            rw [← List.drop_drop, hsq, hMd, ← kb_size, List.drop_left]
            exact tlb_lies p qs
          have HQS := Lib.hid (And.intro hqsz (And.intro hle2 hlies2))
          have HTK := Lib.hid hTk
          have hE1 := HE.out.keep (hTk.below)
          have hG1 := HG.out.keep (hTk.below)
          have HEG := Lib.hid (And.intro hE1 hG1)
          generalize hkp2 : (keyP p).2 = kt at *
          generalize hkp1 : (keyP p).1 = kk at *
          have HKP := Lib.hid (And.intro hkp1 hkp2)
          have HX2 := Lib.hid hx2
          have hx3 := HX2.out
          clear hq hokp hokq hMd hLl hMl hMw hsq hkb hc10 hno hnl hTk hqsz hle2 hlies2 hE1 hG1 hkp1 hkp2 hx2
          go_wp2_with fail
          refine C3.out.mono ?_
          rintro e w2 ⟨rfl, rfl⟩
          go_wp2_with fail
          refine (C5.out _ HEG.out.1 HEG.out.2).mono ?_
          rintro e w3 ⟨⟨vv, rfl⟩, hb3⟩
          have hT3 := HTK.out.keep hb3
          have HT3 := Lib.hid hT3
          have HO3 := Lib.hid hT3.own
          have hfw := hT3.few
          clear hb3 hT3
          by_cases hfull : 16384 ≤ ts.length
          · go_wp2_with fail
            go_ret3
            exact ⟨(HT3.out.below).alloc HT3.out.below.size _, _, _, _, rfl, fun h => by cases h⟩
          · obtain ⟨i0, hi, hz0, hz1, hz2⟩ := info_parts infoT
            have hwl : w.heap.size ≤ w3.heap.size := HT3.out.below.size
            go_wp2_with (at_builtin; refine wpList_append_own _ rfl _ _ 76 rfl w.heap.size 85 i0 (.agg #[.int .i64 0, .string ByteArray.empty, .int .u64 0, .int .i64 0]) 4 40 Tryz.underlying76 hi hz0 hz1 hz2 rfl (by decide) _ _ _ rfl ((HO3.out.alloc _).alloc _) ⟨w3.heap.size + 1, 0, none⟩ 1 1 (cell4 ⟨kk, kt, vv, q⟩) rfl rfl (cell_new4g _ _ _ _ (size_alloc _ _).symm) ?d2 ?d3 ?d4 ?d5 ?_)
            case d2 => exact one4 _
            case d3 => unfold maxLen; omega
            case d4 => omega
            case d5 => rw [size_alloc, size_alloc]; omega
            intro v' w4 hown' hgrow _
            have ho4 : w4.ownsRow w.heap.size 85 4 v' (ts ++ [(⟨kk, kt, vv, (q : Int)⟩ : Tk)]).length (flat4 (ts ++ [(⟨kk, kt, vv, (q : Int)⟩ : Tk)])) := by rw [flat4_snoc]; simpa using hown'
            have hB4 := grown4 ((HT3.out.below.alloc hwl _).alloc (by rw [size_alloc]; omega) _) (by rw [size_alloc, size_alloc]; omega) ((HO3.out.alloc _).alloc _) hgrow
            have HO4 := Lib.hid ho4
            have HB4 := Lib.hid hB4
            have hqz := HQS.out.2.1
            clear ho4 hB4 hown' hgrow hi hz0 hz1 hz2
            go_wp2_with fail
            go_roundg qs.length
            case measure => simp
            case rel =>
              have hrun := HT.out.run
              simp only [runS] at hrun
              obtain ⟨st', hn', hr'⟩ : ∃ st', nxt st p = some st' ∧ runS st' qs = some .b := by
                cases h : nxt st p with
                | none => simp [h] at hrun
                | some st' => exact ⟨st', rfl, by simpa [h] using hrun⟩
              refine ⟨q + kt.size, dn ++ [p], qs, ts ++ [(⟨kk, kt, vv, (q : Int)⟩ : Tk)], st', _, rfl, by first | rfl | go_num, rfl, rfl, HQS.out.2.1, HQS.out.2.2, by rw [HT.out.split]; simp, ?_, HO4.out, ?_, hr', HB4.out, by simp; omega⟩
              · have := HT.out.keys
                unfold keys at this ⊢
                rw [List.map_append, this, List.map_append]
                have e : keyP p = (kk, kt) := Prod.ext HKP.out.1 HKP.out.2
                simp [e]
              · rw [runS_append, HT.out.pre]; simp [runS, hn']
  · go_enter Tryz.func56, Tryz.ntmps56
    go_wp2_with fail
    go_ret3
    exact ⟨Below.refl _ _, _, _, _, rfl, fun h => by cases h⟩
theorem below_push' {B : Nat} {w W w1 : World} {o : Obj} (h : Below B w W) (hB : B ≤ W.heap.size) (k : Below (W.alloc o).heap.size (W.alloc o) w1) : Below B w w1 :=
  below_then (h.alloc hB o) (by rw [size_alloc]; omega) k
set_option maxRecDepth 100000 in
set_option maxHeartbeats 4000000 in
theorem few_any (N : Nat) : ∀ (x : T) (A : Option Addr) (c : Nat) (w : World), x.size ≤ N → Rd w x.list A c → x.size ≤ 1048576 →
    Calls Tryz.prog 60 #[nv x A c] w fun e w' => (∃ b, e = .returned (.bool b)) ∧ Below w.heap.size w w' := by
  induction N with
  | zero => intro x A c w h; have := T.size_pos x; omega
  | succ N ih =>
    intro x A c w hN hR hs
    obtain ⟨K, t, n, p, l⟩ := x
    simp only [T.list_mk] at *
    have hse : (T.mk K t n p l).size = 1 + T.sizes l := by simp [T.size]
    have hll := T.length_le l
    rw [hse] at hN hs
    have IH := Lib.hid ih
    have HS := Lib.hid hs
    have HN := Lib.hid hN
    have HR := Lib.hid hR
    have hl8 : l.length ≤ 1048576 := by omega
    clear hR hN ih hse hs
    have hK : K = 2 ∨ K = 6 ∨ K = 4 ∨ K = 37 ∨ K = 34 ∨ K = 36 ∨ K = 13 ∨ ((K == 2) = false ∧ (K == 6) = false ∧ (K == 4) = false ∧ (K == 37) = false ∧ (K == 34) = false ∧ (K == 36) = false ∧ (K == 13) = false) := by
      simp only [beq_eq_false_iff_ne]; omega
    rcases hK with rfl | rfl | rfl | rfl | rfl | rfl | rfl | ⟨e1, e2, e3, e4, e5, e6, e7⟩
    · go_enter Tryz.func60, Tryz.ntmps60
      go_wp2_with fail
      go_loopw [28] (fun i wr => ∃ j : Nat, j ≤ l.length ∧ i = .int .i64 j ∧ Below (w.heap.size + 1) (w.alloc (nbox (T.mk 2 t n p l) A c)) wr) (fun i _ => l.length - (intOf i).toNat)
      case atStart => exact ⟨0, Nat.zero_le _, rfl, Below.refl _ _⟩
      case round =>
        obtain ⟨j, hj, rfl, hB⟩ := hrel
        by_cases hlt : j < l.length
        · obtain ⟨y, hy⟩ : ∃ y, l[j]? = some y := ⟨l[j], by simp [hlt]⟩
          obtain ⟨b, o, A', c', rfl, hc, hr⟩ := HR.out.at_ hy
          have hc := hc.below (box_below hB)
          have h0 := hc.c0
          have h1 := hc.c1
          have h2 := hc.c2
          have h3 := hc.c3
          have h4 := hc.c4
          have hy1 := T.size_le hy
          have HR' := Lib.hid hr
          have HB := Lib.hid hB
          have HY := Lib.hid hy
          clear hr hB hc hy
          go_wp2_with fail
          refine (IH.out y A' c' _ (by have := HN.out; omega) (HR'.out.keep ((box_below HB.out).alloc (by have := box_size HB.out; omega) _)) (by have := HS.out; omega)).mono ?_
          rintro e w1 ⟨⟨b1, rfl⟩, hb1⟩
          have HB1 := Lib.hid (below_push' HB.out (box_size HB.out) hb1)
          clear hb1
          cases b1 with
          | true =>
            go_wp2_with fail
            go_roundw
            case rel => exact ⟨j + 1, by omega, by go_num, HB1.out⟩
            case measure => simp [intOf]; omega
          | false =>
            go_wp2_with fail
            go_ret
            exact ⟨⟨_, rfl⟩, box_below HB1.out⟩
        · have hb4 : wr.cell? ⟨w.heap.size, 4, none⟩ = some (.slice A l.length c) := (box_cells hB).c4
          have HB := Lib.hid hB
          clear hB
          go_wp2_with fail
          go_ret
          exact ⟨⟨_, rfl⟩, box_below HB.out⟩
    · go_enter Tryz.func60, Tryz.ntmps60
      go_wp2_with fail
      go_loopw [28] (fun i wr => ∃ j : Nat, j ≤ l.length ∧ i = .int .i64 j ∧ Below (w.heap.size + 1) (w.alloc (nbox (T.mk 6 t n p l) A c)) wr) (fun i _ => l.length - (intOf i).toNat)
      case atStart => exact ⟨0, Nat.zero_le _, rfl, Below.refl _ _⟩
      case round =>
        obtain ⟨j, hj, rfl, hB⟩ := hrel
        by_cases hlt : j < l.length
        · obtain ⟨y, hy⟩ : ∃ y, l[j]? = some y := ⟨l[j], by simp [hlt]⟩
          obtain ⟨b, o, A', c', rfl, hc, hr⟩ := HR.out.at_ hy
          have hc := hc.below (box_below hB)
          have h0 := hc.c0
          have h1 := hc.c1
          have h2 := hc.c2
          have h3 := hc.c3
          have h4 := hc.c4
          have hy1 := T.size_le hy
          have HR' := Lib.hid hr
          have HB := Lib.hid hB
          have HY := Lib.hid hy
          clear hr hB hc hy
          go_wp2_with fail
          refine (IH.out y A' c' _ (by have := HN.out; omega) (HR'.out.keep ((box_below HB.out).alloc (by have := box_size HB.out; omega) _)) (by have := HS.out; omega)).mono ?_
          rintro e w1 ⟨⟨b1, rfl⟩, hb1⟩
          have HB1 := Lib.hid (below_push' HB.out (box_size HB.out) hb1)
          clear hb1
          cases b1 with
          | true =>
            go_wp2_with fail
            go_roundw
            case rel => exact ⟨j + 1, by omega, by go_num, HB1.out⟩
            case measure => simp [intOf]; omega
          | false =>
            go_wp2_with fail
            go_ret
            exact ⟨⟨_, rfl⟩, box_below HB1.out⟩
        · have hb4 : wr.cell? ⟨w.heap.size, 4, none⟩ = some (.slice A l.length c) := (box_cells hB).c4
          have HB := Lib.hid hB
          clear hB
          go_wp2_with fail
          go_ret
          exact ⟨⟨_, rfl⟩, box_below HB.out⟩
    · go_enter Tryz.func60, Tryz.ntmps60
      go_wp2_with fail
      go_loopw [28] (fun i wr => ∃ j : Nat, j ≤ l.length ∧ i = .int .i64 j ∧ Below (w.heap.size + 1) (w.alloc (nbox (T.mk 4 t n p l) A c)) wr) (fun i _ => l.length - (intOf i).toNat)
      case atStart => exact ⟨0, Nat.zero_le _, rfl, Below.refl _ _⟩
      case round =>
        obtain ⟨j, hj, rfl, hB⟩ := hrel
        by_cases hlt : j < l.length
        · obtain ⟨y, hy⟩ : ∃ y, l[j]? = some y := ⟨l[j], by simp [hlt]⟩
          obtain ⟨b, o, A', c', rfl, hc, hr⟩ := HR.out.at_ hy
          have hc := hc.below (box_below hB)
          have h0 := hc.c0
          have h1 := hc.c1
          have h2 := hc.c2
          have h3 := hc.c3
          have h4 := hc.c4
          have hy1 := T.size_le hy
          have HR' := Lib.hid hr
          have HB := Lib.hid hB
          have HY := Lib.hid hy
          clear hr hB hc hy
          go_wp2_with fail
          refine (IH.out y A' c' _ (by have := HN.out; omega) (HR'.out.keep ((box_below HB.out).alloc (by have := box_size HB.out; omega) _)) (by have := HS.out; omega)).mono ?_
          rintro e w1 ⟨⟨b1, rfl⟩, hb1⟩
          have HB1 := Lib.hid (below_push' HB.out (box_size HB.out) hb1)
          clear hb1
          cases b1 with
          | true =>
            go_wp2_with fail
            go_roundw
            case rel => exact ⟨j + 1, by omega, by go_num, HB1.out⟩
            case measure => simp [intOf]; omega
          | false =>
            go_wp2_with fail
            go_ret
            exact ⟨⟨_, rfl⟩, box_below HB1.out⟩
        · have hb4 : wr.cell? ⟨w.heap.size, 4, none⟩ = some (.slice A l.length c) := (box_cells hB).c4
          have HB := Lib.hid hB
          clear hB
          go_wp2_with fail
          go_ret
          exact ⟨⟨_, rfl⟩, box_below HB.out⟩
    · go_enter Tryz.func60, Tryz.ntmps60
      go_wp2_with fail
      go_loopw [28] (fun i wr => ∃ j : Nat, j ≤ l.length ∧ i = .int .i64 j ∧ Below (w.heap.size + 1) (w.alloc (nbox (T.mk 37 t n p l) A c)) wr) (fun i _ => l.length - (intOf i).toNat)
      case atStart => exact ⟨0, Nat.zero_le _, rfl, Below.refl _ _⟩
      case round =>
        obtain ⟨j, hj, rfl, hB⟩ := hrel
        by_cases hlt : j < l.length
        · obtain ⟨y, hy⟩ : ∃ y, l[j]? = some y := ⟨l[j], by simp [hlt]⟩
          obtain ⟨b, o, A', c', rfl, hc, hr⟩ := HR.out.at_ hy
          have hc := hc.below (box_below hB)
          have h0 := hc.c0
          have h1 := hc.c1
          have h2 := hc.c2
          have h3 := hc.c3
          have h4 := hc.c4
          have hy1 := T.size_le hy
          have HR' := Lib.hid hr
          have HB := Lib.hid hB
          have HY := Lib.hid hy
          clear hr hB hc hy
          go_wp2_with fail
          refine (IH.out y A' c' _ (by have := HN.out; omega) (HR'.out.keep ((box_below HB.out).alloc (by have := box_size HB.out; omega) _)) (by have := HS.out; omega)).mono ?_
          rintro e w1 ⟨⟨b1, rfl⟩, hb1⟩
          have HB1 := Lib.hid (below_push' HB.out (box_size HB.out) hb1)
          clear hb1
          cases b1 with
          | true =>
            go_wp2_with fail
            go_roundw
            case rel => exact ⟨j + 1, by omega, by go_num, HB1.out⟩
            case measure => simp [intOf]; omega
          | false =>
            go_wp2_with fail
            go_ret
            exact ⟨⟨_, rfl⟩, box_below HB1.out⟩
        · have hb4 : wr.cell? ⟨w.heap.size, 4, none⟩ = some (.slice A l.length c) := (box_cells hB).c4
          have HB := Lib.hid hB
          clear hB
          go_wp2_with fail
          go_ret
          exact ⟨⟨_, rfl⟩, box_below HB.out⟩
    · go_enter Tryz.func60, Tryz.ntmps60
      go_wp2_with fail
      go_loopw [28] (fun i wr => ∃ j : Nat, j ≤ l.length ∧ i = .int .i64 j ∧ Below (w.heap.size + 1) (w.alloc (nbox (T.mk 34 t n p l) A c)) wr) (fun i _ => l.length - (intOf i).toNat)
      case atStart => exact ⟨0, Nat.zero_le _, rfl, Below.refl _ _⟩
      case round =>
        obtain ⟨j, hj, rfl, hB⟩ := hrel
        by_cases hlt : j < l.length
        · obtain ⟨y, hy⟩ : ∃ y, l[j]? = some y := ⟨l[j], by simp [hlt]⟩
          obtain ⟨b, o, A', c', rfl, hc, hr⟩ := HR.out.at_ hy
          have hc := hc.below (box_below hB)
          have h0 := hc.c0
          have h1 := hc.c1
          have h2 := hc.c2
          have h3 := hc.c3
          have h4 := hc.c4
          have hy1 := T.size_le hy
          have HR' := Lib.hid hr
          have HB := Lib.hid hB
          have HY := Lib.hid hy
          clear hr hB hc hy
          go_wp2_with fail
          refine (IH.out y A' c' _ (by have := HN.out; omega) (HR'.out.keep ((box_below HB.out).alloc (by have := box_size HB.out; omega) _)) (by have := HS.out; omega)).mono ?_
          rintro e w1 ⟨⟨b1, rfl⟩, hb1⟩
          have HB1 := Lib.hid (below_push' HB.out (box_size HB.out) hb1)
          clear hb1
          cases b1 with
          | true =>
            go_wp2_with fail
            go_roundw
            case rel => exact ⟨j + 1, by omega, by go_num, HB1.out⟩
            case measure => simp [intOf]; omega
          | false =>
            go_wp2_with fail
            go_ret
            exact ⟨⟨_, rfl⟩, box_below HB1.out⟩
        · have hb4 : wr.cell? ⟨w.heap.size, 4, none⟩ = some (.slice A l.length c) := (box_cells hB).c4
          have HB := Lib.hid hB
          clear hB
          go_wp2_with fail
          go_ret
          exact ⟨⟨_, rfl⟩, box_below HB.out⟩
    · go_enter Tryz.func60, Tryz.ntmps60
      go_wp2_with fail
      go_loopw [28] (fun i wr => ∃ j : Nat, j ≤ l.length ∧ i = .int .i64 j ∧ Below (w.heap.size + 1) (w.alloc (nbox (T.mk 36 t n p l) A c)) wr) (fun i _ => l.length - (intOf i).toNat)
      case atStart => exact ⟨0, Nat.zero_le _, rfl, Below.refl _ _⟩
      case round =>
        obtain ⟨j, hj, rfl, hB⟩ := hrel
        by_cases hlt : j < l.length
        · obtain ⟨y, hy⟩ : ∃ y, l[j]? = some y := ⟨l[j], by simp [hlt]⟩
          obtain ⟨b, o, A', c', rfl, hc, hr⟩ := HR.out.at_ hy
          have hc := hc.below (box_below hB)
          have h0 := hc.c0
          have h1 := hc.c1
          have h2 := hc.c2
          have h3 := hc.c3
          have h4 := hc.c4
          have hy1 := T.size_le hy
          have HR' := Lib.hid hr
          have HB := Lib.hid hB
          have HY := Lib.hid hy
          clear hr hB hc hy
          go_wp2_with fail
          refine (IH.out y A' c' _ (by have := HN.out; omega) (HR'.out.keep ((box_below HB.out).alloc (by have := box_size HB.out; omega) _)) (by have := HS.out; omega)).mono ?_
          rintro e w1 ⟨⟨b1, rfl⟩, hb1⟩
          have HB1 := Lib.hid (below_push' HB.out (box_size HB.out) hb1)
          clear hb1
          cases b1 with
          | true =>
            go_wp2_with fail
            go_roundw
            case rel => exact ⟨j + 1, by omega, by go_num, HB1.out⟩
            case measure => simp [intOf]; omega
          | false =>
            go_wp2_with fail
            go_ret
            exact ⟨⟨_, rfl⟩, box_below HB1.out⟩
        · have hb4 : wr.cell? ⟨w.heap.size, 4, none⟩ = some (.slice A l.length c) := (box_cells hB).c4
          have HB := Lib.hid hB
          clear hB
          go_wp2_with fail
          go_ret
          exact ⟨⟨_, rfl⟩, box_below HB.out⟩
    · go_enter Tryz.func60, Tryz.ntmps60
      go_wp2_with fail
      go_loopw [28] (fun i wr => ∃ j : Nat, j ≤ l.length ∧ i = .int .i64 j ∧ Below (w.heap.size + 1) (w.alloc (nbox (T.mk 13 t n p l) A c)) wr) (fun i _ => l.length - (intOf i).toNat)
      case atStart => exact ⟨0, Nat.zero_le _, rfl, Below.refl _ _⟩
      case round =>
        obtain ⟨j, hj, rfl, hB⟩ := hrel
        by_cases hlt : j < l.length
        · obtain ⟨y, hy⟩ : ∃ y, l[j]? = some y := ⟨l[j], by simp [hlt]⟩
          obtain ⟨b, o, A', c', rfl, hc, hr⟩ := HR.out.at_ hy
          have hc := hc.below (box_below hB)
          have h0 := hc.c0
          have h1 := hc.c1
          have h2 := hc.c2
          have h3 := hc.c3
          have h4 := hc.c4
          have hy1 := T.size_le hy
          have HR' := Lib.hid hr
          have HB := Lib.hid hB
          have HY := Lib.hid hy
          clear hr hB hc hy
          go_wp2_with fail
          refine (IH.out y A' c' _ (by have := HN.out; omega) (HR'.out.keep ((box_below HB.out).alloc (by have := box_size HB.out; omega) _)) (by have := HS.out; omega)).mono ?_
          rintro e w1 ⟨⟨b1, rfl⟩, hb1⟩
          have HB1 := Lib.hid (below_push' HB.out (box_size HB.out) hb1)
          clear hb1
          cases b1 with
          | true =>
            go_wp2_with fail
            go_roundw
            case rel => exact ⟨j + 1, by omega, by go_num, HB1.out⟩
            case measure => simp [intOf]; omega
          | false =>
            go_wp2_with fail
            go_ret
            exact ⟨⟨_, rfl⟩, box_below HB1.out⟩
        · have hb4 : wr.cell? ⟨w.heap.size, 4, none⟩ = some (.slice A l.length c) := (box_cells hB).c4
          have HB := Lib.hid hB
          clear hB
          go_wp2_with fail
          go_ret
          exact ⟨⟨_, rfl⟩, box_below HB.out⟩
    · go_enter Tryz.func60, Tryz.ntmps60
      go_wp2_with fail
      go_loopw [28] (fun i wr => ∃ j : Nat, j ≤ l.length ∧ i = .int .i64 j ∧ Below (w.heap.size + 1) (w.alloc (nbox (T.mk K t n p l) A c)) wr) (fun i _ => l.length - (intOf i).toNat)
      case atStart => exact ⟨0, Nat.zero_le _, rfl, Below.refl _ _⟩
      case round =>
        obtain ⟨j, hj, rfl, hB⟩ := hrel
        by_cases hlt : j < l.length
        · obtain ⟨y, hy⟩ : ∃ y, l[j]? = some y := ⟨l[j], by simp [hlt]⟩
          obtain ⟨b, o, A', c', rfl, hc, hr⟩ := HR.out.at_ hy
          have hc := hc.below (box_below hB)
          have h0 := hc.c0
          have h1 := hc.c1
          have h2 := hc.c2
          have h3 := hc.c3
          have h4 := hc.c4
          have hy1 := T.size_le hy
          have HR' := Lib.hid hr
          have HB := Lib.hid hB
          have HY := Lib.hid hy
          clear hr hB hc hy
          go_wp2_with fail
          refine (IH.out y A' c' _ (by have := HN.out; omega) (HR'.out.keep ((box_below HB.out).alloc (by have := box_size HB.out; omega) _)) (by have := HS.out; omega)).mono ?_
          rintro e w1 ⟨⟨b1, rfl⟩, hb1⟩
          have HB1 := Lib.hid (below_push' HB.out (box_size HB.out) hb1)
          clear hb1
          cases b1 with
          | true =>
            go_wp2_with fail
            go_roundw
            case rel => exact ⟨j + 1, by omega, by go_num, HB1.out⟩
            case measure => simp [intOf]; omega
          | false =>
            go_wp2_with fail
            go_ret
            exact ⟨⟨_, rfl⟩, box_below HB1.out⟩
        · have hb4 : wr.cell? ⟨w.heap.size, 4, none⟩ = some (.slice A l.length c) := (box_cells hB).c4
          have HB := Lib.hid hB
          clear hB
          go_wp2_with fail
          go_ret
          exact ⟨⟨_, rfl⟩, box_below HB.out⟩
set_option maxRecDepth 100000 in
set_option maxHeartbeats 4000000 in
theorem depth_any (N : Nat) : ∀ (x : T) (A : Option Addr) (c : Nat) (w : World), x.size ≤ N → Rd w x.list A c → x.size ≤ 1048576 →
    Calls Tryz.prog 62 #[nv x A c] w fun e w' => (∃ k : Int, e = .returned (.int .i64 k) ∧ 0 ≤ k ∧ k ≤ x.size) ∧ Below w.heap.size w w' := by
  induction N with
  | zero => intro x A c w h; have := T.size_pos x; omega
  | succ N ih =>
    intro x A c w hN hR hs
    have hse := T.size_eq x
    have hll := T.length_le x.list
    have HSE := Lib.hid hse
    have IH := Lib.hid ih
    have HS := Lib.hid hs
    have HN := Lib.hid hN
    have HR := Lib.hid hR
    have hl8 : x.list.length ≤ 1048576 := by omega
    clear hR hN ih hse
    go_enter Tryz.func62, Tryz.ntmps62
    go_wp2_with fail
    go_loopw [3, 9] (fun k i wr => ∃ (j : Nat) (m : Int), j ≤ x.list.length ∧ i = .int .i64 j ∧ k = .int .i64 m ∧ 0 ≤ m ∧ m ≤ x.size ∧ Below (w.heap.size + 1) (w.alloc (nbox x A c)) wr) (fun _ i _ => x.list.length - (intOf i).toNat)
    case atStart => exact ⟨0, 0, Nat.zero_le _, rfl, rfl, by omega, by omega, Below.refl _ _⟩
    case round =>
      obtain ⟨j, m, hj, rfl, rfl, hm0, hm1, hB⟩ := hrel
      by_cases hlt : j < x.list.length
      · obtain ⟨y, hy⟩ : ∃ y, x.list[j]? = some y := ⟨x.list[j], by simp [hlt]⟩
        obtain ⟨b, o, A', c', rfl, hc, hr⟩ := HR.out.at_ hy
        have hc := hc.below (box_below hB)
        have h0 := hc.c0
        have h1 := hc.c1
        have h2 := hc.c2
        have h3 := hc.c3
        have h4 := hc.c4
        have hy1 := T.size_le hy
        have HR' := Lib.hid hr
        have HB := Lib.hid hB
        have HY := Lib.hid hy
        clear hr hB hc hy
        go_wp2_with fail
        refine (IH.out y A' c' _ (by have := HSE.out; have := HN.out; omega) (HR'.out.keep ((box_below HB.out).alloc (by have := box_size HB.out; omega) _)) (by have := HSE.out; omega)).mono ?_
        rintro e w1 ⟨⟨k1, rfl, hk0, hk1⟩, hb1⟩
        have HB1 := Lib.hid (below_push' HB.out (box_size HB.out) hb1)
        have hk2 : k1 + 1 ≤ x.size := by have := HSE.out; omega
        clear hb1
        go_wp2_with fail
        go_roundw
        case rel => exact ⟨j + 1, _, by omega, by go_num, rfl, by omega, by omega, HB1.out⟩
        case measure => simp [intOf]; omega
      · have HB := Lib.hid hB
        clear hB
        go_wp2_with fail
        go_ret
        exact ⟨⟨_, rfl, hm0, hm1⟩, box_below HB.out⟩
set_option maxRecDepth 100000 in
set_option maxHeartbeats 4000000 in
theorem plainP_any (N : Nat) : ∀ (x : T) (A : Option Addr) (c : Nat) (w : World), x.size ≤ N → Rd w x.list A c → x.size ≤ 1048576 →
    Calls Tryz.prog 11 #[nv x A c] w fun e w' => e = .returned (.bool x.plain) ∧ Below w.heap.size w w' := by
  induction N with
  | zero => intro x A c w h; have := T.size_pos x; omega
  | succ N ih =>
    intro x A c w hN hR hs
    obtain ⟨K, t, n, p, l⟩ := x
    simp only [T.list_mk] at *
    have hse : (T.mk K t n p l).size = 1 + T.sizes l := by simp [T.size]
    have hll := T.length_le l
    rw [hse] at hN hs
    have IH := Lib.hid ih
    have HS := Lib.hid hs
    have HN := Lib.hid hN
    have HR := Lib.hid hR
    have hl8 : l.length ≤ 1048576 := by omega
    clear hR hN ih hse hs
    have hK : (K = 30 ∨ K = 31 ∨ K = 32 ∨ K = 33 ∨ K = 39 ∨ K = 35) ∨ ((K != 30) = true ∧ (K != 31) = true ∧ (K != 32) = true ∧ (K != 33) = true ∧ (K != 39) = true ∧ (K != 35) = true) := by
      simp only [bne_iff_ne]; omega
    rcases hK with hK | ⟨e1, e2, e3, e4, e5, e6⟩
    · have HP := Lib.hid (show (T.mk K t n p l).plain = l.all T.plain by
        rw [T.plain, T.plains_all]
        rcases hK with rfl | rfl | rfl | rfl | rfl | rfl <;> rfl)
      rcases hK with rfl | rfl | rfl | rfl | rfl | rfl
      · go_enter Tryz.func11, Tryz.ntmps11
        go_wp2_with fail
        go_loopw [3] (fun i wr => ∃ j : Nat, j ≤ l.length ∧ i = .int .i64 j ∧ Below (w.heap.size + 1) (w.alloc (nbox (T.mk 30 t n p l) A c)) wr ∧ Hid ((l.take j).all T.plain = true)) (fun i _ => l.length - (intOf i).toNat)
        case atStart => exact ⟨0, Nat.zero_le _, rfl, Below.refl _ _, Lib.hid rfl⟩
        case round =>
          obtain ⟨j, hj, rfl, hB, HA⟩ := hrel
          have hb4 : wr.cell? ⟨w.heap.size, 4, none⟩ = some (.slice A l.length c) := (box_cells hB).c4
          by_cases hlt : j < l.length
          · obtain ⟨y, hy⟩ : ∃ y, l[j]? = some y := ⟨l[j], by simp [hlt]⟩
            obtain ⟨b, o, A', c', rfl, hc, hr⟩ := HR.out.at_ hy
            have hc := hc.below (box_below hB)
            have h0 := hc.c0
            have h1 := hc.c1
            have h2 := hc.c2
            have h3 := hc.c3
            have h4 := hc.c4
            have hy1 := T.size_le hy
            have HR' := Lib.hid hr
            have HB := Lib.hid hB
            have HY := Lib.hid hy
            have C1 := IH.out y A' c' wr (by have := HN.out; omega) (HR'.out.keep (box_below HB.out)) (by have := HS.out; omega)
            clear hr hB hc hy
            cases hyp : y.plain with
            | true =>
              have HN2 := Lib.hid (show (l.take (j + 1)).all T.plain = true by rw [List.take_add_one, HY.out]; simp only [List.all_append, HA.out, Option.toList_some, List.all_cons, hyp, List.all_nil, Bool.and_self])
              rw [hyp] at C1
              have C1 := Lib.hid C1
              clear hyp
              go_wp2_with fail
              refine C1.out.mono ?_
              rintro e w1 ⟨rfl, hb1⟩
              have HB1 := Lib.hid (below_then HB.out (box_size HB.out) hb1)
              clear hb1
              go_wp2_with fail
              go_roundw
              case rel => exact ⟨j + 1, by omega, by go_num, HB1.out, HN2⟩
              case measure => simp [intOf]; omega
            | false =>
              have HN2 := Lib.hid (show l.all T.plain = false by
                cases h : l.all T.plain with
                | false => rfl
                | true =>
                  have := List.all_eq_true.1 h y (List.mem_of_getElem? HY.out)
                  rw [hyp] at this; cases this)
              rw [hyp] at C1
              have C1 := Lib.hid C1
              clear hyp
              go_wp2_with fail
              refine C1.out.mono ?_
              rintro e w1 ⟨rfl, hb1⟩
              have HB1 := Lib.hid (below_then HB.out (box_size HB.out) hb1)
              clear hb1
              go_wp2_with fail
              go_ret
              exact ⟨ret_bool (by rw [HP.out, HN2.out]), box_below HB1.out⟩
          · have HN2 := Lib.hid (show l.all T.plain = true by have := HA.out; rwa [List.take_of_length_le (by omega)] at this)
            have HB := Lib.hid hB
            clear hB
            go_wp2_with fail
            go_ret
            exact ⟨ret_bool (by rw [HP.out, HN2.out]), box_below HB.out⟩
      · go_enter Tryz.func11, Tryz.ntmps11
        go_wp2_with fail
        go_loopw [3] (fun i wr => ∃ j : Nat, j ≤ l.length ∧ i = .int .i64 j ∧ Below (w.heap.size + 1) (w.alloc (nbox (T.mk 31 t n p l) A c)) wr ∧ Hid ((l.take j).all T.plain = true)) (fun i _ => l.length - (intOf i).toNat)
        case atStart => exact ⟨0, Nat.zero_le _, rfl, Below.refl _ _, Lib.hid rfl⟩
        case round =>
          obtain ⟨j, hj, rfl, hB, HA⟩ := hrel
          have hb4 : wr.cell? ⟨w.heap.size, 4, none⟩ = some (.slice A l.length c) := (box_cells hB).c4
          by_cases hlt : j < l.length
          · obtain ⟨y, hy⟩ : ∃ y, l[j]? = some y := ⟨l[j], by simp [hlt]⟩
            obtain ⟨b, o, A', c', rfl, hc, hr⟩ := HR.out.at_ hy
            have hc := hc.below (box_below hB)
            have h0 := hc.c0
            have h1 := hc.c1
            have h2 := hc.c2
            have h3 := hc.c3
            have h4 := hc.c4
            have hy1 := T.size_le hy
            have HR' := Lib.hid hr
            have HB := Lib.hid hB
            have HY := Lib.hid hy
            have C1 := IH.out y A' c' wr (by have := HN.out; omega) (HR'.out.keep (box_below HB.out)) (by have := HS.out; omega)
            clear hr hB hc hy
            cases hyp : y.plain with
            | true =>
              have HN2 := Lib.hid (show (l.take (j + 1)).all T.plain = true by rw [List.take_add_one, HY.out]; simp only [List.all_append, HA.out, Option.toList_some, List.all_cons, hyp, List.all_nil, Bool.and_self])
              rw [hyp] at C1
              have C1 := Lib.hid C1
              clear hyp
              go_wp2_with fail
              refine C1.out.mono ?_
              rintro e w1 ⟨rfl, hb1⟩
              have HB1 := Lib.hid (below_then HB.out (box_size HB.out) hb1)
              clear hb1
              go_wp2_with fail
              go_roundw
              case rel => exact ⟨j + 1, by omega, by go_num, HB1.out, HN2⟩
              case measure => simp [intOf]; omega
            | false =>
              have HN2 := Lib.hid (show l.all T.plain = false by
                cases h : l.all T.plain with
                | false => rfl
                | true =>
                  have := List.all_eq_true.1 h y (List.mem_of_getElem? HY.out)
                  rw [hyp] at this; cases this)
              rw [hyp] at C1
              have C1 := Lib.hid C1
              clear hyp
              go_wp2_with fail
              refine C1.out.mono ?_
              rintro e w1 ⟨rfl, hb1⟩
              have HB1 := Lib.hid (below_then HB.out (box_size HB.out) hb1)
              clear hb1
              go_wp2_with fail
              go_ret
              exact ⟨ret_bool (by rw [HP.out, HN2.out]), box_below HB1.out⟩
          · have HN2 := Lib.hid (show l.all T.plain = true by have := HA.out; rwa [List.take_of_length_le (by omega)] at this)
            have HB := Lib.hid hB
            clear hB
            go_wp2_with fail
            go_ret
            exact ⟨ret_bool (by rw [HP.out, HN2.out]), box_below HB.out⟩
      · go_enter Tryz.func11, Tryz.ntmps11
        go_wp2_with fail
        go_loopw [3] (fun i wr => ∃ j : Nat, j ≤ l.length ∧ i = .int .i64 j ∧ Below (w.heap.size + 1) (w.alloc (nbox (T.mk 32 t n p l) A c)) wr ∧ Hid ((l.take j).all T.plain = true)) (fun i _ => l.length - (intOf i).toNat)
        case atStart => exact ⟨0, Nat.zero_le _, rfl, Below.refl _ _, Lib.hid rfl⟩
        case round =>
          obtain ⟨j, hj, rfl, hB, HA⟩ := hrel
          have hb4 : wr.cell? ⟨w.heap.size, 4, none⟩ = some (.slice A l.length c) := (box_cells hB).c4
          by_cases hlt : j < l.length
          · obtain ⟨y, hy⟩ : ∃ y, l[j]? = some y := ⟨l[j], by simp [hlt]⟩
            obtain ⟨b, o, A', c', rfl, hc, hr⟩ := HR.out.at_ hy
            have hc := hc.below (box_below hB)
            have h0 := hc.c0
            have h1 := hc.c1
            have h2 := hc.c2
            have h3 := hc.c3
            have h4 := hc.c4
            have hy1 := T.size_le hy
            have HR' := Lib.hid hr
            have HB := Lib.hid hB
            have HY := Lib.hid hy
            have C1 := IH.out y A' c' wr (by have := HN.out; omega) (HR'.out.keep (box_below HB.out)) (by have := HS.out; omega)
            clear hr hB hc hy
            cases hyp : y.plain with
            | true =>
              have HN2 := Lib.hid (show (l.take (j + 1)).all T.plain = true by rw [List.take_add_one, HY.out]; simp only [List.all_append, HA.out, Option.toList_some, List.all_cons, hyp, List.all_nil, Bool.and_self])
              rw [hyp] at C1
              have C1 := Lib.hid C1
              clear hyp
              go_wp2_with fail
              refine C1.out.mono ?_
              rintro e w1 ⟨rfl, hb1⟩
              have HB1 := Lib.hid (below_then HB.out (box_size HB.out) hb1)
              clear hb1
              go_wp2_with fail
              go_roundw
              case rel => exact ⟨j + 1, by omega, by go_num, HB1.out, HN2⟩
              case measure => simp [intOf]; omega
            | false =>
              have HN2 := Lib.hid (show l.all T.plain = false by
                cases h : l.all T.plain with
                | false => rfl
                | true =>
                  have := List.all_eq_true.1 h y (List.mem_of_getElem? HY.out)
                  rw [hyp] at this; cases this)
              rw [hyp] at C1
              have C1 := Lib.hid C1
              clear hyp
              go_wp2_with fail
              refine C1.out.mono ?_
              rintro e w1 ⟨rfl, hb1⟩
              have HB1 := Lib.hid (below_then HB.out (box_size HB.out) hb1)
              clear hb1
              go_wp2_with fail
              go_ret
              exact ⟨ret_bool (by rw [HP.out, HN2.out]), box_below HB1.out⟩
          · have HN2 := Lib.hid (show l.all T.plain = true by have := HA.out; rwa [List.take_of_length_le (by omega)] at this)
            have HB := Lib.hid hB
            clear hB
            go_wp2_with fail
            go_ret
            exact ⟨ret_bool (by rw [HP.out, HN2.out]), box_below HB.out⟩
      · go_enter Tryz.func11, Tryz.ntmps11
        go_wp2_with fail
        go_loopw [3] (fun i wr => ∃ j : Nat, j ≤ l.length ∧ i = .int .i64 j ∧ Below (w.heap.size + 1) (w.alloc (nbox (T.mk 33 t n p l) A c)) wr ∧ Hid ((l.take j).all T.plain = true)) (fun i _ => l.length - (intOf i).toNat)
        case atStart => exact ⟨0, Nat.zero_le _, rfl, Below.refl _ _, Lib.hid rfl⟩
        case round =>
          obtain ⟨j, hj, rfl, hB, HA⟩ := hrel
          have hb4 : wr.cell? ⟨w.heap.size, 4, none⟩ = some (.slice A l.length c) := (box_cells hB).c4
          by_cases hlt : j < l.length
          · obtain ⟨y, hy⟩ : ∃ y, l[j]? = some y := ⟨l[j], by simp [hlt]⟩
            obtain ⟨b, o, A', c', rfl, hc, hr⟩ := HR.out.at_ hy
            have hc := hc.below (box_below hB)
            have h0 := hc.c0
            have h1 := hc.c1
            have h2 := hc.c2
            have h3 := hc.c3
            have h4 := hc.c4
            have hy1 := T.size_le hy
            have HR' := Lib.hid hr
            have HB := Lib.hid hB
            have HY := Lib.hid hy
            have C1 := IH.out y A' c' wr (by have := HN.out; omega) (HR'.out.keep (box_below HB.out)) (by have := HS.out; omega)
            clear hr hB hc hy
            cases hyp : y.plain with
            | true =>
              have HN2 := Lib.hid (show (l.take (j + 1)).all T.plain = true by rw [List.take_add_one, HY.out]; simp only [List.all_append, HA.out, Option.toList_some, List.all_cons, hyp, List.all_nil, Bool.and_self])
              rw [hyp] at C1
              have C1 := Lib.hid C1
              clear hyp
              go_wp2_with fail
              refine C1.out.mono ?_
              rintro e w1 ⟨rfl, hb1⟩
              have HB1 := Lib.hid (below_then HB.out (box_size HB.out) hb1)
              clear hb1
              go_wp2_with fail
              go_roundw
              case rel => exact ⟨j + 1, by omega, by go_num, HB1.out, HN2⟩
              case measure => simp [intOf]; omega
            | false =>
              have HN2 := Lib.hid (show l.all T.plain = false by
                cases h : l.all T.plain with
                | false => rfl
                | true =>
                  have := List.all_eq_true.1 h y (List.mem_of_getElem? HY.out)
                  rw [hyp] at this; cases this)
              rw [hyp] at C1
              have C1 := Lib.hid C1
              clear hyp
              go_wp2_with fail
              refine C1.out.mono ?_
              rintro e w1 ⟨rfl, hb1⟩
              have HB1 := Lib.hid (below_then HB.out (box_size HB.out) hb1)
              clear hb1
              go_wp2_with fail
              go_ret
              exact ⟨ret_bool (by rw [HP.out, HN2.out]), box_below HB1.out⟩
          · have HN2 := Lib.hid (show l.all T.plain = true by have := HA.out; rwa [List.take_of_length_le (by omega)] at this)
            have HB := Lib.hid hB
            clear hB
            go_wp2_with fail
            go_ret
            exact ⟨ret_bool (by rw [HP.out, HN2.out]), box_below HB.out⟩
      · go_enter Tryz.func11, Tryz.ntmps11
        go_wp2_with fail
        go_loopw [3] (fun i wr => ∃ j : Nat, j ≤ l.length ∧ i = .int .i64 j ∧ Below (w.heap.size + 1) (w.alloc (nbox (T.mk 39 t n p l) A c)) wr ∧ Hid ((l.take j).all T.plain = true)) (fun i _ => l.length - (intOf i).toNat)
        case atStart => exact ⟨0, Nat.zero_le _, rfl, Below.refl _ _, Lib.hid rfl⟩
        case round =>
          obtain ⟨j, hj, rfl, hB, HA⟩ := hrel
          have hb4 : wr.cell? ⟨w.heap.size, 4, none⟩ = some (.slice A l.length c) := (box_cells hB).c4
          by_cases hlt : j < l.length
          · obtain ⟨y, hy⟩ : ∃ y, l[j]? = some y := ⟨l[j], by simp [hlt]⟩
            obtain ⟨b, o, A', c', rfl, hc, hr⟩ := HR.out.at_ hy
            have hc := hc.below (box_below hB)
            have h0 := hc.c0
            have h1 := hc.c1
            have h2 := hc.c2
            have h3 := hc.c3
            have h4 := hc.c4
            have hy1 := T.size_le hy
            have HR' := Lib.hid hr
            have HB := Lib.hid hB
            have HY := Lib.hid hy
            have C1 := IH.out y A' c' wr (by have := HN.out; omega) (HR'.out.keep (box_below HB.out)) (by have := HS.out; omega)
            clear hr hB hc hy
            cases hyp : y.plain with
            | true =>
              have HN2 := Lib.hid (show (l.take (j + 1)).all T.plain = true by rw [List.take_add_one, HY.out]; simp only [List.all_append, HA.out, Option.toList_some, List.all_cons, hyp, List.all_nil, Bool.and_self])
              rw [hyp] at C1
              have C1 := Lib.hid C1
              clear hyp
              go_wp2_with fail
              refine C1.out.mono ?_
              rintro e w1 ⟨rfl, hb1⟩
              have HB1 := Lib.hid (below_then HB.out (box_size HB.out) hb1)
              clear hb1
              go_wp2_with fail
              go_roundw
              case rel => exact ⟨j + 1, by omega, by go_num, HB1.out, HN2⟩
              case measure => simp [intOf]; omega
            | false =>
              have HN2 := Lib.hid (show l.all T.plain = false by
                cases h : l.all T.plain with
                | false => rfl
                | true =>
                  have := List.all_eq_true.1 h y (List.mem_of_getElem? HY.out)
                  rw [hyp] at this; cases this)
              rw [hyp] at C1
              have C1 := Lib.hid C1
              clear hyp
              go_wp2_with fail
              refine C1.out.mono ?_
              rintro e w1 ⟨rfl, hb1⟩
              have HB1 := Lib.hid (below_then HB.out (box_size HB.out) hb1)
              clear hb1
              go_wp2_with fail
              go_ret
              exact ⟨ret_bool (by rw [HP.out, HN2.out]), box_below HB1.out⟩
          · have HN2 := Lib.hid (show l.all T.plain = true by have := HA.out; rwa [List.take_of_length_le (by omega)] at this)
            have HB := Lib.hid hB
            clear hB
            go_wp2_with fail
            go_ret
            exact ⟨ret_bool (by rw [HP.out, HN2.out]), box_below HB.out⟩
      · go_enter Tryz.func11, Tryz.ntmps11
        go_wp2_with fail
        go_loopw [3] (fun i wr => ∃ j : Nat, j ≤ l.length ∧ i = .int .i64 j ∧ Below (w.heap.size + 1) (w.alloc (nbox (T.mk 35 t n p l) A c)) wr ∧ Hid ((l.take j).all T.plain = true)) (fun i _ => l.length - (intOf i).toNat)
        case atStart => exact ⟨0, Nat.zero_le _, rfl, Below.refl _ _, Lib.hid rfl⟩
        case round =>
          obtain ⟨j, hj, rfl, hB, HA⟩ := hrel
          have hb4 : wr.cell? ⟨w.heap.size, 4, none⟩ = some (.slice A l.length c) := (box_cells hB).c4
          by_cases hlt : j < l.length
          · obtain ⟨y, hy⟩ : ∃ y, l[j]? = some y := ⟨l[j], by simp [hlt]⟩
            obtain ⟨b, o, A', c', rfl, hc, hr⟩ := HR.out.at_ hy
            have hc := hc.below (box_below hB)
            have h0 := hc.c0
            have h1 := hc.c1
            have h2 := hc.c2
            have h3 := hc.c3
            have h4 := hc.c4
            have hy1 := T.size_le hy
            have HR' := Lib.hid hr
            have HB := Lib.hid hB
            have HY := Lib.hid hy
            have C1 := IH.out y A' c' wr (by have := HN.out; omega) (HR'.out.keep (box_below HB.out)) (by have := HS.out; omega)
            clear hr hB hc hy
            cases hyp : y.plain with
            | true =>
              have HN2 := Lib.hid (show (l.take (j + 1)).all T.plain = true by rw [List.take_add_one, HY.out]; simp only [List.all_append, HA.out, Option.toList_some, List.all_cons, hyp, List.all_nil, Bool.and_self])
              rw [hyp] at C1
              have C1 := Lib.hid C1
              clear hyp
              go_wp2_with fail
              refine C1.out.mono ?_
              rintro e w1 ⟨rfl, hb1⟩
              have HB1 := Lib.hid (below_then HB.out (box_size HB.out) hb1)
              clear hb1
              go_wp2_with fail
              go_roundw
              case rel => exact ⟨j + 1, by omega, by go_num, HB1.out, HN2⟩
              case measure => simp [intOf]; omega
            | false =>
              have HN2 := Lib.hid (show l.all T.plain = false by
                cases h : l.all T.plain with
                | false => rfl
                | true =>
                  have := List.all_eq_true.1 h y (List.mem_of_getElem? HY.out)
                  rw [hyp] at this; cases this)
              rw [hyp] at C1
              have C1 := Lib.hid C1
              clear hyp
              go_wp2_with fail
              refine C1.out.mono ?_
              rintro e w1 ⟨rfl, hb1⟩
              have HB1 := Lib.hid (below_then HB.out (box_size HB.out) hb1)
              clear hb1
              go_wp2_with fail
              go_ret
              exact ⟨ret_bool (by rw [HP.out, HN2.out]), box_below HB1.out⟩
          · have HN2 := Lib.hid (show l.all T.plain = true by have := HA.out; rwa [List.take_of_length_le (by omega)] at this)
            have HB := Lib.hid hB
            clear hB
            go_wp2_with fail
            go_ret
            exact ⟨ret_bool (by rw [HP.out, HN2.out]), box_below HB.out⟩
    · have HP := Lib.hid (show (T.mk K t n p l).plain = false by
        simp only [bne_iff_ne] at e1 e2 e3 e4 e5 e6
        simp [T.plain, plainK, e1, e2, e3, e4, e5, e6])
      go_enter Tryz.func11, Tryz.ntmps11
      go_wp2_with fail
      go_ret
      exact ⟨ret_bool HP.out.symm, one_below⟩
theorem two_boxes {w wr : World} {y : T} {A' : Option Addr} {c' : Nat} {v0 v1 v2 v3 v4 : Value} (h : Below (w.heap.size + 2) ((w.alloc (.cells #[v0, v1, v2, v3, v4] 25)).alloc (nbox y A' c')) wr) :
    wr.cell? ⟨w.heap.size, 4, none⟩ = some v4 ∧ wr.cell? ⟨w.heap.size + 1, 4, none⟩ = some (.slice A' y.list.length c') ∧ Below w.heap.size w wr := by
  have h1 := heap_alloc_new (w.alloc (.cells #[v0, v1, v2, v3, v4] 25)) (nbox y A' c')
  rw [size_alloc] at h1
  have h0 := (((Below.refl (w.alloc (.cells #[v0, v1, v2, v3, v4] 25)).heap.size (w.alloc (.cells #[v0, v1, v2, v3, v4] 25))).alloc (Nat.le_refl _) (nbox y A' c')).block w.heap.size (by rw [size_alloc]; omega)).trans (heap_alloc_new w (.cells #[v0, v1, v2, v3, v4] 25))
  have k0 := (h.block w.heap.size (by omega)).trans h0
  have k1 := (h.block (w.heap.size + 1) (by omega)).trans h1
  exact ⟨Lib.cell_of_heap k0 4, Lib.cell_of_heap k1 4, below2.trans (h.mono (by omega))⟩
theorem same_list {l m : List T} (h : ∀ (k : Nat) (a b : T), l[k]? = some a → m[k]? = some b → sameB a b = true) : sameBs l m = true := by
  induction l generalizing m with
  | nil => simp [sameBs]
  | cons a l ih =>
    cases m with
    | nil => simp [sameBs]
    | cons b m =>
      simp only [sameBs, Bool.and_eq_true]
      exact ⟨h 0 a b rfl rfl, ih fun k p q hp hq => h (k + 1) p q (by simpa using hp) (by simpa using hq)⟩
theorem list_same {l m : List T} (h : sameBs l m = true) : ∀ (k : Nat) (a b : T), l[k]? = some a → m[k]? = some b → sameB a b = true := by
  induction l generalizing m with
  | nil => intro k a b h; simp at h
  | cons x l ih =>
    intro k a b ha hb
    cases m with
    | nil => simp at hb
    | cons y m =>
      simp only [sameBs, Bool.and_eq_true] at h
      cases k with
      | zero => simp at ha hb; subst ha hb; exact h.1
      | succ k => exact ih h.2 k a b (by simpa using ha) (by simpa using hb)
set_option maxRecDepth 100000 in
set_option maxHeartbeats 4000000 in
theorem same13_any (N : Nat) : ∀ (x y : T) (A A' : Option Addr) (c c' : Nat) (w : World), x.size ≤ N → Rd w x.list A c → Rd w y.list A' c' → x.size ≤ 1048576 → y.size ≤ 1048576 →
    Calls Tryz.prog 13 #[nv x A c, nv y A' c'] w fun e w' => e = .returned (.bool (sameB x y)) ∧ Below w.heap.size w w' := by
  induction N with
  | zero => intro x y A A' c c' w h; have := T.size_pos x; omega
  | succ N ih =>
    intro x y A A' c c' w hN hR hR2 hs hs2
    have hx := T.size_eq x
    have hxl := T.length_le x.list
    have hy := T.size_eq y
    have hyl := T.length_le y.list
    have hseq := sameB_eq x y
    have IH := Lib.hid ih
    have HR := Lib.hid hR
    have HR2 := Lib.hid hR2
    have HX := Lib.hid (And.intro hN (And.intro hx (And.intro hs (And.intro hy hs2))))
    have HE := Lib.hid hseq
    have hl8 : x.list.length ≤ 1048576 := by omega
    have hl9 : y.list.length ≤ 1048576 := by omega
    clear hR hR2 hN ih hx hs hy hs2 hseq
    go_enter Tryz.func13, Tryz.ntmps13
    go_wp2_with fail
    rotate_left
    · rename x.kind = y.kind => e1
      rename x.text.toList = y.text.toList => e2
      rename x.num = y.num => e3
      rename ((x.list.length : Int) != (y.list.length : Int)) = false => e4
      have hlen : x.list.length = y.list.length := by
        have : (x.list.length : Int) = (y.list.length : Int) := by simpa using e4
        omega
      have HQ := Lib.hid (And.intro e1 (And.intro e2 (And.intro e3 hlen)))
      clear e1 e2 e3 e4 hlen
      go_loopw [5] (fun i wr => ∃ j : Nat, j ≤ x.list.length ∧ i = .int .i64 j ∧ Below (w.heap.size + 2) ((w.alloc (.cells #[.int .i64 y.kind, .string x.text, .int .u64 y.num, .int .i64 x.place, .slice A x.list.length c] 25)).alloc (nbox y A' c')) wr ∧ Hid (∀ k a b, k < j → x.list[k]? = some a → y.list[k]? = some b → sameB a b = true)) (fun i _ => x.list.length - (intOf i).toNat)
      case atStart => exact ⟨0, Nat.zero_le _, rfl, Below.refl _ _, Lib.hid (fun k _ _ h => absurd h (Nat.not_lt_zero k))⟩
      case round =>
        obtain ⟨j, hj, rfl, hB, HA⟩ := hrel
        obtain ⟨b4, d4, hbw⟩ := two_boxes hB
        have HBW := Lib.hid hbw
        by_cases hlt : j < x.list.length
        · obtain ⟨a, ha⟩ : ∃ a, x.list[j]? = some a := ⟨x.list[j], by simp [hlt]⟩
          have hlt2 : j < y.list.length := by have := HQ.out.2.2.2; omega
          obtain ⟨b, hb⟩ : ∃ b, y.list[j]? = some b := ⟨y.list[j], by simp [hlt2]⟩
          obtain ⟨bx, ox, Ax, cx, rfl, hcx, hrx⟩ := HR.out.at_ ha
          obtain ⟨by_, oy, Ay, cy, rfl, hcy, hry⟩ := HR2.out.at_ hb
          have hcx := hcx.below hbw
          have hcy := hcy.below hbw
          have ha1 := T.size_le ha
          have hb1 := T.size_le hb
          obtain ⟨x0, x1, x2, x3, x4⟩ := Ext.cells hcx
          obtain ⟨y0, y1, y2, y3, y4⟩ := Ext.cells hcy
          have z4 := Ext.cell b4
          have v4 := Ext.cell d4
          have C := fun k : Ext wr => k.call (IH.out a b Ax Ay cx cy k.v (by have := HX.out; omega) ((hrx.keep hbw).keep k.b) ((hry.keep hbw).keep k.b) (by have := HX.out; omega) (by have := HX.out; omega))
          have hne := Ext.ne wr
          have HAB := Lib.hid (And.intro ha hb)
          have HB := Lib.hid hB
          cases hsm : sameB a b with
          | true =>
            rw [hsm] at C
            have HC := Lib.hid C
            have HN2 := Lib.hid (show ∀ k p q, k < j + 1 → x.list[k]? = some p → y.list[k]? = some q → sameB p q = true from fun k p q hk hp hq => by
              by_cases e : k = j
              · subst e
                rw [ha] at hp
                rw [hb] at hq
                cases hp; cases hq; exact hsm
              · exact HA.out k p q (by omega) hp hq)
            clear hcx hcy hrx hry C hB hbw ha hb hsm
            go_wp2_with fail
            refine wp_region_ext (by kernel_rfl) (by kernel_rfl) ?_
            repeat (quiet_step (exact HC.out _))
            refine wpQuiet_nil ?_
            rintro _ ⟨k, rfl⟩
            go_wp2_with fail
            go_roundw
            case rel => exact ⟨j + 1, by omega, by go_num, below_then HB.out (by have := HB.out.size; simp only [size_alloc] at this; omega) k.b, HN2⟩
            case measure => simp [intOf]; omega
          | false =>
            rw [hsm] at C
            have HC := Lib.hid C
            have HN2 := Lib.hid (show sameB x y = false by
              cases h : sameB x y with
              | false => rfl
              | true =>
                rw [HE.out] at h
                simp only [Bool.and_eq_true] at h
                have := list_same h.2.2.2.2 j a b ha hb
                rw [hsm] at this; cases this)
            clear hcx hcy hrx hry C hB ha hb hsm
            go_wp2_with fail
            refine wp_region_ext (by kernel_rfl) (by kernel_rfl) ?_
            repeat (quiet_step (exact HC.out _))
            refine wpQuiet_nil ?_
            rintro _ ⟨k, rfl⟩
            go_wp2_with fail
            go_ret
            exact ⟨ret_bool HN2.out.symm, below_then HBW.out HBW.out.size k.b⟩
        · have HEND := Lib.hid (show sameB x y = true by
            have hq := HQ.out
            have hl := same_list (l := x.list) (m := y.list) (fun k p q hp hq2 => HA.out k p q (by have := (List.getElem?_eq_some_iff.1 hp).1; omega) hp hq2)
            rw [HE.out]
            simp [hq.1, hq.2.1, hq.2.2.1, hq.2.2.2, hl])
          have HB := Lib.hid hB
          clear hB hbw
          go_wp2_with fail
          go_ret
          exact ⟨ret_bool HEND.out.symm, HBW.out⟩
    all_goals
      go_ret
      refine ⟨ret_bool ?_, below2⟩
      rw [HE.out]
      simp_all
      try (intro hh; exfalso; omega)
theorem readD_idle (a b c : Addr) (w : World) :
    CallsD Tryz.prog 57 #[.pointer (some a), .pointer (some b), .pointer (some c)] .returning w fun e u' w' => e = .returned (.tuple #[]) ∧ u' = .returning ∧ w' = w := by
  refine callsD_of_wpS Tryz.func57 rfl fun c₀ cs hu => ?_
  apply wpS_seq
  apply wpS_region
  simp [wpOpsS, go_sem, recoverD, hu, Tryz.ntmps57, Exit.thenS]
  apply wpS_seq
  apply wpS_region
  simp [wpOpsS, go_sem, recoverD, hu, Exit.thenS]
  refine wpS_cond (t := false) (by simp [Act.eval, Array.replicate]) ?_
  simp only [Bool.false_eq_true, if_false]
  refine wpS_of_wp (wp_skip ?_)
  cases c₀
  simp_all [bodyPostS, results, Tryz.results57]
theorem fin26 {tmps : Array Value} {W : World} {g : Nat} {x : T} {A : Option Addr} {c : Nat} {R : Ending → World → Prop} (hz : W.heap[g]? = zrow) (hp : tmps.getD 2 undef = .pointer (some ⟨g, 0, none⟩))
    (h : R (.returned (nv x A c)) (put5 W g (.int .i64 x.kind) (.string x.text) (.int .u64 x.num) (.int .i64 x.place) (.slice A x.list.length c))) :
    bodyPost Tryz.prog Tryz.f26 R Exit.ret { tmps := tmps, defers := [] } (put5 W g (.int .i64 x.kind) (.string x.text) (.int .u64 x.num) (.int .i64 x.place) (.slice A x.list.length c)) :=
  bodyPost_ret (results_cell_row rfl _ _ g 25 #[.int .i64 x.kind, .string x.text, .int .u64 x.num, .int .i64 x.place, .slice A x.list.length c] (0, 0) _ hp (put5_same _ _ _ _ _ hz) Tryz.underlying25 rfl (by kernel_rfl)) rfl h
theorem any_end {w w1 : World} {r n : Nat} {ps used rest : List Pc} {x : T} {A : Option Addr} {c : Nat} (hl : r < w.heap.size) (hG : Got (w.alloc zbox) w1 r n ps x A c used rest) :
    w1.heap[w.heap.size]? = zrow ∧ Got w (put5 w1 w.heap.size (.int .i64 x.kind) (.string x.text) (.int .u64 x.num) (.int .i64 x.place) (.slice A x.list.length c)) r n ps x A c used rest := by
  have hU := (unB0 hl).step hG.par
  have hsa := size_alloc w zbox
  refine ⟨hU.res, hU.par.low (put5_below (Below.refl _ _) (Nat.le_refl _) _ _ _ _ _), hG.rp.low (put5_below (Below.refl _ _) (by omega) _ _ _ _ _), ?_, hG.split, hG.run, hG.dep, hG.size⟩
  refine hG.rd.wide (by omega) (by rw [put5_size]; exact Nat.le_refl _) fun k h1 h2 => put5_other _ _ _ _ _ _ _ (by omega)
set_option maxRecDepth 100000 in
set_option maxHeartbeats 2000000 in
theorem any_call {w : World} {r n : Nat} {ps : List Pc} (hA : Ask w r n ps) : Calls Tryz.prog 26 #[.pointer (some ⟨r, 0, none⟩)] w fun e w' => ∃ x A c used rest, e = .returned (nv x A c) ∧ Got w w' r n ps x A c used rest ∧ x.need ≤ lps used ∧ stopP 1 rest := by
  have C1 := Lib.hid (expr_all ps (w.alloc zbox) r n 1 ⟨hA.rp.keep one_below, hA.run, hA.ok, hA.dep⟩ (by omega) (by omega))
  have hl := hA.rp.lt
  clear hA
  go_enter Tryz.func26, Tryz.ntmps26
  go_wp2_with fail
  refine C1.out.mono ?_
  rintro e1 w1 ⟨x, A, c, used, rest, rfl, hG, hn, hst⟩
  obtain ⟨hz, hE⟩ := any_end hl hG
  obtain ⟨⟨z0, z1, z2, z3, z4⟩, zf⟩ := zero_facts hz
  have HZ := Lib.hid hz
  have HE := Lib.hid (And.intro hE (And.intro hn hst))
  clear hz hE hG hn hst
  go_wp2_with fail
  refine fin26 (x := x) (A := A) (c := c) HZ.out rfl ?_
  exact ⟨_, _, _, _, _, rfl, HE.out.1, by have := HE.out.2.1; omega, HE.out.2.2⟩
/-- The whole text is read. -/
theorem rest_nil {rest : List Pc} {n : Nat} (hd : dep 0 rest = some 0) (hst : stopP 1 rest) (hok : ∀ p ∈ rest, okPc p) (_ : n = 0) : rest = [] := by
  cases rest with
  | nil => rfl
  | cons p q =>
    cases p with
    | rp => simp [dep] at hd
    | bin s =>
      have h1 : 0 < bindsT s := hok (.bin s) (by simp)
      simp only [stopP] at hst
      omega
    | atom k s => exact hst.elim
    | un s => exact hst.elim
    | lp => exact hst.elim
    | dot => exact hst.elim
/-- The reader's end, whatever is stored in the result. -/
theorem rp_end {w : World} {r g : Nat} (h : RP w r []) (hz : w.heap[g]? = zrow) (hg : g ≠ r) (v0 v1 v2 v3 v4 : Value) :
    ∃ tb o c e t, t.kind = 5 ∧ Rdr (put5 w g v0 v1 v2 v3 v4) r tb o c e [t] := by
  obtain ⟨tb, o, c, e, ts, hm, hr⟩ := h.rdr
  obtain ⟨t, rfl, hk⟩ : ∃ t, ts = [t] ∧ t.kind = 5 := by
    cases ts with
    | nil => simp [Mt] at hm
    | cons t ts =>
      cases ts with
      | nil => simp [Mt] at hm; exact ⟨t, rfl, hm.1⟩
      | cons u ts => simp [Mt] at hm
  have htb : tb ≠ g := by
    rintro rfl
    have h0 := (hr.tks 0 t rfl).1
    simp only [Nat.zero_mul, Nat.add_zero] at h0
    have e := Lib.cell_of_heap hz o
    rw [e] at h0
    match o, h0 with
    | 0, h0 => simp at h0; omega
    | 1, h0 => simp at h0
    | 2, h0 => simp at h0
    | 3, h0 =>
      have h1 := (hr.tks 0 t rfl).2.1
      simp only [Nat.zero_mul, Nat.add_zero] at h1
      rw [Lib.cell_of_heap hz (3 + 1)] at h1
      simp at h1
    | 4, h0 => simp at h0
    | o + 5, h0 => simp at h0
  refine ⟨tb, o, c, e, t, hk, ⟨by rw [put5_other _ _ _ _ _ _ _ (Ne.symm hg)]; exact hr.blk, hr.below, fun i u hu => ?_, hr.len⟩⟩
  have := hr.tks i u hu
  have hc : ∀ j, (put5 w g v0 v1 v2 v3 v4).cell? ⟨tb, j, none⟩ = w.cell? ⟨tb, j, none⟩ := fun j => by
    unfold World.cell?
    rw [put5_other _ _ _ _ _ _ _ htb]
  simp only [hc]
  exact this
theorem field85 (v0 v1 v2 v3 : Value) (W : World) : (Instr.field 85 (.agg #[v0, v1, v2, v3]) 0).run Tryz.prog W = .ok v0 W := by kernel_rfl
/-- What parse.read answers. -/
def ReadPost (ps : List Pc) (w : World) (e : Ending) (w' : World) : Prop :=
  Below w.heap.size w w' ∧ ∃ x A c a k, e = .returned (.tuple #[nv x A c, .int .i64 a, .int .i64 k]) ∧ (k = 0 → (∀ W' : World, (∀ j, w.heap.size + 2 < j → j < w'.heap.size → W'.heap[j]? = w'.heap[j]?) → Rd W' x.list A c) ∧ x.need ≤ lps ps ∧ x.size ≤ ps.length)
abbrev b3W (w : World) : World := ((w.alloc zbox).alloc (.cells #[.int .i64 0] 3)).alloc (.cells #[.int .i64 0] 26)
theorem b3_below (w : World) : Below w.heap.size w (b3W w) := (below2.trans ((Below.refl _ _).alloc (by rw [size_alloc, size_alloc]; omega) _))
theorem b3_size (w : World) : (b3W w).heap.size = w.heap.size + 3 := by rw [size_alloc, size_alloc, size_alloc]
theorem b3_rows (w : World) : (b3W w).heap[w.heap.size]? = zrow ∧ (b3W w).heap[w.heap.size + 1]? = some (.cells #[.int .i64 0] 3 (0, 0)) ∧ (b3W w).heap[w.heap.size + 2]? = some (.cells #[.int .i64 0] 26 (0, 0)) := by
  have h2 := heap_alloc_new ((w.alloc zbox).alloc (.cells #[.int .i64 0] 3)) (.cells #[.int .i64 0] 26)
  have h1 := heap_alloc_new (w.alloc zbox) (.cells #[.int .i64 0] 3)
  rw [size_alloc] at h1
  rw [size_alloc, size_alloc] at h2
  refine ⟨?_, ?_, h2⟩
  · rw [heap_alloc_old _ _ (by rw [size_alloc, size_alloc]; omega), heap_alloc_old _ _ (by rw [size_alloc]; omega)]
    exact heap_alloc_new w zbox
  · rw [heap_alloc_old _ _ (by rw [size_alloc, size_alloc]; omega)]
    exact h1
/-- What holds of read's boxes later on. -/
structure Late (w W : World) (x : T) (A : Option Addr) (c : Nat) (a k : Int) : Prop where
  row0 : W.heap[w.heap.size]? = some (.cells #[.int .i64 x.kind, .string x.text, .int .u64 x.num, .int .i64 x.place, .slice A x.list.length c] 25 (0, 0))
  row1 : W.heap[w.heap.size + 1]? = some (.cells #[.int .i64 a] 3 (0, 0))
  row2 : W.heap[w.heap.size + 2]? = some (.cells #[.int .i64 k] 26 (0, 0))
  below : Below w.heap.size w W
  rd : ∀ W' : World, (∀ j, w.heap.size + 2 < j → j < W.heap.size → W'.heap[j]? = W.heap[j]?) → Rd W' x.list A c
theorem Late.lt {w W : World} {x : T} {A : Option Addr} {c : Nat} {a k : Int} (h : Late w W x A c a k) : w.heap.size + 2 < W.heap.size := (Array.getElem?_eq_some_iff.1 h.row2).1
theorem Late.keep {w W W' : World} {x : T} {A : Option Addr} {c : Nat} {a k : Int} (h : Late w W x A c a k) (hb : Below W.heap.size W W') : Late w W' x A c a k :=
  have hl := h.lt
  ⟨(hb.block _ (by omega)).trans h.row0, (hb.block _ (by omega)).trans h.row1, (hb.block _ (by omega)).trans h.row2, below_then h.below h.below.size hb, fun W'' hk => h.rd W'' fun j h1 h2 => (hk j h1 (Nat.lt_of_lt_of_le h2 hb.size)).trans (hb.block j h2)⟩
theorem Late.rdd {w W : World} {x : T} {A : Option Addr} {c : Nat} {a k : Int} (h : Late w W x A c a k) : Rd W x.list A c := h.rd W fun _ _ _ => rfl
theorem Late.cells {w W : World} {x : T} {A : Option Addr} {c : Nat} {a k : Int} (h : Late w W x A c a k) :
    (W.cell? ⟨w.heap.size, 0, none⟩ = some (.int .i64 x.kind) ∧ W.cell? ⟨w.heap.size, 1, none⟩ = some (.string x.text) ∧ W.cell? ⟨w.heap.size, 2, none⟩ = some (.int .u64 x.num) ∧ W.cell? ⟨w.heap.size, 3, none⟩ = some (.int .i64 x.place) ∧ W.cell? ⟨w.heap.size, 4, none⟩ = some (.slice A x.list.length c)) ∧
      (∀ j, W.frozen? ⟨w.heap.size, j, none⟩ = false) ∧ W.cell? ⟨w.heap.size + 1, 0, none⟩ = some (.int .i64 a) ∧ W.frozen? ⟨w.heap.size + 1, 0, none⟩ = false ∧ W.cell? ⟨w.heap.size + 1 + 1, 0, none⟩ = some (.int .i64 k) ∧ W.frozen? ⟨w.heap.size + 1 + 1, 0, none⟩ = false :=
  ⟨⟨Lib.cell_of_heap h.row0 0, Lib.cell_of_heap h.row0 1, Lib.cell_of_heap h.row0 2, Lib.cell_of_heap h.row0 3, Lib.cell_of_heap h.row0 4⟩, fun j => Lib.frozen_of_heap h.row0 j, Lib.cell_of_heap h.row1 0, Lib.frozen_of_heap h.row1 0, Lib.cell_of_heap h.row2 0, Lib.frozen_of_heap h.row2 0⟩
abbrev out3 (W : World) (g : Nat) (v0 v1 v2 v3 v4 : Value) (a k : Int) : World := ((put5 W g v0 v1 v2 v3 v4).setCell ⟨g + 1, 0, none⟩ (.int .i64 a)).setCell ⟨g + 1 + 1, 0, none⟩ (.int .i64 k)
theorem res25 {tmps : Array Value} {W : World} {g : Nat} {v0 v1 v2 v3 v4 : Value} {a k : Int} (h0 : W.heap[g]? = some (.cells #[v0, v1, v2, v3, v4] 25 (0, 0))) (h1 : W.heap[g + 1]? = some (.cells #[.int .i64 a] 3 (0, 0))) (h2 : W.heap[g + 2]? = some (.cells #[.int .i64 k] 26 (0, 0)))
    (p6 : tmps.getD 6 undef = .pointer (some ⟨g, 0, none⟩)) (p7 : tmps.getD 7 undef = .pointer (some ⟨g + 1, 0, none⟩)) (p8 : tmps.getD 8 undef = .pointer (some ⟨g + 1 + 1, 0, none⟩)) :
    (results Tryz.f25 tmps).run Tryz.prog W = .ok (.tuple #[.agg #[v0, v1, v2, v3, v4], .int .i64 a, .int .i64 k]) W := by
  have q6 : tmps[6]?.getD undef = .pointer (some ⟨g, 0, none⟩) := by simpa using p6
  have q7 : tmps[7]?.getD undef = .pointer (some ⟨g + 1, 0, none⟩) := by simpa using p7
  have q8 : tmps[8]?.getD undef = .pointer (some ⟨g + 1 + 1, 0, none⟩) := by simpa using p8
  have c1 : W.cell? ⟨g + 1, 0, none⟩ = some (.int .i64 a) := Lib.cell_of_heap h1 0
  have c2 : W.cell? ⟨g + 1 + 1, 0, none⟩ = some (.int .i64 k) := Lib.cell_of_heap h2 0
  simp [results, q6, q7, q8, asAddr, run_loadVar_row W g 25 25 #[v0, v1, v2, v3, v4] (0, 0) _ h0 Tryz.underlying25 rfl (by kernel_rfl)]
  simp [go_sem, c1, c2]
theorem out3_rows {w W : World} {x : T} {A : Option Addr} {c : Nat} {a k : Int} (h : Late w W x A c a k) (y : T) (A' : Option Addr) (c' : Nat) (a' k' : Int) :
    (out3 W w.heap.size (.int .i64 y.kind) (.string y.text) (.int .u64 y.num) (.int .i64 y.place) (.slice A' y.list.length c') a' k').heap[w.heap.size]? = some (.cells #[.int .i64 y.kind, .string y.text, .int .u64 y.num, .int .i64 y.place, .slice A' y.list.length c'] 25 (0, 0)) ∧
    (out3 W w.heap.size (.int .i64 y.kind) (.string y.text) (.int .u64 y.num) (.int .i64 y.place) (.slice A' y.list.length c') a' k').heap[w.heap.size + 1]? = some (.cells #[.int .i64 a'] 3 (0, 0)) ∧
    (out3 W w.heap.size (.int .i64 y.kind) (.string y.text) (.int .u64 y.num) (.int .i64 y.place) (.slice A' y.list.length c') a' k').heap[w.heap.size + 2]? = some (.cells #[.int .i64 k'] 26 (0, 0)) ∧
    Below w.heap.size w (out3 W w.heap.size (.int .i64 y.kind) (.string y.text) (.int .u64 y.num) (.int .i64 y.place) (.slice A' y.list.length c') a' k') ∧
    (∀ W' : World, (∀ j, w.heap.size + 2 < j → j < (out3 W w.heap.size (.int .i64 y.kind) (.string y.text) (.int .u64 y.num) (.int .i64 y.place) (.slice A' y.list.length c') a' k').heap.size → W'.heap[j]? = (out3 W w.heap.size (.int .i64 y.kind) (.string y.text) (.int .u64 y.num) (.int .i64 y.place) (.slice A' y.list.length c') a' k').heap[j]?) → Rd W' x.list A c) := by
  have e0 := put5_same (.int .i64 y.kind) (.string y.text) (.int .u64 y.num) (.int .i64 y.place) (.slice A' y.list.length c') h.row0
  refine ⟨?_, ?_, ?_, ?_, ?_⟩
  · rw [heap_setCell_other _ _ _ _ (by show w.heap.size ≠ w.heap.size + 1 + 1; omega), heap_setCell_other _ _ _ _ (by show w.heap.size ≠ w.heap.size + 1; omega)]
    exact e0
  · rw [heap_setCell_other _ _ _ _ (by show w.heap.size + 1 ≠ w.heap.size + 1 + 1; omega)]
    exact heap_setCell_same _ _ 0 _ 3 _ ((put5_other _ _ _ _ _ _ _ (by omega)).trans h.row1)
  · exact heap_setCell_same _ _ 0 _ 26 _ ((heap_setCell_other _ _ _ _ (by show w.heap.size + 2 ≠ w.heap.size + 1; omega)).trans ((put5_other _ _ _ _ _ _ _ (by omega)).trans h.row2))
  · exact ((put5_below h.below (Nat.le_refl _) _ _ _ _ _).setCell (p := ⟨w.heap.size + 1, 0, none⟩) (by show w.heap.size ≤ w.heap.size + 1; omega) _).setCell (p := ⟨w.heap.size + 1 + 1, 0, none⟩) (by show w.heap.size ≤ w.heap.size + 1 + 1; omega) _
  · intro W' hk
    refine h.rd _ fun j h1 h2 => ?_
    rw [hk j h1 (by simp [put5, World.setCell]; exact h2), heap_setCell_other _ _ _ _ (by show j ≠ w.heap.size + 1 + 1; omega), heap_setCell_other _ _ _ _ (by show j ≠ w.heap.size + 1; omega), put5_other _ _ _ _ _ _ _ (by omega)]
theorem door25 {tmps : Array Value} {w W : World} {ps : List Pc} {x : T} {A : Option Addr} {c : Nat} {a k : Int} (h : Late w W x A c a k) (y : T) (A' : Option Addr) (c' : Nat) (a' k' : Int)
    (p6 : tmps.getD 6 undef = .pointer (some ⟨w.heap.size, 0, none⟩)) (p7 : tmps.getD 7 undef = .pointer (some ⟨w.heap.size + 1, 0, none⟩)) (p8 : tmps.getD 8 undef = .pointer (some ⟨w.heap.size + 1 + 1, 0, none⟩))
    (hp : k' = 0 → y = x ∧ A' = A ∧ c' = c ∧ x.need ≤ lps ps ∧ x.size ≤ ps.length) :
    bodyPostD Tryz.prog Tryz.f25 (ReadPost ps w) Exit.ret { tmps := tmps, defers := [{ target := Target.fn (Fn.func 57) #[.pointer (some ⟨w.heap.size, 0, none⟩), .pointer (some ⟨w.heap.size + 1, 0, none⟩), .pointer (some ⟨w.heap.size + 1 + 1, 0, none⟩)], args := #[] }] }
      (out3 W w.heap.size (.int .i64 y.kind) (.string y.text) (.int .u64 y.num) (.int .i64 y.place) (.slice A' y.list.length c') a' k') := by
  obtain ⟨h0, h1, h2, h3, h4⟩ := out3_rows h y A' c' a' k'
  refine leaves_cons (f := 57) (args := #[.pointer (some ⟨w.heap.size, 0, none⟩), .pointer (some ⟨w.heap.size + 1, 0, none⟩), .pointer (some ⟨w.heap.size + 1 + 1, 0, none⟩)]) (by simp) (by simp [go_sem]) ?_
  refine (readD_idle _ _ _ _).mono ?_
  rintro e u' w'' ⟨rfl, rfl, rfl⟩
  refine ⟨_, res25 h0 h1 h2 p6 p7 p8, h3, y, A', c', a', k', rfl, fun hk => ?_⟩
  obtain ⟨rfl, rfl, rfl, hn, hs⟩ := hp hk
  exact ⟨h4, hn, hs⟩
theorem door25e {tmps : Array Value} {w W : World} {ps : List Pc} {x : T} {A : Option Addr} {c : Nat} {a k : Int} (h : Late w W x A c a k) (y : T) (A' : Option Addr) (c' : Nat) (a' k' : Int)
    (p6 : tmps.getD 6 undef = .pointer (some ⟨w.heap.size, 0, none⟩)) (p7 : tmps.getD 7 undef = .pointer (some ⟨w.heap.size + 1, 0, none⟩)) (p8 : tmps.getD 8 undef = .pointer (some ⟨w.heap.size + 1 + 1, 0, none⟩))
    (hp : k' ≠ 0) :
    bodyPostD Tryz.prog Tryz.f25 (ReadPost ps w) Exit.ret { tmps := tmps, defers := [] }
      (out3 W w.heap.size (.int .i64 y.kind) (.string y.text) (.int .u64 y.num) (.int .i64 y.place) (.slice A' y.list.length c') a' k').drew := by
  obtain ⟨h0, h1, h2, h3, h4⟩ := out3_rows h y A' c' a' k'
  generalize out3 W w.heap.size (.int .i64 y.kind) (.string y.text) (.int .u64 y.num) (.int .i64 y.place) (.slice A' y.list.length c') a' k' = V at *
  exact ⟨_, res25 (W := V.drew) h0 h1 h2 p6 p7 p8, h3.drew, y, A', c', a', k', rfl, fun hk => absurd hk hp⟩
set_option maxRecDepth 100000 in
set_option maxHeartbeats 4000000 in
theorem read_any (s : ByteArray) (ps : List Pc) (hs : s.data.toList = rbs ps) (hrun : runS .a ps = some .b) (hok : ∀ p ∈ ps, okPc p) (hdep : dep 0 ps = some 0) (hlen : ps.length ≤ 1048576) (w : World) (hE : Env w) (hG : SgAt w) :
    Calls Tryz.prog 25 #[.string s, .bool true, .func (.func 26) #[] #[]] w (ReadPost ps w) := by
  have hb3 := b3_below w
  have C1 := Lib.hid (tokens_any s ps hs hrun hok (b3W w) (hE.keep hb3) (hG.keep hb3))
  obtain ⟨r0, r1, r2⟩ := b3_rows w
  have HR := Lib.hid (And.intro r0 (And.intro r1 r2))
  have HB := Lib.hid hb3
  have HS := Lib.hid (And.intro hrun (And.intro hok (And.intro hdep hlen)))
  have HE := Lib.hid hE
  have hmk := makes
  have hfd := field85
  clear hs hrun hok hdep hlen hE hG hb3 r0 r1 r2
  go_enter_defers Tryz.func25, Tryz.ntmps25
  go_wp2_with fail
  refine C1.out.mono ?_
  rintro e w1 ⟨hb1, v, a, k, rfl, hk⟩
  have hsz := b3_size w
  have k0 := (hb1.block w.heap.size (by omega)).trans HR.out.1
  have k1 := (hb1.block (w.heap.size + 1) (by omega)).trans HR.out.2.1
  have k2 := (hb1.block (w.heap.size + 2) (by omega)).trans HR.out.2.2
  have c1 := Lib.cell_of_heap k1 0
  have c2 := Lib.cell_of_heap k2 0
  have f1 := Lib.frozen_of_heap k1 0
  have f2 := Lib.frozen_of_heap k2 0
  obtain ⟨⟨z0, z1, z2, z3, z4⟩, zf⟩ := zero_facts k0
  have HK := Lib.hid hk
  have HB1 := Lib.hid hb1
  have HKS := Lib.hid (And.intro k0 (And.intro k1 k2))
  have HSZ := Lib.hid hsz
  clear hk hb1 k0 k1 k2 hsz
  by_cases hk0 : k = 0
  · subst hk0
    obtain ⟨g, c, ts, rfl, hm, htk, hlc, hgl⟩ := HK.out rfl
    have hgne : g ≠ w.heap.size + 1 ∧ g ≠ w.heap.size + 2 := by
      have hts : 0 < ts.length := by
        have := congrArg List.length hm
        simp at this; omega
      obtain ⟨t, ht⟩ : ∃ t, ts[0]? = some t := ⟨ts[0], by simp⟩
      have h1 := (htk 0 t ht).2.1
      simp only [Nat.zero_mul, Nat.zero_add] at h1
      constructor
      · rintro rfl
        rw [Lib.cell_of_heap HKS.out.2.1 1] at h1; simp at h1
      · rintro rfl
        rw [Lib.cell_of_heap HKS.out.2.2 1] at h1; simp at h1
    obtain ⟨WS, hWS⟩ : ∃ WS, WS = (w1.setCell ⟨w.heap.size + 1, 0, none⟩ (.int .i64 a)).setCell ⟨w.heap.size + 1 + 1, 0, none⟩ (.int .i64 0) := ⟨_, rfl⟩
    have hbS : Below (w.heap.size + 1) w1 WS := by
      rw [hWS]
      exact ((Below.refl _ _).setCell (p := ⟨w.heap.size + 1, 0, none⟩) (by show w.heap.size + 1 ≤ w.heap.size + 1; omega) _).setCell (p := ⟨w.heap.size + 1 + 1, 0, none⟩) (by show w.heap.size + 1 ≤ w.heap.size + 1 + 1; omega) _
    have hsS : WS.heap.size = w1.heap.size := by rw [hWS]; simp [World.setCell]
    have hoS : ∀ j, j ≠ w.heap.size + 1 → j ≠ w.heap.size + 2 → WS.heap[j]? = w1.heap[j]? := fun j h1 h2 => by
      rw [hWS, heap_setCell_other _ _ _ _ (by exact h2), heap_setCell_other _ _ _ _ (by exact h1)]
    have hS1 : WS.heap[w.heap.size + 1]? = some (.cells #[.int .i64 a] 3 (0, 0)) := by
      rw [hWS, heap_setCell_other _ _ _ _ (by show w.heap.size + 1 ≠ w.heap.size + 1 + 1; omega)]
      exact heap_setCell_same _ _ 0 _ 3 _ HKS.out.2.1
    have hS2 : WS.heap[w.heap.size + 2]? = some (.cells #[.int .i64 0] 26 (0, 0)) := by
      rw [hWS]
      exact heap_setCell_same _ _ 0 _ 26 _ ((heap_setCell_other _ _ _ _ (by show w.heap.size + 2 ≠ w.heap.size + 1; omega)).trans HKS.out.2.2)
    have hw1 : w.heap.size + 3 ≤ w1.heap.size := by have := HB1.out.size; have := HSZ.out; omega
    have hbw1 : Below w.heap.size w w1 := below_then HB.out HB.out.size HB1.out
    have hbWS : Below w.heap.size w WS := hbw1.trans (hbS.mono (by omega))
    have hrd : Rdr (WS.alloc (.cells #[.slice (some ⟨g, 0, none⟩) ts.length c, .int .i64 s.size, .bool false] 83)) w1.heap.size g 0 c s.size ts := by
      have hn := heap_alloc_new WS (.cells #[.slice (some ⟨g, 0, none⟩) ts.length c, .int .i64 s.size, .bool false] 83)
      rw [hsS] at hn
      refine ⟨hn, hgl, fun i t ht => ?_, hlc⟩
      have hc : ∀ j, (WS.alloc (.cells #[.slice (some ⟨g, 0, none⟩) ts.length c, .int .i64 s.size, .bool false] 83)).cell? ⟨g, j, none⟩ = w1.cell? ⟨g, j, none⟩ := fun j => by
        have e : (WS.alloc (.cells #[.slice (some ⟨g, 0, none⟩) ts.length c, .int .i64 s.size, .bool false] 83)).heap[g]? = w1.heap[g]? := by
          rw [heap_alloc_old _ _ (by rw [hsS]; exact hgl)]
          exact hoS g hgne.1 hgne.2
        unfold World.cell?
        rw [e]
      simp only [hc]
      exact htk i t ht
    have hrp : RP (WS.alloc (.cells #[.slice (some ⟨g, 0, none⟩) ts.length c, .int .i64 s.size, .bool false] 83)) w1.heap.size ps :=
      ⟨⟨g, 0, c, _, ts, hm, hrd⟩, w, HE.out, by omega, below_then hbWS (by omega) one_below⟩
    have C2 := Lib.hid (any_call ⟨hrp, HS.out.1, HS.out.2.1, HS.out.2.2.1⟩)
    have HW := Lib.hid (And.intro hWS (And.intro hsS (And.intro hoS (And.intro hS1 (And.intro hS2 (And.intro hbWS hw1))))))
    clear hm htk hlc hgl hgne hWS hsS hoS hS1 hS2 hbWS hw1 hrd hrp hbS hbw1
    go_wp2_with fail
    rw [← HW.out.1]
    refine C2.out.mono ?_
    rintro e w3 ⟨x, A, cx, used, rest, rfl, hG, hn, hst⟩
    have hoks : ∀ p ∈ rest, okPc p := run_rest hG.split HS.out.2.1
    obtain rfl := rest_nil (n := 0) hG.dep hst hoks rfl
    obtain rfl : ps = used := by have := hG.split; simpa using this
    obtain ⟨-, hsS, hoS, hS1, hS2, hbWS, hw1⟩ := HW.out
    have hsa := size_alloc WS (.cells #[.slice (some ⟨g, 0, none⟩) ts.length c, .int .i64 s.size, .bool false] 83)
    have hold : ∀ j, j < w1.heap.size → w3.heap[j]? = WS.heap[j]? := fun j hj => (hG.par.block j (by omega) (by omega)).trans (heap_alloc_old _ _ (by omega))
    have hz3 : w3.heap[w.heap.size]? = zrow := (hold _ (by omega)).trans ((hoS _ (by omega) (by omega)).trans HKS.out.1)
    obtain ⟨⟨y0, y1, y2, y3, y4⟩, yf⟩ := zero_facts hz3
    obtain ⟨tb, o5, c5, e5, t5, hk5, hR4⟩ := rp_end hG.rp hz3 (by omega) (.int .i64 x.kind) (.string x.text) (.int .u64 x.num) (.int .i64 x.place) (.slice A x.list.length cx)
    have hrow0 := put5_same (.int .i64 x.kind) (.string x.text) (.int .u64 x.num) (.int .i64 x.place) (.slice A x.list.length cx) hz3
    have hsz3 : w1.heap.size + 1 ≤ w3.heap.size := by have := hG.par.size; omega
    have hb3w : Below w.heap.size w w3 := by
      refine ⟨hG.par.os.trans hbWS.os, hG.par.tape.trans hbWS.tape, hG.par.output.trans hbWS.output, by omega, fun j hj => (hold j (by omega)).trans (hbWS.block j hj)⟩
    have hb4 := put5_below hb3w (Nat.le_refl _) (.int .i64 x.kind) (.string x.text) (.int .u64 x.num) (.int .i64 x.place) (.slice A x.list.length cx)
    have hlate : Late w (put5 w3 w.heap.size (.int .i64 x.kind) (.string x.text) (.int .u64 x.num) (.int .i64 x.place) (.slice A x.list.length cx)) x A cx a 0 := by
      refine ⟨hrow0, ?_, ?_, hb4, fun W' hk => hG.rd _ fun j h1 h2 => ?_⟩
      · rw [put5_other _ _ _ _ _ _ _ (by omega), hold _ (by omega)]; exact hS1
      · rw [put5_other _ _ _ _ _ _ _ (by omega), hold _ (by omega)]; exact hS2
      · rw [put5_size] at hk
        rw [hk j (by omega) h2, put5_other _ _ _ _ _ _ _ (by omega)]
    have C3 := Lib.hid (peek_any hR4)
    have HL := Lib.hid hlate
    have HR4 := Lib.hid hR4
    have HG := Lib.hid (And.intro hG hn)
    have hne : ¬ w1.heap.size = w.heap.size := by omega
    have hne2 : ¬ w.heap.size = w1.heap.size := by omega
    clear hG hn hst hoks hsS hoS hS1 hS2 hbWS hw1 hsa hold hz3 hR4 hrow0 hsz3 hb3w hb4 hlate
    go_wp2_with fail
    refine C3.out.mono ?_
    rintro e w5 ⟨rfl, hb5⟩
    have hL5 := HL.out.keep hb5
    have hR5 := HR4.out.keep hb5
    have hsz5 : w1.heap.size < w5.heap.size := hR5.lt
    have hL6 : ∀ v, Late w (w5.setCell ⟨w1.heap.size, 0, none⟩ v) x A cx a 0 := fun v => by
      have hp := (Par.refl w1.heap.size w5).set 0 v
      have hlt5 := hL5.lt
      refine ⟨(hp.block _ (by omega) (by omega)).trans hL5.row0, (hp.block _ (by omega) (by have := HW.out.2.2.2.2.2.2; omega)).trans hL5.row1, (hp.block _ (by omega) (by have := HW.out.2.2.2.2.2.2; omega)).trans hL5.row2, hL5.below.setCell (p := ⟨w1.heap.size, 0, none⟩) (by show w.heap.size ≤ w1.heap.size; have := HW.out.2.2.2.2.2.2; omega) v, ?_⟩
      intro W' hk
      refine HG.out.1.rd _ fun j h1 h2 => ?_
      have hsa := size_alloc WS (.cells #[.slice (some ⟨g, 0, none⟩) ts.length c, .int .i64 s.size, .bool false] 83)
      have hsS := HW.out.2.1
      have hw1 := HW.out.2.2.2.2.2.2
      have hb5s := hb5.size
      rw [put5_size] at hb5s
      rw [hk j (by omega) (by simp [World.setCell]; omega), Below.heap_setCell w5 ⟨w1.heap.size, 0, none⟩ _ j (by show j ≠ w1.heap.size; omega), hb5.block j (by rw [put5_size]; exact h2), put5_other _ _ _ _ _ _ _ (by omega)]
    have q0 := fun v => (hL6 v).cells.1.1
    have q1 := fun v => (hL6 v).cells.1.2.1
    have q2 := fun v => (hL6 v).cells.1.2.2.1
    have q3 := fun v => (hL6 v).cells.1.2.2.2.1
    have q4 := fun v => (hL6 v).cells.1.2.2.2.2
    have u0 := hR5.c0
    have u1 := hR5.fz 0
    have u2 := hR5.len
    simp only [List.length_cons, List.length_nil, Nat.zero_add] at u0 u2
    have HL6 := Lib.hid hL6
    have hx65 : x.size ≤ 1048576 := by have := HG.out.1.size; have := HS.out.2.2.2; omega
    clear hb5 hL5 hR5 hL6 hsz5
    by_cases hc5 : c5 = 1
    · subst hc5
      go_wp2_with fail
      refine (few_any x.size x A cx _ (Nat.le_refl _) (HL6.out _).rdd hx65).mono ?_
      rintro e w7 ⟨⟨b1, rfl⟩, hb7⟩
      have hL7 := (HL6.out _).keep hb7
      obtain ⟨⟨a0, a1, a2, a3, a4⟩, af, p1, p2, p3, p4⟩ := hL7.cells
      have HL7 := Lib.hid hL7
      clear hb7 hL7
      cases b1 with
      | false =>
        go_wp2_with fail
        exact door25 HL7.out (T.mk 0 ⟨#[]⟩ 0 0 []) none 0 0 6 rfl rfl rfl (fun h => by cases h)
      | true =>
        go_wp2_with fail
        refine (sizeP_any x.size x A cx _ (Nat.le_refl _) HL7.out.rdd hx65).mono ?_
        rintro e w8 ⟨rfl, hb8⟩
        have hL8 := HL7.out.keep hb8
        obtain ⟨⟨a0, a1, a2, a3, a4⟩, af, p1, p2, p3, p4⟩ := hL8.cells
        have HL8 := Lib.hid hL8
        clear hb8 hL8
        by_cases hbig : 16384 < x.size
        · go_wp2_with fail
          exact door25 HL8.out (T.mk 0 ⟨#[]⟩ 0 0 []) none 0 0 6 rfl rfl rfl (fun h => by cases h)
        · go_wp2_with fail
          refine (depth_any x.size x A cx _ (Nat.le_refl _) HL8.out.rdd hx65).mono ?_
          rintro e w9 ⟨⟨dk, rfl, hd0, hd1⟩, hb9⟩
          have hL9 := HL8.out.keep hb9
          obtain ⟨⟨a0, a1, a2, a3, a4⟩, af, p1, p2, p3, p4⟩ := hL9.cells
          have HL9 := Lib.hid hL9
          clear hb9 hL9
          by_cases hdk : 64 < dk
          · go_wp2_with fail
            exact door25 HL9.out (T.mk 0 ⟨#[]⟩ 0 0 []) none 0 0 6 rfl rfl rfl (fun h => by cases h)
          · go_wp2_with fail
            exact door25 HL9.out x A cx 0 0 rfl rfl rfl (fun _ => ⟨rfl, rfl, rfl, HG.out.2, HG.out.1.size⟩)
    · -- the other
      go_wp2_with fail
      refine (few_any x.size x A cx _ (Nat.le_refl _) (HL6.out _).rdd hx65).mono ?_
      rintro e w7 ⟨⟨b1, rfl⟩, hb7⟩
      have hL7 := (HL6.out _).keep hb7
      obtain ⟨⟨a0, a1, a2, a3, a4⟩, af, p1, p2, p3, p4⟩ := hL7.cells
      have HL7 := Lib.hid hL7
      clear hb7 hL7
      cases b1 with
      | false =>
        go_wp2_with fail
        exact door25 HL7.out (T.mk 0 ⟨#[]⟩ 0 0 []) none 0 0 6 rfl rfl rfl (fun h => by cases h)
      | true =>
        go_wp2_with fail
        refine (sizeP_any x.size x A cx _ (Nat.le_refl _) HL7.out.rdd hx65).mono ?_
        rintro e w8 ⟨rfl, hb8⟩
        have hL8 := HL7.out.keep hb8
        obtain ⟨⟨a0, a1, a2, a3, a4⟩, af, p1, p2, p3, p4⟩ := hL8.cells
        have HL8 := Lib.hid hL8
        clear hb8 hL8
        by_cases hbig : 16384 < x.size
        · go_wp2_with fail
          exact door25 HL8.out (T.mk 0 ⟨#[]⟩ 0 0 []) none 0 0 6 rfl rfl rfl (fun h => by cases h)
        · go_wp2_with fail
          refine (depth_any x.size x A cx _ (Nat.le_refl _) HL8.out.rdd hx65).mono ?_
          rintro e w9 ⟨⟨dk, rfl, hd0, hd1⟩, hb9⟩
          have hL9 := HL8.out.keep hb9
          obtain ⟨⟨a0, a1, a2, a3, a4⟩, af, p1, p2, p3, p4⟩ := hL9.cells
          have HL9 := Lib.hid hL9
          clear hb9 hL9
          by_cases hdk : 64 < dk
          · go_wp2_with fail
            exact door25 HL9.out (T.mk 0 ⟨#[]⟩ 0 0 []) none 0 0 6 rfl rfl rfl (fun h => by cases h)
          · go_wp2_with fail
            exact door25 HL9.out x A cx 0 0 rfl rfl rfl (fun _ => ⟨rfl, rfl, rfl, HG.out.2, HG.out.1.size⟩)
  · have hLE : Late w ((w1.setCell ⟨w.heap.size + 1, 0, none⟩ (.int .i64 a)).setCell ⟨w.heap.size + 1 + 1, 0, none⟩ (.int .i64 k)) (T.mk 0 ⟨#[]⟩ 0 0 []) none 0 a k := by
      have hbw1 : Below w.heap.size w w1 := below_then HB.out HB.out.size HB1.out
      refine ⟨?_, ?_, ?_, ?_, fun W' _ => Rd.nil W'⟩
      · rw [heap_setCell_other _ _ _ _ (by show w.heap.size ≠ w.heap.size + 1 + 1; omega), heap_setCell_other _ _ _ _ (by show w.heap.size ≠ w.heap.size + 1; omega)]
        exact HKS.out.1
      · rw [heap_setCell_other _ _ _ _ (by show w.heap.size + 1 ≠ w.heap.size + 1 + 1; omega)]
        exact heap_setCell_same _ _ 0 _ 3 _ HKS.out.2.1
      · exact heap_setCell_same _ _ 0 _ 26 _ ((heap_setCell_other _ _ _ _ (by show w.heap.size + 2 ≠ w.heap.size + 1; omega)).trans HKS.out.2.2)
      · exact (hbw1.setCell (p := ⟨w.heap.size + 1, 0, none⟩) (by show w.heap.size ≤ w.heap.size + 1; omega) _).setCell (p := ⟨w.heap.size + 1 + 1, 0, none⟩) (by show w.heap.size ≤ w.heap.size + 1 + 1; omega) _
    have HLE := Lib.hid hLE
    have HLD := Lib.hid (hLE.keep (Below.refl _ _).drew)
    have hk1 : (k != 0) = true := by simpa using hk0
    clear hLE
    go_wp2_with fail
    obtain ⟨⟨a0, a1, a2, a3, a4⟩, af, p1, p2, p3, p4⟩ := HLE.out.cells
    obtain ⟨⟨d0, d1, d2, d3, d4⟩, df, e1, e2, e3, e4⟩ := HLD.out.cells
    go_region
    go_wp2_with fail
    exact door25e HLE.out (T.mk 0 ⟨#[]⟩ 0 0 []) none 0 a k rfl rfl rfl hk0
theorem res12 {tmps : Array Value} {W : World} {g : Nat} {v0 v1 v2 v3 v4 n k : Value} (hz : W.heap[g]? = some (.cells #[v0, v1, v2, v3, v4] 25 (0, 0))) (hp : tmps.getD 2 undef = .pointer (some ⟨g, 0, none⟩)) (h5 : tmps.getD 3 undef = n) (h6 : tmps.getD 4 undef = k) :
    (results Tryz.f12 tmps).run Tryz.prog W = .ok (.tuple #[.agg #[v0, v1, v2, v3, v4], n, k]) W := by
  have hp' : tmps[2]?.getD undef = .pointer (some ⟨g, 0, none⟩) := by simpa using hp
  have h5' : tmps[3]?.getD undef = n := by simpa using h5
  have h6' : tmps[4]?.getD undef = k := by simpa using h6
  simp [results, hp', h5', h6', asAddr, run_loadVar_row W g 25 25 #[v0, v1, v2, v3, v4] (0, 0) _ hz Tryz.underlying25 rfl (by kernel_rfl)]
/-- What parse.Expr answers. -/
def ParsePost (ps : List Pc) (w : World) (e : Ending) (w' : World) : Prop :=
  Below w.heap.size w w' ∧ ∃ x A c a k, e = .returned (.tuple #[nv x A c, .int .i64 a, .int .i64 k]) ∧ (k = 0 → RdIn w.heap.size w'.heap.size w' x.list A c ∧ x.need ≤ lps ps ∧ x.size ≤ ps.length)
set_option maxRecDepth 100000 in
set_option maxHeartbeats 4000000 in
theorem parse_any (s : ByteArray) (ps : List Pc) (hs : s.data.toList = rbs ps) (hrun : runS .a ps = some .b) (hok : ∀ p ∈ ps, okPc p) (hdep : dep 0 ps = some 0) (hlen : ps.length ≤ 1048576) (w : World) (hE : Env w) (hG : SgAt w) :
    Calls Tryz.prog 12 #[.string s] w (ParsePost ps w) := by
  have C1 := Lib.hid (read_any s ps hs hrun hok hdep hlen (w.alloc zbox) (hE.keep one_below) (hG.keep one_below))
  clear hs hrun hok hdep hlen hE hG
  go_enter Tryz.func12, Tryz.ntmps12
  go_wp2_with fail
  refine C1.out.mono ?_
  rintro e w1 ⟨hb, x, A, c, a, k, rfl, hk⟩
  have hsz := size_alloc w zbox
  have hres := (hb.block w.heap.size (by omega)).trans (heap_alloc_new w zbox)
  obtain ⟨⟨z0, z1, z2, z3, z4⟩, zf⟩ := zero_facts hres
  have HB := Lib.hid hb
  have HK := Lib.hid hk
  have HR := Lib.hid hres
  have HSZ := Lib.hid hsz
  clear hb hk hres hsz
  go_wp2_with fail
  refine bodyPost_ret (a := { tmps := _, defers := [] }) (res12 (W := put5 w1 w.heap.size (.int .i64 x.kind) (.string x.text) (.int .u64 x.num) (.int .i64 x.place) (.slice A x.list.length c)) (put5_same _ _ _ _ _ HR.out) rfl rfl rfl) rfl ?_
  refine ⟨put5_below (one_below.trans (HB.out.mono (by rw [size_alloc]; omega))) (Nat.le_refl _) _ _ _ _ _, x, A, c, a, k, rfl, fun h => ?_⟩
  obtain ⟨h1, h2, h3⟩ := HK.out h
  refine ⟨fun W' hk => h1 _ fun j hj1 hj2 => (hk j (by have := HSZ.out; omega) (by have := put5_size w1 w.heap.size (.int .i64 x.kind) (.string x.text) (.int .u64 x.num) (.int .i64 x.place) (.slice A x.list.length c); unfold put5 at this; omega)).trans (put5_other _ _ _ _ _ _ _ (by have := HSZ.out; omega)), h2, h3⟩
theorem len_rbs {ps : List Pc} (h : ∀ p ∈ ps, okPc p) : ps.length ≤ (rbs ps).length := by
  induction ps with
  | nil => simp
  | cons p ps ih =>
    have ih := ih fun q hq => h q (by simp [hq])
    obtain ⟨c, t, e, -⟩ := kb_first (h p (by simp)) ps
    have hl : (rbs ps).length ≤ (tlb p ps).length := by cases p <;> simp [tlb]
    rcases rbs_piece p ps with h1 | h1 <;> (rw [h1, e]; simp; omega)
/-- A plain tree's text as pieces. -/
theorem text_fit {x : T} (hF : Fine x) (hk : ansK (okE x) (exprT 65 0 x) = 0) (hp : x.plain = true) :
    ansS (okE x) (exprT 65 0 x) = exprT 65 0 x ∧ (exprT 65 0 x).size ≤ 65536 ∧ Fit (pcs 65 x) x.need ∧ rbs (pcs 65 x) = (exprT 65 0 x).data.toList := by
  cases hok : okE x with
  | false => rw [hok] at hk; simp [ansK] at hk
  | true =>
    rw [hok] at hk
    have hsz : (exprT 65 0 x).size ≤ 65536 := by
      by_cases h : 65536 < (exprT 65 0 x).size
      · simp [ansK, h] at hk
      · omega
    have hg : goodB 65 x = true := by
      simp only [okE, Bool.and_eq_true] at hok
      exact snd_good hok.2
    refine ⟨by have h : decide (65536 < (exprT 65 0 x).size) = false := by (simp; omega)
               simp [ansS, h], hsz, fit_pcs 65 x hg hp hF.wf, ?_⟩
    rw [← rends_pcs 65 0 x hp]; rfl
/-- The level of brackets from i on to k. -/
def lv (l : List UInt8) (i k : Nat) : Int := lvl ((l.take k).drop i)
theorem lv_self (l : List UInt8) (i : Nat) : lv l i i = 0 := by
  unfold lv
  rw [List.drop_eq_nil_of_le (by rw [List.length_take]; omega)]; rfl
theorem lv_succ {l : List UInt8} {i k : Nat} {c : UInt8} (h : i ≤ k) (hc : l[k]? = some c) : lv l i (k + 1) = lv l i k + (if c = 40 then 1 else if c = 41 then -1 else 0) := by
  unfold lv
  have hk := (List.getElem?_eq_some_iff.1 hc).1
  rw [List.take_add_one, hc, List.drop_append_of_le_length (by rw [List.length_take]; omega), lvl_append]
  simp [lvl]
theorem lv_bound (l : List UInt8) : lvl l ≤ l.length ∧ -(l.length : Int) ≤ lvl l := by
  induction l with
  | nil => simp [lvl]
  | cons c l ih => simp only [lvl, List.length_cons]; split <;> (try split) <;> omega
theorem lv_range (l : List UInt8) (i k : Nat) (h : k ≤ 65536) : lv l i k ≤ 65536 ∧ -65536 ≤ lv l i k := by
  have := lv_bound ((l.take k).drop i)
  simp only [List.length_drop, List.length_take] at this
  unfold lv; omega
theorem byte_get (s : ByteArray) (k : Nat) (h : k < s.size) : s.data.toList[k]? = some (s[k]'h) := by
  have hl : k < s.data.toList.length := by rw [Array.length_toList]; exact h
  rw [List.getElem?_eq_getElem hl]; rfl
theorem own_some {w : World} {B : Nat} {e : TypeId} {v : Value} {n : Nat} {xs : List Value} (hown : w.ownsRow B e 1 v n xs) (hn : n ≠ 0) : ∃ g c, v = .slice (some ⟨g, 0, none⟩) n c ∧ n ≤ c ∧ ∀ k, k < n → w.cell? ⟨g, k, none⟩ = xs[k]? := by
  have hk := hown
  rcases hown.2 with ⟨rfl, h0⟩ | ⟨g, cap, cur, rfl, hB, hg, hn2, hc, hcs, ht⟩
  · exact absurd h0 hn
  · exact ⟨g, cap, rfl, hn2, fun k h => hk.cellAt k (by omega)⟩
/-- The level stays above nought. -/
def Open (l : List UInt8) (i q : Nat) : Prop := ∀ k, i < k → k ≤ q → 1 ≤ lv l i k
/-- What holds in the search of the bracket that shuts. -/
def Seek (l : List UInt8) (i q : Nat) (dp tx : Int) : Prop := (tx = -1 ∧ dp = lv l i q ∧ Open l i q) ∨ ∃ j : Nat, tx = (j : Int) ∧ q = j + 1 ∧ Pair l i j
theorem open_up {l : List UInt8} {i q : Nat} (h : Open l i q) (hq : 1 ≤ lv l i (q + 1)) : Open l i (q + 1) := fun k h1 h2 => by
  by_cases e : k = q + 1
  · rw [e]; exact hq
  · exact h k h1 (by omega)
theorem open_low {l : List UInt8} {i q : Nat} (h : Open l i q) (hq : i ≤ q) : 0 ≤ lv l i q := by
  by_cases e : i = q
  · subst e; rw [lv_self]; exact Int.le_refl _
  · have := h q (by omega) (Nat.le_refl _); omega
theorem pair_of {l : List UInt8} {i j : Nat} (hi : l[i]? = some 40) (hj : l[j]? = some 41) (hij : i ≤ j) (h : Open l i j) (h1 : lv l i j = 1) : Pair l i j := by
  have hne : i ≠ j := by rintro rfl; rw [hi] at hj; simp at hj
  refine ⟨by omega, hi, hj, h, ?_⟩
  have := lv_succ hij hj
  rw [h1] at this
  exact this
theorem seek_end {l : List Pc} {n i : Nat} (hfit : Fit l n) (hi : (rbs l)[i]? = some 40) (h : Open (rbs l) i (rbs l).length) : False := by
  have h1 := level_end hfit hi
  have hlt := (List.getElem?_eq_some_iff.1 hi).1
  have h2 := h (rbs l).length hlt (Nat.le_refl _)
  unfold lv at h2
  rw [List.take_length] at h2
  omega
theorem infoI : (Tryz.prog.info? 3).map (fun i => (i.zero, i.size, i.bytes)) = some (some (.int .i64 0), 1, 8) := by kernel_rfl
def natI (l : List Nat) : List Value := l.map fun (o : Nat) => Value.int .i64 (o : Int)
theorem natI_snoc (l : List Nat) (o : Nat) : natI (l ++ [o]) = natI l ++ [.int .i64 (o : Int)] := by simp [natI]
/-- The rest of the text, with one bracket less. -/
theorem rest_text {x : T} {t : ByteArray} {l : List Pc} (hfit : Fit l x.need) (ht : rbs l = t.data.toList) {i j : Nat} (hp : Pair t.data.toList i j) (hsz : t.size ≤ 65536) :
    ∃ ps, (t.extract 0 i ++ t.extract (i + 1) j ++ t.extract (j + 1) t.size).data.toList = rbs ps ∧ runS .a ps = some .b ∧ (∀ p ∈ ps, okPc p) ∧ dep 0 ps = some 0 ∧ ps.length ≤ 1048576 ∧ lps ps + 1 = x.need := by
  rw [← ht] at hp
  obtain ⟨ps, hr⟩ := rest_of hfit hp
  have hl : t.data.toList.length = t.size := by rw [Array.length_toList]; rfl
  have e : (t.extract 0 i ++ t.extract (i + 1) j ++ t.extract (j + 1) t.size).data.toList = rbs ps := by
    rw [hr.txt, ht]
    simp only [ByteArray.data_append, Array.toList_append, ext_take, ext_data]
    rw [ByteArray.data_extract, Array.toList_extract, List.extract_eq_take_drop]
    congr 2
    rw [List.drop_take]
  refine ⟨ps, e, hr.run, hr.ok, hr.dep, ?_, hr.lps⟩
  have h1 := len_rbs hr.ok
  have h2 := congrArg List.length hr.txt
  rw [ht] at h2
  simp only [List.length_append, List.length_take, List.length_drop, hl] at h2
  omega
set_option maxRecDepth 100000 in
set_option maxHeartbeats 4000000 in
theorem spare_any (x : T) (A : Option Addr) (c : Nat) (wh : Nat) (hwh : wh < 256) (w : World) (hF : Fine x) (hR : Rd w x.list A c) (hE : Env w) (hG : SgAt w) :
    Calls Tryz.prog 4 #[nv x A c, .int .u8 (wh : Int)] w fun e w' => e = .returned (.bool true) ∧ Below w.heap.size w w' := by
  have hW : Below w.heap.size w (w.alloc (nbox x A c)) := one_below
  have CO := Lib.hid (fun w' (hb : Below w.heap.size w w') => ownR_any x.size x A c w' (Nat.le_refl _) hF.size (hR.keep hb))
  have CE := Lib.hid (fun A' c' w' (hb : Below w.heap.size w w') (hr : Rd w' x.list A' c') => (ansT_eq (okE x) (exprT 65 0 x) ▸ exprP3_any x A' c' w' hF hr (hE.keep hb)))
  have CA := Lib.hid (fun w' (hb : Below w.heap.size w w') => answersP_any w' (hE.keep hb))
  have CP := Lib.hid (fun w' (hb : Below w.heap.size w w') => plainP_any x.size x A c w' (Nat.le_refl _) (hR.keep hb) hF.size)
  have HT := Lib.hid (fun (hk : ansK (okE x) (exprT 65 0 x) = 0) (hp : x.plain = true) => text_fit hF hk hp)
  have HW := Lib.hid hW
  have HR := Lib.hid hR
  have HF := Lib.hid hF
  have HE := Lib.hid hE
  have HG := Lib.hid hG
  clear hF hR hE hG hW
  generalize ansS (okE x) (exprT 65 0 x) = t at *
  generalize hk1 : ansK (okE x) (exprT 65 0 x) = k1 at *
  clear hk1
  go_enter Tryz.func4, Tryz.ntmps4
  go_wp2_with fail
  refine (CO.out _ HW.out).mono ?_
  rintro e wa0 ⟨⟨A0, c0, rfl, hrd⟩, hb⟩
  have HA0 := Lib.hid (show Below (w.heap.size + 1) (w.alloc (nbox x A c)) wa0 from box_after hb)
  have HR0 := Lib.hid (hrd wa0 (fun _ _ _ => rfl))
  clear hrd hb
  go_wp2_with fail
  refine (CE.out A0 c0 _ (box_below HA0.out) HR0.out).mono ?_
  rintro e wb0 ⟨rfl, hb⟩
  have HB0 := Lib.hid (below_then HA0.out (box_size HA0.out) hb)
  clear hb
  go_wp2_with fail
  refine (CA.out _ (box_below HB0.out)).mono ?_
  rintro e wc0 ⟨rfl, hb⟩
  have HC0 := Lib.hid (below_then HB0.out (box_size HB0.out) hb)
  obtain ⟨g0, g1, g2, g3, g4⟩ := box_raw HC0.out
  clear hb
  by_cases hk : k1 = 0
  · subst hk
    have C1 := CP.out _ (box_below HC0.out)
    cases hpl : x.plain with
    | false =>
      rw [hpl] at C1
      have C1 := Lib.hid C1
      clear hpl
      go_wp2_with fail
      refine C1.out.mono ?_
      rintro e wd0 ⟨rfl, hb⟩
      have HD0 := Lib.hid (below_then HC0.out (box_size HC0.out) hb)
      clear hb
      go_wp2_with fail
      refine (CA.out _ (box_below HD0.out)).mono ?_
      rintro e we0 ⟨rfl, hb⟩
      have HE0 := Lib.hid (below_then HD0.out (box_size HD0.out) hb)
      clear hb
      go_wp2_with fail
      go_ret
      exact ⟨rfl, box_below HE0.out⟩
    | true =>
      rw [hpl] at C1
      obtain ⟨ht0, ht1, ht2, ht3⟩ := HT.out rfl hpl
      subst ht0
      have C1 := Lib.hid C1
      have HX := Lib.hid (And.intro ht2 ht3)
      generalize exprT 65 0 x = t at *
      clear hpl ht2 ht3 HT
      go_wp2_with fail
      refine C1.out.mono ?_
      rintro e wd0 ⟨rfl, hb⟩
      have HD0 := Lib.hid (below_then HC0.out (box_size HC0.out) hb)
      clear hb g0 g1 g2 g3 g4
      go_wp2_with fail
      go_loopw [7, 8] (fun lv i wr => ∃ (j : Nat) (os : List Nat) (v : Value), j ≤ t.size ∧ i = .int .i64 ((j : Nat) : Int) ∧ lv = v ∧ wr.ownsRow (w.heap.size + 1) 3 1 v os.length (natI os) ∧ Below (w.heap.size + 1) (w.alloc (nbox x A c)) wr ∧ Hid (os.length ≤ j ∧ ∀ o ∈ os, t.data.toList[o]? = some 40)) (fun _ i _ => t.size - (intOf i).toNat)
      case atStart => exact ⟨0, [], _, Nat.zero_le _, rfl, rfl, World.ownsRow_nil _ _ _ _, HD0.out, Lib.hid ⟨Nat.le_refl _, fun o h => by simp at h⟩⟩
      case round =>
        obtain ⟨j, os, v, hj, rfl, rfl, hown, hB, HO⟩ := hrel
        by_cases hlt : j < t.size
        · by_cases hc : t[j] = 40
          · have hc1 : (((t[j]'hlt).toNat : Int) == 40) = true := by rw [hc]; decide
            have hbyte := byte_get t j hlt
            rw [hc] at hbyte
            obtain ⟨i0, hi, hz0, hz1, hz2⟩ := info_parts infoI
            have HOW := Lib.hid hown
            have HB := Lib.hid hB
            have HBY := Lib.hid hbyte
            have hwl := box_size hB
            clear hown hB hbyte hc
            have hol : os.length ≤ 65536 := by have := HO.out.1; omega
            go_wp2_with (at_builtin; refine wpList_append_own _ rfl _ _ 33 rfl (w.heap.size + 1) 3 i0 (.int .i64 0) 1 8 Tryz.underlying33 hi hz0 hz1 hz2 rfl (by decide) _ _ _ rfl (HOW.out.alloc _) ⟨wr.heap.size, 0, none⟩ 1 1 [.int .i64 (j : Int)] rfl rfl (cell_new1 _ _ _) ?c2 ?c3 ?c4 ?c5 ?_)
            case c2 => intro u hu; simp at hu; subst hu; rfl
            case c3 => unfold maxLen; omega
            case c4 => omega
            case c5 => rw [size_alloc]; omega
            intro v' w2 hown' hgrow _
            have HB2 := Lib.hid (grown4 (HB.out.alloc hwl _) (by rw [size_alloc]; omega) (HOW.out.alloc _) hgrow)
            have HO2 := Lib.hid hown'
            clear hown' hgrow hi hz0 hz1 hz2
            go_wp2_with fail
            go_roundw
            case rel =>
              refine ⟨j + 1, os ++ [j], _, by omega, by go_num, rfl, by rw [natI_snoc]; simpa using HO2.out, HB2.out, Lib.hid ⟨by have := HO.out.1; simp; omega, fun o ho => ?_⟩⟩
              simp only [List.mem_append, List.mem_cons, List.not_mem_nil, or_false] at ho
              rcases ho with ho | rfl
              · exact HO.out.2 o ho
              · exact HBY.out
            case measure => simp [intOf]; omega
          · have hc1 : (((t[j]'hlt).toNat : Int) == 40) = false := by
              have : (t[j]'hlt).toNat ≠ 40 := fun h => hc (by have := congrArg UInt8.ofNat h; simpa using this)
              simp; omega
            have HOW := Lib.hid hown
            have HB := Lib.hid hB
            clear hown hB hc
            go_wp2_with fail
            go_roundw
            case rel => exact ⟨j + 1, os, _, by omega, by go_num, rfl, HOW.out, HB.out, Lib.hid ⟨by have := HO.out.1; omega, HO.out.2⟩⟩
            case measure => simp [intOf]; omega
        · obtain ⟨A1, c1, rfl⟩ := own_slice hown
          have HOW := Lib.hid hown
          have HB := Lib.hid hB
          clear hown hB
          by_cases hos : os.length = 0
          · go_wp2_with fail
            go_ret
            exact ⟨rfl, box_below HB.out⟩
          · obtain ⟨g, cc, hv, hcc, hcell⟩ := own_some HOW.out hos
            cases hv
            obtain ⟨m, hm⟩ : ∃ m, m = wh % os.length := ⟨_, rfl⟩
            have hml : m < os.length := by rw [hm]; exact Nat.mod_lt _ (by omega)
            obtain ⟨o, hoo⟩ : ∃ o, os[m]? = some o := ⟨os[m], by simp⟩
            have hrem : (wh : Int) % (os.length : Int) = (m : Int) := by rw [hm]; rfl
            have hcm := hcell m hml
            rw [show (natI os)[m]? = some (.int .i64 (o : Int)) by simp [natI, hoo]] at hcm
            have ho40 := HO.out.2 o (List.mem_of_getElem? hoo)
            have hol : o < t.size := by
              have := (List.getElem?_eq_some_iff.1 ho40).1
              rw [Array.length_toList] at this; exact this
            have H40 := Lib.hid ho40
            have hlen : os.length ≤ 65536 := by have := HO.out.1; omega
            clear hm hcell hoo ho40
            go_wp2_with fail
            go_loopw [10, 11, 12] (fun dv tv_ i w' => ∃ (q : Nat) (dp tx : Int), dv = .int .i64 dp ∧ tv_ = .int .i64 tx ∧ i = .int .i64 ((q : Nat) : Int) ∧ q ≤ t.size ∧ o ≤ q ∧ w' = wr ∧ Hid (Seek t.data.toList o q dp tx)) (fun _ _ i _ => t.size - (intOf i).toNat)
            case atStart => exact ⟨o, 0, -1, rfl, rfl, rfl, by omega, Nat.le_refl _, rfl, Lib.hid (.inl ⟨rfl, (lv_self _ _).symm, fun k h1 h2 => by omega⟩)⟩
            case round =>
              obtain ⟨q, dp, tx, rfl, rfl, rfl, hq, hoq, rfl, HSK⟩ := hrel
              rcases HSK.out with ⟨rfl, hdp, hop⟩ | ⟨j, rfl, rfl, hpair⟩
              · have hlo := open_low hop hoq
                obtain ⟨hr1, hr2⟩ := lv_range t.data.toList o q (by omega)
                rw [← hdp] at hlo hr1 hr2
                by_cases hlt : q < t.size
                · have hb := byte_get t q hlt
                  have e := lv_succ hoq hb
                  by_cases h40 : t[q] = 40
                  · rw [h40] at e
                    simp only [if_true] at e
                    have hc1 : (((t[q]'hlt).toNat : Int) == 40) = true := by rw [h40]; decide
                    have hc2 : (((t[q]'hlt).toNat : Int) == 41) = false := by rw [h40]; decide
                    have HN := Lib.hid (show Seek t.data.toList o (q + 1) (dp + 1) (-1) from .inl ⟨rfl, by rw [e, hdp], open_up hop (by omega)⟩)
                    clear hdp hop hb e h40 HSK
                    go_wp2_with fail
                    go_roundw
                    case rel => exact ⟨q + 1, dp + 1, -1, rfl, rfl, by go_num, by omega, by omega, by trivial, HN⟩
                    case measure => simp [intOf]; omega
                  · have hc1 : (((t[q]'hlt).toNat : Int) == 40) = false := by
                      have : (t[q]'hlt).toNat ≠ 40 := fun h => h40 (by have := congrArg UInt8.ofNat h; simpa using this)
                      simp; omega
                    by_cases h41 : t[q] = 41
                    · rw [h41] at e hb
                      rw [if_neg (by decide), if_pos rfl] at e
                      have hc2 : (((t[q]'hlt).toNat : Int) == 41) = true := by rw [h41]; decide
                      have hne : o ≠ q := by
                        rintro rfl
                        rw [H40.out] at hb; simp at hb
                      have h1 := hop q (by omega) (Nat.le_refl _)
                      rw [← hdp] at h1
                      by_cases hd1 : dp = 1
                      · have HN := Lib.hid (show Seek t.data.toList o (q + 1) 0 (q : Int) from .inr ⟨q, rfl, rfl, pair_of H40.out hb hoq hop (by rw [← hdp, hd1])⟩)
                        subst hd1
                        clear hdp hop hb e h41 h40 HSK hne h1
                        go_wp2_with fail
                        go_roundw
                        case rel => exact ⟨q + 1, 0, q, rfl, rfl, by go_num, by omega, by omega, by trivial, HN⟩
                        case measure => simp [intOf]; omega
                      · have HN := Lib.hid (show Seek t.data.toList o (q + 1) (dp - 1) (-1) from .inl ⟨rfl, by rw [e, ← hdp]; omega, open_up hop (by omega)⟩)
                        have hd2 : (dp - 1 == 0) = false := by simp; omega
                        clear hdp hop hb e h41 h40 HSK hne
                        go_wp2_with fail
                        go_roundw
                        case rel => exact ⟨q + 1, dp - 1, -1, rfl, rfl, by go_num, by omega, by omega, by trivial, HN⟩
                        case measure => simp [intOf]; omega
                    · have hc2 : (((t[q]'hlt).toNat : Int) == 41) = false := by
                        have : (t[q]'hlt).toNat ≠ 41 := fun h => h41 (by have := congrArg UInt8.ofNat h; simpa using this)
                        simp; omega
                      have hoq2 : o ≠ q := by
                        rintro rfl
                        have h2 := H40.out
                        rw [hb] at h2
                        exact h40 (Option.some.inj h2)
                      have h1 := hop q (by omega) (Nat.le_refl _)
                      rw [if_neg h40, if_neg h41] at e
                      have HN := Lib.hid (show Seek t.data.toList o (q + 1) dp (-1) from .inl ⟨rfl, by rw [e, ← hdp]; omega, open_up hop (by omega)⟩)
                      clear hdp hop hb e h41 h40 HSK h1
                      go_wp2_with fail
                      go_roundw
                      case rel => exact ⟨q + 1, dp, -1, rfl, rfl, by go_num, by omega, by omega, by trivial, HN⟩
                      case measure => simp [intOf]; omega
                · exfalso
                  have hql : q = t.data.toList.length := by rw [Array.length_toList]; show q = t.size; omega
                  refine seek_end HX.out.1 (i := o) (by rw [HX.out.2]; exact H40.out) ?_
                  rw [HX.out.2, ← hql]; exact hop
              · obtain ⟨ps, hps, hrun, hok, hdep, hpl, hlps⟩ := rest_text HX.out.1 HX.out.2 hpair ht1
                have hoj := hpair.lt
                obtain ⟨P1, hP1⟩ : ∃ P, t.extract 0 o = P := ⟨_, rfl⟩
                obtain ⟨P2, hP2⟩ : ∃ P, t.extract (o + 1) j = P := ⟨_, rfl⟩
                obtain ⟨P3, hP3⟩ : ∃ P, t.extract (j + 1) t.size = P := ⟨_, rfl⟩
                have hz1 : P1.size ≤ 65536 := by rw [← hP1, ByteArray.size_extract]; omega
                have hz2 : P2.size ≤ 65536 := by rw [← hP2, ByteArray.size_extract]; omega
                have hz3 : P3.size ≤ 65536 := by rw [← hP3, ByteArray.size_extract]; omega
                rw [hP1, hP2, hP3] at hps
                have hbw := box_below HB.out
                have CX := Lib.hid (fun W (h : Below wr.heap.size wr W) => parse_any (P1 ++ P2 ++ P3) ps hps hrun hok hdep hpl W (HE.out.keep (below_then hbw hbw.size h)) ((HG.out.keep hbw).keep h))
                have HLP := Lib.hid (And.intro hlps hpl)
                have q0 : ¬ 9223372036854775807 < P1.size + P2.size := by omega
                have q1 : ¬ 9223372036854775807 < P1.size + P2.size + P3.size := by omega
                have w0 : IntKind.i64.wrap ((o : Int) + 1) = ((o + 1 : Nat) : Int) := by rw [Go.IntWalk.i64_in _ (by omega)]; omega
                have w1 : IntKind.i64.wrap ((j : Int) + 1) = ((j + 1 : Nat) : Int) := by rw [Go.IntWalk.i64_in _ (by omega)]; omega
                have hjt : j < t.size := by omega
                have b0 : (0 : Int) ≤ (o : Int) := by omega
                have b1 : (o : Int) ≤ (t.size : Int) := by omega
                have b2 : (0 : Int) ≤ (o : Int) + 1 := by omega
                have b3 : (o : Int) + 1 ≤ (j : Int) := by omega
                have b4 : (j : Int) ≤ (t.size : Int) := by omega
                have b5 : (0 : Int) ≤ (j : Int) + 1 := by omega
                have b6 : (j : Int) + 1 ≤ (t.size : Int) := by omega
                have n1 : ((o : Int) + 1).toNat = o + 1 := by omega
                have n2 : ((j : Int) + 1).toNat = j + 1 := by omega
                have HD1 := Lib.hid (show Below wr.heap.size wr (wr.alloc zbox).drew from (one_below (o1 := zbox)).drew)
                have HDA := Lib.hid (show Below wr.heap.size wr wr.drew from (Below.refl _ _).drew)
                have HZ1 := Lib.hid (show (wr.alloc zbox).drew.heap[wr.heap.size]? = zrow from heap_alloc_new wr zbox)
                have HS1 := Lib.hid (show (wr.alloc zbox).drew.heap.size = wr.heap.size + 1 from size_alloc wr zbox)
                clear hps hrun hok hdep hpl hlps hpair HSK hbw
                by_cases hlt : j + 1 < t.size
                · go_wp2_with fail
                  go_region_held3 (fun _ => True) (first | trivial) (first | (go_at_call 12; refine (CX.out _ HD1.out).mono ?_; rintro e w5 ⟨hb5, y, A2, c2, a2, k, rfl, hkk⟩; have hz5 := (hb5.block wr.heap.size (by rw [HS1.out]; omega)).trans HZ1.out; obtain ⟨⟨z0, z1, z2, z3, z4⟩, zf⟩ := zero_facts hz5) | (go_at_call 12; refine (CX.out _ HDA.out).mono ?_; rintro e w5 ⟨hba, y, A2, c2, a2, k, rfl, hkk⟩))
                  all_goals first
                  | (
                    have hb5w := below_then HD1.out HD1.out.size hb5
                    have hB6 := put5_below (below_then HB.out (box_size HB.out) hb5w) (box_size HB.out) (.int .i64 y.kind) (.string y.text) (.int .u64 y.num) (.int .i64 y.place) (.slice A2 y.list.length c2)
                    obtain ⟨g0, g1, g2, g3, g4⟩ := box_raw hB6
                    have hy := Lib.cell_of_heap (put5_same (.int .i64 y.kind) (.string y.text) (.int .u64 y.num) (.int .i64 y.place) (.slice A2 y.list.length c2) hz5)
                    have y0 := hy 0
                    have y1 := hy 1
                    have y2 := hy 2
                    have y3 := hy 3
                    have y4 := hy 4
                    have HB6 := Lib.hid hB6
                    have HKK := Lib.hid hkk
                    simp only [put5] at g0 g1 g2 g3 g4 y0 y1 y2 y3 y4
                    clear hb5 hb5w hB6 hy hkk hz5 z0 z1 z2 z3 z4 zf
                    by_cases hk0 : k = 0
                    · subst hk0
                      obtain ⟨hrd, hnd, hys⟩ := HKK.out rfl
                      have hsm : sameB y x = false := by
                        cases h : sameB y x with
                        | false => rfl
                        | true =>
                          have := same_need y x h
                          have := HLP.out.1
                          omega
                      have C13 := same13_any y.size y x A2 A c2 c (put5 w5 wr.heap.size (.int .i64 y.kind) (.string y.text) (.int .u64 y.num) (.int .i64 y.place) (.slice A2 y.list.length c2)) (Nat.le_refl _) (hrd _ fun j h1 h2 => put5_other _ _ _ _ _ _ _ (by have := HS1.out; omega)) (HR.out.keep (box_below HB6.out)) (by have := HLP.out.2; omega) HF.out.size
                      rw [hsm] at C13
                      have C13 := Lib.hid C13
                      clear hrd hnd hys hsm
                      go_wp2_with fail
                      refine C13.out.mono ?_
                      rintro e w7 ⟨rfl, hb7⟩
                      have HB7 := Lib.hid (below_then HB6.out (box_size HB6.out) hb7)
                      clear hb7
                      go_wp2_with fail
                      go_ret
                      exact ⟨rfl, box_below HB7.out⟩
                    · go_wp2_with fail
                      go_ret
                      exact ⟨rfl, box_below HB6.out⟩)
                  | (
                    have hb5w := below_then HDA.out HDA.out.size hba
                    have hB6 := (below_then HB.out (box_size HB.out) hb5w).alloc (by have := hb5w.size; have := box_size HB.out; omega) (nbox y A2 c2)
                    obtain ⟨g0, g1, g2, g3, g4⟩ := box_raw hB6
                    have hy := Lib.cell_of_heap (heap_alloc_new w5 (nbox y A2 c2))
                    have y0 := hy 0
                    have y1 := hy 1
                    have y2 := hy 2
                    have y3 := hy 3
                    have y4 := hy 4
                    have HB6 := Lib.hid hB6
                    have HKK := Lib.hid hkk
                    clear hba hb5w hB6 hy hkk
                    by_cases hk0 : k = 0
                    · subst hk0
                      obtain ⟨hrd, hnd, hys⟩ := HKK.out rfl
                      have hsm : sameB y x = false := by
                        cases h : sameB y x with
                        | false => rfl
                        | true =>
                          have := same_need y x h
                          have := HLP.out.1
                          omega
                      have C13 := same13_any y.size y x A2 A c2 c (w5.alloc (nbox y A2 c2)) (Nat.le_refl _) (hrd.rd.keep one_below) (HR.out.keep (box_below HB6.out)) (by have := HLP.out.2; omega) HF.out.size
                      rw [hsm] at C13
                      have C13 := Lib.hid C13
                      clear hrd hnd hys hsm
                      go_wp2_with fail
                      refine C13.out.mono ?_
                      rintro e w7 ⟨rfl, hb7⟩
                      have HB7 := Lib.hid (below_then HB6.out (box_size HB6.out) hb7)
                      clear hb7
                      go_wp2_with fail
                      go_ret
                      exact ⟨rfl, box_below HB7.out⟩
                    · go_wp2_with fail
                      go_ret
                      exact ⟨rfl, box_below HB6.out⟩)
                · go_wp2_with fail
                  go_region_held3 (fun _ => True) (first | trivial) (first | (go_at_call 12; refine (CX.out _ HD1.out).mono ?_; rintro e w5 ⟨hb5, y, A2, c2, a2, k, rfl, hkk⟩; have hz5 := (hb5.block wr.heap.size (by rw [HS1.out]; omega)).trans HZ1.out; obtain ⟨⟨z0, z1, z2, z3, z4⟩, zf⟩ := zero_facts hz5) | (go_at_call 12; refine (CX.out _ HDA.out).mono ?_; rintro e w5 ⟨hba, y, A2, c2, a2, k, rfl, hkk⟩))
                  all_goals first
                  | (
                    have hb5w := below_then HD1.out HD1.out.size hb5
                    have hB6 := put5_below (below_then HB.out (box_size HB.out) hb5w) (box_size HB.out) (.int .i64 y.kind) (.string y.text) (.int .u64 y.num) (.int .i64 y.place) (.slice A2 y.list.length c2)
                    obtain ⟨g0, g1, g2, g3, g4⟩ := box_raw hB6
                    have hy := Lib.cell_of_heap (put5_same (.int .i64 y.kind) (.string y.text) (.int .u64 y.num) (.int .i64 y.place) (.slice A2 y.list.length c2) hz5)
                    have y0 := hy 0
                    have y1 := hy 1
                    have y2 := hy 2
                    have y3 := hy 3
                    have y4 := hy 4
                    have HB6 := Lib.hid hB6
                    have HKK := Lib.hid hkk
                    simp only [put5] at g0 g1 g2 g3 g4 y0 y1 y2 y3 y4
                    clear hb5 hb5w hB6 hy hkk hz5 z0 z1 z2 z3 z4 zf
                    by_cases hk0 : k = 0
                    · subst hk0
                      obtain ⟨hrd, hnd, hys⟩ := HKK.out rfl
                      have hsm : sameB y x = false := by
                        cases h : sameB y x with
                        | false => rfl
                        | true =>
                          have := same_need y x h
                          have := HLP.out.1
                          omega
                      have C13 := same13_any y.size y x A2 A c2 c (put5 w5 wr.heap.size (.int .i64 y.kind) (.string y.text) (.int .u64 y.num) (.int .i64 y.place) (.slice A2 y.list.length c2)) (Nat.le_refl _) (hrd _ fun j h1 h2 => put5_other _ _ _ _ _ _ _ (by have := HS1.out; omega)) (HR.out.keep (box_below HB6.out)) (by have := HLP.out.2; omega) HF.out.size
                      rw [hsm] at C13
                      have C13 := Lib.hid C13
                      clear hrd hnd hys hsm
                      go_wp2_with fail
                      refine C13.out.mono ?_
                      rintro e w7 ⟨rfl, hb7⟩
                      have HB7 := Lib.hid (below_then HB6.out (box_size HB6.out) hb7)
                      clear hb7
                      go_wp2_with fail
                      go_ret
                      exact ⟨rfl, box_below HB7.out⟩
                    · go_wp2_with fail
                      go_ret
                      exact ⟨rfl, box_below HB6.out⟩)
                  | (
                    have hb5w := below_then HDA.out HDA.out.size hba
                    have hB6 := (below_then HB.out (box_size HB.out) hb5w).alloc (by have := hb5w.size; have := box_size HB.out; omega) (nbox y A2 c2)
                    obtain ⟨g0, g1, g2, g3, g4⟩ := box_raw hB6
                    have hy := Lib.cell_of_heap (heap_alloc_new w5 (nbox y A2 c2))
                    have y0 := hy 0
                    have y1 := hy 1
                    have y2 := hy 2
                    have y3 := hy 3
                    have y4 := hy 4
                    have HB6 := Lib.hid hB6
                    have HKK := Lib.hid hkk
                    clear hba hb5w hB6 hy hkk
                    by_cases hk0 : k = 0
                    · subst hk0
                      obtain ⟨hrd, hnd, hys⟩ := HKK.out rfl
                      have hsm : sameB y x = false := by
                        cases h : sameB y x with
                        | false => rfl
                        | true =>
                          have := same_need y x h
                          have := HLP.out.1
                          omega
                      have C13 := same13_any y.size y x A2 A c2 c (w5.alloc (nbox y A2 c2)) (Nat.le_refl _) (hrd.rd.keep one_below) (HR.out.keep (box_below HB6.out)) (by have := HLP.out.2; omega) HF.out.size
                      rw [hsm] at C13
                      have C13 := Lib.hid C13
                      clear hrd hnd hys hsm
                      go_wp2_with fail
                      refine C13.out.mono ?_
                      rintro e w7 ⟨rfl, hb7⟩
                      have HB7 := Lib.hid (below_then HB6.out (box_size HB6.out) hb7)
                      clear hb7
                      go_wp2_with fail
                      go_ret
                      exact ⟨rfl, box_below HB7.out⟩
                    · go_wp2_with fail
                      go_ret
                      exact ⟨rfl, box_below HB6.out⟩)
  · go_wp2_with fail
    refine (CA.out _ (box_below HC0.out)).mono ?_
    rintro e wd0 ⟨rfl, hb⟩
    have HD0 := Lib.hid (below_then HC0.out (box_size HC0.out) hb)
    clear hb
    go_wp2_with fail
    go_ret
    exact ⟨rfl, box_below HD0.out⟩
end Go.Proofs.YtoemljgkofhhpaaGreatDoor
