/- PrintSpare: for every tree and every number that say together no more than 1048576 (nodes and letters, each counted as often as it is reached): the text of a plain expression, with any pair of brackets that belong together left out, is read as another expression, or not at all. Condition: the bulk. -/
import Derived.Test.YtoemljgkofhhpaaGreatDoorSqC
import Derived.Test.YtoemljgkofhhpaaGreatDoorLaid
import Derived.Test.YtoemljgkofhhpaaGreatDoorCards
import Derived.Test.YtoemljgkofhhpaaGreatDoorTie
import Derived.ProofKit
import Derived.OpenShut
import Derived.LaidMore
import Derived.Lay
import Derived.Carry
import Derived.SevenTiedAt
import Derived.Stop.Joined
import Derived.Stop.LaidErr
import Derived.Deep.DeepHandedRow
namespace Go.Proofs.YtoemljgkofhhpaaGreatDoor
open Go.ChangeShapes Go.WideShapes Go.ChangeAt Go.RowKit

theorem own : ownKnob Tryz.prog.godebug = none := by kernel_rfl
theorem laidOut : laidOutB Tryz.prog = true := by kernel_rfl
theorem read25 : Tryz.prog.readableRec 25 = true := by kernel_rfl
theorem row25 : 25 < Tryz.prog.types.size := of_decide_eq_true (by kernel_rfl)
theorem read5 : Tryz.prog.readableRec 5 = true := by kernel_rfl
theorem row5 : 5 < Tryz.prog.types.size := of_decide_eq_true (by kernel_rfl)
theorem small_of2 {H : Type} {d d' : DataW H} (h : Rows.uptoSmall H [d, d'] = true) : Rows.uptoBulk d ≤ 1048576 := by
  have h2 : Rows.uptoBulkAll [d, d'] ≤ 1048576 := of_decide_eq_true h
  simp only [Rows.uptoBulkAll] at h2
  omega
theorem gSg : Tryz.prog.globalNamed "mullion/scan.signs" = some 1 := by kernel_rfl
theorem gSgType : (Tryz.prog.globals[1]?).map (·.type) = some 129 := by kernel_rfl
theorem env_of2 {W : World} (h : laidMetH Tryz.prog Rows.printSpareUptoRow.laid W) (hs : W.ShapedOpen Tryz.prog) : Env W := by
  rw [MakeChecks.laidMetH_plain _ _ _ (by kernel_rfl)] at h
  refine ⟨tabs_of (Lib.laidMet.reads h (by simp [Rows.printSpareUptoRow])) (Lib.laidMet.reads h (by simp [Rows.printSpareUptoRow])), Tryz.laysM143.s1_3 W hs, ops_of (Lib.laidMet.reads h (by simp [Rows.printSpareUptoRow])), ?_⟩
  have hp : Lib.VarReads Tryz.prog W "internal/strconv.uint64pow10" Rows.laid_internal_strconv_uint64pow10 := Lib.laidMet.reads h (by simp [Rows.printSpareUptoRow])
  rw [pow_eq] at hp
  obtain ⟨g, t, cs, fuel, p, hg, ht, hv, hd⟩ := hp
  obtain rfl := Option.some.inj (gPow.symm.trans hg)
  obtain rfl := Option.some.inj (gPowType.symm.trans ht)
  unfold Lib.TabIs
  rw [hv, ← Lib.cells_of_tab Tryz.underlying145 Tryz.underlying22 c22 c145 hd]
theorem sg_of {W : World} (h : laidMetH Tryz.prog Rows.printSpareUptoRow.laid W) : SgAt W := by
  rw [MakeChecks.laidMetH_plain _ _ _ (by kernel_rfl)] at h
  have hp : Lib.VarReads Tryz.prog W "mullion/scan.signs" Rows.laid_mullion_scan_signs := Lib.laidMet.reads h (by simp [Rows.printSpareUptoRow])
  obtain ⟨g, t, cs, fuel, p, hg, ht, hv, hd⟩ := hp
  obtain rfl := Option.some.inj (gSg.symm.trans hg)
  obtain rfl := Option.some.inj (gSgType.symm.trans ht)
  obtain ⟨ty, fr, hb⟩ : ∃ ty fr, W.heap[1]? = some (.cells cs ty fr) := by
    unfold World.var? at hv
    rw [gSg] at hv
    simp only [Option.bind_some] at hv
    split at hv
    · rename_i cs' ty fr hh
      injection hv with hv
      subst hv
      exact ⟨ty, fr, hh⟩
    · cases hv
  have hcs : cs = sgA := by
    obtain ⟨xs, m, _, ex, hcl, hl, hel⟩ := DataW.trod_array Tryz.underlying129 hd
    have e5 := (Prod.mk.inj ex).1
    have hlen : cs.toList.length = 33 := by rw [hcl]; kernel_rfl
    have hx : ∀ i, i < 33 → ∃ q, xs[i]? = some (.lit (.string (sgAt i).data.toList), q) := by
      intro i hi
      have e6 := congrArg (fun d : DataW Unit => match d with | .agg l => l[i]? | _ => none) e5
      simp only [List.getElem?_map] at e6
      have e7 : (match (Rows.laid_mullion_scan_signs : DataW Unit) with | .agg l => l[i]? | _ => none) = some (.lit (.string (sgAt i).data.toList)) := by
        have h33 : ∀ i, i < 33 → (match (Rows.laid_mullion_scan_signs : DataW Unit) with | .agg l => l[i]? | _ => none) = some (.lit (.string (sgAt i).data.toList)) := by
          intro i hi
          rw [Rows.laid_mullion_scan_signs]
          match i, hi with
          | 0, _ => rfl
          | 1, _ => rfl
          | 2, _ => rfl
          | 3, _ => rfl
          | 4, _ => rfl
          | 5, _ => rfl
          | 6, _ => rfl
          | 7, _ => rfl
          | 8, _ => rfl
          | 9, _ => rfl
          | 10, _ => rfl
          | 11, _ => rfl
          | 12, _ => rfl
          | 13, _ => rfl
          | 14, _ => rfl
          | 15, _ => rfl
          | 16, _ => rfl
          | 17, _ => rfl
          | 18, _ => rfl
          | 19, _ => rfl
          | 20, _ => rfl
          | 21, _ => rfl
          | 22, _ => rfl
          | 23, _ => rfl
          | 24, _ => rfl
          | 25, _ => rfl
          | 26, _ => rfl
          | 27, _ => rfl
          | 28, _ => rfl
          | 29, _ => rfl
          | 30, _ => rfl
          | 31, _ => rfl
          | 32, _ => rfl
          | n + 33, h => exact absurd h (by omega)
        exact h33 i hi
      rw [e7] at e6
      cases hxi : xs[i]? with
      | none => rw [hxi] at e6; simp at e6
      | some y =>
        rw [hxi] at e6
        simp at e6
        exact ⟨y.2, by congr 1; exact Prod.ext e6.symm rfl⟩
    have hc : ∀ i, i < 33 → cs.toList[i]? = some (.string (sgAt i)) := by
      intro i hi
      obtain ⟨q, hq⟩ := hx i hi
      have h := hel i (by first | exact hi | omega)
      rw [hq, cells9] at h
      simp only [Nat.mul_one] at h
      obtain ⟨s, e1, hy1, _⟩ := DataW.trod_string Tryz.underlying9 h
      have e2 := one_of e1
      simp only [Prod.mk.injEq, DataW.lit.injEq, Lit.string.injEq] at hy1
      rw [e2]
      congr 2
      exact text_eq (by rw [Lib.toList_data, Lib.toList_data]; exact hy1.1.symm)
    apply Array.ext'
    apply List.ext_getElem?
    intro i
    by_cases hi : i < 33
    · rw [hc i hi]
      match i, hi with
      | 0, _ => rfl
      | 1, _ => rfl
      | 2, _ => rfl
      | 3, _ => rfl
      | 4, _ => rfl
      | 5, _ => rfl
      | 6, _ => rfl
      | 7, _ => rfl
      | 8, _ => rfl
      | 9, _ => rfl
      | 10, _ => rfl
      | 11, _ => rfl
      | 12, _ => rfl
      | 13, _ => rfl
      | 14, _ => rfl
      | 15, _ => rfl
      | 16, _ => rfl
      | 17, _ => rfl
      | 18, _ => rfl
      | 19, _ => rfl
      | 20, _ => rfl
      | 21, _ => rfl
      | 22, _ => rfl
      | 23, _ => rfl
      | 24, _ => rfl
      | 25, _ => rfl
      | 26, _ => rfl
      | 27, _ => rfl
      | 28, _ => rfl
      | 29, _ => rfl
      | 30, _ => rfl
      | 31, _ => rfl
      | 32, _ => rfl
      | n + 33, h => exact absurd h (by omega)
    · rw [List.getElem?_eq_none (by omega), List.getElem?_eq_none (by show 33 ≤ i; omega)]
  exact ⟨ty, fr, by rw [hb, hcs]⟩
theorem contract (H : Type) (enc : TypeId × Value → H) (W : World) (args : Array Value) (ds gs : List (DataW H)) (before : List MemPlace)
    (hW : DataW.Whole enc Tryz.prog Tryz.f4.params.toList Rows.printSpareSpec.vars false W args.toList ds gs before) (hk : Rows.uptoSmall H (ds ++ gs) = true) (hL : laidMetH Tryz.prog Rows.printSpareUptoRow.laid W) (hs : W.ShapedOpen Tryz.prog)
    (hv : ∀ v v', args = #[v, v'] → (∃ cs, v = .agg cs) ∧ ∃ n : Nat, n < 256 ∧ v' = .int .u8 (n : Int)) :
    Calls Tryz.prog 4 args W fun e W' => ∃ v, e = .returned v ∧ Rows.printSpareSpec.post enc Tryz.prog Tryz.f4 false true false false W args v W' := by
  have hW' := hW
  obtain ⟨p, q, hA0, hV, rfl, hfz, hnd⟩ := hW
  have hA : DataW.TrodAll enc Tryz.prog W 0 (fun _ => true) true Tryz.f4.params.toList args.toList ds p := hA0
  rw [Tryz.params4] at hA
  have hlt := hA.lt
  obtain ⟨v0, v1, d0, d1, p0, p1, rfl, rfl, rfl, h0, h1⟩ := trodAll_two hA
  obtain ⟨rfl, rfl⟩ := trodVars_none hV
  obtain ⟨⟨cs0, rfl⟩, n, hn, rfl⟩ := hv v0 v1 rfl
  obtain ⟨fuel, hf⟩ := h0
  obtain ⟨x, A, c, hcs, hR, hb, hwf⟩ := node_read fuel fuel _ _ (Nat.le_refl _) hf
  have hcs2 : cs0 = #[.int .i64 x.kind, .string x.text, .int .u64 x.num, .int .i64 x.place, .slice A x.list.length c] := by
    apply Array.ext'
    exact hcs
  subst hcs2
  simp only [List.append_nil] at hW' hk
  have hbd := small_of2 hk
  have hb : x.bulk ≤ Rows.uptoBulk d0 := hb
  have hF : Fine x := ⟨hwf, by omega⟩
  refine (spare_any x A c n hn W hF hR (env_of2 hL hs) (sg_of hL)).mono fun e W' ⟨he, hbw⟩ => ?_
  subst he
  refine ⟨_, rfl, _, _, _, [], p0 ++ p1, [], hW', ?_, ?_, rfl, hbw.frame _, fun h => by cases h⟩
  · exact trodAll_mk1 (shut_bool Tryz.underlying4 _)
  · refine trodAll_mk2 (Below.trod laidOut read25 row25 ⟨fuel, hf⟩ hbw fun y hy => hlt y (by simp [hy])) (Below.trod laidOut read5 row5 h1 hbw fun y hy => hlt y (by simp [hy]))

set_option maxRecDepth 100000 in
theorem u8_of {W : World} {base : Nat} {v : Value} (h : Cell.okWide Tryz.prog W .any base 5 v) : ∃ n : Nat, n < 256 ∧ v = .int .u8 (n : Int) := by
  simp only [Cell.okWide, Tryz.underlying5] at h
  unfold Cell.ok at h
  rw [Tryz.underlying5] at h
  cases v with
  | int k n =>
    obtain ⟨rfl, hn⟩ := h
    simp [IntKind.has, IntKind.min, IntKind.max, IntKind.signed, IntKind.bits] at hn
    exact ⟨n.toNat, by omega, by congr 1; omega⟩
  | _ => simp at h
/-- The witness: an empty node and nought. -/
def arg0 : Value := .agg #[.int .i64 0, .string ⟨#[]⟩, .int .u64 0, .int .i64 0, .slice none 0 0]
set_option maxRecDepth 100000 in
theorem lifted (os : Os) (started : os.Started) (H : Type) (enc : TypeId × Value → H) (F : Stop.Interp) :
    ReturnsInHanded {} Tryz.checked os 4 .any ((Rows.OpenSpec.upto Rows.printSpareSpec).preRow enc Tryz.prog Tryz.f4 Rows.printSpareUptoRow.domain false Rows.printSpareUptoRow.laid) (((Rows.OpenSpec.upto Rows.printSpareSpec).at F).post enc Tryz.prog Tryz.f4 false true false false) := by
  refine returnsInHanded_of_row (C := Tryz.checked) (s := Rows.OpenSpec.upto Rows.printSpareSpec) own started (by kernel_rfl) Tryz.func4 ?_ ?_
  · refine ⟨World.laidAll Tryz.prog os Rows.printSpareUptoRow.laid, fun _ _ => 0, ⟨#[], #[arg0, .int .u8 0], []⟩, World.laidAll_os _ _ _, World.shaped_of_ZipB (by kernel_rfl) (by kernel_rfl), rfl, ?_, ?_, ?_⟩
    · exact (Input.okWide_of_okWideB (base := 0) (by kernel_rfl)).2
    · exact OpenSpec.preRow_of_cond (x := ([.agg [.lit (.int .i64 0), .lit (.string []), .lit (.int .u64 0), .lit (.int .i64 0), .nil], .lit (.int .u8 0)], [], [])) 8 (by kernel_rfl) (by kernel_rfl) (fun k hk => by cases hk; kernel_rfl) (by kernel_rfl)
        (by rw [MakeChecks.laidMetH_plain _ _ _ (by kernel_rfl)]; exact laidMet_laidAll _ (by kernel_rfl) (by kernel_rfl))
    · simp only [Assume.holds]
      exact ⟨by simp, by simp, fun _ => Modest.zero, by simp, by simp⟩
  · intro W base args ds gs before hval hW _ hcond _ hL hs _
    refine contract H enc W args ds gs before hW (hcond _ rfl) hL hs (fun v v' hv => ?_)
    subst hv
    have h : Value.okWide Tryz.prog W .any base 25 v := hval 0 25 v (by rw [Tryz.params4]; rfl) rfl
    have h' : Value.okWide Tryz.prog W .any base 5 v' := hval 1 5 v' (by rw [Tryz.params4]; rfl) rfl
    simp only [Value.okWide, Tryz.underlying25] at h
    obtain ⟨cs, h1, -⟩ := h
    simp only [Value.okWide, Tryz.underlying5] at h'
    refine ⟨⟨cs, h1⟩, ?_⟩
    exact u8_of h'

theorem said : Rows.PrintSpareUptoSaid :=
  OpenClaim.holds_of_cond 4 Tryz.f4 rfl rfl rfl rfl rfl rfl rfl ⟨rfl, rfl, rfl, rfl, rfl⟩ rfl rfl rfl rfl rfl (by kernel_rfl) Tryz.func4 (by kernel_rfl)
    (of_decide_eq_true (by kernel_rfl)) (by unfold Func.isWrapper; first | (rw [if_pos (by decide +kernel)]; kernel_rfl) | (rw [if_neg (by decide +kernel)]; exact ⟨rfl, rfl⟩))
    (fun os started H enc _ F => by rw [OpenClaim.pre_eq_preRow]; exact lifted os started H enc F)

theorem printSpare_holds : Rows.PrintSpareUptoCardSaid :=
  Claim7.holds_tied_plain_at .later [] _ _ _ _ said (fun _ h => by cases h) (by kernel_rfl) (fun _ h => by cases h) printSpareUpto_row_tie rfl ⟨rfl, rfl⟩ (by kernel_rfl) rfl
    (fun f fn hf hfn => by
      obtain rfl : f = 4 := Option.some.inj ((show Tryz.prog.funcNamed "mullion/mullionlaw06.PrintSpare" = some 4 by kernel_rfl).symm.trans hf) |>.symm
      obtain rfl : fn = Tryz.f4 := (Option.some.inj (Tryz.func4.symm.trans hfn)).symm
      exact ⟨by kernel_rfl, fun j t ht => by
        rw [Tryz.params4] at ht
        have hm : t ∈ [25, 5] := by simpa using Array.mem_of_getElem? ht
        have hall : ([25, 5].all fun u => !Tryz.prog.wantsStandIn u) = true := by kernel_rfl
        exact (show Tryz.prog.wantsStandIn t = false by simpa using List.all_eq_true.1 hall t hm)⟩)
    (by kernel_rfl)

end Go.Proofs.YtoemljgkofhhpaaGreatDoor
