/- PrintTexts: for every tree of bulk at most 1048576 (nodes and letters, each counted as often as it is reached) the program and the reference write the same texts of it as a program, as an expression and as a type, and answer the same error where there is none; the program's fixed answers are right. Condition: the bulk. -/
import Derived.Test.YtoemljgkofhhpaaGreatDoorLaid
import Derived.Test.YtoemljgkofhhpaaGreatDoorCards
import Derived.Test.YtoemljgkofhhpaaGreatDoorTie
import Derived.ProofKit
import Derived.OpenShut
import Derived.LaidMore
import Derived.Lay
import Derived.Carry
import Derived.SevenTiedAt
import Derived.Stop.Joined
import Derived.Stop.LaidErr
import Derived.Deep.DeepHandedRow
namespace Go.Proofs.YtoemljgkofhhpaaGreatDoor
open Go.ChangeShapes Go.WideShapes Go.ChangeAt Go.RowKit

theorem own : ownKnob Tryz.prog.godebug = none := by kernel_rfl
theorem laidOut : laidOutB Tryz.prog = true := by kernel_rfl
theorem read25 : Tryz.prog.readableRec 25 = true := by kernel_rfl
theorem row25 : 25 < Tryz.prog.types.size := of_decide_eq_true (by kernel_rfl)
theorem small_of {H : Type} {d : DataW H} (h : Rows.uptoSmall H [d] = true) : Rows.uptoBulk d ≤ 1048576 := by
  have h2 : Rows.uptoBulkAll [d] ≤ 1048576 := of_decide_eq_true h
  simp only [Rows.uptoBulkAll] at h2
  omega
theorem contract (H : Type) (enc : TypeId × Value → H) (W : World) (args : Array Value) (ds gs : List (DataW H)) (before : List MemPlace)
    (hW : DataW.Whole enc Tryz.prog Tryz.f3.params.toList Rows.printTextsSpec.vars false W args.toList ds gs before) (hk : Rows.uptoSmall H (ds ++ gs) = true) (hL : laidMetH Tryz.prog Rows.printTextsUptoRow.laid W) (hs : W.ShapedOpen Tryz.prog)
    (hv : ∀ v, args = #[v] → ∃ cs, v = .agg cs) :
    Calls Tryz.prog 3 args W fun e W' => ∃ v, e = .returned v ∧ Rows.printTextsSpec.post enc Tryz.prog Tryz.f3 false true false false W args v W' := by
  have hW' := hW
  obtain ⟨p, q, hA0, hV, rfl, hfz, hnd⟩ := hW
  have hA : DataW.TrodAll enc Tryz.prog W 0 (fun _ => true) true Tryz.f3.params.toList args.toList ds p := hA0
  rw [Tryz.params3] at hA
  have hlt := hA.lt
  obtain ⟨v0, d0, rfl, rfl, h0⟩ := trodAll_one hA
  obtain ⟨rfl, rfl⟩ := trodVars_none hV
  obtain ⟨cs0, rfl⟩ := hv v0 rfl
  obtain ⟨fuel, hf⟩ := h0
  obtain ⟨x, A, c, hcs, hR, hb, hwf⟩ := node_read fuel fuel _ _ (Nat.le_refl _) hf
  have hcs2 : cs0 = #[.int .i64 x.kind, .string x.text, .int .u64 x.num, .int .i64 x.place, .slice A x.list.length c] := by
    apply Array.ext'
    exact hcs
  subst hcs2
  simp only [List.append_nil] at hW' hk
  have hbd := small_of hk
  have hb : x.bulk ≤ Rows.uptoBulk d0 := hb
  have hF : Fine x := ⟨hwf, by omega⟩
  refine (law3_any x A c W hF hR (env_of hL hs)).mono fun e W' ⟨he, hbw⟩ => ?_
  subst he
  refine ⟨_, rfl, _, _, _, [], p, [], hW', ?_, ?_, rfl, hbw.frame _, fun h => by cases h⟩
  · exact trodAll_mk1 (shut_bool Tryz.underlying4 _)
  · exact trodAll_mk1 (Below.trod laidOut read25 row25 ⟨fuel, hf⟩ hbw hlt)

/-- The witness: an empty node. -/
def arg0 : Value := .agg #[.int .i64 0, .string ⟨#[]⟩, .int .u64 0, .int .i64 0, .slice none 0 0]
set_option maxRecDepth 100000 in
theorem lifted (os : Os) (started : os.Started) (H : Type) (enc : TypeId × Value → H) (F : Stop.Interp) :
    ReturnsInHanded {} Tryz.checked os 3 .any ((Rows.OpenSpec.upto Rows.printTextsSpec).preRow enc Tryz.prog Tryz.f3 Rows.printTextsUptoRow.domain false Rows.printTextsUptoRow.laid) (((Rows.OpenSpec.upto Rows.printTextsSpec).at F).post enc Tryz.prog Tryz.f3 false true false false) := by
  refine returnsInHanded_of_row (C := Tryz.checked) (s := Rows.OpenSpec.upto Rows.printTextsSpec) own started (by kernel_rfl) Tryz.func3 ?_ ?_
  · refine ⟨World.laidAll Tryz.prog os Rows.printTextsUptoRow.laid, fun _ _ => 0, ⟨#[], #[arg0], []⟩, World.laidAll_os _ _ _, World.shaped_of_ZipB (by kernel_rfl) (by kernel_rfl), rfl, ?_, ?_, ?_⟩
    · exact (Input.okWide_of_okWideB (base := 0) (by kernel_rfl)).2
    · exact OpenSpec.preRow_of_cond (x := ([.agg [.lit (.int .i64 0), .lit (.string []), .lit (.int .u64 0), .lit (.int .i64 0), .nil]], [], [])) 8 (by kernel_rfl) (by kernel_rfl) (fun k hk => by cases hk; kernel_rfl) (by kernel_rfl)
        (by rw [MakeChecks.laidMetH_plain _ _ _ (by kernel_rfl)]; exact laidMet_laidAll _ (by kernel_rfl) (by kernel_rfl))
    · simp only [Assume.holds]
      exact ⟨by simp, by simp, fun _ => Modest.zero, by simp, by simp⟩
  · intro W base args ds gs before hval hW _ hcond _ hL hs _
    refine contract H enc W args ds gs before hW (hcond _ rfl) hL hs (fun v hv => ?_)
    subst hv
    have h : Value.okWide Tryz.prog W .any base 25 v := hval 0 25 v (by rw [Tryz.params3]; rfl) rfl
    simp only [Value.okWide, Tryz.underlying25] at h
    obtain ⟨cs, h1, -⟩ := h
    exact ⟨cs, h1⟩

theorem said : Rows.PrintTextsUptoSaid :=
  OpenClaim.holds_of_cond 3 Tryz.f3 rfl rfl rfl rfl rfl rfl rfl ⟨rfl, rfl, rfl, rfl, rfl⟩ rfl rfl rfl rfl rfl (by kernel_rfl) Tryz.func3 (by kernel_rfl)
    (of_decide_eq_true (by kernel_rfl)) (by unfold Func.isWrapper; first | (rw [if_pos (by decide +kernel)]; kernel_rfl) | (rw [if_neg (by decide +kernel)]; exact ⟨rfl, rfl⟩))
    (fun os started H enc _ F => by rw [OpenClaim.pre_eq_preRow]; exact lifted os started H enc F)

theorem printTexts_holds : Rows.PrintTextsUptoCardSaid :=
  Claim7.holds_tied_plain_at .later [] _ _ _ _ said (fun _ h => by cases h) (by kernel_rfl) (fun _ h => by cases h) printTextsUpto_row_tie rfl ⟨rfl, rfl⟩ (by kernel_rfl) rfl
    (fun f fn hf hfn => by
      obtain rfl : f = 3 := Option.some.inj ((show Tryz.prog.funcNamed "mullion/mullionlaw06.PrintTexts" = some 3 by kernel_rfl).symm.trans hf) |>.symm
      obtain rfl : fn = Tryz.f3 := (Option.some.inj (Tryz.func3.symm.trans hfn)).symm
      exact ⟨by kernel_rfl, fun j t ht => by
        rw [Tryz.params3] at ht
        have hm : t ∈ [25] := by simpa using Array.mem_of_getElem? ht
        have hall : ([25].all fun u => !Tryz.prog.wantsStandIn u) = true := by kernel_rfl
        exact (show Tryz.prog.wantsStandIn t = false by simpa using List.all_eq_true.1 hall t hm)⟩)
    (by kernel_rfl)

end Go.Proofs.YtoemljgkofhhpaaGreatDoor
