/- PrintBinds: for every operator's text the program and the reference say alike how strong it binds, and the program's fixed answers are right. No condition. -/
import Derived.Test.YtoemljgkofhhpaaDoorCards
import Derived.Test.YtoemljgkofhhpaaDoorTie
import Derived.Test.YtoemljgkofhhpaaDoorAnswers
import Derived.ProofKit
import Derived.OpenShut
import Derived.LaidMore
import Derived.Lay
import Derived.SevenTiedAt
import Derived.Stop.Joined
import Derived.Stop.LaidErr
import Derived.Deep.DeepHandedRow
import Derived.SliceStrings
namespace Go.Proofs.YtoemljgkofhhpaaDoor
open Go.ChangeShapes Go.WideShapes Go.ChangeAt Go.RowKit
open Go.ChangeMaps (open_string shut_string)

theorem own : ownKnob Tryd.prog.godebug = none := by kernel_rfl
theorem gOps : Tryd.prog.globalNamed "mullion/tree.Ops" = some 0 := by kernel_rfl
theorem gOpsType : (Tryd.prog.globals[0]?).map (·.type) = some 39 := by kernel_rfl
theorem cells38 : Tryd.prog.cellsOf 38 = 1 := by kernel_rfl
theorem cells9 : Tryd.prog.cellsOf 9 = 1 := by kernel_rfl

theorem row_of_trod {H : Type} {enc : TypeId × Value → H} {W : World} {sp : Nat → Bool} {held : Bool} {fuel : Nat} {cs : List Value} {ss : List ByteArray} {q : List MemPlace} (hne : ss ≠ [])
    (h : DataW.trod enc Tryd.prog W 0 sp held fuel 38 cs = some (.slice (ss.map fun s => .lit (.string s.data.toList)) [], q)) :
    ∃ b o c, cs = [.slice (some ⟨b, o, none⟩) ss.length c] ∧ ∀ j, j < ss.length → W.cell? ⟨b, o + j, none⟩ = some (.string (ss.getD j ByteArray.empty)) := by
  rcases open_strings Tryd.underlying38 Tryd.underlying9 cells9 h with ⟨_, hx⟩ | ⟨a, len, cap, ts, hcs, _, hl, _, hz, hx, hcell, _⟩
  · simp at hx
  · simp only [Prod.mk.injEq, DataW.slice.injEq] at hx
    obtain ⟨⟨h1, _⟩, _⟩ := hx
    have e : ts.take len = ss := by
      have h2 : (ts.take len).map (fun s : ByteArray => s.data.toList) = ss.map (fun s : ByteArray => s.data.toList) := by
        have := congrArg (List.map fun d : DataW H => match d with | .lit (.string l) => l | _ => []) h1
        simpa [strs, Function.comp_def] using this.symm
      refine (List.map_inj_right (fun x y hxy => ?_)).1 h2
      cases x with
      | mk dx => cases y with
        | mk dy => cases dx; cases dy; simp at hxy; subst hxy; rfl
    have hlen : ss.length = len := by
      have h3 : len ≤ ts.length := by split at hz <;> omega
      rw [← e, List.length_take]; omega
    subst hlen
    have hpos : 0 < ss.length := List.length_pos_iff.2 hne
    have hts : ss.length ≤ ts.length := by split at hz <;> omega
    have hspot : a.spot = none := by
      have := World.cell?_spot (hcell 0 (by omega))
      simpa [Addr.add] using this
    obtain ⟨b, o, sp'⟩ := a
    simp only at hspot
    subst hspot
    refine ⟨b, o, cap, hcs, fun j hj => ?_⟩
    have hc := hcell j (by omega)
    have ha : (⟨b, o, none⟩ : Addr).add j = ⟨b, o + j, none⟩ := by unfold Addr.add; split <;> simp_all
    rw [ha] at hc
    rw [hc]
    congr 2
    have : (ts.take ss.length).getD j ByteArray.empty = ts.getD j ByteArray.empty := by simp [List.getD_eq_getElem?_getD, hj]
    rw [← this, e]

theorem ops_of_laid {W : World} (h : laidMetH Tryd.prog Rows.printBindsRow.laid W) : ∃ b o c t fr, OpsAt W b o c t fr := by
  rw [MakeChecks.laidMetH_plain _ _ _ (by kernel_rfl)] at h
  have h4 := h.tail.tail.tail.tail
  obtain ⟨ps, ⟨g, t, cs, fuel, p, q, hg, ht, hv, hd, _, _⟩, _, _⟩ := h4
  obtain rfl := Option.some.inj (gOps.symm.trans hg)
  obtain rfl := Option.some.inj (gOpsType.symm.trans ht)
  obtain ⟨xs, m, _, ex, hcl, hl, hel⟩ := DataW.trod_array Tryd.underlying39 hd
  have e5 := (Prod.mk.inj ex).1
  simp only [cells38, Nat.mul_one] at hel
  have hx : ∀ i, i < 5 → ∃ q, xs[i]? = some (.slice ((opsRow i).map fun s => .lit (.string s.data.toList)) [], q) := by
    intro i hi
    have e6 := congrArg (fun d : DataW Unit => match d with | .agg l => l[i]? | _ => none) e5
    simp only [Rows.laid_mullion_tree_Ops, List.getElem?_map] at e6
    have hi' : i = 0 ∨ i = 1 ∨ i = 2 ∨ i = 3 ∨ i = 4 := by omega
    cases hxi : xs[i]? with
    | none => rw [List.getElem?_eq_none_iff] at hxi; omega
    | some y =>
      rw [hxi] at e6
      refine ⟨y.2, ?_⟩
      congr 1
      refine Prod.ext ?_ rfl
      rcases hi' with rfl | rfl | rfl | rfl | rfl <;> (simp at e6; rw [← e6]; rfl)
  have hr : ∀ i, i < 5 → ∃ b o c, (cs.toList.drop i).take 1 = [.slice (some ⟨b, o, none⟩) (opsRow i).length c] ∧ ∀ j, j < (opsRow i).length → W.cell? ⟨b, o + j, none⟩ = some (.string ((opsRow i).getD j ByteArray.empty)) := by
    intro i hi
    obtain ⟨q, hq⟩ := hx i hi
    have h := hel i hi
    rw [hq] at h
    refine row_of_trod ?_ h
    have hi' : i = 0 ∨ i = 1 ∨ i = 2 ∨ i = 3 ∨ i = 4 := by omega
    rcases hi' with rfl | rfl | rfl | rfl | rfl <;> simp [opsRow, opsTab]
  have hr' : ∀ i, ∃ z : Nat × Nat × Nat, i < 5 → (cs.toList.drop i).take 1 = [.slice (some ⟨z.1, z.2.1, none⟩) (opsRow i).length z.2.2] ∧ ∀ j, j < (opsRow i).length → W.cell? ⟨z.1, z.2.1 + j, none⟩ = some (.string ((opsRow i).getD j ByteArray.empty)) := by
    intro i
    by_cases hi : i < 5
    · obtain ⟨b, o, c, hz⟩ := hr i hi
      exact ⟨(b, o, c), fun _ => hz⟩
    · exact ⟨(0, 0, 0), fun h => absurd h hi⟩
  obtain ⟨z, hz⟩ := Classical.axiomOfChoice hr'
  obtain ⟨ty, fr, hb⟩ : ∃ ty fr, W.heap[0]? = some (.cells cs ty fr) := by
    unfold World.var? at hv
    rw [gOps] at hv
    simp only [Option.bind_some] at hv
    split at hv
    · rename_i cs' ty fr hh
      injection hv with hv
      subst hv
      exact ⟨ty, fr, hh⟩
    · cases hv
  have hc5 : cs.toList.length = 5 := by rw [hcl]; kernel_rfl
  have hcs : cs = #[.slice (some ⟨(z 0).1, (z 0).2.1, none⟩) 7 (z 0).2.2, .slice (some ⟨(z 1).1, (z 1).2.1, none⟩) 4 (z 1).2.2, .slice (some ⟨(z 2).1, (z 2).2.1, none⟩) 6 (z 2).2.2, .slice (some ⟨(z 3).1, (z 3).2.1, none⟩) 1 (z 3).2.2, .slice (some ⟨(z 4).1, (z 4).2.1, none⟩) 1 (z 4).2.2] := by
    have e0 := (hz 0 (by decide)).1
    have e1 := (hz 1 (by decide)).1
    have e2 := (hz 2 (by decide)).1
    have e3 := (hz 3 (by decide)).1
    have e4 := (hz 4 (by decide)).1
    apply Array.ext'
    match hl5 : cs.toList, hc5 with
    | [v0, v1, v2, v3, v4], _ =>
      rw [hl5] at e0 e1 e2 e3 e4
      simp at e0 e1 e2 e3 e4
      rw [e0, e1, e2, e3, e4]
      rfl
  exact ⟨fun i => (z i).1, fun i => (z i).2.1, fun i => (z i).2.2, ty, fr, by rw [hb, hcs], fun i j hi hj => (hz i hi).2 j hj⟩

set_option maxRecDepth 100000 in
theorem lifted (os : Os) (started : os.Started) (H : Type) (enc : TypeId × Value → H) :
    ReturnsInHanded {} Tryd.checked os 3 .any (fun w args => (Rows.printBindsSpec.pre enc Tryd.prog Tryd.f3 Rows.printBindsRow.domain false w args ∧ laidMetH Tryd.prog Rows.printBindsRow.laid w) ∧ sizedMet enc Tryd.prog Tryd.f3 (OpenSpec.ofChange Rows.printBindsSpec) false w args)
      (Rows.printBindsSpec.post enc Tryd.prog Tryd.f3 false true false false) := by
  refine returnsInHanded_of_change_and (C := Tryd.checked) (X := fun w _ => laidMetH Tryd.prog Rows.printBindsRow.laid w) (fun _ _ _ hh h => h.of_heap hh) own started (by kernel_rfl) Tryd.func3
    (ChangeSpec.witness_shaped (enc := enc) (C := Tryd.checked) (os := os) (X := fun w _ => laidMetH Tryd.prog Rows.printBindsRow.laid w) false (World.laidAll Tryd.prog os Rows.printBindsRow.laid) #[.string ⟨#[]⟩] 8 (World.laidAll_os _ _ _)
      (World.shaped_of_ZipB (by kernel_rfl) (by kernel_rfl)) (by kernel_rfl) (by kernel_rfl) (by kernel_rfl)
      (by rw [MakeChecks.laidMetH_plain _ _ _ (by kernel_rfl)]; exact laidMet_laidAll _ (by kernel_rfl) (by kernel_rfl))) ?_
  intro W base args ds gs before hval0 hW _ _ hL _
  have hval : ∀ (j : Nat) t v, Tryd.f3.params[j]? = some t → args[j]? = some v → Value.okWide Tryd.prog W .any base t v := hval0
  have hW' := hW
  obtain ⟨p, q, hA0, hV, rfl, hfz, hnd⟩ := hW
  have hA : DataW.TrodAll enc Tryd.prog W 0 (fun _ => true) true Tryd.f3.params.toList args.toList ds p := hA0
  rw [Tryd.params3] at hA hval
  obtain ⟨v0, d0, rfl, rfl, h0⟩ := trodAll_one hA
  obtain ⟨rfl, rfl⟩ := trodVars_none hV
  obtain ⟨x, rfl, rfl, rfl, hs⟩ := open_string Tryd.underlying9 (hval 0 9 v0 rfl rfl) h0
  clear hA0 hval0
  simp only [List.append_nil] at hW'
  obtain ⟨b, o, c, t, fr, hops⟩ := ops_of_laid hL
  refine (law_any x W b o c t fr hops).mono fun e W' ⟨he, hb⟩ => ?_
  subst he
  refine ⟨_, rfl, _, _, _, [], [], [], hW', ?_, ?_, rfl, hb.frame _, fun h => by cases h⟩
  · exact trodAll_mk1 (shut_bool Tryd.underlying4 _)
  · exact trodAll_mk1 (shut_string Tryd.underlying9 hs)

theorem said : Rows.PrintBindsSaid :=
  OpenClaim.holds_of_wide 3 Tryd.f3 rfl rfl rfl rfl rfl rfl rfl ⟨rfl, rfl, rfl, rfl, rfl⟩ rfl rfl rfl rfl rfl (by kernel_rfl) Tryd.func3 (by kernel_rfl)
    (of_decide_eq_true (by kernel_rfl)) (by unfold Func.isWrapper; first | (rw [if_pos (by decide +kernel)]; kernel_rfl) | (rw [if_neg (by decide +kernel)]; exact ⟨rfl, rfl⟩))
    (fun os started H enc _ => lifted os started H enc)

theorem printBinds_holds : Rows.PrintBindsCardSaid :=
  Claim7.holds_tied_plain_at .later [] _ _ _ _ said (fun _ h => by cases h) (by kernel_rfl) (fun _ h => by cases h) printBinds_row_tie rfl ⟨rfl, rfl⟩ (by kernel_rfl) rfl
    (fun f fn hf hfn => by
      obtain rfl : f = 3 := Option.some.inj ((show Tryd.prog.funcNamed "mullion/mullionlaw06.PrintBinds" = some 3 by kernel_rfl).symm.trans hf) |>.symm
      obtain rfl : fn = Tryd.f3 := (Option.some.inj (Tryd.func3.symm.trans hfn)).symm
      exact ⟨by kernel_rfl, fun j t ht => by
        rw [Tryd.params3] at ht
        have hm : t ∈ [9] := by simpa using Array.mem_of_getElem? ht
        have hall : ([9].all fun u => !Tryd.prog.wantsStandIn u) = true := by kernel_rfl
        exact (show Tryd.prog.wantsStandIn t = false by simpa using List.all_eq_true.1 hall t hm)⟩)
    (by kernel_rfl)
#print axioms printBinds_holds
end Go.Proofs.YtoemljgkofhhpaaDoor
