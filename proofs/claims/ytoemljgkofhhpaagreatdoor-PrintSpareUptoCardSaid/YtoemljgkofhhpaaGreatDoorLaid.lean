import Derived.Test.YtoemljgkofhhpaaGreatDoorRead
namespace Go.Proofs.YtoemljgkofhhpaaGreatDoor
open Go.ChangeShapes Go.WideShapes Go.ChangeAt Go.RowKit

theorem gOps : Tryz.prog.globalNamed "mullion/tree.Ops" = some 0 := by kernel_rfl
theorem gOpsType : (Tryz.prog.globals[0]?).map (·.type) = some 93 := by kernel_rfl
theorem cells66 : Tryz.prog.cellsOf 66 = 1 := by kernel_rfl
theorem cells9 : Tryz.prog.cellsOf 9 = 1 := by kernel_rfl
theorem row_of_trod {H : Type} {enc : TypeId × Value → H} {W : World} {sp : Nat → Bool} {held : Bool} {fuel : Nat} {cs : List Value} {ss : List ByteArray} {q : List MemPlace} (hne : ss ≠ [])
    (h : DataW.trod enc Tryz.prog W 0 sp held fuel 66 cs = some (.slice (ss.map fun s => .lit (.string s.data.toList)) [], q)) :
    ∃ b o c, cs = [.slice (some ⟨b, o, none⟩) ss.length c] ∧ ∀ j, j < ss.length → W.cell? ⟨b, o + j, none⟩ = some (.string (ss.getD j ByteArray.empty)) := by
  rcases open_strings Tryz.underlying66 Tryz.underlying9 cells9 h with ⟨_, hx⟩ | ⟨a, len, cap, ts, hcs, _, hl, _, hz, hx, hcell, _⟩
  · simp at hx
  · simp only [Prod.mk.injEq, DataW.slice.injEq] at hx
    obtain ⟨⟨h1, _⟩, _⟩ := hx
    have e : ts.take len = ss := by
      have h2 : (ts.take len).map (fun s : ByteArray => s.data.toList) = ss.map (fun s : ByteArray => s.data.toList) := by
        have := congrArg (List.map fun d : DataW H => match d with | .lit (.string l) => l | _ => []) h1
        simpa [strs, Function.comp_def] using this.symm
      refine (List.map_inj_right (fun x y hxy => ?_)).1 h2
      cases x with
      | mk dx => cases y with
        | mk dy => cases dx; cases dy; simp at hxy; subst hxy; rfl
    have hlen : ss.length = len := by
      have h3 : len ≤ ts.length := by split at hz <;> omega
      rw [← e, List.length_take]; omega
    subst hlen
    have hpos : 0 < ss.length := List.length_pos_iff.2 hne
    have hts : ss.length ≤ ts.length := by split at hz <;> omega
    have hspot : a.spot = none := by
      have := World.cell?_spot (hcell 0 (by omega))
      simpa [Addr.add] using this
    obtain ⟨b, o, sp'⟩ := a
    simp only at hspot
    subst hspot
    refine ⟨b, o, cap, hcs, fun j hj => ?_⟩
    have hc := hcell j (by omega)
    have ha : (⟨b, o, none⟩ : Addr).add j = ⟨b, o + j, none⟩ := by unfold Addr.add; split <;> simp_all
    rw [ha] at hc
    rw [hc]
    congr 2
    have : (ts.take ss.length).getD j ByteArray.empty = ts.getD j ByteArray.empty := by simp [List.getD_eq_getElem?_getD, hj]
    rw [← this, e]

theorem ops_of {W : World} (h : Lib.VarReads Tryz.prog W "mullion/tree.Ops" Rows.laid_mullion_tree_Ops) : ∃ b o c t fr, OpsAt W b o c t fr := by
  obtain ⟨g, t, cs, fuel, p, hg, ht, hv, hd⟩ := h
  obtain rfl := Option.some.inj (gOps.symm.trans hg)
  obtain rfl := Option.some.inj (gOpsType.symm.trans ht)
  obtain ⟨xs, m, _, ex, hcl, hl, hel⟩ := DataW.trod_array Tryz.underlying93 hd
  have e5 := (Prod.mk.inj ex).1
  simp only [cells66, Nat.mul_one] at hel
  have hx : ∀ i, i < 5 → ∃ q, xs[i]? = some (.slice ((opsRow i).map fun s => .lit (.string s.data.toList)) [], q) := by
    intro i hi
    have e6 := congrArg (fun d : DataW Unit => match d with | .agg l => l[i]? | _ => none) e5
    simp only [Rows.laid_mullion_tree_Ops, List.getElem?_map] at e6
    have hi' : i = 0 ∨ i = 1 ∨ i = 2 ∨ i = 3 ∨ i = 4 := by omega
    cases hxi : xs[i]? with
    | none => rw [List.getElem?_eq_none_iff] at hxi; omega
    | some y =>
      rw [hxi] at e6
      refine ⟨y.2, ?_⟩
      congr 1
      refine Prod.ext ?_ rfl
      rcases hi' with rfl | rfl | rfl | rfl | rfl <;> (simp at e6; rw [← e6]; rfl)
  have hr : ∀ i, i < 5 → ∃ b o c, (cs.toList.drop i).take 1 = [.slice (some ⟨b, o, none⟩) (opsRow i).length c] ∧ ∀ j, j < (opsRow i).length → W.cell? ⟨b, o + j, none⟩ = some (.string ((opsRow i).getD j ByteArray.empty)) := by
    intro i hi
    obtain ⟨q, hq⟩ := hx i hi
    have h := hel i hi
    rw [hq] at h
    refine row_of_trod ?_ h
    have hi' : i = 0 ∨ i = 1 ∨ i = 2 ∨ i = 3 ∨ i = 4 := by omega
    rcases hi' with rfl | rfl | rfl | rfl | rfl <;> simp [opsRow, opsTab]
  have hr' : ∀ i, ∃ z : Nat × Nat × Nat, i < 5 → (cs.toList.drop i).take 1 = [.slice (some ⟨z.1, z.2.1, none⟩) (opsRow i).length z.2.2] ∧ ∀ j, j < (opsRow i).length → W.cell? ⟨z.1, z.2.1 + j, none⟩ = some (.string ((opsRow i).getD j ByteArray.empty)) := by
    intro i
    by_cases hi : i < 5
    · obtain ⟨b, o, c, hz⟩ := hr i hi
      exact ⟨(b, o, c), fun _ => hz⟩
    · exact ⟨(0, 0, 0), fun h => absurd h hi⟩
  obtain ⟨z, hz⟩ := Classical.axiomOfChoice hr'
  obtain ⟨ty, fr, hb⟩ : ∃ ty fr, W.heap[0]? = some (.cells cs ty fr) := by
    unfold World.var? at hv
    rw [gOps] at hv
    simp only [Option.bind_some] at hv
    split at hv
    · rename_i cs' ty fr hh
      injection hv with hv
      subst hv
      exact ⟨ty, fr, hh⟩
    · cases hv
  have hc5 : cs.toList.length = 5 := by rw [hcl]; kernel_rfl
  have hcs : cs = #[.slice (some ⟨(z 0).1, (z 0).2.1, none⟩) 7 (z 0).2.2, .slice (some ⟨(z 1).1, (z 1).2.1, none⟩) 4 (z 1).2.2, .slice (some ⟨(z 2).1, (z 2).2.1, none⟩) 6 (z 2).2.2, .slice (some ⟨(z 3).1, (z 3).2.1, none⟩) 1 (z 3).2.2, .slice (some ⟨(z 4).1, (z 4).2.1, none⟩) 1 (z 4).2.2] := by
    have e0 := (hz 0 (by decide)).1
    have e1 := (hz 1 (by decide)).1
    have e2 := (hz 2 (by decide)).1
    have e3 := (hz 3 (by decide)).1
    have e4 := (hz 4 (by decide)).1
    apply Array.ext'
    match hl5 : cs.toList, hc5 with
    | [v0, v1, v2, v3, v4], _ =>
      rw [hl5] at e0 e1 e2 e3 e4
      simp at e0 e1 e2 e3 e4
      rw [e0, e1, e2, e3, e4]
      rfl
  exact ⟨fun i => (z i).1, fun i => (z i).2.1, fun i => (z i).2.2, ty, fr, by rw [hb, hcs], fun i j hi hj => (hz i hi).2 j hj⟩


theorem u8x : U8Extra Tryz.prog Tryz.lays260_ren := {
  n3 := by kernel_rfl
  n4 := by kernel_rfl
  y3 := by kernel_rfl
  y4 := by kernel_rfl
  c5 := by kernel_rfl
  c119 := by kernel_rfl
  c138 := by kernel_rfl }
theorem accept_eq : (Rows.laid_unicode_utf8_acceptRanges : DataW Unit) = Lib.acceptData := by kernel_rfl
theorem first_eq : Rows.laid_unicode_utf8_first = Lib.firstData := Pinned.utf8First_eq
theorem tabs_of {W : World} (h3 : Lib.VarReads Tryz.prog W "unicode/utf8.first" Rows.laid_unicode_utf8_first) (h4 : Lib.VarReads Tryz.prog W "unicode/utf8.acceptRanges" Rows.laid_unicode_utf8_acceptRanges) : Lib.Utf8Tabs 3 4 W :=
  utf8Tabs_of_reads Tryz.lays260 u8x (first_eq ▸ h3) (accept_eq ▸ h4)
theorem pow_eq : (Rows.laid_internal_strconv_uint64pow10 : DataW Unit) = Lib.tabData .u64 Lib.pow10Tab := by kernel_rfl
theorem gPow : Tryz.prog.globalNamed "internal/strconv.uint64pow10" = some 2 := by kernel_rfl
theorem gPowType : (Tryz.prog.globals[2]?).map (·.type) = some 145 := by kernel_rfl
theorem c145 : Tryz.prog.cellsOf 145 = 20 := by kernel_rfl
theorem env_of {W : World} (h : laidMetH Tryz.prog Rows.printTextsUptoRow.laid W) (hs : W.ShapedOpen Tryz.prog) : Env W := by
  rw [MakeChecks.laidMetH_plain _ _ _ (by kernel_rfl)] at h
  refine ⟨tabs_of (Lib.laidMet.reads h (by simp [Rows.printTextsUptoRow])) (Lib.laidMet.reads h (by simp [Rows.printTextsUptoRow])), Tryz.laysM143.s1_3 W hs, ops_of (Lib.laidMet.reads h (by simp [Rows.printTextsUptoRow])), ?_⟩
  have hp : Lib.VarReads Tryz.prog W "internal/strconv.uint64pow10" Rows.laid_internal_strconv_uint64pow10 := Lib.laidMet.reads h (by simp [Rows.printTextsUptoRow])
  rw [pow_eq] at hp
  obtain ⟨g, t, cs, fuel, p, hg, ht, hv, hd⟩ := hp
  obtain rfl := Option.some.inj (gPow.symm.trans hg)
  obtain rfl := Option.some.inj (gPowType.symm.trans ht)
  unfold Lib.TabIs
  rw [hv, ← Lib.cells_of_tab Tryz.underlying145 Tryz.underlying22 c22 c145 hd]
end Go.Proofs.YtoemljgkofhhpaaGreatDoor
