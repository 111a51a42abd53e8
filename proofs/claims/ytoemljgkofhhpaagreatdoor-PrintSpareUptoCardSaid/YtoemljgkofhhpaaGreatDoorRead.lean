import Derived.Test.YtoemljgkofhhpaaGreatDoorLaw3
import Derived.Test.YtoemljgkofhhpaaGreatDoorRows
import Derived.OpenShut
import Derived.SliceStrings
import Derived.DataReads
import Derived.Lib.LaidU8
import Derived.PinnedBridge
import Derived.LaidMore
import Derived.Stop.LaidErr
import Derived.ShapedOpen
namespace Go.Proofs.YtoemljgkofhhpaaGreatDoor
open Go.RowKit Go.ChangeShapes

theorem c25 : Tryz.prog.cellsOf 25 = 5 := by kernel_rfl
theorem c3 : Tryz.prog.cellsOf 3 = 1 := by kernel_rfl
theorem c9 : Tryz.prog.cellsOf 9 = 1 := by kernel_rfl
theorem c22 : Tryz.prog.cellsOf 22 = 1 := by kernel_rfl
theorem c23 : Tryz.prog.cellsOf 23 = 1 := by kernel_rfl
theorem bulks_le {H : Type} : ∀ (l : List T) (ds : List (DataW H)), l.length = ds.length → (∀ (i : Nat) (x : T) (d : DataW H), l[i]? = some x → ds[i]? = some d → x.bulk ≤ Rows.uptoBulk d) → T.bulks l ≤ Rows.uptoBulkAll ds
  | [], [], _, _ => Nat.le_refl _
  | x :: l, d :: ds, hl, h => by
    have h0 := h 0 x d rfl rfl
    have h1 := bulks_le l ds (by simpa using hl) (fun i y e hy he => h (i + 1) y e (by simpa using hy) (by simpa using he))
    simp only [T.bulks, Rows.uptoBulkAll]; omega
theorem wfs_of : ∀ (l : List T), (∀ (i : Nat) (x : T), l[i]? = some x → x.wf) → T.wfs l
  | [], _ => trivial
  | x :: l, h => ⟨h 0 x rfl, wfs_of l (fun i y hy => h (i + 1) y (by simpa using hy))⟩
theorem one_of {cs : List Value} {k : Nat} {v : Value} (h : (cs.drop k).take 1 = [v]) : cs[k]? = some v := by
  have := congrArg (·[0]?) h
  simpa [List.getElem?_take, List.getElem?_drop] using this
theorem u64_of {m : Int} (h : (Lit.int .u64 m).wf = true) : 0 ≤ m ∧ m ≤ 18446744073709551615 := by
  simp [Lit.wf, IntKind.min, IntKind.max, IntKind.signed, IntKind.bits] at h
  omega
theorem add_none (b o k : Nat) : (⟨b, o, none⟩ : Addr).add k = ⟨b, o + k, none⟩ := by unfold Addr.add; split <;> simp_all

section
variable {H : Type} {enc : TypeId × Value → H} {W : World} {sp : Nat → Bool} {held : Bool}
set_option maxRecDepth 20000 in
theorem node_read (N : Nat) : ∀ (fuel : Nat) (cs : List Value) (y : DataW H × List MemPlace), fuel ≤ N → DataW.trod enc Tryz.prog W 0 sp held fuel 25 cs = some y →
    ∃ (x : T) (A : Option Addr) (c : Nat), cs = [.int .i64 x.kind, .string x.text, .int .u64 x.num, .int .i64 x.place, .slice A x.list.length c] ∧ Rd W x.list A c ∧ x.bulk ≤ Rows.uptoBulk y.1 ∧ x.wf := by
  induction N with
  | zero =>
    intro fuel cs y hf h
    obtain rfl : fuel = 0 := by omega
    simp [DataW.trod] at h
  | succ N ih =>
    intro fuel cs y hfu h
    obtain ⟨xs, n, rfl, rfl, hcl, hxl, hall⟩ := DataW.trod_struct Tryz.underlying25 h
    rw [c25] at hcl
    match xs, hxl with
    | [y0, y1, y2, y3, y4], _ =>
    have f0 : DataW.trod enc Tryz.prog W 0 sp held n 3 ((cs.drop 0).take (Tryz.prog.cellsOf 3)) = some y0 := hall 0 _ rfl
    rw [c3] at f0
    have f1 : DataW.trod enc Tryz.prog W 0 sp held n 9 ((cs.drop 1).take (Tryz.prog.cellsOf 9)) = some y1 := hall 1 _ rfl
    rw [c9] at f1
    have f2 : DataW.trod enc Tryz.prog W 0 sp held n 22 ((cs.drop 2).take (Tryz.prog.cellsOf 22)) = some y2 := hall 2 _ rfl
    rw [c22] at f2
    have f3 : DataW.trod enc Tryz.prog W 0 sp held n 3 ((cs.drop 3).take (Tryz.prog.cellsOf 3)) = some y3 := hall 3 _ rfl
    rw [c3] at f3
    have f4 : DataW.trod enc Tryz.prog W 0 sp held n 23 ((cs.drop 4).take (Tryz.prog.cellsOf 23)) = some y4 := hall 4 _ rfl
    rw [c23] at f4
    obtain ⟨k, e0, hy0, _⟩ := DataW.trod_int Tryz.underlying3 f0
    obtain ⟨t, e1, hy1, _⟩ := DataW.trod_string Tryz.underlying9 f1
    obtain ⟨m, e2, hy2, hm⟩ := DataW.trod_int Tryz.underlying22 f2
    obtain ⟨p, e3, hy3, _⟩ := DataW.trod_int Tryz.underlying3 f3
    have e0 := one_of e0
    have e1 := one_of e1
    have e2 := one_of e2
    have e3 := one_of e3
    have hm := u64_of hm
    subst hy0 hy1 hy2 hy3
    have hcs : ∀ v, cs[4]? = some v → cs = [.int .i64 k, .string t, .int .u64 m, .int .i64 p, v] := fun v e4 => by
      match cs, hcl with
      | [a, b, c, d, e], _ => simp at e0 e1 e2 e3 e4; subst e0 e1 e2 e3 e4; rfl
    have hts : t.data.toList.length = t.size := by rw [Array.length_toList]; rfl
    rcases DataW.trod_slice Tryz.underlying23 f4 with ⟨e4, hy4⟩ | ⟨a, len, cap, elems, rest, n2, hn2, e4, hy4, hb, hl, hmx, hel, hev, -, -⟩
    · subst hy4
      refine ⟨T.mk k t m p [], none, 0, hcs _ (one_of e4), Rd.nil W, ?_, ?_⟩
      · simp only [T.bulk, T.bulks, List.map_cons, List.map_nil, Rows.uptoBulk, Rows.uptoBulkAll, hts]; omega
      · simp only [T.wf, T.wfs]; exact ⟨hm.1, hm.2, trivial⟩
    · have hspot : 0 < len → a.spot = none := fun h0 => by
        obtain ⟨d, hd⟩ : ∃ d, elems[0]? = some d := ⟨elems[0]'(by omega), by simp⟩
        have hb2 := hev 0 h0
        rw [hd, c25, Option.bind_eq_some_iff] at hb2
        obtain ⟨cs2, hc2, hr2⟩ := hb2
        obtain ⟨x, A, c, rfl, -, -, -⟩ := ih n2 cs2 d (by omega) hr2
        have hcell := (World.cells?_some hc2).2.2 0 (by omega)
        have := World.cell?_spot hcell
        simpa [Addr.add] using this
      have each : ∀ i, ∃ q : T × Option Addr × Nat, i < len → Cells W a.block (a.off + i * 5) q.1 q.2.1 q.2.2 ∧ a.spot = none ∧ Rd W q.1.list q.2.1 q.2.2 ∧ q.1.wf ∧ ∀ d, elems[i]? = some d → q.1.bulk ≤ Rows.uptoBulk d.1 := fun i => by
        by_cases hi : i < len
        · obtain ⟨d, hd⟩ : ∃ d, elems[i]? = some d := ⟨elems[i]'(by omega), by simp⟩
          have hb2 := hev i hi
          rw [hd, c25, Option.bind_eq_some_iff] at hb2
          obtain ⟨cs2, hc2, hr2⟩ := hb2
          obtain ⟨x, A, c, rfl, hrd, hbk, hwf⟩ := ih n2 cs2 d (by omega) hr2
          have hcell := (World.cells?_some hc2)
          refine ⟨(x, A, c), fun _ => ?_⟩
          have hat : ∀ j v, [Value.int .i64 x.kind, .string x.text, .int .u64 x.num, .int .i64 x.place, .slice A x.list.length c][j]? = some v → W.cell? ((a.add (i * 5)).add j) = some v := by
            intro j v hv
            have hj := (List.getElem?_eq_some_iff.1 hv).1
            rw [hcell.2.2 j (by simpa using hj)]; exact hv
          have hspot := hspot (by omega)
          obtain ⟨ab, ao, asp⟩ := a
          simp only at hspot
          subst hspot
          simp only [add_none] at hat
          refine ⟨⟨hat 0 _ rfl, hat 1 _ rfl, hat 2 _ rfl, hat 3 _ rfl, hat 4 _ rfl⟩, rfl, hrd, hwf, fun d2 hd2 => ?_⟩
          rw [hd] at hd2
          cases hd2
          exact hbk
        · exact ⟨(T.mk 0 ⟨#[]⟩ 0 0 [], none, 0), fun h => absurd h hi⟩
      obtain ⟨z, hz⟩ := Classical.axiomOfChoice each
      subst hy4
      have hlen : ((List.range len).map fun i => (z i).1).length = len := by simp
      have hget : ∀ i x, ((List.range len).map fun i => (z i).1)[i]? = some x → i < len ∧ x = (z i).1 := fun i x hx => by
        simp only [List.getElem?_map, Option.map_eq_some_iff] at hx
        obtain ⟨i2, h1, h2⟩ := hx
        have h3 := List.getElem?_eq_some_iff.1 h1
        obtain ⟨h4, h5⟩ := h3
        simp at h4 h5
        subst h5
        exact ⟨h4, h2.symm⟩
      refine ⟨T.mk k t m p ((List.range len).map fun i => (z i).1), some a, cap, ?_, ?_, ?_, ?_⟩
      · dsimp only [T.kind_mk, T.text_mk, T.num_mk, T.place_mk, T.list_mk]
        rw [hlen]
        exact hcs _ (one_of e4)
      · refine .mk _ _ _ a.block a.off (fun i => (z i).2.1) (fun i => (z i).2.2) (by rw [T.list_mk, hlen]; exact hl) (fun h0 => ?_) (fun i x hx => ?_) (fun i x hx => ?_)
        · rw [T.list_mk, hlen] at h0
          have := (hz 0 h0).2.1
          obtain ⟨ab, ao, asp⟩ := a
          simp only at this
          subst this
          rfl
        · obtain ⟨hi, rfl⟩ := hget i x hx
          exact (hz i hi).1
        · obtain ⟨hi, rfl⟩ := hget i x hx
          exact (hz i hi).2.2.1
      · have hbs := bulks_le ((List.range len).map fun i => (z i).1) (elems.map (·.1)) (by rw [hlen, List.length_map, hel]) (fun i x d hx hd => by
          obtain ⟨hi, rfl⟩ := hget i x hx
          simp only [List.getElem?_map, Option.map_eq_some_iff] at hd
          obtain ⟨d2, h1, rfl⟩ := hd
          exact (hz i hi).2.2.2.2 d2 h1)
        simp only [T.bulk, List.map_cons, List.map_nil, Rows.uptoBulk, Rows.uptoBulkAll, hts]; omega
      · simp only [T.wf]
        refine ⟨hm.1, hm.2, wfs_of _ (fun i x hx => ?_)⟩
        obtain ⟨hi, rfl⟩ := hget i x hx
        exact (hz i hi).2.2.2.1
end
end Go.Proofs.YtoemljgkofhhpaaGreatDoor
