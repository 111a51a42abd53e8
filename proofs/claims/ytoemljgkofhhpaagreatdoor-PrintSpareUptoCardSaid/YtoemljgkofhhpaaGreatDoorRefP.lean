import Derived.Test.YtoemljgkofhhpaaGreatDoorRefC
import Derived.Test.YtoemljgkofhhpaaGreatDoorHeadP
namespace Go.Proofs.YtoemljgkofhhpaaGreatDoor
open Go.RowKit

theorem kids_four {l : List T} {v u s r : Int} (h : kindsB l [v, u, s, r] = true) : ∃ y z t q, l = [y, z, t, q] ∧ okKind y.kind v = true ∧ okKind z.kind u = true ∧ okKind t.kind s = true ∧ okKind q.kind r = true := by
  cases l with
  | nil => cases h
  | cons y l =>
    simp only [kindsB, Bool.and_eq_true] at h
    obtain ⟨z, t, q, rfl, h2⟩ := kids_three h.2
    exact ⟨y, z, t, q, rfl, h.1, h2⟩
theorem decl_of {y : T} (hk : y.kind = 3) (hg : goodB 65 y = true) : ∃ g p q b, y.list = [g, p, q, b] ∧ g.kind = 4 ∧ p.kind = 6 ∧ q.kind = 7 ∧ b.kind = 20 := by
  have hch := goodB_kids hg
  simp [childrenB, hk] at hch
  obtain ⟨g, p, q, b, h1, h2, h3, h4, h5⟩ := kids_four hch
  exact ⟨g, p, q, b, h1, by simpa [okKind] using h2, by simpa [okKind] using h3, by simpa [okKind] using h4, by simpa [okKind] using h5⟩
theorem lim_size (n : Int) : (limT n).size ≤ 10 := by
  unfold limT; split
  · decide
  · split <;> decide
theorem genF_short (y : T) : (genF y).size + 100 ≤ 1000 * y.bulk := by
  have h := lim_size y.num
  have hb := T.bulk_eq y
  simp only [genF, ba_size, ba_mk, List.size_toArray, List.length_cons, List.length_nil]; omega
theorem genT_short (l : List T) : (genT l).size ≤ 1000 * T.bulks l + 2 := by
  have h := join_bulk (l := l) (f := genF) (fun y _ => by have := genF_short y; omega)
  unfold genT
  cases l.length == 0
  · rw [cond_false]
    have h2 : (joinT (l.map fun y => y.text ++ (⟨#[32]⟩ : ByteArray) ++ limT y.num)).size ≤ 1000 * T.bulks l := h
    simp only [ba_size, ba_mk, List.size_toArray, List.length_cons, List.length_nil]; omega
  · rw [cond_true]; simp only [ba_mk, List.size_toArray, List.length_nil]; omega
/-- A function's declaration. -/
def funT (t : ByteArray) (g p q b : T) : ByteArray := ⟨#[102, 117, 110, 99, 32]⟩ ++ t ++ genT g.list ++ headT (typT 65) p q ++ blockT 65 0 b ++ ⟨#[10]⟩
def fldT (f : T) : ByteArray := ⟨#[9]⟩ ++ fieldT (typT 65) f ++ ⟨#[10]⟩
def typeT (t : ByteArray) (l : List T) : ByteArray := ⟨#[116, 121, 112, 101, 32]⟩ ++ t ++ ⟨#[32, 115, 116, 114, 117, 99, 116, 32, 123, 10]⟩ ++ catT (l.map fldT) ++ ⟨#[125, 10]⟩
theorem declT_2 (t : ByteArray) (m p : Int) (l : List T) : declT (T.mk 2 t m p l) = typeT t l := rfl
theorem declT_3 (t : ByteArray) (m p : Int) (g q r b : T) : declT (T.mk 3 t m p [g, q, r, b]) = funT t g q r b := rfl
theorem fldT_short (f : T) : (fldT f).size ≤ 1000 * f.bulk := by
  have h := fieldT_short 65 f
  simp only [fldT, ba_size, ba_mk, List.size_toArray, List.length_cons, List.length_nil]; omega
theorem declT_short (y : T) (hk : y.kind = 2 ∨ y.kind = 3) (hg : goodB 65 y = true) (hF : Fine y) : (declT y).size ≤ 1000 * y.bulk := by
  have hb := T.bulk_eq y
  rcases hk with hk | hk
  · cases y with
    | mk k t m p l =>
      dsimp only [T.kind_mk] at hk
      subst hk
      rw [declT_2]
      have h := cat_bulk (l := l) (f := fldT) (fun f _ => fldT_short f)
      dsimp only [T.text_mk, T.list_mk] at hb
      simp only [typeT, ba_size, ba_mk, List.size_toArray, List.length_cons, List.length_nil]; omega
  · obtain ⟨g, q, r, b, hl, -, -, -, -⟩ := decl_of hk hg
    have hgb : goodB 65 b = true := goodB_in hg (by simp [hl])
    have hfb : Fine b := hF.kid (by simp [hl])
    have h1 := (txt_short 65 b 0 hgb hfb.wf (by omega)).2.1
    have h2 := headT_short 65 q r
    have h3 := genT_short g.list
    have h4 := T.bulk_eq g
    cases y with
    | mk k t m p l =>
      dsimp only [T.kind_mk, T.list_mk, T.text_mk] at hk hl hb
      subst hk hl
      rw [declT_3]
      simp only [T.bulks] at hb
      simp only [funT, ba_size, ba_mk, List.size_toArray, List.length_cons, List.length_nil]; omega
theorem decl_kinds {x : T} (hx : x.kind = 1) (hg : goodB 65 x = true) : ∀ y ∈ x.list, y.kind = 2 ∨ y.kind = 3 := by
  have hch := goodB_kids hg
  simp [childrenB, hx, allB] at hch
  exact hch
theorem prog_take {x : T} (hx : x.kind = 1) (hg : goodB 65 x = true) (hF : Fine x) (j : Nat) : (catT ((x.list.map declT).take j)).size ≤ 1048576000 := by
  rw [← List.map_take]
  have h1 := cat_bulk (l := x.list.take j) (f := declT) (fun y hy => by
    have hm := List.mem_of_mem_take hy
    exact declT_short y (decl_kinds hx hg y hm) (goodB_in hg hm) (hF.kid hm))
  have h2 : T.bulks (x.list.take j) + T.bulks (x.list.drop j) = T.bulks x.list := by rw [← T.bulks_append, List.take_append_drop]
  have := hF.bulks
  omega
theorem struct_of {y : T} (hk : y.kind = 2) (hg : goodB 65 y = true) : y.list.length ≤ 16 ∧ ∀ f ∈ y.list, ∃ z, f.list = [z] := by
  have hch := goodB_kids hg
  simp [childrenB, hk, allB] at hch
  exact ⟨hch.2, fun f hf => field_of (hch.1 f hf) (goodB_in hg hf)⟩
theorem gens_of {g : T} (hk : g.kind = 4) (hg : goodB 65 g = true) : g.list.length ≤ 16 ∧ ∀ y ∈ g.list, y.num = 1 ∨ y.num = 2 ∨ y.num = 3 := by
  have hch := goodB_kids hg
  simp [childrenB, hk, allB] at hch
  refine ⟨hch.2, fun y hy => ?_⟩
  have hl := goodB_label (goodB_in hg hy)
  simp [labelB, numB, hch.1 y hy] at hl
  omega

theorem box_fit {w wr : World} {o : Obj} (h : Below (w.heap.size + 1) (w.alloc o) wr) : Below (w.alloc o).heap.size (w.alloc o) wr := by rw [size_alloc]; exact h
theorem Rd.at3 {w : World} {y z u v : T} {l : List T} {b o c : Nat} (h : Rd w (y :: z :: u :: v :: l) (some ⟨b, o, none⟩) c) : ∃ A' c', Cells w b (o + 15) v A' c' ∧ Rd w v.list A' c' := by
  obtain ⟨b2, o2, A', c', h1, h2, h3⟩ := h.at_ (i := 3) (x := v) rfl
  simp only [Option.some.injEq, Addr.mk.injEq, and_true] at h1
  obtain ⟨rfl, rfl⟩ := h1
  exact ⟨A', c', by simpa using h2, h3⟩
def namesB : Array Value := #[.string ⟨#[]⟩, .string ⟨#[97, 110, 121]⟩, .string ⟨#[99, 111, 109, 112, 97, 114, 97, 98, 108, 101]⟩, .string ⟨#[105, 110, 116, 101, 103, 101, 114]⟩]

set_option maxRecDepth 100000 in
set_option maxHeartbeats 4000000 in
theorem programR_any (x : T) (A : Option Addr) (c : Nat) (w : World) (hx : x.kind = 1) (hg : goodB 65 x = true) (hF : Fine x) (hR : Rd w x.list A c) :
    Calls Tryz.prog 18 #[nv x A c] w fun e w' => e = .returned (.string (programT x)) ∧ Below w.heap.size w w' := by
  have hdk := decl_kinds hx hg
  have hsz := prog_take hx hg hF
  have hll := hF.len
  have HDK := Lib.hid hdk
  have HSZ := Lib.hid hsz
  have HG := Lib.hid hg
  have HF := Lib.hid hF
  have HR := Lib.hid hR
  generalize hts : x.list.map declT = ts at *
  have hat : ∀ j y, x.list[j]? = some y → ts[j]? = some (declT y) := fun j y h => by rw [← hts, List.getElem?_map, h]; rfl
  have HAT := Lib.hid hat
  have HTL := Lib.hid (show ts.length = x.list.length by rw [← hts, List.length_map])
  have HX := Lib.hid (show programT x = catT ts by rw [← hts]; rfl)
  clear hdk hsz hg hF hR hts hat hx
  go_enter Tryz.func18, Tryz.ntmps18
  go_wp2_with fail
  go_loopw [3, 5] (fun s i wr => ∃ j : Nat, j ≤ x.list.length ∧ i = .int .i64 j ∧ s = .string (catT (ts.take j)) ∧ Below (w.heap.size + 2) ((w.alloc (nbox x A c)).alloc (.cells namesB 9)) wr) (fun _ i _ => x.list.length - (intOf i).toNat)
  case atStart => exact ⟨0, Nat.zero_le _, rfl, rfl, Below.refl _ _⟩
  case round =>
    obtain ⟨j, hj, rfl, rfl, hB⟩ := hrel
    obtain ⟨-, -, -, -, g4⟩ := box_raw (two_first hB)
    have HB := Lib.hid hB
    have hcs := HSZ.out j
    clear hB
    by_cases hlt : j < x.list.length
    · obtain ⟨y, hy⟩ : ∃ y, x.list[j]? = some y := ⟨x.list[j], by simp⟩
      obtain ⟨b, o, A', c', rfl, hc, hr⟩ := HR.out.at_ hy
      have hbw := box_below (two_first HB.out)
      obtain ⟨h0, h1, h2, h3, h4⟩ := hc.below hbw
      have hm := List.mem_of_getElem? hy
      have hky := HDK.out y hm
      have hgy := goodB_in HG.out hm
      have hfy := HF.out.kid hm
      have hds := declT_short y hky hgy hfy
      have hfb := hfy.bulk
      have HY := Lib.hid (HAT.out j y hy)
      have HRY := Lib.hid (hr.keep hbw)
      have hty := hfy.text
      generalize hsj : catT (ts.take j) = S at *
      have HSJ := Lib.hid hsj
      clear hc hr hm hy hsj hbw
      cases y with
      | mk ky ty my py ly =>
      dsimp only [T.kind_mk] at hky
      dsimp only [T.text_mk] at hty
      rcases hky with rfl | rfl
      · obtain ⟨hl16, hfl⟩ := struct_of rfl hgy
        rw [declT_2] at HY hds
        have hl16 : ly.length ≤ 16 := hl16
        have hfl : ∀ f ∈ ly, ∃ z, f.list = [z] := hfl
        have h0 : wr.cell? ⟨b, o + j * 5, none⟩ = some (.int .i64 2) := h0
        have h1 : wr.cell? ⟨b, o + j * 5 + 1, none⟩ = some (.string ty) := h1
        have h2 : wr.cell? ⟨b, o + j * 5 + 2, none⟩ = some (.int .u64 my) := h2
        have h3 : wr.cell? ⟨b, o + j * 5 + 3, none⟩ = some (.int .i64 py) := h3
        have h4 : wr.cell? ⟨b, o + j * 5 + 4, none⟩ = some (.slice A' ly.length c') := h4
        have HRL := Lib.hid (show Rd wr ly A' c' from HRY.out)
        have HFL := Lib.hid hfl
        have HGY := Lib.hid (fun f (hf : f ∈ ly) => goodB_in hgy hf)
        have HFY := Lib.hid (fun f (hf : f ∈ ly) => hfy.kid hf)
        have hfs : ∀ k, (catT ((ly.map fldT).take k)).size ≤ 1048576000 := fun k => by
          rw [← List.map_take]
          have e1 := cat_bulk (l := ly.take k) (f := fldT) (fun f _ => fldT_short f)
          have e2 : T.bulks (ly.take k) + T.bulks (ly.drop k) = T.bulks ly := by rw [← T.bulks_append, List.take_append_drop]
          have e3 : T.bulks ly ≤ 1048576 := hfy.bulks
          omega
        have HFS := Lib.hid hfs
        generalize hfs2 : ly.map fldT = fs at *
        have HFT := Lib.hid (show ∀ k f, ly[k]? = some f → fs[k]? = some (fldT f) from fun k f h => by rw [← hfs2, List.getElem?_map, h]; rfl)
        have HFN := Lib.hid (show fs.length = ly.length by rw [← hfs2, List.length_map])
        have HTY := Lib.hid (show typeT ty ly = ⟨#[116, 121, 112, 101, 32]⟩ ++ ty ++ ⟨#[32, 115, 116, 114, 117, 99, 116, 32, 123, 10]⟩ ++ catT fs ++ ⟨#[125, 10]⟩ by rw [← hfs2]; rfl)
        clear hfl hfs hfs2 hgy hfy hds hfb HRY
        go_wp2_with fail
        go_loopw [3, 7] (fun s i w2 => ∃ k : Nat, k ≤ ly.length ∧ i = .int .i64 k ∧ s = .string (S ++ ⟨#[116, 121, 112, 101, 32]⟩ ++ ty ++ ⟨#[32, 115, 116, 114, 117, 99, 116, 32, 123, 10]⟩ ++ catT (fs.take k)) ∧ Below (wr.heap.size + 1) (wr.alloc (.cells #[.int .i64 2, .string ty, .int .u64 my, .int .i64 py, .slice A' ly.length c'] 25)) w2) (fun _ i _ => ly.length - (intOf i).toNat)
        case atStart => exact ⟨0, Nat.zero_le _, rfl, by simp [catT, ba_nil'], Below.refl _ _⟩
        case round =>
          obtain ⟨k, hk, rfl, rfl, hB2⟩ := hrel
          obtain ⟨-, -, -, -, r4⟩ := box_raw hB2
          have HB2 := Lib.hid hB2
          have hks := HFS.out k
          clear hB2
          by_cases hkl : k < ly.length
          · obtain ⟨f, hf⟩ : ∃ f, ly[k]? = some f := ⟨ly[k], by simp⟩
            have hfm := List.mem_of_getElem? hf
            obtain ⟨z, hz⟩ := HFL.out f hfm
            obtain ⟨b1, o1, A1, c1, rfl, hc1, hr1⟩ := HRL.out.at_ hf
            rw [hz] at hr1
            obtain ⟨b2, o2, A3, c3, rfl, hc2, hr2⟩ := hr1.at0 (x := z) rfl
            have hbw := box_below HB2.out
            have hff := HFY.out f hfm
            have hgf := HGY.out f hfm
            have hfz := hff.kid (y := z) (by simp [hz])
            have hgz := goodB_in hgf (y := z) (by simp [hz])
            have hts := hff.text
            have hzs := typ_le (d := 65) hfz
            have hfl1 : f.list.length = 1 := by rw [hz]; rfl
            have HFE := Lib.hid (show fldT f = ⟨#[9]⟩ ++ (f.text ++ ⟨#[32]⟩ ++ typT 65 z) ++ ⟨#[10]⟩ by unfold fldT fieldT; rw [hz]; rfl)
            have HFK := Lib.hid (HFT.out k f hf)
            have k4 := Ext.cell r4
            obtain ⟨-, t1, -, -, t4⟩ := Ext.cells (hc1.below hbw)
            rw [hfl1] at t4
            obtain ⟨u0, u1, u2, u3, u4⟩ := Ext.cells (hc2.below hbw)
            have C1 := Lib.hid (fun k : Ext wr => k.call (typR_any 65 z A3 c3 k.v hgz hfz ((hr2.keep hbw).keep k.b)))
            generalize hck : catT (fs.take k) = F at *
            have HCK := Lib.hid hck
            clear hck hf hfm hz hc1 hr1 hc2 hr2 hbw hff hgf hfz hgz hfl1
            have hne := Ext.ne wr
            have q0 : ¬ 9223372036854775807 < S.size + 5 + ty.size + 10 + F.size + 1 := by omega
            have q1 : ¬ 9223372036854775807 < S.size + 5 + ty.size + 10 + F.size + 1 + f.text.size := by omega
            have q2 : ¬ 9223372036854775807 < S.size + 5 + ty.size + 10 + F.size + 1 + f.text.size + 1 := by omega
            have q3 : ¬ 9223372036854775807 < S.size + 5 + ty.size + 10 + F.size + 1 + f.text.size + 1 + (typT 65 z).size := by omega
            have q4 : ¬ 9223372036854775807 < S.size + 5 + ty.size + 10 + F.size + 1 + f.text.size + 1 + (typT 65 z).size + 1 := by omega
            go_wp2_with fail
            refine wp_region_ext (by kernel_rfl) (by kernel_rfl) ?_
            repeat (quiet_step (exact C1.out _))
            refine wpQuiet_nil ?_
            rintro _ ⟨kk, rfl⟩
            have HB3 := Lib.hid (below_then HB2.out (box_size HB2.out) kk.b)
            clear q0 q1 q2 q3 q4
            go_wp2_with fail
            go_roundw
            case rel => exact ⟨k + 1, by omega, by go_num, by rw [catT_take HFK.out, HCK.out, HFE.out]; simp only [ba_assoc], HB3.out⟩
            case measure => simp [intOf]; omega
          · have hkt : fs.take k = fs := List.take_of_length_le (by have := HFN.out; omega)
            rw [hkt] at hks
            rw [hkt]
            clear hkt
            have HB4 := Lib.hid (below_then HB.out (Nat.le_trans (by rw [size_alloc, size_alloc]; omega) HB.out.size) (box_below HB2.out))
            go_wp2_with fail
            go_roundw
            case rel => exact ⟨j + 1, by omega, by go_num, by rw [catT_take HY.out, HSJ.out, HTY.out]; simp only [ba_assoc], HB4.out⟩
            case measure => simp [intOf]; omega
      · obtain ⟨g, q, r, bb, hyl, hk4, hk6, hk7, hk20⟩ := decl_of rfl hgy
        dsimp only [T.list_mk] at hyl
        subst hyl
        rw [declT_3] at HY hds
        have hg65 : ∀ u ∈ [g, q, r, bb], goodB 65 u = true := fun u hu => goodB_in hgy hu
        have hf65 : ∀ u ∈ [g, q, r, bb], Fine u := fun u hu => hfy.kid hu
        have hgg := hg65 g (by simp)
        have hfg := hf65 g (by simp)
        have hgq := hg65 q (by simp)
        have hfq := hf65 q (by simp)
        have hgr := hg65 r (by simp)
        have hfr := hf65 r (by simp)
        have hgb := hg65 bb (by simp)
        have hfb2 := hf65 bb (by simp)
        obtain ⟨hl16, hnum⟩ := gens_of hk4 hgg
        obtain ⟨b1, o1, Ag, cg, rfl, hcg, hrg⟩ := (show Rd wr [g, q, r, bb] A' c' from HRY.out).at0 (x := g) rfl
        have HRL := Lib.hid (show Rd wr [g, q, r, bb] (some ⟨b1, o1, none⟩) c' from HRY.out)
        obtain ⟨Aq, cq, hcq, hrq⟩ := HRL.out.at1
        obtain ⟨Ar, cr, hcr, hrr⟩ := HRL.out.at2
        obtain ⟨Ab, cb, hcb, hrb⟩ := HRL.out.at3
        have h0 : wr.cell? ⟨b, o + j * 5, none⟩ = some (.int .i64 3) := h0
        have h1 : wr.cell? ⟨b, o + j * 5 + 1, none⟩ = some (.string ty) := h1
        have h2 : wr.cell? ⟨b, o + j * 5 + 2, none⟩ = some (.int .u64 my) := h2
        have h3 : wr.cell? ⟨b, o + j * 5 + 3, none⟩ = some (.int .i64 py) := h3
        have h4 : wr.cell? ⟨b, o + j * 5 + 4, none⟩ = some (.slice (some ⟨b1, o1, none⟩) 4 c') := h4
        have hW : Below wr.heap.size wr (wr.alloc (.cells #[.int .i64 3, .string ty, .int .u64 my, .int .i64 py, .slice (some ⟨b1, o1, none⟩) 4 c'] 25)) := one_below
        have hcgw := (hcg.below hW).c4
        have HCG := Lib.hid hcg
        have hnm : ∀ k, wr.cell? ⟨w.heap.size + 1, k, none⟩ = namesB[k]? := fun k => by
          have hz : wr.heap[w.heap.size + 1]? = some (.cells namesB 9 (0, 0)) := by
            rw [HB.out.block (w.heap.size + 1) (by omega)]
            have := heap_alloc_new (w.alloc (nbox x (some ⟨b, o, none⟩) c)) (.cells namesB 9)
            rw [size_alloc] at this
            exact this
          exact Lib.cell_of_heap hz k
        have HNM := Lib.hid (show wr.cell? ⟨w.heap.size + 1, 1, none⟩ = some (.string ⟨#[97, 110, 121]⟩) ∧ wr.cell? ⟨w.heap.size + 1, 2, none⟩ = some (.string ⟨#[99, 111, 109, 112, 97, 114, 97, 98, 108, 101]⟩) ∧ wr.cell? ⟨w.heap.size + 1, 3, none⟩ = some (.string ⟨#[105, 110, 116, 101, 103, 101, 114]⟩) from ⟨hnm 1, hnm 2, hnm 3⟩)
        have HEAD := Lib.hid (fun W (hb : Below (wr.alloc (.cells #[.int .i64 3, .string ty, .int .u64 my, .int .i64 py, .slice (some ⟨b1, o1, none⟩) 4 c'] 25)).heap.size (wr.alloc (.cells #[.int .i64 3, .string ty, .int .u64 my, .int .i64 py, .slice (some ⟨b1, o1, none⟩) 4 c'] 25)) W) => headR_any 65 q r Aq Ar cq cr W hk6 hk7 hgq hgr hfq hfr ((hrq.keep hW).keep hb) ((hrr.keep hW).keep hb))
        have HBLK := Lib.hid (fun W (hb : Below (wr.alloc (.cells #[.int .i64 3, .string ty, .int .u64 my, .int .i64 py, .slice (some ⟨b1, o1, none⟩) 4 c'] 25)).heap.size (wr.alloc (.cells #[.int .i64 3, .string ty, .int .u64 my, .int .i64 py, .slice (some ⟨b1, o1, none⟩) 4 c'] 25)) W) => show Calls Tryz.prog 39 #[nv bb Ab cb, .int .i64 0] W _ from (printR 65).2.1 bb 0 Ab cb W (by omega) hk20 hgb hfb2 ((hrb.keep hW).keep hb))
        have HQ := Lib.hid (fun W (hb : Below (wr.alloc (.cells #[.int .i64 3, .string ty, .int .u64 my, .int .i64 py, .slice (some ⟨b1, o1, none⟩) 4 c'] 25)).heap.size (wr.alloc (.cells #[.int .i64 3, .string ty, .int .u64 my, .int .i64 py, .slice (some ⟨b1, o1, none⟩) 4 c'] 25)) W) => (hcq.below hW).below hb)
        have HRR := Lib.hid (fun W (hb : Below (wr.alloc (.cells #[.int .i64 3, .string ty, .int .u64 my, .int .i64 py, .slice (some ⟨b1, o1, none⟩) 4 c'] 25)).heap.size (wr.alloc (.cells #[.int .i64 3, .string ty, .int .u64 my, .int .i64 py, .slice (some ⟨b1, o1, none⟩) 4 c'] 25)) W) => (hcr.below hW).below hb)
        have HBB := Lib.hid (fun W (hb : Below (wr.alloc (.cells #[.int .i64 3, .string ty, .int .u64 my, .int .i64 py, .slice (some ⟨b1, o1, none⟩) 4 c'] 25)).heap.size (wr.alloc (.cells #[.int .i64 3, .string ty, .int .u64 my, .int .i64 py, .slice (some ⟨b1, o1, none⟩) 4 c'] 25)) W) => (hcb.below hW).below hb)
        have hhs : (headT (typT 65) q r).size ≤ 2097152000 := by have := headT_short 65 q r; have := hfq.bulk; have := hfr.bulk; omega
        have hbs := block_le (n := 0) hgb hfb2 (by omega)
        have HRG := Lib.hid (fun W (hb : Below (wr.alloc (.cells #[.int .i64 3, .string ty, .int .u64 my, .int .i64 py, .slice (some ⟨b1, o1, none⟩) 4 c'] 25)).heap.size (wr.alloc (.cells #[.int .i64 3, .string ty, .int .u64 my, .int .i64 py, .slice (some ⟨b1, o1, none⟩) 4 c'] 25)) W) => (hrg.keep hW).keep hb)
        have HFG := Lib.hid hfg
        have HNUM := Lib.hid hnum
        have HJ := Lib.hid (fun k => (show (joinT ((g.list.map genF).take k)).size ≤ 1048576000 from List.map_take (f := genF) (l := g.list) (i := k) ▸ join_take_le k (fun y _ => by have := genF_short y; omega) hfg.bulks))
        have HGT := Lib.hid (show genT g.list = cond (g.list.length == 0) ⟨#[]⟩ (⟨#[91]⟩ ++ joinT (g.list.map genF) ++ ⟨#[93]⟩) from rfl)
        generalize hgs0 : g.list.map genF = gs at *
        have HFT := Lib.hid (show ∀ k f, g.list[k]? = some f → gs[k]? = some (genF f) from fun k f h => by rw [← hgs0, List.getElem?_map, h]; rfl)
        have HFN := Lib.hid (show gs.length = g.list.length by rw [← hgs0, List.length_map])
        obtain ⟨G, hg0, hg1, hgs⟩ : ∃ G : Nat → ByteArray, G 0 = ⟨#[]⟩ ∧ G 1 = ⟨#[91]⟩ ++ joinT (gs.take 1) ∧ ∀ k, 0 < k → G k = ⟨#[91]⟩ ++ joinT (gs.take k) := ⟨fun k => match k with | 0 => ⟨#[]⟩ | k + 1 => ⟨#[91]⟩ ++ joinT (gs.take (k + 1)), rfl, rfl, fun k hk => by cases k with | zero => omega | succ k => rfl⟩
        have HTY := Lib.hid (show funT ty g q r bb = ⟨#[102, 117, 110, 99, 32]⟩ ++ ty ++ genT g.list ++ headT (typT 65) q r ++ blockT 65 0 bb ++ ⟨#[10]⟩ from rfl)
        have HBW := Lib.hid hW
        clear hg65 hf65 hgg hfg hgq hfq hgr hfr hgb hfb2 hnum hcg hrg hcq hrq hcr hrr hcb hrb hW hnm hgs0 hgy hfy hds hfb HRY hk4 hk6 hk7 hk20
        go_wp2_with fail
        go_loopw [3, 9] (fun s i w2 => ∃ k : Nat, k ≤ g.list.length ∧ i = .int .i64 k ∧ s = .string (S ++ ⟨#[102, 117, 110, 99, 32]⟩ ++ ty ++ G k) ∧ Below (wr.heap.size + 1) (wr.alloc (.cells #[.int .i64 3, .string ty, .int .u64 my, .int .i64 py, .slice (some ⟨b1, o1, none⟩) 4 c'] 25)) w2) (fun _ i _ => g.list.length - (intOf i).toNat)
        case atStart => exact ⟨0, Nat.zero_le _, rfl, by rw [hg0, ba_nil'], Below.refl _ _⟩
        case round =>
          obtain ⟨k, hk, rfl, rfl, hB2⟩ := hrel
          obtain ⟨-, -, -, -, r4⟩ := box_raw hB2
          have HB2 := Lib.hid hB2
          have hks := HJ.out k
          have hbw := box_below hB2
          obtain ⟨-, -, -, -, gc4⟩ := HCG.out.below hbw
          clear hB2
          by_cases hkl : k < g.list.length
          · obtain ⟨f, hf⟩ : ∃ f, g.list[k]? = some f := ⟨g.list[k], by simp⟩
            have hfm := List.mem_of_getElem? hf
            obtain ⟨b2, o2, A3, c3, rfl, hc2, hr2⟩ := (HRG.out _ (by rw [size_alloc]; exact HB2.out)).at_ hf
            have hts := (HFG.out.kid hfm).text
            have hnv := HNUM.out f hfm
            have HFK := Lib.hid (HFT.out k f hf)
            obtain ⟨-, t1, t2, -, -⟩ := Ext.cells hc2
            have n1 := Ext.cell (keep_cell hbw HNM.out.1)
            have n2 := Ext.cell (keep_cell hbw HNM.out.2.1)
            have n3 := Ext.cell (keep_cell hbw HNM.out.2.2)
            clear hf hfm hc2 hr2 hbw
            by_cases hk0 : k = 0
            · subst hk0
              rw [hg0, ba_nil']
              simp only [Nat.zero_mul, Nat.add_zero] at t1 t2
              rcases hnv with hv | hv | hv
              · rw [hv] at t2
                have HGE := Lib.hid (show genF f = f.text ++ ⟨#[32]⟩ ++ ⟨#[97, 110, 121]⟩ by unfold genF; rw [hv]; rfl)
                clear hv
                have hne := Ext.ne wr
                have q0 : ¬ 9223372036854775807 < S.size + 5 + ty.size + 1 + f.text.size := by omega
                have q1 : ¬ 9223372036854775807 < S.size + 5 + ty.size + 1 + f.text.size + 1 := by omega
                have q2 : ¬ 9223372036854775807 < S.size + 5 + ty.size + 1 + f.text.size + 1 + 3 := by omega
                go_wp2_with fail
                refine wp_region_ext (by kernel_rfl) (by kernel_rfl) ?_
                repeat (quiet_step (fail))
                refine wpQuiet_nil ?_
                rintro _ ⟨kk, rfl⟩
                have HB3 := Lib.hid (below_then HB2.out (box_size HB2.out) kk.b)
                clear q0 q1 q2
                go_wp2_with fail
                go_roundw
                case rel => exact ⟨1, by omega, by go_num, by rw [hg1]; rw [joinT_first HFK.out, HGE.out]; simp only [ba_assoc], HB3.out⟩
                case measure => simp [intOf]; omega
              · rw [hv] at t2
                have HGE := Lib.hid (show genF f = f.text ++ ⟨#[32]⟩ ++ ⟨#[99, 111, 109, 112, 97, 114, 97, 98, 108, 101]⟩ by unfold genF; rw [hv]; rfl)
                clear hv
                have hne := Ext.ne wr
                have q0 : ¬ 9223372036854775807 < S.size + 5 + ty.size + 1 + f.text.size := by omega
                have q1 : ¬ 9223372036854775807 < S.size + 5 + ty.size + 1 + f.text.size + 1 := by omega
                have q2 : ¬ 9223372036854775807 < S.size + 5 + ty.size + 1 + f.text.size + 1 + 10 := by omega
                go_wp2_with fail
                refine wp_region_ext (by kernel_rfl) (by kernel_rfl) ?_
                repeat (quiet_step (fail))
                refine wpQuiet_nil ?_
                rintro _ ⟨kk, rfl⟩
                have HB3 := Lib.hid (below_then HB2.out (box_size HB2.out) kk.b)
                clear q0 q1 q2
                go_wp2_with fail
                go_roundw
                case rel => exact ⟨1, by omega, by go_num, by rw [hg1]; rw [joinT_first HFK.out, HGE.out]; simp only [ba_assoc], HB3.out⟩
                case measure => simp [intOf]; omega
              · rw [hv] at t2
                have HGE := Lib.hid (show genF f = f.text ++ ⟨#[32]⟩ ++ ⟨#[105, 110, 116, 101, 103, 101, 114]⟩ by unfold genF; rw [hv]; rfl)
                clear hv
                have hne := Ext.ne wr
                have q0 : ¬ 9223372036854775807 < S.size + 5 + ty.size + 1 + f.text.size := by omega
                have q1 : ¬ 9223372036854775807 < S.size + 5 + ty.size + 1 + f.text.size + 1 := by omega
                have q2 : ¬ 9223372036854775807 < S.size + 5 + ty.size + 1 + f.text.size + 1 + 7 := by omega
                go_wp2_with fail
                refine wp_region_ext (by kernel_rfl) (by kernel_rfl) ?_
                repeat (quiet_step (fail))
                refine wpQuiet_nil ?_
                rintro _ ⟨kk, rfl⟩
                have HB3 := Lib.hid (below_then HB2.out (box_size HB2.out) kk.b)
                clear q0 q1 q2
                go_wp2_with fail
                go_roundw
                case rel => exact ⟨1, by omega, by go_num, by rw [hg1]; rw [joinT_first HFK.out, HGE.out]; simp only [ba_assoc], HB3.out⟩
                case measure => simp [intOf]; omega
            · have hkp : 0 < k := by omega
              rw [hgs k hkp]
              generalize hck : joinT (gs.take k) = J at *
              have HCK := Lib.hid hck
              clear hck
              rcases hnv with hv | hv | hv
              · rw [hv] at t2
                have HGE := Lib.hid (show genF f = f.text ++ ⟨#[32]⟩ ++ ⟨#[97, 110, 121]⟩ by unfold genF; rw [hv]; rfl)
                clear hv
                have hne := Ext.ne wr
                have q0 : ¬ 9223372036854775807 < S.size + 5 + ty.size + (1 + J.size) + 2 + f.text.size := by omega
                have q1 : ¬ 9223372036854775807 < S.size + 5 + ty.size + (1 + J.size) + 2 + f.text.size + 1 := by omega
                have q2 : ¬ 9223372036854775807 < S.size + 5 + ty.size + (1 + J.size) + 2 + f.text.size + 1 + 3 := by omega
                go_wp2_with fail
                refine wp_region_ext (by kernel_rfl) (by kernel_rfl) ?_
                repeat (quiet_step (fail))
                refine wpQuiet_nil ?_
                rintro _ ⟨kk, rfl⟩
                have HB3 := Lib.hid (below_then HB2.out (box_size HB2.out) kk.b)
                clear q0 q1 q2
                go_wp2_with fail
                go_roundw
                case rel => exact ⟨k + 1, by omega, by go_num, by rw [hgs (k + 1) (by omega)]; rw [joinT_take (by omega) HFK.out, HGE.out, HCK.out]; simp only [ba_assoc], HB3.out⟩
                case measure => simp [intOf]; omega
              · rw [hv] at t2
                have HGE := Lib.hid (show genF f = f.text ++ ⟨#[32]⟩ ++ ⟨#[99, 111, 109, 112, 97, 114, 97, 98, 108, 101]⟩ by unfold genF; rw [hv]; rfl)
                clear hv
                have hne := Ext.ne wr
                have q0 : ¬ 9223372036854775807 < S.size + 5 + ty.size + (1 + J.size) + 2 + f.text.size := by omega
                have q1 : ¬ 9223372036854775807 < S.size + 5 + ty.size + (1 + J.size) + 2 + f.text.size + 1 := by omega
                have q2 : ¬ 9223372036854775807 < S.size + 5 + ty.size + (1 + J.size) + 2 + f.text.size + 1 + 10 := by omega
                go_wp2_with fail
                refine wp_region_ext (by kernel_rfl) (by kernel_rfl) ?_
                repeat (quiet_step (fail))
                refine wpQuiet_nil ?_
                rintro _ ⟨kk, rfl⟩
                have HB3 := Lib.hid (below_then HB2.out (box_size HB2.out) kk.b)
                clear q0 q1 q2
                go_wp2_with fail
                go_roundw
                case rel => exact ⟨k + 1, by omega, by go_num, by rw [hgs (k + 1) (by omega)]; rw [joinT_take (by omega) HFK.out, HGE.out, HCK.out]; simp only [ba_assoc], HB3.out⟩
                case measure => simp [intOf]; omega
              · rw [hv] at t2
                have HGE := Lib.hid (show genF f = f.text ++ ⟨#[32]⟩ ++ ⟨#[105, 110, 116, 101, 103, 101, 114]⟩ by unfold genF; rw [hv]; rfl)
                clear hv
                have hne := Ext.ne wr
                have q0 : ¬ 9223372036854775807 < S.size + 5 + ty.size + (1 + J.size) + 2 + f.text.size := by omega
                have q1 : ¬ 9223372036854775807 < S.size + 5 + ty.size + (1 + J.size) + 2 + f.text.size + 1 := by omega
                have q2 : ¬ 9223372036854775807 < S.size + 5 + ty.size + (1 + J.size) + 2 + f.text.size + 1 + 7 := by omega
                go_wp2_with fail
                refine wp_region_ext (by kernel_rfl) (by kernel_rfl) ?_
                repeat (quiet_step (fail))
                refine wpQuiet_nil ?_
                rintro _ ⟨kk, rfl⟩
                have HB3 := Lib.hid (below_then HB2.out (box_size HB2.out) kk.b)
                clear q0 q1 q2
                go_wp2_with fail
                go_roundw
                case rel => exact ⟨k + 1, by omega, by go_num, by rw [hgs (k + 1) (by omega)]; rw [joinT_take (by omega) HFK.out, HGE.out, HCK.out]; simp only [ba_assoc], HB3.out⟩
                case measure => simp [intOf]; omega
          · have hkn : k = g.list.length := by omega
            subst hkn
            have hbx := box_fit HB2.out
            have k4 := Ext.cell r4
            obtain ⟨v0, v1, v2, v3, v4⟩ := Ext.cells (HQ.out _ hbx)
            obtain ⟨x0, x1, x2, x3, x4⟩ := Ext.cells (HRR.out _ hbx)
            obtain ⟨y0, y1, y2, y3, y4⟩ := Ext.cells (HBB.out _ hbx)
            have C1 := Lib.hid (fun k : Ext wr => k.call (HEAD.out k.v (below_then hbx hbx.size k.b)))
            have C2 := Lib.hid (fun k : Ext wr => k.call (HBLK.out k.v (below_then hbx hbx.size k.b)))
            have hne := Ext.ne wr
            clear hbx hbw
            by_cases hgl : g.list.length = 0
            · rw [hgl, hg0, ba_nil']
              have HGL := Lib.hid (show genT g.list = ⟨#[]⟩ by rw [HGT.out, hgl]; rfl)
              generalize headT (typT 65) q r = HD at *
              generalize blockT 65 0 bb = BD at *
              have q0 : ¬ 9223372036854775807 < S.size + 5 + ty.size + HD.size := by omega
              have q1 : ¬ 9223372036854775807 < S.size + 5 + ty.size + HD.size + BD.size := by omega
              have q2 : ¬ 9223372036854775807 < S.size + 5 + ty.size + HD.size + BD.size + 1 := by omega
              go_wp2_with fail
              refine wp_region_ext (by kernel_rfl) (by kernel_rfl) ?_
              repeat (quiet_step (first | exact C1.out _ | exact C2.out _))
              refine wpQuiet_nil ?_
              rintro _ ⟨kk, rfl⟩
              have HB4 := Lib.hid (below_then HB.out (Nat.le_trans (by rw [size_alloc, size_alloc]; omega) HB.out.size) (box_below (below_then HB2.out (box_size HB2.out) kk.b)))
              clear q0 q1 q2
              go_wp2_with fail
              go_roundw
              case rel => exact ⟨j + 1, by omega, by go_num, by rw [catT_take HY.out, HSJ.out, HTY.out, HGL.out]; simp only [ba_assoc, ba_nil], HB4.out⟩
              case measure => simp [intOf]; omega
            · have hgp : 0 < g.list.length := by omega
              have hgt : gs.take g.list.length = gs := List.take_of_length_le (by have := HFN.out; omega)
              rw [hgt] at hks
              rw [hgs _ hgp, hgt]
              have HGL := Lib.hid (show genT g.list = ⟨#[91]⟩ ++ joinT gs ++ ⟨#[93]⟩ by rw [HGT.out, beq_eq_false_iff_ne.2 hgl]; rfl)
              generalize headT (typT 65) q r = HD at *
              generalize blockT 65 0 bb = BD at *
              generalize joinT gs = J at *
              have q0 : ¬ 9223372036854775807 < S.size + 5 + ty.size + (1 + J.size) + 1 + HD.size := by omega
              have q1 : ¬ 9223372036854775807 < S.size + 5 + ty.size + (1 + J.size) + 1 + HD.size + BD.size := by omega
              have q2 : ¬ 9223372036854775807 < S.size + 5 + ty.size + (1 + J.size) + 1 + HD.size + BD.size + 1 := by omega
              go_wp2_with fail
              refine wp_region_ext (by kernel_rfl) (by kernel_rfl) ?_
              repeat (quiet_step (first | exact C1.out _ | exact C2.out _))
              refine wpQuiet_nil ?_
              rintro _ ⟨kk, rfl⟩
              have HB4 := Lib.hid (below_then HB.out (Nat.le_trans (by rw [size_alloc, size_alloc]; omega) HB.out.size) (box_below (below_then HB2.out (box_size HB2.out) kk.b)))
              clear q0 q1 q2
              go_wp2_with fail
              go_roundw
              case rel => exact ⟨j + 1, by omega, by go_num, by rw [catT_take HY.out, HSJ.out, HTY.out, HGL.out]; simp only [ba_assoc], HB4.out⟩
              case measure => simp [intOf]; omega
    · have hjt : ts.take j = ts := List.take_of_length_le (by have := HTL.out; omega)
      rw [hjt]
      clear hjt
      go_wp2_with fail
      go_ret
      exact ⟨by rw [HX.out]; rfl, box_below (two_first HB.out)⟩
end Go.Proofs.YtoemljgkofhhpaaGreatDoor
