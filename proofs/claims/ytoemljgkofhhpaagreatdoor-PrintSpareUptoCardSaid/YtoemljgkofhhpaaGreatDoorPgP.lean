import Derived.Test.YtoemljgkofhhpaaGreatDoorPgV
import Derived.Test.YtoemljgkofhhpaaGreatDoorRefP
import Derived.Deep.RegionHeld3
namespace Go.Proofs.YtoemljgkofhhpaaGreatDoor
open Go.RowKit

theorem keep_lt {B : Nat} {w w' : World} {cs : Array Value} {t : TypeId} {fz : Nat × Nat} {g : Nat} (hb : Below B w w') (hg : w.heap[g]? = some (.cells cs t fz)) (h : g < B) : w'.heap[g]? = some (.cells cs t fz) := by rw [hb.block g h]; exact hg

theorem pat_far {w ws : World} {o : Obj} (h : Below (w.drew.alloc o).heap.size (w.drew.alloc o) ws) : ws.heap[w.heap.size]? = some o := by
  rw [h.block w.heap.size (by rw [size_alloc]; exact Nat.lt_succ_self _)]
  exact heap_alloc_new w.drew o
theorem pat0 {w : World} {pb : Nat} (h : w.heap[pb]? = some (Obj.cells #[Value.int .i64 0] 45 (0, 0))) : PAt w pb 0 := h
theorem lt_heap {w : World} {g : Nat} {o : Obj} (h : w.heap[g]? = some o) : g < w.heap.size := by
  rcases Nat.lt_or_ge g w.heap.size with h' | h'
  · exact h'
  · simp [Array.getElem?_eq_none h'] at h
set_option maxRecDepth 100000 in
set_option maxHeartbeats 4000000 in
theorem programP_any (x : T) (A : Option Addr) (c : Nat) (w : World) (hx : x.kind = 1) (hg : goodB 65 x = true) (hF : Fine x) (hR : Rd w x.list A c) (hE : Env w) :
    Calls Tryz.prog 16 #[nv x A c] w fun e w' => e = .returned (.string (programT x)) ∧ Below w.heap.size w w' := by
  have hdk := decl_kinds hx hg
  have hsz := prog_take hx hg hF
  have hll := hF.len
  have HDK := Lib.hid hdk
  have HSZ := Lib.hid hsz
  have HG := Lib.hid hg
  have HF := Lib.hid hF
  have HR := Lib.hid hR
  have HE := Lib.hid hE
  generalize hts : x.list.map declT = ts at *
  have hat : ∀ j y, x.list[j]? = some y → ts[j]? = some (declT y) := fun j y h => by rw [← hts, List.getElem?_map, h]; rfl
  have HAT := Lib.hid hat
  have HTL := Lib.hid (show ts.length = x.list.length by rw [← hts, List.length_map])
  have HX := Lib.hid (show programT x = catT ts by rw [← hts]; rfl)
  clear hdk hsz hg hF hR hts hat hx hE
  go_enter Tryz.func16, Tryz.ntmps16
  go_wp2_with fail
  go_loopw [12] (fun i wr => ∃ j : Nat, j ≤ x.list.length ∧ i = .int .i64 j ∧ IsB (w.heap.size + 1) (w.heap.size + 1) (catT (ts.take j)) wr ∧ Below (w.heap.size + 1) (w.alloc (nbox x A c)) wr) (fun i _ => x.list.length - (intOf i).toNat)
  case atStart =>
    refine ⟨0, Nat.zero_le _, rfl, ?_, (Below.refl _ _).alloc (by rw [size_alloc]; omega) _⟩
    have := fresh_isB (w.alloc (nbox x A c))
    rw [size_alloc] at this
    exact this
  case round =>
    obtain ⟨j, hj, rfl, hI, hB⟩ := hrel
    have HB := Lib.hid hB
    have HI := Lib.hid hI
    have hcs := HSZ.out j
    have hsw : w.heap.size + 1 ≤ wr.heap.size := by have := hB.size; rw [size_alloc] at this; exact this
    have hw : Below w.heap.size w wr := box_below hB
    have HW := Lib.hid hw
    clear hB hI
    by_cases hlt : j < x.list.length
    · obtain ⟨y, hy⟩ : ∃ y, x.list[j]? = some y := ⟨x.list[j], by simp⟩
      obtain ⟨b, o, A', c', rfl, hc, hr⟩ := HR.out.at_ hy
      obtain ⟨h0, h1, h2, h3, h4⟩ := hc.below hw
      have hm := List.mem_of_getElem? hy
      have hky := HDK.out y hm
      have hgy := goodB_in HG.out hm
      have hfy := HF.out.kid hm
      have hds := declT_short y hky hgy hfy
      have hfb := hfy.bulk
      have HY := Lib.hid (HAT.out j y hy)
      have HRY := Lib.hid hr
      have hty := hfy.text
      generalize hsj : catT (ts.take j) = S at *
      have HSJ := Lib.hid hsj
      clear hc hr hm hy hsj hw
      cases y with
      | mk ky ty my py ly =>
      dsimp only [T.kind_mk] at hky
      dsimp only [T.text_mk] at hty
      rcases hky with rfl | rfl
      · obtain ⟨hl16, hfl⟩ := struct_of rfl hgy
        rw [declT_2] at HY hds
        have hl16 : ly.length ≤ 16 := hl16
        have hfl : ∀ f ∈ ly, ∃ z, f.list = [z] := hfl
        have h0 : wr.cell? ⟨b, o + j * 5, none⟩ = some (.int .i64 2) := h0
        have h1 : wr.cell? ⟨b, o + j * 5 + 1, none⟩ = some (.string ty) := h1
        have h2 : wr.cell? ⟨b, o + j * 5 + 2, none⟩ = some (.int .u64 my) := h2
        have h3 : wr.cell? ⟨b, o + j * 5 + 3, none⟩ = some (.int .i64 py) := h3
        have h4 : wr.cell? ⟨b, o + j * 5 + 4, none⟩ = some (.slice A' ly.length c') := h4
        have HRL := Lib.hid (show Rd w ly A' c' from HRY.out)
        have HFL := Lib.hid hfl
        have HGY := Lib.hid (fun f (hf : f ∈ ly) => goodB_in hgy hf)
        have HFY := Lib.hid (fun f (hf : f ∈ ly) => hfy.kid hf)
        have hfs : ∀ k, (catT ((ly.map fldT).take k)).size ≤ 1048576000 := fun k => by
          rw [← List.map_take]
          have e1 := cat_bulk (l := ly.take k) (f := fldT) (fun f _ => fldT_short f)
          have e2 : T.bulks (ly.take k) + T.bulks (ly.drop k) = T.bulks ly := by rw [← T.bulks_append, List.take_append_drop]
          have e3 : T.bulks ly ≤ 1048576 := hfy.bulks
          omega
        have HFS := Lib.hid hfs
        generalize hfs2 : ly.map fldT = fs at *
        have HFT := Lib.hid (show ∀ k f, ly[k]? = some f → fs[k]? = some (fldT f) from fun k f h => by rw [← hfs2, List.getElem?_map, h]; rfl)
        have HFN := Lib.hid (show fs.length = ly.length by rw [← hfs2, List.length_map])
        have HTY := Lib.hid (show typeT ty ly = ⟨#[116, 121, 112, 101, 32]⟩ ++ ty ++ ⟨#[32, 115, 116, 114, 117, 99, 116, 32, 123, 10]⟩ ++ catT fs ++ ⟨#[125, 10]⟩ by rw [← hfs2]; rfl)
        have CW := Lib.hid (write_any (w.heap.size + 1) (w.heap.size + 1) S (⟨#[116, 121, 112, 101, 32]⟩ ++ ty ++ ⟨#[32, 115, 116, 114, 117, 99, 116, 32, 123, 10]⟩) (wr.alloc (.cells #[.int .i64 2, .string ty, .int .u64 my, .int .i64 py, .slice A' ly.length c'] 25))
          (HI.out.keep ((Below.refl _ wr).alloc (Nat.le_refl _) _)) (by simp only [ba_size, ba_mk, List.size_toArray, List.length_cons, List.length_nil]; omega) (by rw [size_alloc]; omega))
        have HEB := Lib.hid (heap_alloc_new wr (.cells #[.int .i64 2, .string ty, .int .u64 my, .int .i64 py, .slice A' ly.length c'] 25))
        have HIL := Lib.hid HI.out.lt
        have HBA := Lib.hid (HB.out.alloc hsw (.cells #[.int .i64 2, .string ty, .int .u64 my, .int .i64 py, .slice A' ly.length c'] 25))
        clear hfl hfs hfs2 hgy hfy hds hfb HRY HI
        go_wp2_with fail
        refine CW.out.mono ?_
        rintro e w1 ⟨rfl, hi1, hb1, hk1⟩
        have he1 := kept_box hk1 HEB.out (by have := HIL.out; omega) (by decide)
        have ec : ∀ k, w1.cell? ⟨wr.heap.size, k, none⟩ = (#[.int .i64 2, .string ty, .int .u64 my, .int .i64 py, .slice A' ly.length c'] : Array Value)[k]? := fun k => Lib.cell_of_heap he1 k
        have e4 := ec 4
        have HI1 := Lib.hid hi1
        have HB1 := Lib.hid (HBA.out.trans hb1)
        clear hi1 hb1 hk1 he1 ec
        go_wp2_with fail
        go_loopw [27] (fun i w2 => ∃ k : Nat, k ≤ ly.length ∧ i = .int .i64 k ∧ IsB (w.heap.size + 1) (w.heap.size + 1) (S ++ (⟨#[116, 121, 112, 101, 32]⟩ ++ ty ++ ⟨#[32, 115, 116, 114, 117, 99, 116, 32, 123, 10]⟩) ++ catT (fs.take k)) w2 ∧ Below (w.heap.size + 1) (w.alloc (nbox x (some ⟨b, o, none⟩) c)) w2) (fun i _ => ly.length - (intOf i).toNat)
        case atStart => exact ⟨0, Nat.zero_le _, rfl, by rw [show catT (fs.take 0) = (⟨#[]⟩ : ByteArray) from rfl, ba_nil']; exact HI1.out, HB1.out⟩
        case round =>
          obtain ⟨k, hk, rfl, hI2, hB2⟩ := hrel
          have HB2 := Lib.hid hB2
          have HI2 := Lib.hid hI2
          have hks := HFS.out k
          have hs2 : w.heap.size + 1 ≤ wr.heap.size := by have := hB2.size; rw [size_alloc] at this; exact this
          have hw2 : Below w.heap.size w wr := box_below hB2
          clear hB2 hI2
          by_cases hkl : k < ly.length
          · obtain ⟨f, hf⟩ : ∃ f, ly[k]? = some f := ⟨ly[k], by simp⟩
            have hfm := List.mem_of_getElem? hf
            obtain ⟨z, hz⟩ := HFL.out f hfm
            obtain ⟨b1, o1, A1, c1, rfl, hc1, hr1⟩ := HRL.out.at_ hf
            obtain ⟨t0, t1, t2, t3, t4⟩ := hc1.below hw2
            have hff := HFY.out f hfm
            have hgz := goodB_in (HGY.out f hfm) (y := z) (by simp [hz])
            have hfls := field_le (d := 65) hff
            have HFE := Lib.hid (show fldT f = ⟨#[9]⟩ ++ fieldT (typT 65) f ++ ⟨#[10]⟩ from rfl)
            have HFK := Lib.hid (HFT.out k f hf)
            have CP := Lib.hid (paramP_any f z A1 c1 (wr.alloc (nbox f A1 c1)) hz hgz hff ((hr1.keep hw2).keep one_below))
            generalize hck : catT (fs.take k) = F at *
            have HCK := Lib.hid hck
            generalize hfd : fieldT (typT 65) f = FD at *
            have CW2 := Lib.hid (fun W (hb : Below (wr.alloc (nbox f A1 c1)).heap.size (wr.alloc (nbox f A1 c1)) W) => write_any (w.heap.size + 1) (w.heap.size + 1) (S ++ (⟨#[116, 121, 112, 101, 32]⟩ ++ ty ++ ⟨#[32, 115, 116, 114, 117, 99, 116, 32, 123, 10]⟩) ++ F) (⟨#[9]⟩ ++ FD ++ ⟨#[10]⟩) W
              ((HI2.out.keep ((Below.refl _ wr).alloc (Nat.le_refl _) _)).keep hb) (by simp only [ba_size, ba_mk, List.size_toArray, List.length_cons, List.length_nil]; omega) (by have := hb.size; rw [size_alloc] at this; omega))
            have HBB := Lib.hid (HB2.out.alloc hs2 (nbox f A1 c1))
            clear hck hf hfm hz hc1 hr1 hff hgz hw2 hfd
            go_wp2_with fail
            refine CP.out.mono ?_
            rintro e w3 ⟨rfl, hb⟩
            have HB3 := Lib.hid hb
            clear hb
            go_wp2_with fail
            refine (CW2.out _ HB3.out).mono ?_
            rintro e w4 ⟨rfl, hi4, hb4, -⟩
            have HI4 := Lib.hid hi4
            have HB4 := Lib.hid ((HBB.out.trans (HB3.out.mono (by rw [size_alloc]; omega))).trans hb4)
            clear hi4 hb4
            go_wp2_with fail
            go_roundw
            case rel => exact ⟨k + 1, by omega, by go_num, by have := HI4.out; rw [catT_take HFK.out, HCK.out, HFE.out]; simpa only [ba_assoc] using this, HB4.out⟩
            case measure => simp [intOf]; omega
          · have hkt : fs.take k = fs := List.take_of_length_le (by have := HFN.out; omega)
            rw [hkt] at hks
            have hi2 := HI2.out
            rw [hkt] at hi2
            have CW3 := Lib.hid (write_any (w.heap.size + 1) (w.heap.size + 1) (S ++ (⟨#[116, 121, 112, 101, 32]⟩ ++ ty ++ ⟨#[32, 115, 116, 114, 117, 99, 116, 32, 123, 10]⟩) ++ catT fs) ⟨#[125, 10]⟩ wr hi2 (by simp only [ba_size, ba_mk, List.size_toArray, List.length_cons, List.length_nil]; omega) hs2)
            clear hkt hi2 hw2
            go_wp2_with fail
            refine CW3.out.mono ?_
            rintro e w4 ⟨rfl, hi4, hb4, -⟩
            have HI4 := Lib.hid hi4
            have HB4 := Lib.hid (HB2.out.trans hb4)
            clear hi4 hb4
            go_wp2_with fail
            go_roundw
            case rel => exact ⟨j + 1, by omega, by go_num, by have := HI4.out; rw [catT_take HY.out, HSJ.out, HTY.out]; simpa only [ba_assoc] using this, HB4.out⟩
            case measure => simp [intOf]; omega
      · obtain ⟨g, q, r, bb, hyl, hk4, hk6, hk7, hk20⟩ := decl_of rfl hgy
        dsimp only [T.list_mk] at hyl
        subst hyl
        rw [declT_3] at HY hds
        have hg65 : ∀ u ∈ [g, q, r, bb], goodB 65 u = true := fun u hu => goodB_in hgy hu
        have hf65 : ∀ u ∈ [g, q, r, bb], Fine u := fun u hu => hfy.kid hu
        have hgg := hg65 g (by simp)
        have hfg := hf65 g (by simp)
        have hgq := hg65 q (by simp)
        have hfq := hf65 q (by simp)
        have hgr := hg65 r (by simp)
        have hfr := hf65 r (by simp)
        have hgb := hg65 bb (by simp)
        have hfb2 := hf65 bb (by simp)
        obtain ⟨hl16, hnum⟩ := gens_of hk4 hgg
        obtain ⟨b1, o1, Ag, cg, rfl, hcg, hrg⟩ := (show Rd w [g, q, r, bb] A' c' from HRY.out).at0 (x := g) rfl
        have HRL := Lib.hid (show Rd w [g, q, r, bb] (some ⟨b1, o1, none⟩) c' from HRY.out)
        obtain ⟨Aq, cq, hcq, hrq⟩ := HRL.out.at1
        obtain ⟨Ar, cr, hcr, hrr⟩ := HRL.out.at2
        obtain ⟨Ab, cb, hcb, hrb⟩ := HRL.out.at3
        have h0 : wr.cell? ⟨b, o + j * 5, none⟩ = some (.int .i64 3) := h0
        have h1 : wr.cell? ⟨b, o + j * 5 + 1, none⟩ = some (.string ty) := h1
        have h2 : wr.cell? ⟨b, o + j * 5 + 2, none⟩ = some (.int .u64 my) := h2
        have h3 : wr.cell? ⟨b, o + j * 5 + 3, none⟩ = some (.int .i64 py) := h3
        have h4 : wr.cell? ⟨b, o + j * 5 + 4, none⟩ = some (.slice (some ⟨b1, o1, none⟩) 4 c') := h4
        have HSG := Lib.hid (fun W (hb : Below w.heap.size w W) => sigP_any 65 q r Aq Ar cq cr W hk6 hk7 hgq hgr hfq hfr (hrq.keep hb) (hrr.keep hb))
        have HBLK := Lib.hid (fun W pb (hb : Below w.heap.size w W) (hp : W.heap[pb]? = some (Obj.cells #[Value.int .i64 0] 45 (0, 0))) (hl : w.heap.size ≤ pb) => (printP 65).2.1 bb 0 Ab cb pb W (by omega) hk20 hgb hfb2 (hrb.keep hb) ⟨pat0 hp, w, HE.out, hl, hb⟩)
        have HQ := Lib.hid (show Cells w b1 (o1 + 5) q Aq cq from hcq)
        have HRR := Lib.hid (show Cells w b1 (o1 + 10) r Ar cr from hcr)
        have HBB := Lib.hid (show Cells w b1 (o1 + 15) bb Ab cb from hcb)
        have HCG := Lib.hid hcg
        have hhs : (headT (typT 65) q r).size ≤ 2097152000 := by have := headT_short 65 q r; have := hfq.bulk; have := hfr.bulk; omega
        have hbs0 := block_le (n := 0) hgb hfb2 (by omega)
        have hjs : (joinT (g.list.map genF)).size ≤ 1048576000 := Nat.le_trans (join_bulk (fun y _ => by have := genF_short y; omega)) (by have := hfg.bulks; omega)
        have HJN := Lib.hid (fun W (hb : Below w.heap.size w W) => joinP_any genF 31 #[] (enters_of Tryz.func31 (by kernel_rfl) rfl) g.list Ag cg W (by omega) (fun y A' c' w' hy _ _ => genP_any y (hnum y hy) (hfg.kid hy) A' c' w') hjs (hrg.keep hb))
        have HGT := Lib.hid (show genT g.list = cond (g.list.length == 0) ⟨#[]⟩ (⟨#[91]⟩ ++ joinT (g.list.map genF) ++ ⟨#[93]⟩) from rfl)
        generalize joinT (g.list.map genF) = J at *
        have HTY := Lib.hid (show funT ty g q r bb = ⟨#[102, 117, 110, 99, 32]⟩ ++ ty ++ genT g.list ++ headT (typT 65) q r ++ blockT 65 0 bb ++ ⟨#[10]⟩ from rfl)
        generalize headT (typT 65) q r = HDT at *
        generalize blockT 65 0 bb = BDT at *
        have CW := Lib.hid (write_any (w.heap.size + 1) (w.heap.size + 1) S (⟨#[102, 117, 110, 99, 32]⟩ ++ ty) (wr.alloc (.cells #[.int .i64 3, .string ty, .int .u64 my, .int .i64 py, .slice (some ⟨b1, o1, none⟩) 4 c'] 25))
          (HI.out.keep ((Below.refl _ wr).alloc (Nat.le_refl _) _)) (by simp only [ba_size, ba_mk, List.size_toArray, List.length_cons, List.length_nil]; omega) (by rw [size_alloc]; omega))
        obtain ⟨EE, hEE⟩ : ∃ EE, EE = wr.heap.size := ⟨_, rfl⟩
        have HEB := Lib.hid (show (wr.alloc (.cells #[.int .i64 3, .string ty, .int .u64 my, .int .i64 py, .slice (some ⟨b1, o1, none⟩) 4 c'] 25)).heap[EE]? = some (.cells #[.int .i64 3, .string ty, .int .u64 my, .int .i64 py, .slice (some ⟨b1, o1, none⟩) 4 c'] 25) from hEE ▸ heap_alloc_new wr _)
        have HNE := Lib.hid (show EE ≠ (w.heap.size + 1) from by have := HI.out.lt; omega)
        have HBA := Lib.hid (HB.out.alloc hsw (.cells #[.int .i64 3, .string ty, .int .u64 my, .int .i64 py, .slice (some ⟨b1, o1, none⟩) 4 c'] 25))
        clear hg65 hf65 hgg hfg hgq hfq hgr hfr hgb hfb2 hnum hcg hrg hcq hrq hcr hrr hcb hrb hgy hfy hds hfb HRY HI hk4 hk6 hk7 hk20
        go_wp2_with fail
        refine CW.out.mono ?_
        rintro e w1 ⟨rfl, hi1, hb1, hk1⟩
        have HE1 := Lib.hid (kept_box hk1 HEB.out HNE.out (by decide))
        have HI1 := Lib.hid hi1
        have HB1 := Lib.hid (HBA.out.trans hb1)
        have hw1 : Below w.heap.size w w1 := box_below HB1.out
        have e4 : w1.cell? ⟨wr.heap.size, 4, none⟩ = some (.slice (some ⟨b1, o1, none⟩) 4 c') := by rw [← hEE, Lib.cell_of_heap HE1.out]; rfl
        obtain ⟨-, -, -, -, gc4⟩ := HCG.out.below hw1
        clear hi1 hb1 hk1
        by_cases hgl : g.list.length = 0
        · have HGL := Lib.hid (show genT g.list = ⟨#[]⟩ by rw [HGT.out, hgl]; rfl)
          rw [hgl] at gc4
          have HIk := HI1
          have HBk := HB1
          have HEk := HE1
          clear hw1
          go_wp2_with fail
          rw [← hEE] at *
          have hwk : Below w.heap.size w w1 := box_below HBk.out
          have hszk : w.heap.size + 1 ≤ w1.heap.size := by have := HBk.out.size; rw [size_alloc] at this; exact this
          have e4 : w1.cell? ⟨EE, 4, none⟩ = some (.slice (some ⟨b1, o1, none⟩) 4 c') := by rw [Lib.cell_of_heap HEk.out]; rfl
          obtain ⟨v0, v1, v2, v3, v4⟩ := HQ.out.below hwk
          obtain ⟨x0, x1, x2, x3, x4⟩ := HRR.out.below hwk
          obtain ⟨y0, y1, y2, y3, y4⟩ := HBB.out.below hwk
          have KS := Lib.hid (fun W (hb : Below w1.heap.size w1 W) => (show W.cell? ⟨EE, 4, none⟩ = some (.slice (some ⟨b1, o1, none⟩) 4 c') ∧ W.cell? ⟨b1, o1 + 5, none⟩ = some (.int .i64 q.kind) ∧ W.cell? ⟨b1, o1 + 6, none⟩ = some (.string q.text) ∧ W.cell? ⟨b1, o1 + 7, none⟩ = some (.int .u64 q.num) ∧ W.cell? ⟨b1, o1 + 8, none⟩ = some (.int .i64 q.place) ∧ W.cell? ⟨b1, o1 + 9, none⟩ = some (.slice Aq q.list.length cq) ∧ W.cell? ⟨b1, o1 + 10, none⟩ = some (.int .i64 r.kind) ∧ W.cell? ⟨b1, o1 + 11, none⟩ = some (.string r.text) ∧ W.cell? ⟨b1, o1 + 12, none⟩ = some (.int .u64 r.num) ∧ W.cell? ⟨b1, o1 + 13, none⟩ = some (.int .i64 r.place) ∧ W.cell? ⟨b1, o1 + 14, none⟩ = some (.slice Ar r.list.length cr) ∧ W.cell? ⟨b1, o1 + 15, none⟩ = some (.int .i64 bb.kind) ∧ W.cell? ⟨b1, o1 + 16, none⟩ = some (.string bb.text) ∧ W.cell? ⟨b1, o1 + 17, none⟩ = some (.int .u64 bb.num) ∧ W.cell? ⟨b1, o1 + 18, none⟩ = some (.int .i64 bb.place) ∧ W.cell? ⟨b1, o1 + 19, none⟩ = some (.slice Ab bb.list.length cb) from
            ⟨keep_cell hb e4, keep_cell hb v0, keep_cell hb v1, keep_cell hb v2, keep_cell hb v3, keep_cell hb v4, keep_cell hb x0, keep_cell hb x1, keep_cell hb x2, keep_cell hb x3, keep_cell hb x4, keep_cell hb y0, keep_cell hb y1, keep_cell hb y2, keep_cell hb y3, keep_cell hb y4⟩))
          have LB := Lib.hid (fun W W' (h : Below w1.heap.size w1 W) (hbw : Below (w.heap.size + 1) W W') (hkw : Lib.OthersKept 5 (some (w.heap.size + 1)) W W') => (show W'.cell? ⟨EE, 4, none⟩ = some (.slice (some ⟨b1, o1, none⟩) 4 c') ∧ W'.cell? ⟨b1, o1 + 5, none⟩ = some (.int .i64 q.kind) ∧ W'.cell? ⟨b1, o1 + 6, none⟩ = some (.string q.text) ∧ W'.cell? ⟨b1, o1 + 7, none⟩ = some (.int .u64 q.num) ∧ W'.cell? ⟨b1, o1 + 8, none⟩ = some (.int .i64 q.place) ∧ W'.cell? ⟨b1, o1 + 9, none⟩ = some (.slice Aq q.list.length cq) ∧ W'.cell? ⟨b1, o1 + 10, none⟩ = some (.int .i64 r.kind) ∧ W'.cell? ⟨b1, o1 + 11, none⟩ = some (.string r.text) ∧ W'.cell? ⟨b1, o1 + 12, none⟩ = some (.int .u64 r.num) ∧ W'.cell? ⟨b1, o1 + 13, none⟩ = some (.int .i64 r.place) ∧ W'.cell? ⟨b1, o1 + 14, none⟩ = some (.slice Ar r.list.length cr) ∧ W'.cell? ⟨b1, o1 + 15, none⟩ = some (.int .i64 bb.kind) ∧ W'.cell? ⟨b1, o1 + 16, none⟩ = some (.string bb.text) ∧ W'.cell? ⟨b1, o1 + 17, none⟩ = some (.int .u64 bb.num) ∧ W'.cell? ⟨b1, o1 + 18, none⟩ = some (.int .i64 bb.place) ∧ W'.cell? ⟨b1, o1 + 19, none⟩ = some (.slice Ab bb.list.length cb) from by
            have k := KS.out W h
            have hl : b1 < (w.heap.size + 1) := by have := World.block_lt_of_cell? w _ HQ.out.c0; exact Nat.lt_succ_of_lt this
            have ke : W'.cell? ⟨EE, 4, none⟩ = some (.slice (some ⟨b1, o1, none⟩) 4 c') := by
              rw [Lib.cell_of_heap (kept_box hkw ((h.block EE (lt_heap HEk.out)).trans HEk.out) HNE.out (by decide))]; rfl
            have kc : ∀ (m : Nat) (u : Value), W.cell? ⟨b1, m, none⟩ = some u → W'.cell? ⟨b1, m, none⟩ = some u := fun m u hu => (hbw.cell (p := ⟨b1, m, none⟩) hl).trans hu
            exact ⟨ke, kc _ _ k.2.1, kc _ _ k.2.2.1, kc _ _ k.2.2.2.1, kc _ _ k.2.2.2.2.1, kc _ _ k.2.2.2.2.2.1, kc _ _ k.2.2.2.2.2.2.1, kc _ _ k.2.2.2.2.2.2.2.1, kc _ _ k.2.2.2.2.2.2.2.2.1, kc _ _ k.2.2.2.2.2.2.2.2.2.1, kc _ _ k.2.2.2.2.2.2.2.2.2.2.1,
              kc _ _ k.2.2.2.2.2.2.2.2.2.2.2.1, kc _ _ k.2.2.2.2.2.2.2.2.2.2.2.2.1, kc _ _ k.2.2.2.2.2.2.2.2.2.2.2.2.2.1, kc _ _ k.2.2.2.2.2.2.2.2.2.2.2.2.2.2.1, kc _ _ k.2.2.2.2.2.2.2.2.2.2.2.2.2.2.2⟩))
          have CSG := Lib.hid (fun W (hb : Below w1.heap.size w1 W) => HSG.out W (below_then hwk hwk.size hb))
          have CBK := Lib.hid (fun W pb (hb : Below w1.heap.size w1 W) (hp : W.heap[pb]? = some (Obj.cells #[Value.int .i64 0] 45 (0, 0))) (hl : w1.heap.size ≤ pb) => HBLK.out W pb (below_then hwk hwk.size hb) hp (by omega))
          have CWK := Lib.hid (fun W (hb : Below w1.heap.size w1 W) => write_any (w.heap.size + 1) (w.heap.size + 1) (S ++ (⟨#[102, 117, 110, 99, 32]⟩ ++ ty)) (HDT ++ BDT ++ ⟨#[10]⟩) W (HIk.out.keep hb) (by simp only [ba_size, ba_mk, List.size_toArray, List.length_cons, List.length_nil]; omega) (by have := hb.size; omega))
          have HD := Lib.hid (show Below w1.heap.size w1 w1.drew from (Below.refl _ _).drew)
          have q0 : ¬ 9223372036854775807 < HDT.size + BDT.size := by omega
          have q1 : ¬ 9223372036854775807 < HDT.size + BDT.size + 1 := by omega
          go_wp2_with fail
          go_region_held3 (fun w' => w'.cell? ⟨EE, 4, none⟩ = some (.slice (some ⟨b1, o1, none⟩) 4 c') ∧ w'.cell? ⟨b1, o1 + 5, none⟩ = some (.int .i64 q.kind) ∧ w'.cell? ⟨b1, o1 + 6, none⟩ = some (.string q.text) ∧ w'.cell? ⟨b1, o1 + 7, none⟩ = some (.int .u64 q.num) ∧ w'.cell? ⟨b1, o1 + 8, none⟩ = some (.int .i64 q.place) ∧ w'.cell? ⟨b1, o1 + 9, none⟩ = some (.slice Aq q.list.length cq) ∧ w'.cell? ⟨b1, o1 + 10, none⟩ = some (.int .i64 r.kind) ∧ w'.cell? ⟨b1, o1 + 11, none⟩ = some (.string r.text) ∧ w'.cell? ⟨b1, o1 + 12, none⟩ = some (.int .u64 r.num) ∧ w'.cell? ⟨b1, o1 + 13, none⟩ = some (.int .i64 r.place) ∧ w'.cell? ⟨b1, o1 + 14, none⟩ = some (.slice Ar r.list.length cr) ∧ w'.cell? ⟨b1, o1 + 15, none⟩ = some (.int .i64 bb.kind) ∧ w'.cell? ⟨b1, o1 + 16, none⟩ = some (.string bb.text) ∧ w'.cell? ⟨b1, o1 + 17, none⟩ = some (.int .u64 bb.num) ∧ w'.cell? ⟨b1, o1 + 18, none⟩ = some (.int .i64 bb.place) ∧ w'.cell? ⟨b1, o1 + 19, none⟩ = some (.slice Ab bb.list.length cb))
            (first
              | exact KS.out _ HD.out
              | exact KS.out _ (HD.out.alloc HD.out.size _)
              | exact KS.out _ (below_then HD.out HD.out.size hbs)
              | exact KS.out _ ((below_then HD.out HD.out.size hbs).alloc (below_then HD.out HD.out.size hbs).size _)
              | exact KS.out _ (below_then (HD.out.alloc HD.out.size _) (HD.out.alloc HD.out.size _).size hbs)
              | exact KS.out _ (below_then (HD.out.alloc HD.out.size _) (HD.out.alloc HD.out.size _).size hbb)
              | exact KS.out _ (below_then ((below_then HD.out HD.out.size hbs).alloc (below_then HD.out HD.out.size hbs).size _) ((below_then HD.out HD.out.size hbs).alloc (below_then HD.out HD.out.size hbs).size _).size hbb)
              | exact KS.out _ (below_then (below_then (HD.out.alloc HD.out.size _) (HD.out.alloc HD.out.size _).size hbs) (below_then (HD.out.alloc HD.out.size _) (HD.out.alloc HD.out.size _).size hbs).size hbb)
              | exact KS.out _ (below_then (below_then (HD.out.alloc HD.out.size _) (HD.out.alloc HD.out.size _).size hbb) (below_then (HD.out.alloc HD.out.size _) (HD.out.alloc HD.out.size _).size hbb).size hbs)
              | exact LB.out _ _ (below_then ((below_then HD.out HD.out.size hbs).alloc (below_then HD.out HD.out.size hbs).size _) ((below_then HD.out HD.out.size hbs).alloc (below_then HD.out HD.out.size hbs).size _).size hbb) hbw hkw
              | exact LB.out _ _ (below_then (below_then (HD.out.alloc HD.out.size _) (HD.out.alloc HD.out.size _).size hbs) (below_then (HD.out.alloc HD.out.size _) (HD.out.alloc HD.out.size _).size hbs).size hbb) hbw hkw
              | exact LB.out _ _ (below_then (below_then (HD.out.alloc HD.out.size _) (HD.out.alloc HD.out.size _).size hbb) (below_then (HD.out.alloc HD.out.size _) (HD.out.alloc HD.out.size _).size hbb).size hbs) hbw hkw)
            (first
              | (go_at_call 32; refine (CSG.out _ ?_).mono ?_; (first | exact HD.out | exact (HD.out.alloc HD.out.size _) | exact (below_then (HD.out.alloc HD.out.size _) (HD.out.alloc HD.out.size _).size hbb)); rintro e ws ⟨rfl, hbs⟩)
              | (go_at_call 33; refine (CBK.out _ _ ?_ ?_ ?_).mono ?_; (first | exact (HD.out.alloc HD.out.size _) | exact ((below_then HD.out HD.out.size hbs).alloc (below_then HD.out HD.out.size hbs).size _) | exact (below_then (HD.out.alloc HD.out.size _) (HD.out.alloc HD.out.size _).size hbs)); (first | exact heap_alloc_new _ _ | exact pat_far hbs); (first | exact Nat.le_refl _ | exact (below_then HD.out HD.out.size hbs).size); rintro e wb ⟨rfl, hbb⟩)
              | (go_at_call 28; refine (CWK.out _ ?_).mono ?_; (first | exact (below_then ((below_then HD.out HD.out.size hbs).alloc (below_then HD.out HD.out.size hbs).size _) ((below_then HD.out HD.out.size hbs).alloc (below_then HD.out HD.out.size hbs).size _).size hbb) | exact (below_then (below_then (HD.out.alloc HD.out.size _) (HD.out.alloc HD.out.size _).size hbs) (below_then (HD.out.alloc HD.out.size _) (HD.out.alloc HD.out.size _).size hbs).size hbb) | exact (below_then (below_then (HD.out.alloc HD.out.size _) (HD.out.alloc HD.out.size _).size hbb) (below_then (HD.out.alloc HD.out.size _) (HD.out.alloc HD.out.size _).size hbb).size hbs)); rintro e ww ⟨rfl, hib, hbw, hkw⟩))
          all_goals have HI9 := Lib.hid hib
          all_goals have HB9 := Lib.hid ((HBk.out.trans (by first | exact (below_then ((below_then HD.out HD.out.size hbs).alloc (below_then HD.out HD.out.size hbs).size _) ((below_then HD.out HD.out.size hbs).alloc (below_then HD.out HD.out.size hbs).size _).size hbb).mono hszk | exact (below_then (below_then (HD.out.alloc HD.out.size _) (HD.out.alloc HD.out.size _).size hbs) (below_then (HD.out.alloc HD.out.size _) (HD.out.alloc HD.out.size _).size hbs).size hbb).mono hszk | exact (below_then (below_then (HD.out.alloc HD.out.size _) (HD.out.alloc HD.out.size _).size hbb) (below_then (HD.out.alloc HD.out.size _) (HD.out.alloc HD.out.size _).size hbb).size hbs).mono hszk)).trans hbw)
          all_goals clear hbs hbb hbw hkw hib
          all_goals go_wp2_with fail
          all_goals
            go_roundw
            case rel => exact ⟨j + 1, by omega, by go_num, by have := HI9.out; rw [catT_take HY.out, HSJ.out, HTY.out, HGL.out]; simpa only [ba_assoc, ba_nil] using this, HB9.out⟩
            case measure => simp [intOf]; omega

        · have hgp : (0 : Int) < (g.list.length : Int) := by omega
          have HGL := Lib.hid (show genT g.list = ⟨#[91]⟩ ++ J ++ ⟨#[93]⟩ by rw [HGT.out, beq_eq_false_iff_ne.2 hgl]; rfl)
          have CJ := Lib.hid (HJN.out w1 hw1)
          clear hw1
          go_wp2_with fail
          refine CJ.out.mono ?_
          rintro e w2 ⟨rfl, hb2⟩
          have CW2 := Lib.hid (write_any (w.heap.size + 1) (w.heap.size + 1) (S ++ (⟨#[102, 117, 110, 99, 32]⟩ ++ ty)) (⟨#[91]⟩ ++ J ++ ⟨#[93]⟩) w2 (HI1.out.keep hb2) (by simp only [ba_size, ba_mk, List.size_toArray, List.length_cons, List.length_nil]; omega) (by have := hb2.size; have := HB1.out.size; rw [size_alloc] at this; omega))
          have HB2 := Lib.hid (HB1.out.trans (hb2.mono (by have := HB1.out.size; rw [size_alloc] at this; omega)))
          have HE2 := Lib.hid ((hb2.block EE (lt_heap HE1.out)).trans HE1.out)
          clear hb2
          go_wp2_with fail
          refine CW2.out.mono ?_
          rintro e w3 ⟨rfl, hi3, hb3, hk3⟩
          have HIk := Lib.hid hi3
          have HBk := Lib.hid (HB2.out.trans hb3)
          have HEk := Lib.hid (kept_box hk3 HE2.out HNE.out (by decide))
          clear hi3 hb3 hk3 e4
          rw [← hEE] at *
          have hwk : Below w.heap.size w w3 := box_below HBk.out
          have hszk : w.heap.size + 1 ≤ w3.heap.size := by have := HBk.out.size; rw [size_alloc] at this; exact this
          have e4 : w3.cell? ⟨EE, 4, none⟩ = some (.slice (some ⟨b1, o1, none⟩) 4 c') := by rw [Lib.cell_of_heap HEk.out]; rfl
          obtain ⟨v0, v1, v2, v3, v4⟩ := HQ.out.below hwk
          obtain ⟨x0, x1, x2, x3, x4⟩ := HRR.out.below hwk
          obtain ⟨y0, y1, y2, y3, y4⟩ := HBB.out.below hwk
          have KS := Lib.hid (fun W (hb : Below w3.heap.size w3 W) => (show W.cell? ⟨EE, 4, none⟩ = some (.slice (some ⟨b1, o1, none⟩) 4 c') ∧ W.cell? ⟨b1, o1 + 5, none⟩ = some (.int .i64 q.kind) ∧ W.cell? ⟨b1, o1 + 6, none⟩ = some (.string q.text) ∧ W.cell? ⟨b1, o1 + 7, none⟩ = some (.int .u64 q.num) ∧ W.cell? ⟨b1, o1 + 8, none⟩ = some (.int .i64 q.place) ∧ W.cell? ⟨b1, o1 + 9, none⟩ = some (.slice Aq q.list.length cq) ∧ W.cell? ⟨b1, o1 + 10, none⟩ = some (.int .i64 r.kind) ∧ W.cell? ⟨b1, o1 + 11, none⟩ = some (.string r.text) ∧ W.cell? ⟨b1, o1 + 12, none⟩ = some (.int .u64 r.num) ∧ W.cell? ⟨b1, o1 + 13, none⟩ = some (.int .i64 r.place) ∧ W.cell? ⟨b1, o1 + 14, none⟩ = some (.slice Ar r.list.length cr) ∧ W.cell? ⟨b1, o1 + 15, none⟩ = some (.int .i64 bb.kind) ∧ W.cell? ⟨b1, o1 + 16, none⟩ = some (.string bb.text) ∧ W.cell? ⟨b1, o1 + 17, none⟩ = some (.int .u64 bb.num) ∧ W.cell? ⟨b1, o1 + 18, none⟩ = some (.int .i64 bb.place) ∧ W.cell? ⟨b1, o1 + 19, none⟩ = some (.slice Ab bb.list.length cb) from
            ⟨keep_cell hb e4, keep_cell hb v0, keep_cell hb v1, keep_cell hb v2, keep_cell hb v3, keep_cell hb v4, keep_cell hb x0, keep_cell hb x1, keep_cell hb x2, keep_cell hb x3, keep_cell hb x4, keep_cell hb y0, keep_cell hb y1, keep_cell hb y2, keep_cell hb y3, keep_cell hb y4⟩))
          have LB := Lib.hid (fun W W' (h : Below w3.heap.size w3 W) (hbw : Below (w.heap.size + 1) W W') (hkw : Lib.OthersKept 5 (some (w.heap.size + 1)) W W') => (show W'.cell? ⟨EE, 4, none⟩ = some (.slice (some ⟨b1, o1, none⟩) 4 c') ∧ W'.cell? ⟨b1, o1 + 5, none⟩ = some (.int .i64 q.kind) ∧ W'.cell? ⟨b1, o1 + 6, none⟩ = some (.string q.text) ∧ W'.cell? ⟨b1, o1 + 7, none⟩ = some (.int .u64 q.num) ∧ W'.cell? ⟨b1, o1 + 8, none⟩ = some (.int .i64 q.place) ∧ W'.cell? ⟨b1, o1 + 9, none⟩ = some (.slice Aq q.list.length cq) ∧ W'.cell? ⟨b1, o1 + 10, none⟩ = some (.int .i64 r.kind) ∧ W'.cell? ⟨b1, o1 + 11, none⟩ = some (.string r.text) ∧ W'.cell? ⟨b1, o1 + 12, none⟩ = some (.int .u64 r.num) ∧ W'.cell? ⟨b1, o1 + 13, none⟩ = some (.int .i64 r.place) ∧ W'.cell? ⟨b1, o1 + 14, none⟩ = some (.slice Ar r.list.length cr) ∧ W'.cell? ⟨b1, o1 + 15, none⟩ = some (.int .i64 bb.kind) ∧ W'.cell? ⟨b1, o1 + 16, none⟩ = some (.string bb.text) ∧ W'.cell? ⟨b1, o1 + 17, none⟩ = some (.int .u64 bb.num) ∧ W'.cell? ⟨b1, o1 + 18, none⟩ = some (.int .i64 bb.place) ∧ W'.cell? ⟨b1, o1 + 19, none⟩ = some (.slice Ab bb.list.length cb) from by
            have k := KS.out W h
            have hl : b1 < (w.heap.size + 1) := by have := World.block_lt_of_cell? w _ HQ.out.c0; exact Nat.lt_succ_of_lt this
            have ke : W'.cell? ⟨EE, 4, none⟩ = some (.slice (some ⟨b1, o1, none⟩) 4 c') := by
              rw [Lib.cell_of_heap (kept_box hkw ((h.block EE (lt_heap HEk.out)).trans HEk.out) HNE.out (by decide))]; rfl
            have kc : ∀ (m : Nat) (u : Value), W.cell? ⟨b1, m, none⟩ = some u → W'.cell? ⟨b1, m, none⟩ = some u := fun m u hu => (hbw.cell (p := ⟨b1, m, none⟩) hl).trans hu
            exact ⟨ke, kc _ _ k.2.1, kc _ _ k.2.2.1, kc _ _ k.2.2.2.1, kc _ _ k.2.2.2.2.1, kc _ _ k.2.2.2.2.2.1, kc _ _ k.2.2.2.2.2.2.1, kc _ _ k.2.2.2.2.2.2.2.1, kc _ _ k.2.2.2.2.2.2.2.2.1, kc _ _ k.2.2.2.2.2.2.2.2.2.1, kc _ _ k.2.2.2.2.2.2.2.2.2.2.1,
              kc _ _ k.2.2.2.2.2.2.2.2.2.2.2.1, kc _ _ k.2.2.2.2.2.2.2.2.2.2.2.2.1, kc _ _ k.2.2.2.2.2.2.2.2.2.2.2.2.2.1, kc _ _ k.2.2.2.2.2.2.2.2.2.2.2.2.2.2.1, kc _ _ k.2.2.2.2.2.2.2.2.2.2.2.2.2.2.2⟩))
          have CSG := Lib.hid (fun W (hb : Below w3.heap.size w3 W) => HSG.out W (below_then hwk hwk.size hb))
          have CBK := Lib.hid (fun W pb (hb : Below w3.heap.size w3 W) (hp : W.heap[pb]? = some (Obj.cells #[Value.int .i64 0] 45 (0, 0))) (hl : w3.heap.size ≤ pb) => HBLK.out W pb (below_then hwk hwk.size hb) hp (by omega))
          have CWK := Lib.hid (fun W (hb : Below w3.heap.size w3 W) => write_any (w.heap.size + 1) (w.heap.size + 1) (S ++ (⟨#[102, 117, 110, 99, 32]⟩ ++ ty) ++ (⟨#[91]⟩ ++ J ++ ⟨#[93]⟩)) (HDT ++ BDT ++ ⟨#[10]⟩) W (HIk.out.keep hb) (by simp only [ba_size, ba_mk, List.size_toArray, List.length_cons, List.length_nil]; omega) (by have := hb.size; omega))
          have HD := Lib.hid (show Below w3.heap.size w3 w3.drew from (Below.refl _ _).drew)
          have q0 : ¬ 9223372036854775807 < HDT.size + BDT.size := by omega
          have q1 : ¬ 9223372036854775807 < HDT.size + BDT.size + 1 := by omega
          go_wp2_with fail
          go_region_held3 (fun w' => w'.cell? ⟨EE, 4, none⟩ = some (.slice (some ⟨b1, o1, none⟩) 4 c') ∧ w'.cell? ⟨b1, o1 + 5, none⟩ = some (.int .i64 q.kind) ∧ w'.cell? ⟨b1, o1 + 6, none⟩ = some (.string q.text) ∧ w'.cell? ⟨b1, o1 + 7, none⟩ = some (.int .u64 q.num) ∧ w'.cell? ⟨b1, o1 + 8, none⟩ = some (.int .i64 q.place) ∧ w'.cell? ⟨b1, o1 + 9, none⟩ = some (.slice Aq q.list.length cq) ∧ w'.cell? ⟨b1, o1 + 10, none⟩ = some (.int .i64 r.kind) ∧ w'.cell? ⟨b1, o1 + 11, none⟩ = some (.string r.text) ∧ w'.cell? ⟨b1, o1 + 12, none⟩ = some (.int .u64 r.num) ∧ w'.cell? ⟨b1, o1 + 13, none⟩ = some (.int .i64 r.place) ∧ w'.cell? ⟨b1, o1 + 14, none⟩ = some (.slice Ar r.list.length cr) ∧ w'.cell? ⟨b1, o1 + 15, none⟩ = some (.int .i64 bb.kind) ∧ w'.cell? ⟨b1, o1 + 16, none⟩ = some (.string bb.text) ∧ w'.cell? ⟨b1, o1 + 17, none⟩ = some (.int .u64 bb.num) ∧ w'.cell? ⟨b1, o1 + 18, none⟩ = some (.int .i64 bb.place) ∧ w'.cell? ⟨b1, o1 + 19, none⟩ = some (.slice Ab bb.list.length cb))
            (first
              | exact KS.out _ HD.out
              | exact KS.out _ (HD.out.alloc HD.out.size _)
              | exact KS.out _ (below_then HD.out HD.out.size hbs)
              | exact KS.out _ ((below_then HD.out HD.out.size hbs).alloc (below_then HD.out HD.out.size hbs).size _)
              | exact KS.out _ (below_then (HD.out.alloc HD.out.size _) (HD.out.alloc HD.out.size _).size hbs)
              | exact KS.out _ (below_then (HD.out.alloc HD.out.size _) (HD.out.alloc HD.out.size _).size hbb)
              | exact KS.out _ (below_then ((below_then HD.out HD.out.size hbs).alloc (below_then HD.out HD.out.size hbs).size _) ((below_then HD.out HD.out.size hbs).alloc (below_then HD.out HD.out.size hbs).size _).size hbb)
              | exact KS.out _ (below_then (below_then (HD.out.alloc HD.out.size _) (HD.out.alloc HD.out.size _).size hbs) (below_then (HD.out.alloc HD.out.size _) (HD.out.alloc HD.out.size _).size hbs).size hbb)
              | exact KS.out _ (below_then (below_then (HD.out.alloc HD.out.size _) (HD.out.alloc HD.out.size _).size hbb) (below_then (HD.out.alloc HD.out.size _) (HD.out.alloc HD.out.size _).size hbb).size hbs)
              | exact LB.out _ _ (below_then ((below_then HD.out HD.out.size hbs).alloc (below_then HD.out HD.out.size hbs).size _) ((below_then HD.out HD.out.size hbs).alloc (below_then HD.out HD.out.size hbs).size _).size hbb) hbw hkw
              | exact LB.out _ _ (below_then (below_then (HD.out.alloc HD.out.size _) (HD.out.alloc HD.out.size _).size hbs) (below_then (HD.out.alloc HD.out.size _) (HD.out.alloc HD.out.size _).size hbs).size hbb) hbw hkw
              | exact LB.out _ _ (below_then (below_then (HD.out.alloc HD.out.size _) (HD.out.alloc HD.out.size _).size hbb) (below_then (HD.out.alloc HD.out.size _) (HD.out.alloc HD.out.size _).size hbb).size hbs) hbw hkw)
            (first
              | (go_at_call 32; refine (CSG.out _ ?_).mono ?_; (first | exact HD.out | exact (HD.out.alloc HD.out.size _) | exact (below_then (HD.out.alloc HD.out.size _) (HD.out.alloc HD.out.size _).size hbb)); rintro e ws ⟨rfl, hbs⟩)
              | (go_at_call 33; refine (CBK.out _ _ ?_ ?_ ?_).mono ?_; (first | exact (HD.out.alloc HD.out.size _) | exact ((below_then HD.out HD.out.size hbs).alloc (below_then HD.out HD.out.size hbs).size _) | exact (below_then (HD.out.alloc HD.out.size _) (HD.out.alloc HD.out.size _).size hbs)); (first | exact heap_alloc_new _ _ | exact pat_far hbs); (first | exact Nat.le_refl _ | exact (below_then HD.out HD.out.size hbs).size); rintro e wb ⟨rfl, hbb⟩)
              | (go_at_call 28; refine (CWK.out _ ?_).mono ?_; (first | exact (below_then ((below_then HD.out HD.out.size hbs).alloc (below_then HD.out HD.out.size hbs).size _) ((below_then HD.out HD.out.size hbs).alloc (below_then HD.out HD.out.size hbs).size _).size hbb) | exact (below_then (below_then (HD.out.alloc HD.out.size _) (HD.out.alloc HD.out.size _).size hbs) (below_then (HD.out.alloc HD.out.size _) (HD.out.alloc HD.out.size _).size hbs).size hbb) | exact (below_then (below_then (HD.out.alloc HD.out.size _) (HD.out.alloc HD.out.size _).size hbb) (below_then (HD.out.alloc HD.out.size _) (HD.out.alloc HD.out.size _).size hbb).size hbs)); rintro e ww ⟨rfl, hib, hbw, hkw⟩))
          all_goals have HI9 := Lib.hid hib
          all_goals have HB9 := Lib.hid ((HBk.out.trans (by first | exact (below_then ((below_then HD.out HD.out.size hbs).alloc (below_then HD.out HD.out.size hbs).size _) ((below_then HD.out HD.out.size hbs).alloc (below_then HD.out HD.out.size hbs).size _).size hbb).mono hszk | exact (below_then (below_then (HD.out.alloc HD.out.size _) (HD.out.alloc HD.out.size _).size hbs) (below_then (HD.out.alloc HD.out.size _) (HD.out.alloc HD.out.size _).size hbs).size hbb).mono hszk | exact (below_then (below_then (HD.out.alloc HD.out.size _) (HD.out.alloc HD.out.size _).size hbb) (below_then (HD.out.alloc HD.out.size _) (HD.out.alloc HD.out.size _).size hbb).size hbs).mono hszk)).trans hbw)
          all_goals clear hbs hbb hbw hkw hib
          all_goals go_wp2_with fail
          all_goals
            go_roundw
            case rel => exact ⟨j + 1, by omega, by go_num, by have := HI9.out; rw [catT_take HY.out, HSJ.out, HTY.out, HGL.out]; simpa only [ba_assoc, ba_nil] using this, HB9.out⟩
            case measure => simp [intOf]; omega

    · have hjt : ts.take j = ts := List.take_of_length_le (by have := HTL.out; omega)
      have hi2 := HI.out
      rw [hjt] at hi2
      have CS := Lib.hid (string_any (w.heap.size + 1) (w.heap.size + 1) (catT ts) wr hi2 hsw)
      clear hjt hi2 hw
      go_wp2_with fail
      refine CS.out.mono ?_
      rintro e w2 ⟨rfl, hb⟩
      have HB2 := Lib.hid (box_below (HB.out.trans hb))
      clear hb
      go_wp2_with fail
      go_ret
      exact ⟨by rw [HX.out]; rfl, HB2.out⟩
end Go.Proofs.YtoemljgkofhhpaaGreatDoor
