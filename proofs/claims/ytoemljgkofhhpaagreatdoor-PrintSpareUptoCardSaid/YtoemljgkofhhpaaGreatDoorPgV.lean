import Derived.Test.YtoemljgkofhhpaaGreatDoorPgS
namespace Go.Proofs.YtoemljgkofhhpaaGreatDoor
open Go.RowKit

set_option maxRecDepth 100000 in
set_option maxHeartbeats 4000000 in
theorem selP_any {d : Nat} (hE : ExprP d) (hS : StmtP d) (t : ByteArray) (m p : Int) (l : List T) (n : Nat) (A : Option Addr) (c pb : Nat) (w0 : World) (hn : n + (d + 1) ≤ 200) (hg : goodB (d + 1) (T.mk 42 t m p l) = true) (hF : Fine (T.mk 42 t m p l)) (hR : Rd w0 l A c) (hP : Pr w0 pb n) :
    Calls Tryz.prog 131 #[.pointer (some ⟨pb, 0, none⟩), nv (T.mk 42 t m p l) A c] w0 fun e w' => e = .returned (.string (stmtT (d + 1) n (T.mk 42 t m p l))) ∧ Below w0.heap.size w0 w' := by
  have hn1 : n + d ≤ 200 := by omega
  have hn2 : n ≤ 1000 := by omega
  have hl : l.length ≤ 1048576 := hF.len
  have hb0 : T.bulks l ≤ 1048576 := hF.bulks
  have hch := goodB_kids hg
  have hkk : ∀ y ∈ l, 43 ≤ y.kind ∧ y.kind ≤ 45 := by
    simp [childrenB, allB] at hch
    exact hch.2
  have hgg : ∀ y ∈ l, goodB d y = true := fun y hy => goodB_down hg hy
  have hff : ∀ y ∈ l, Fine y := fun y hy => hF.kid hy
  generalize hts : l.map (caseF n (exprT d n) (stmtT d (n + 1))) = ts
  have he : stmtT (d + 1) n (T.mk 42 t m p l) = ⟨#[115, 101, 108, 101, 99, 116, 32, 123, 10]⟩ ++ catT ts ++ tabsT n ++ ⟨#[125]⟩ := by rw [← hts]; rfl
  have hat : ∀ j y, l[j]? = some y → ts[j]? = some (caseF n (exprT d n) (stmtT d (n + 1)) y) := fun j y h => by rw [← hts, List.getElem?_map, h]; rfl
  have htl : ts.length = l.length := by rw [← hts, List.length_map]
  have hsz : ∀ j, (catT (ts.take j)).size ≤ 1048576000 := fun j => by
    have h1 := cat_bulk (l := l.take j) (f := caseF n (exprT d n) (stmtT d (n + 1))) (fun y hy => by
      have hm := List.mem_of_mem_take hy
      have := (branch_le (n := n) (hgg y hm) (hkk y hm) (hff y hm) (by omega)).1
      omega)
    have h2 : T.bulks (l.take j) + T.bulks (l.drop j) = T.bulks l := by rw [← T.bulks_append, List.take_append_drop]
    rw [List.map_take, hts] at h1
    omega
  have HW0 := Lib.hid (one_below (w := w0) (o1 := .cells #[.int .i64 42, .string t, .int .u64 m, .int .i64 p, .slice A l.length c] 25))
  have HX := Lib.hid he
  have HAT := Lib.hid hat
  have HTL := Lib.hid htl
  have HSZ := Lib.hid hsz
  have HE := Lib.hid hE
  have HS := Lib.hid hS
  have HK := Lib.hid hkk
  have HG := Lib.hid hgg
  have HFF := Lib.hid hff
  have HR := Lib.hid (hR.keep HW0.out)
  have HP := Lib.hid (hP.keep HW0.out)
  have C0 := Lib.hid (fun w' => tabsP_any n hn2 w')
  have HNS := Lib.hid (tabsT_size n)
  clear he hat hsz hE hS hkk hgg hff hg hF hR hts htl hb0 hch hP
  go_enter Tryz.func131, Tryz.ntmps131
  go_wp2_with fail
  generalize hw : w0.alloc (.cells #[.int .i64 42, .string t, .int .u64 m, .int .i64 p, .slice A l.length c] 25) = w at *
  have HWW := Lib.hid hw
  clear hw
  go_loopw [5, 11] (fun s i wr => ∃ j : Nat, j ≤ l.length ∧ i = .int .i64 j ∧ s = .string (⟨#[115, 101, 108, 101, 99, 116, 32, 123, 10]⟩ ++ catT (ts.take j)) ∧ Below w.heap.size w wr) (fun _ i _ => l.length - (intOf i).toNat)
  case atStart => exact ⟨0, Nat.zero_le _, rfl, by simp [catT, ba_nil'], Below.refl _ _⟩
  case round =>
    obtain ⟨j, hj, rfl, rfl, hB⟩ := hrel
    have HB := Lib.hid hB
    have hcs := HSZ.out j
    clear hB
    by_cases hlt : j < l.length
    · obtain ⟨y, hy⟩ : ∃ y, l[j]? = some y := ⟨l[j], by simp⟩
      obtain ⟨b, o, A', c', rfl, hc, hr⟩ := HR.out.at_ hy
      have hm := List.mem_of_getElem? hy
      have hky := HK.out y hm
      have hgy := HG.out y hm
      have hfy := HFF.out y hm
      have hE := HE.out
      have hS := HS.out
      have hat := HAT.out
      obtain ⟨z, hz20, hsh⟩ := case_last hgy hky
      generalize hsj : catT (ts.take j) = s at *
      have HSJ := Lib.hid hsj
      clear hsj hm
      cases y with
      | mk ky ty my py ly =>
      rcases hsh with ⟨e1, hkc, hyl⟩ | ⟨e1, e2, hkc, hyl⟩ | ⟨hkc, hyl⟩
      all_goals dsimp only [T.kind_mk, T.list_mk] at hkc hyl
      all_goals subst hkc hyl
      · cases hemp : emptyB ty
        · skip
          obtain ⟨b2, o2, A9, c9, rfl, hc9, hr9⟩ := hr.at0 (x := e1) rfl
          obtain ⟨A8, c8, hcz, hrz⟩ := hr.at1
          have hcy := hc.below HB.out
          obtain ⟨h0, h1, h2, h3, h4⟩ := hcy
          have h4 : wr.cell? ⟨b, o + j * 5 + 4, none⟩ = some (.slice (some ⟨b2, o2, none⟩) 2 c') := h4
          have h0 : wr.cell? ⟨b, o + j * 5, none⟩ = some (.int .i64 43) := h0
          have h1 : wr.cell? ⟨b, o + j * 5 + 1, none⟩ = some (.string ty) := h1
          have h2 : wr.cell? ⟨b, o + j * 5 + 2, none⟩ = some (.int .u64 my) := h2
          have h3 : wr.cell? ⟨b, o + j * 5 + 3, none⟩ = some (.int .i64 py) := h3
          have hWr : Below w.heap.size w (wr.alloc (.cells #[.int .i64 43, .string ty, .int .u64 my, .int .i64 py, .slice (some ⟨b2, o2, none⟩) 2 c'] 25)) := HB.out.alloc HB.out.size _
          have hzm : z ∈ [e1, z] := by simp
          obtain ⟨hzs, hzg, hzl⟩ := case_lines hgy hzm hz20 hfy (by omega : n + 1 + d ≤ 200)
          obtain ⟨hcs2, hbs⟩ := branch_le hgy hky hfy (by omega : n + 1 + d ≤ 200)
          have hfz := hfy.kid hzm
          have hpw := (HP.out.keep hWr).at_.cell
          have CT := Lib.hid (fun W => tabsP_any n hn2 W)
          have CL := Lib.hid (fun W (hb : Below (wr.alloc (.cells #[.int .i64 43, .string ty, .int .u64 my, .int .i64 py, .slice (some ⟨b2, o2, none⟩) 2 c'] 25)).heap.size (wr.alloc (.cells #[.int .i64 43, .string ty, .int .u64 my, .int .i64 py, .slice (some ⟨b2, o2, none⟩) 2 c'] 25)) W) => linesP_any hS z.list n A8 c8 pb W (by omega) hfz.len hzs hzg (fun u hu => hfz.kid hu) hfz.bulks ((hrz.keep hWr).keep hb) ((HP.out.keep hWr).keep hb))
          have CZ := Lib.hid (fun W (hb : Below (wr.alloc (.cells #[.int .i64 43, .string ty, .int .u64 my, .int .i64 py, .slice (some ⟨b2, o2, none⟩) 2 c'] 25)).heap.size (wr.alloc (.cells #[.int .i64 43, .string ty, .int .u64 my, .int .i64 py, .slice (some ⟨b2, o2, none⟩) 2 c'] 25)) W) => (hcz.below hWr).below hb)
          have CP := Lib.hid (fun W (hb : Below (wr.alloc (.cells #[.int .i64 43, .string ty, .int .u64 my, .int .i64 py, .slice (some ⟨b2, o2, none⟩) 2 c'] 25)).heap.size (wr.alloc (.cells #[.int .i64 43, .string ty, .int .u64 my, .int .i64 py, .slice (some ⟨b2, o2, none⟩) 2 c'] 25)) W) => ((HP.out.keep hWr).keep hb))
          have hty := hfy.text
          rw [T.text_mk] at hty
          have hge := goodB_in hgy (y := e1) (by simp)
          have hfe := hfy.kid (y := e1) (by simp)
          have hse := expr_le (n := n) hge hfe hn1
          have hsw := wrap_le (b := twoB e1) hse
          have CB := Lib.hid (fun W => binaryP_any e1 A9 c9 W)
          have CE := Lib.hid (fun W (hb : Below (wr.alloc (.cells #[.int .i64 43, .string ty, .int .u64 my, .int .i64 py, .slice (some ⟨b2, o2, none⟩) 2 c'] 25)).heap.size (wr.alloc (.cells #[.int .i64 43, .string ty, .int .u64 my, .int .i64 py, .slice (some ⟨b2, o2, none⟩) 2 c'] 25)) W) => wrapP_any hE e1 n (twoB e1) A9 c9 pb W hn1 hge hfe ((hr9.keep hWr).keep hb) ((HP.out.keep hWr).keep hb))
          have ZE := Lib.hid (fun W (hb : Below (wr.alloc (.cells #[.int .i64 43, .string ty, .int .u64 my, .int .i64 py, .slice (some ⟨b2, o2, none⟩) 2 c'] 25)).heap.size (wr.alloc (.cells #[.int .i64 43, .string ty, .int .u64 my, .int .i64 py, .slice (some ⟨b2, o2, none⟩) 2 c'] 25)) W) => (hc9.below hWr).below hb)
          have hem : ty.toList.isEmpty = false := by rw [← hemp]; unfold emptyB; cases ty.toList <;> rfl
          have he : caseF n (exprT d n) (stmtT d (n + 1)) (T.mk 43 ty my py [e1, z]) = tabsT n ++ (cond (emptyB ty) ⟨#[99, 97, 115, 101, 32]⟩ (⟨#[99, 97, 115, 101, 32]⟩ ++ ty ++ ⟨#[32, 58, 61, 32]⟩) ++ ⟨#[60, 45]⟩ ++ wrapT (twoB e1) (exprT d n e1)) ++ ⟨#[58, 10]⟩ ++ linesF (n + 1) (stmtT d (n + 1)) z.list := rfl
          rw [hemp] at he
          have HY := Lib.hid (hat j _ hy)
          rw [he] at HY
          generalize linesF (n + 1) (stmtT d (n + 1)) z.list = ls at *
          have HWR := Lib.hid hWr
          have hns := HNS.out
          clear hc hr hc9 hr9 hcz hrz hzs hzg hfz hgy hfy hky hy he hcs2 hzm hz20 hWr
          clear hE hS hat
          clear hge hfe hemp
          go_wp2_with fail
          refine (CT.out _).mono ?_
          rintro e w1 ⟨rfl, hb⟩
          have HB1 := Lib.hid hb
          obtain ⟨g0, g1, g2, g3, g4⟩ := box_raw (box_after hb)
          clear hb
          obtain ⟨u0, u1, u2, u3, u4⟩ := Ext.cells (ZE.out _ HB1.out)
          have k4 := Ext.cell g4
          have D1 := Lib.hid (fun k : Ext w1 => k.call (CB.out k.v))
          have D2 := Lib.hid (fun k : Ext w1 => k.call (CE.out k.v (below_then HB1.out HB1.out.size k.b)))
          have hne := Ext.ne w1
          have q0 : ¬ 9223372036854775807 < 2 + (wrapT (twoB e1) (exprT d n e1)).size := by omega
          have q1 : ¬ 9223372036854775807 < 9 + s.size + n + 5 + (ty.size + 4) + (2 + (wrapT (twoB e1) (exprT d n e1)).size) := by omega
          go_wp2_with fail
          refine wp_region_ext (by kernel_rfl) (by kernel_rfl) ?_
          repeat (quiet_step (first | exact D1.out _ | exact D2.out _))
          refine wpQuiet_nil ?_
          rintro _ ⟨k, rfl⟩
          have k4 := k4 k
          clear q0 q1 u0 u1 u2 u3 u4
          have hbk := below_then HB1.out HB1.out.size k.b
          obtain ⟨-, -, -, -, v4⟩ := CZ.out _ hbk
          have HBK := Lib.hid hbk
          clear hbk
          go_wp2_with fail
          refine (CL.out _ HBK.out).mono ?_
          rintro e w2 ⟨rfl, hb⟩
          have HB2 := Lib.hid (below_then HWR.out HWR.out.size (below_then HBK.out HBK.out.size hb))
          clear hb
          go_wp2_with fail
          go_roundw
          case rel => exact ⟨j + 1, by omega, by go_num, by rw [catT_take HY.out, HSJ.out]; simp only [ba_assoc, cond_false], HB2.out⟩
          case measure => simp [intOf]; omega
        · skip
          obtain ⟨b2, o2, A9, c9, rfl, hc9, hr9⟩ := hr.at0 (x := e1) rfl
          obtain ⟨A8, c8, hcz, hrz⟩ := hr.at1
          have hcy := hc.below HB.out
          obtain ⟨h0, h1, h2, h3, h4⟩ := hcy
          have h4 : wr.cell? ⟨b, o + j * 5 + 4, none⟩ = some (.slice (some ⟨b2, o2, none⟩) 2 c') := h4
          have h0 : wr.cell? ⟨b, o + j * 5, none⟩ = some (.int .i64 43) := h0
          have h1 : wr.cell? ⟨b, o + j * 5 + 1, none⟩ = some (.string ty) := h1
          have h2 : wr.cell? ⟨b, o + j * 5 + 2, none⟩ = some (.int .u64 my) := h2
          have h3 : wr.cell? ⟨b, o + j * 5 + 3, none⟩ = some (.int .i64 py) := h3
          have hWr : Below w.heap.size w (wr.alloc (.cells #[.int .i64 43, .string ty, .int .u64 my, .int .i64 py, .slice (some ⟨b2, o2, none⟩) 2 c'] 25)) := HB.out.alloc HB.out.size _
          have hzm : z ∈ [e1, z] := by simp
          obtain ⟨hzs, hzg, hzl⟩ := case_lines hgy hzm hz20 hfy (by omega : n + 1 + d ≤ 200)
          obtain ⟨hcs2, hbs⟩ := branch_le hgy hky hfy (by omega : n + 1 + d ≤ 200)
          have hfz := hfy.kid hzm
          have hpw := (HP.out.keep hWr).at_.cell
          have CT := Lib.hid (fun W => tabsP_any n hn2 W)
          have CL := Lib.hid (fun W (hb : Below (wr.alloc (.cells #[.int .i64 43, .string ty, .int .u64 my, .int .i64 py, .slice (some ⟨b2, o2, none⟩) 2 c'] 25)).heap.size (wr.alloc (.cells #[.int .i64 43, .string ty, .int .u64 my, .int .i64 py, .slice (some ⟨b2, o2, none⟩) 2 c'] 25)) W) => linesP_any hS z.list n A8 c8 pb W (by omega) hfz.len hzs hzg (fun u hu => hfz.kid hu) hfz.bulks ((hrz.keep hWr).keep hb) ((HP.out.keep hWr).keep hb))
          have CZ := Lib.hid (fun W (hb : Below (wr.alloc (.cells #[.int .i64 43, .string ty, .int .u64 my, .int .i64 py, .slice (some ⟨b2, o2, none⟩) 2 c'] 25)).heap.size (wr.alloc (.cells #[.int .i64 43, .string ty, .int .u64 my, .int .i64 py, .slice (some ⟨b2, o2, none⟩) 2 c'] 25)) W) => (hcz.below hWr).below hb)
          have CP := Lib.hid (fun W (hb : Below (wr.alloc (.cells #[.int .i64 43, .string ty, .int .u64 my, .int .i64 py, .slice (some ⟨b2, o2, none⟩) 2 c'] 25)).heap.size (wr.alloc (.cells #[.int .i64 43, .string ty, .int .u64 my, .int .i64 py, .slice (some ⟨b2, o2, none⟩) 2 c'] 25)) W) => ((HP.out.keep hWr).keep hb))
          have hty := hfy.text
          rw [T.text_mk] at hty
          have hge := goodB_in hgy (y := e1) (by simp)
          have hfe := hfy.kid (y := e1) (by simp)
          have hse := expr_le (n := n) hge hfe hn1
          have hsw := wrap_le (b := twoB e1) hse
          have CB := Lib.hid (fun W => binaryP_any e1 A9 c9 W)
          have CE := Lib.hid (fun W (hb : Below (wr.alloc (.cells #[.int .i64 43, .string ty, .int .u64 my, .int .i64 py, .slice (some ⟨b2, o2, none⟩) 2 c'] 25)).heap.size (wr.alloc (.cells #[.int .i64 43, .string ty, .int .u64 my, .int .i64 py, .slice (some ⟨b2, o2, none⟩) 2 c'] 25)) W) => wrapP_any hE e1 n (twoB e1) A9 c9 pb W hn1 hge hfe ((hr9.keep hWr).keep hb) ((HP.out.keep hWr).keep hb))
          have ZE := Lib.hid (fun W (hb : Below (wr.alloc (.cells #[.int .i64 43, .string ty, .int .u64 my, .int .i64 py, .slice (some ⟨b2, o2, none⟩) 2 c'] 25)).heap.size (wr.alloc (.cells #[.int .i64 43, .string ty, .int .u64 my, .int .i64 py, .slice (some ⟨b2, o2, none⟩) 2 c'] 25)) W) => (hc9.below hWr).below hb)
          have hem : ty.toList.isEmpty = true := by rw [← hemp]; unfold emptyB; cases ty.toList <;> rfl
          have he : caseF n (exprT d n) (stmtT d (n + 1)) (T.mk 43 ty my py [e1, z]) = tabsT n ++ (cond (emptyB ty) ⟨#[99, 97, 115, 101, 32]⟩ (⟨#[99, 97, 115, 101, 32]⟩ ++ ty ++ ⟨#[32, 58, 61, 32]⟩) ++ ⟨#[60, 45]⟩ ++ wrapT (twoB e1) (exprT d n e1)) ++ ⟨#[58, 10]⟩ ++ linesF (n + 1) (stmtT d (n + 1)) z.list := rfl
          rw [hemp] at he
          have HY := Lib.hid (hat j _ hy)
          rw [he] at HY
          generalize linesF (n + 1) (stmtT d (n + 1)) z.list = ls at *
          have HWR := Lib.hid hWr
          have hns := HNS.out
          clear hc hr hc9 hr9 hcz hrz hzs hzg hfz hgy hfy hky hy he hcs2 hzm hz20 hWr
          clear hE hS hat
          clear hge hfe hemp
          go_wp2_with fail
          refine (CT.out _).mono ?_
          rintro e w1 ⟨rfl, hb⟩
          have HB1 := Lib.hid hb
          obtain ⟨g0, g1, g2, g3, g4⟩ := box_raw (box_after hb)
          clear hb
          obtain ⟨u0, u1, u2, u3, u4⟩ := Ext.cells (ZE.out _ HB1.out)
          have k4 := Ext.cell g4
          have D1 := Lib.hid (fun k : Ext w1 => k.call (CB.out k.v))
          have D2 := Lib.hid (fun k : Ext w1 => k.call (CE.out k.v (below_then HB1.out HB1.out.size k.b)))
          have hne := Ext.ne w1
          have q0 : ¬ 9223372036854775807 < 2 + (wrapT (twoB e1) (exprT d n e1)).size := by omega
          have q1 : ¬ 9223372036854775807 < 9 + s.size + n + 5 + (2 + (wrapT (twoB e1) (exprT d n e1)).size) := by omega
          go_wp2_with fail
          refine wp_region_ext (by kernel_rfl) (by kernel_rfl) ?_
          repeat (quiet_step (first | exact D1.out _ | exact D2.out _))
          refine wpQuiet_nil ?_
          rintro _ ⟨k, rfl⟩
          have k4 := k4 k
          clear q0 q1 u0 u1 u2 u3 u4
          have hbk := below_then HB1.out HB1.out.size k.b
          obtain ⟨-, -, -, -, v4⟩ := CZ.out _ hbk
          have HBK := Lib.hid hbk
          clear hbk
          go_wp2_with fail
          refine (CL.out _ HBK.out).mono ?_
          rintro e w2 ⟨rfl, hb⟩
          have HB2 := Lib.hid (below_then HWR.out HWR.out.size (below_then HBK.out HBK.out.size hb))
          clear hb
          go_wp2_with fail
          go_roundw
          case rel => exact ⟨j + 1, by omega, by go_num, by rw [catT_take HY.out, HSJ.out]; simp only [ba_assoc, cond_true], HB2.out⟩
          case measure => simp [intOf]; omega
      · skip
        obtain ⟨b2, o2, A9, c9, rfl, hc9, hr9⟩ := hr.at0 (x := e1) rfl
        obtain ⟨A8, c8, hcz, hrz⟩ := hr.at2
        obtain ⟨A7, c7, hc7, hr7⟩ := hr.at1
        have hcy := hc.below HB.out
        obtain ⟨h0, h1, h2, h3, h4⟩ := hcy
        have h4 : wr.cell? ⟨b, o + j * 5 + 4, none⟩ = some (.slice (some ⟨b2, o2, none⟩) 3 c') := h4
        have h0 : wr.cell? ⟨b, o + j * 5, none⟩ = some (.int .i64 44) := h0
        have h1 : wr.cell? ⟨b, o + j * 5 + 1, none⟩ = some (.string ty) := h1
        have h2 : wr.cell? ⟨b, o + j * 5 + 2, none⟩ = some (.int .u64 my) := h2
        have h3 : wr.cell? ⟨b, o + j * 5 + 3, none⟩ = some (.int .i64 py) := h3
        have hWr : Below w.heap.size w (wr.alloc (.cells #[.int .i64 44, .string ty, .int .u64 my, .int .i64 py, .slice (some ⟨b2, o2, none⟩) 3 c'] 25)) := HB.out.alloc HB.out.size _
        have hzm : z ∈ [e1, e2, z] := by simp
        obtain ⟨hzs, hzg, hzl⟩ := case_lines hgy hzm hz20 hfy (by omega : n + 1 + d ≤ 200)
        obtain ⟨hcs2, hbs⟩ := branch_le hgy hky hfy (by omega : n + 1 + d ≤ 200)
        have hfz := hfy.kid hzm
        have hpw := (HP.out.keep hWr).at_.cell
        have CT := Lib.hid (fun W => tabsP_any n hn2 W)
        have CL := Lib.hid (fun W (hb : Below (wr.alloc (.cells #[.int .i64 44, .string ty, .int .u64 my, .int .i64 py, .slice (some ⟨b2, o2, none⟩) 3 c'] 25)).heap.size (wr.alloc (.cells #[.int .i64 44, .string ty, .int .u64 my, .int .i64 py, .slice (some ⟨b2, o2, none⟩) 3 c'] 25)) W) => linesP_any hS z.list n A8 c8 pb W (by omega) hfz.len hzs hzg (fun u hu => hfz.kid hu) hfz.bulks ((hrz.keep hWr).keep hb) ((HP.out.keep hWr).keep hb))
        have CZ := Lib.hid (fun W (hb : Below (wr.alloc (.cells #[.int .i64 44, .string ty, .int .u64 my, .int .i64 py, .slice (some ⟨b2, o2, none⟩) 3 c'] 25)).heap.size (wr.alloc (.cells #[.int .i64 44, .string ty, .int .u64 my, .int .i64 py, .slice (some ⟨b2, o2, none⟩) 3 c'] 25)) W) => (hcz.below hWr).below hb)
        have CP := Lib.hid (fun W (hb : Below (wr.alloc (.cells #[.int .i64 44, .string ty, .int .u64 my, .int .i64 py, .slice (some ⟨b2, o2, none⟩) 3 c'] 25)).heap.size (wr.alloc (.cells #[.int .i64 44, .string ty, .int .u64 my, .int .i64 py, .slice (some ⟨b2, o2, none⟩) 3 c'] 25)) W) => ((HP.out.keep hWr).keep hb))
        have hge := goodB_in hgy (y := e1) (by simp)
        have hfe := hfy.kid (y := e1) (by simp)
        have hse := expr_le (n := n) hge hfe hn1
        have hgf := goodB_in hgy (y := e2) (by simp)
        have hff := hfy.kid (y := e2) (by simp)
        have hsf := expr_le (n := n) hgf hff hn1
        have CE := Lib.hid (fun W (hb : Below (wr.alloc (.cells #[.int .i64 44, .string ty, .int .u64 my, .int .i64 py, .slice (some ⟨b2, o2, none⟩) 3 c'] 25)).heap.size (wr.alloc (.cells #[.int .i64 44, .string ty, .int .u64 my, .int .i64 py, .slice (some ⟨b2, o2, none⟩) 3 c'] 25)) W) => hE e1 n A9 c9 pb W hn1 hge hfe ((hr9.keep hWr).keep hb) ((HP.out.keep hWr).keep hb))
        have CF := Lib.hid (fun W (hb : Below (wr.alloc (.cells #[.int .i64 44, .string ty, .int .u64 my, .int .i64 py, .slice (some ⟨b2, o2, none⟩) 3 c'] 25)).heap.size (wr.alloc (.cells #[.int .i64 44, .string ty, .int .u64 my, .int .i64 py, .slice (some ⟨b2, o2, none⟩) 3 c'] 25)) W) => hE e2 n A7 c7 pb W hn1 hgf hff ((hr7.keep hWr).keep hb) ((HP.out.keep hWr).keep hb))
        have ZE := Lib.hid (fun W (hb : Below (wr.alloc (.cells #[.int .i64 44, .string ty, .int .u64 my, .int .i64 py, .slice (some ⟨b2, o2, none⟩) 3 c'] 25)).heap.size (wr.alloc (.cells #[.int .i64 44, .string ty, .int .u64 my, .int .i64 py, .slice (some ⟨b2, o2, none⟩) 3 c'] 25)) W) => (hc9.below hWr).below hb)
        have ZF := Lib.hid (fun W (hb : Below (wr.alloc (.cells #[.int .i64 44, .string ty, .int .u64 my, .int .i64 py, .slice (some ⟨b2, o2, none⟩) 3 c'] 25)).heap.size (wr.alloc (.cells #[.int .i64 44, .string ty, .int .u64 my, .int .i64 py, .slice (some ⟨b2, o2, none⟩) 3 c'] 25)) W) => (hc7.below hWr).below hb)
        have he : caseF n (exprT d n) (stmtT d (n + 1)) (T.mk 44 ty my py [e1, e2, z]) = tabsT n ++ (⟨#[99, 97, 115, 101, 32]⟩ ++ exprT d n e1 ++ ⟨#[32, 60, 45, 32]⟩ ++ exprT d n e2) ++ ⟨#[58, 10]⟩ ++ linesF (n + 1) (stmtT d (n + 1)) z.list := rfl
        have HY := Lib.hid (hat j _ hy)
        rw [he] at HY
        generalize linesF (n + 1) (stmtT d (n + 1)) z.list = ls at *
        have HWR := Lib.hid hWr
        have hns := HNS.out
        clear hc hr hc9 hr9 hcz hrz hzs hzg hfz hgy hfy hky hy he hcs2 hzm hz20 hWr
        clear hE hS hat
        clear hge hfe hgf hff hc7 hr7
        go_wp2_with fail
        refine (CT.out _).mono ?_
        rintro e w1 ⟨rfl, hb⟩
        have HB1 := Lib.hid hb
        obtain ⟨g0, g1, g2, g3, g4⟩ := box_raw (box_after hb)
        clear hb
        obtain ⟨u0, u1, u2, u3, u4⟩ := Ext.cells (ZE.out _ HB1.out)
        obtain ⟨x0, x1, x2, x3, x4⟩ := Ext.cells (ZF.out _ HB1.out)
        have k4 := Ext.cell g4
        have D1 := Lib.hid (fun k : Ext w1 => k.call (CE.out k.v (below_then HB1.out HB1.out.size k.b)))
        have D2 := Lib.hid (fun k : Ext w1 => k.call (CF.out k.v (below_then HB1.out HB1.out.size k.b)))
        have hne := Ext.ne w1
        have q0 : ¬ 9223372036854775807 < 5 + (exprT d n e1).size := by omega
        have q1 : ¬ 9223372036854775807 < 5 + (exprT d n e1).size + 4 := by omega
        have q2 : ¬ 9223372036854775807 < 5 + (exprT d n e1).size + 4 + (exprT d n e2).size := by omega
        have q3 : ¬ 9223372036854775807 < 9 + s.size + n + (5 + (exprT d n e1).size + 4 + (exprT d n e2).size) := by omega
        go_wp2_with fail
        refine wp_region_ext (by kernel_rfl) (by kernel_rfl) ?_
        iterate 8 (quiet_step (exact D1.out _))
        repeat (quiet_step (exact D2.out _))
        refine wpQuiet_nil ?_
        rintro _ ⟨k, rfl⟩
        have k4 := k4 k
        clear q0 q1 q2 q3 u0 u1 u2 u3 u4 x0 x1 x2 x3 x4
        have hbk := below_then HB1.out HB1.out.size k.b
        obtain ⟨-, -, -, -, v4⟩ := CZ.out _ hbk
        have HBK := Lib.hid hbk
        clear hbk
        go_wp2_with fail
        refine (CL.out _ HBK.out).mono ?_
        rintro e w2 ⟨rfl, hb⟩
        have HB2 := Lib.hid (below_then HWR.out HWR.out.size (below_then HBK.out HBK.out.size hb))
        clear hb
        go_wp2_with fail
        go_roundw
        case rel => exact ⟨j + 1, by omega, by go_num, by rw [catT_take HY.out, HSJ.out]; simp only [ba_assoc], HB2.out⟩
        case measure => simp [intOf]; omega
      · skip
        obtain ⟨b2, o2, A9, c9, rfl, hc9, hr9⟩ := hr.at0 (x := z) rfl
        have hcz := hc9
        have hrz := hr9
        have hcy := hc.below HB.out
        obtain ⟨h0, h1, h2, h3, h4⟩ := hcy
        have h4 : wr.cell? ⟨b, o + j * 5 + 4, none⟩ = some (.slice (some ⟨b2, o2, none⟩) 1 c') := h4
        have h0 : wr.cell? ⟨b, o + j * 5, none⟩ = some (.int .i64 45) := h0
        have h1 : wr.cell? ⟨b, o + j * 5 + 1, none⟩ = some (.string ty) := h1
        have h2 : wr.cell? ⟨b, o + j * 5 + 2, none⟩ = some (.int .u64 my) := h2
        have h3 : wr.cell? ⟨b, o + j * 5 + 3, none⟩ = some (.int .i64 py) := h3
        have hWr : Below w.heap.size w (wr.alloc (.cells #[.int .i64 45, .string ty, .int .u64 my, .int .i64 py, .slice (some ⟨b2, o2, none⟩) 1 c'] 25)) := HB.out.alloc HB.out.size _
        have hzm : z ∈ [z] := by simp
        obtain ⟨hzs, hzg, hzl⟩ := case_lines hgy hzm hz20 hfy (by omega : n + 1 + d ≤ 200)
        obtain ⟨hcs2, hbs⟩ := branch_le hgy hky hfy (by omega : n + 1 + d ≤ 200)
        have hfz := hfy.kid hzm
        have hpw := (HP.out.keep hWr).at_.cell
        have CT := Lib.hid (fun W => tabsP_any n hn2 W)
        have CL := Lib.hid (fun W (hb : Below (wr.alloc (.cells #[.int .i64 45, .string ty, .int .u64 my, .int .i64 py, .slice (some ⟨b2, o2, none⟩) 1 c'] 25)).heap.size (wr.alloc (.cells #[.int .i64 45, .string ty, .int .u64 my, .int .i64 py, .slice (some ⟨b2, o2, none⟩) 1 c'] 25)) W) => linesP_any hS z.list n A9 c9 pb W (by omega) hfz.len hzs hzg (fun u hu => hfz.kid hu) hfz.bulks ((hrz.keep hWr).keep hb) ((HP.out.keep hWr).keep hb))
        have CZ := Lib.hid (fun W (hb : Below (wr.alloc (.cells #[.int .i64 45, .string ty, .int .u64 my, .int .i64 py, .slice (some ⟨b2, o2, none⟩) 1 c'] 25)).heap.size (wr.alloc (.cells #[.int .i64 45, .string ty, .int .u64 my, .int .i64 py, .slice (some ⟨b2, o2, none⟩) 1 c'] 25)) W) => (hcz.below hWr).below hb)
        have CP := Lib.hid (fun W (hb : Below (wr.alloc (.cells #[.int .i64 45, .string ty, .int .u64 my, .int .i64 py, .slice (some ⟨b2, o2, none⟩) 1 c'] 25)).heap.size (wr.alloc (.cells #[.int .i64 45, .string ty, .int .u64 my, .int .i64 py, .slice (some ⟨b2, o2, none⟩) 1 c'] 25)) W) => ((HP.out.keep hWr).keep hb))
        have he : caseF n (exprT d n) (stmtT d (n + 1)) (T.mk 45 ty my py [z]) = tabsT n ++ ⟨#[100, 101, 102, 97, 117, 108, 116]⟩ ++ ⟨#[58, 10]⟩ ++ linesF (n + 1) (stmtT d (n + 1)) z.list := rfl
        have HY := Lib.hid (hat j _ hy)
        rw [he] at HY
        generalize linesF (n + 1) (stmtT d (n + 1)) z.list = ls at *
        have HWR := Lib.hid hWr
        have hns := HNS.out
        clear hc hr hc9 hr9 hcz hrz hzs hzg hfz hgy hfy hky hy he hcs2 hzm hz20 hWr
        clear hE hS hat
        go_wp2_with fail
        refine (CT.out _).mono ?_
        rintro e w1 ⟨rfl, hb⟩
        have HB1 := Lib.hid hb
        obtain ⟨g0, g1, g2, g3, g4⟩ := box_raw (box_after hb)
        obtain ⟨-, -, -, -, v4⟩ := CZ.out _ hb
        clear hb
        go_wp2_with fail
        refine (CL.out _ HB1.out).mono ?_
        rintro e w2 ⟨rfl, hb⟩
        have HB2 := Lib.hid (below_then HWR.out HWR.out.size (below_then HB1.out HB1.out.size hb))
        clear hb
        go_wp2_with fail
        go_roundw
        case rel => exact ⟨j + 1, by omega, by go_num, by rw [catT_take HY.out, HSJ.out]; simp only [ba_assoc], HB2.out⟩
        case measure => simp [intOf]; omega
    · have hjt : ts.take j = ts := List.take_of_length_le (by have := HTL.out; omega)
      have hpw := (HP.out.keep HB.out).at_.cell
      have hcs2 := HSZ.out ts.length
      rw [List.take_length] at hcs2
      rw [hjt] at hcs
      rw [hjt]
      clear hjt
      go_wp2_with fail
      refine (C0.out _).mono ?_
      rintro e w1 ⟨rfl, hb⟩
      have HB1 := Lib.hid (below_then HW0.out HW0.out.size (below_then HB.out HB.out.size hb))
      clear hb
      have hns := HNS.out
      go_wp2_with fail
      go_ret
      exact ⟨by rw [HX.out]; rfl, HB1.out⟩

set_option maxRecDepth 100000 in
set_option maxHeartbeats 4000000 in
theorem stmtP_42 {d : Nat} (hE : ExprP d) (hS : StmtP d) (t : ByteArray) (m p : Int) (l : List T) (n : Nat) (A : Option Addr) (c pb : Nat) (w : World) (hn : n + (d + 1) ≤ 200) (hg : goodB (d + 1) (T.mk 42 t m p l) = true) (hF : Fine (T.mk 42 t m p l)) (hR : Rd w l A c) (hP : Pr w pb n) :
    Calls Tryz.prog 91 #[.pointer (some ⟨pb, 0, none⟩), nv (T.mk 42 t m p l) A c] w fun e w' => e = .returned (.string (stmtT (d + 1) n (T.mk 42 t m p l))) ∧ Below w.heap.size w w' := by
  have C1 := Lib.hid (selP_any hE hS t m p l n A c pb (w.alloc (nbox (T.mk 42 t m p l) A c)) hn hg hF (hR.keep one_below) (hP.keep one_below))
  clear hE hS hg hF hR hP
  go_enter Tryz.func91, Tryz.ntmps91
  go_wp2_with fail
  refine C1.out.mono ?_
  rintro e w1 ⟨rfl, hb⟩
  have HB := Lib.hid (box_below (box_after hb))
  clear hb
  go_wp2_with fail
  go_ret
  exact ⟨rfl, HB.out⟩

theorem stmtP_succ {d : Nat} (hE : ExprP d) (hB : BlockP d) (hS : StmtP d) : StmtP (d + 1) := by
  intro x n A c pb w hn hx hg hF hR hP
  have hch := goodB_kids hg
  cases x with
  | mk k t m p l =>
    rw [childrenB_mk] at hch
    dsimp only [T.kind_mk] at hx
    by_cases k20 : k = 20
    · subst k20; exact stmtP_20 hS t m p l n A c pb w hn hg hF hR hP
    by_cases k21 : k = 21
    · subst k21
      simp only [Int.reduceEq, if_false, if_true, or_false] at hch
      obtain ⟨y, rfl, -⟩ := kids_one hch
      exact stmtP_21 hE t m p y n A c pb w hn hg hF hR hP
    by_cases k22 : k = 22
    · subst k22
      simp only [Int.reduceEq, if_false, if_true, or_false, or_true] at hch
      obtain ⟨y, rfl, -⟩ := kids_one hch
      exact stmtP_22 t m p y n A c pb w hn hg hF hR hP
    by_cases k23 : k = 23
    · subst k23
      simp only [Int.reduceEq, if_false, if_true, or_false, Bool.and_eq_true] at hch
      obtain ⟨y, z, rfl, -, -⟩ := kids_two hch.1
      exact stmtP_23 hE t m p y z n A c pb w hn hg hF hR hP
    by_cases k24 : k = 24
    · subst k24
      simp only [Int.reduceEq, if_false, if_true, or_false, Bool.or_eq_true] at hch
      obtain ⟨y, rfl⟩ : ∃ y, l = [y] := by
        rcases hch with h | h
        · obtain ⟨y, rfl, -⟩ := kids_one h; exact ⟨y, rfl⟩
        · obtain ⟨y, rfl, -⟩ := kids_one h; exact ⟨y, rfl⟩
      exact stmtP_24 hE t m p y n A c pb w hn hg hF hR hP
    by_cases k25 : k = 25
    · subst k25
      simp only [Int.reduceEq, if_false, if_true, or_false, Bool.or_eq_true] at hch
      rcases hch with h | h | h
      · obtain ⟨y, z, rfl, -, h2⟩ := kids_two h
        exact stmtP_25 hE hB t m p y z (by simpa [okKind] using h2) n A c pb w hn hg hF hR hP
      · obtain ⟨y, z, q, rfl, -, h2, h3⟩ := kids_three h
        have h3 : q.kind = 20 := by simpa [okKind] using h3
        exact stmtP_25e hE hB hS t m p y z q (by simpa [okKind] using h2) (by simp [isStmtB, h3]) n A c pb w hn hg hF hR hP
      · obtain ⟨y, z, q, rfl, -, h2, h3⟩ := kids_three h
        have h3 : q.kind = 25 := by simpa [okKind] using h3
        exact stmtP_25e hE hB hS t m p y z q (by simpa [okKind] using h2) (by simp [isStmtB, h3]) n A c pb w hn hg hF hR hP
    by_cases k26 : k = 26
    · subst k26
      simp only [Int.reduceEq, if_false, if_true, or_false] at hch
      obtain ⟨y, z, rfl, -, h2⟩ := kids_two hch
      exact stmtP_26 hE hB t m p y z (by simpa [okKind] using h2) n A c pb w hn hg hF hR hP
    by_cases k27 : k = 27
    · subst k27
      have hnum : 0 ≤ m := hF.num
      have hlab := goodB_label hg
      simp only [labelB, numB_mk, Bool.and_eq_true] at hlab
      have h1 : m ≤ 1 := by simpa using hlab.2
      have hm : m = 0 ∨ m = 1 := by omega
      rcases hm with rfl | rfl
      · exact stmtP_27_0 t p l n A c pb w
      · exact stmtP_27_1 t p l n A c pb w
    by_cases k28 : k = 28
    · subst k28
      simp only [Int.reduceEq, if_false, if_true, or_false, Bool.or_eq_true, beq_iff_eq] at hch
      rcases hch with h | h
      · have : l = [] := by simpa using h
        subst this
        exact stmtP_28a t m p n A c pb w hn hg hF hR hP
      · obtain ⟨y, rfl, -⟩ := kids_one h
        exact stmtP_28 hE t m p y n A c pb w hn hg hF hR hP
    by_cases k29 : k = 29
    · subst k29
      simp only [Int.reduceEq, if_false, if_true, or_false] at hch
      obtain ⟨y, rfl, -⟩ := kids_one hch
      have hnum : 0 ≤ m := hF.num
      have hlab := goodB_label hg
      simp only [labelB, numB_mk, Bool.and_eq_true] at hlab
      have h1 : m ≤ 1 := by simpa using hlab.2
      have hm : m = 0 ∨ m = 1 := by omega
      rcases hm with rfl | rfl
      · exact stmtP_29_0 hE t p y n A c pb w hn hg hF hR hP
      · exact stmtP_29_1 hE t p y n A c pb w hn hg hF hR hP
    by_cases k41 : k = 41
    · subst k41
      simp only [Int.reduceEq, if_false, if_true, or_false] at hch
      obtain ⟨y, z, rfl, -, -⟩ := kids_two hch
      exact stmtP_41 hE t m p y z n A c pb w hn hg hF hR hP
    by_cases k42 : k = 42
    · subst k42; exact stmtP_42 hE hS t m p l n A c pb w hn hg hF hR hP
    exfalso
    simp [isStmtB] at hx
    omega

/-- The program's printer, at every depth. -/
theorem printP (d : Nat) : ExprP d ∧ BlockP d ∧ StmtP d := by
  induction d with
  | zero => exact ⟨fun x n A c pb w _ h => by simp [goodB] at h, fun x n A c pb w _ _ h => by simp [goodB] at h, fun x n A c pb w _ _ h => by simp [goodB] at h⟩
  | succ d ih => exact ⟨exprP_succ ih.1 ih.2.1, blockP_succ ih.2.2, stmtP_succ ih.1 ih.2.1 ih.2.2⟩
end Go.Proofs.YtoemljgkofhhpaaGreatDoor
