import Derived.Test.YtoemljgkofhhpaaGreatDoorRefTyp
namespace Go.Proofs.YtoemljgkofhhpaaGreatDoor
open Go.RowKit

theorem two_raw {w wr : World} {o1 : Obj} {v0 v1 v2 v3 v4 : Value} (h : Below (w.heap.size + 2) ((w.alloc o1).alloc (.cells #[v0, v1, v2, v3, v4] 25)) wr) :
    wr.cell? ⟨w.heap.size + 1, 0, none⟩ = some v0 ∧ wr.cell? ⟨w.heap.size + 1, 1, none⟩ = some v1 ∧ wr.cell? ⟨w.heap.size + 1, 2, none⟩ = some v2 ∧ wr.cell? ⟨w.heap.size + 1, 3, none⟩ = some v3 ∧ wr.cell? ⟨w.heap.size + 1, 4, none⟩ = some v4 := by
  have hs : w.heap.size + 1 < w.heap.size + 2 := by omega
  have e : ∀ j, wr.cell? ⟨w.heap.size + 1, j, none⟩ = #[v0, v1, v2, v3, v4][j]? := fun j =>
    (h.cell (p := ⟨w.heap.size + 1, j, none⟩) (by exact hs)).trans (two_cell w o1 _ 25 j)
  exact ⟨e 0, e 1, e 2, e 3, e 4⟩
theorem two_first {w wr : World} {o1 o2 : Obj} (h : Below (w.heap.size + 2) ((w.alloc o1).alloc o2) wr) : Below (w.heap.size + 1) (w.alloc o1) wr :=
  ((Below.refl _ _).alloc (by rw [size_alloc]; omega) _).trans (h.mono (by omega))
theorem field_le {d : Nat} {x : T} (h : Fine x) : (fieldT (typT d) x).size ≤ 1048576000 := by have := fieldT_short d x; have := h.bulk; omega
/-- What a field is. -/
structure IsField (x : T) (z : T) : Prop where
  list : x.list = [z]
theorem field_of {d : Nat} {x : T} (hk : x.kind = 5) (h : goodB d x = true) : ∃ z, x.list = [z] := by
  have := goodB_kids h
  simp [childrenB, hk] at this
  obtain ⟨y, h, -⟩ := kids_one this
  exact ⟨y, h⟩

set_option maxRecDepth 100000 in
set_option maxHeartbeats 4000000 in
theorem headR_any (d : Nat) (p q : T) (A A2 : Option Addr) (c c2 : Nat) (w : World) (hp : p.kind = 6) (hq : q.kind = 7) (hgp : goodB d p = true) (hgq : goodB d q = true) (hFp : Fine p) (hFq : Fine q)
    (hRp : Rd w p.list A c) (hRq : Rd w q.list A2 c2) :
    Calls Tryz.prog 38 #[nv p A c, nv q A2 c2] w fun e w' => e = .returned (.string (headT (typT d) p q)) ∧ Below w.heap.size w w' := by
  have hchp := goodB_kids hgp
  have hchq := goodB_kids hgq
  rw [childrenB, hp] at hchp
  rw [childrenB, hq] at hchq
  simp [allB] at hchp hchq
  have hk5 : ∀ y ∈ p.list, y.kind = 5 := hchp.1
  have hpl : p.list.length ≤ 16 := hchp.2
  have hfl : ∀ y ∈ p.list, ∃ z, y.list = [z] := fun y hy => field_of (hk5 y hy) (goodB_in hgp hy)
  have hjn : ∀ m, (joinT ((p.list.map (fieldT (typT d))).take m)).size ≤ 1048576000 := fun m =>
    List.map_take (f := fieldT (typT d)) (l := p.list) (i := m) ▸ join_take_le m (fun y _ => by have := fieldT_short d y; omega) hFp.bulks
  have HJ := Lib.hid hjn
  have HFL := Lib.hid hfl
  have HRP := Lib.hid hRp
  have HRQ := Lib.hid hRq
  have HFP := Lib.hid hFp
  have HFQ := Lib.hid hFq
  have HGP := Lib.hid hgp
  have HGQ := Lib.hid hgq
  have HCQ := Lib.hid hchq
  clear hjn hfl hRp hRq hFp hFq hgp hgq hchp hchq hk5 hp hq
  go_enter Tryz.func38, Tryz.ntmps38
  go_wp2_with fail
  go_loopw [5, 6] (fun s i wr => ∃ j : Nat, j ≤ p.list.length ∧ i = .int .i64 j ∧ s = .string (⟨#[40]⟩ ++ joinT ((p.list.map (fieldT (typT d))).take j)) ∧ Below (w.heap.size + 2) ((w.alloc (nbox p A c)).alloc (nbox q A2 c2)) wr) (fun _ i _ => p.list.length - (intOf i).toNat)
  case atStart => exact ⟨0, Nat.zero_le _, rfl, by simp [joinT, ba_nil'], Below.refl _ _⟩
  case round =>
    obtain ⟨j, hj, rfl, rfl, hB⟩ := hrel
    obtain ⟨-, -, -, -, e4⟩ := two_raw hB
    obtain ⟨-, -, -, -, g4⟩ := box_raw (two_first hB)
    have HB := Lib.hid hB
    have hjs := HJ.out j
    clear hB
    by_cases hlt : j < p.list.length
    · obtain ⟨y, hy⟩ : ∃ y, p.list[j]? = some y := ⟨p.list[j], by simp⟩
      obtain ⟨z, hz⟩ := HFL.out y (List.mem_of_getElem? hy)
      obtain ⟨b, o, A', c', rfl, hc, hr⟩ := HRP.out.at_ hy
      rw [hz] at hr
      obtain ⟨b2, o2, A3, c3, rfl, hc2, hr2⟩ := hr.at0 (x := z) rfl
      have hc := hc.below (box_below (two_first HB.out))
      have hc2 := hc2.below (box_below (two_first HB.out))
      have hyl : y.list.length = 1 := by rw [hz]; rfl
      have hfy := HFP.out.kid (List.mem_of_getElem? hy)
      have hgy := goodB_in HGP.out (List.mem_of_getElem? hy)
      have hfz := hfy.kid (y := z) (by simp [hz])
      have hgz := goodB_in hgy (y := z) (by simp [hz])
      have hts := hfy.text
      have hzs := typ_le (d := d) hfz
      have hfe : fieldT (typT d) y = y.text ++ ⟨#[32]⟩ ++ typT d z := by unfold fieldT; rw [hz]; rfl
      have HFE := Lib.hid hfe
      have HY := Lib.hid hy
      have k4 := Ext.cell g4
      obtain ⟨-, t1, -, -, t4⟩ := Ext.cells hc
      rw [hyl] at t4
      obtain ⟨u0, u1, u2, u3, u4⟩ := Ext.cells hc2
      have hcall : ∀ k : Ext wr, Calls Tryz.prog 20 #[nv z A3 c3] k.v fun e w' => e = .returned (.string (typT d z)) ∧ ∃ k' : Ext wr, w' = k'.v := fun k =>
        k.call (typR_any d z A3 c3 k.v hgz hfz ((hr2.keep (box_below (two_first HB.out))).keep k.b))
      have HC := Lib.hid hcall
      clear hcall hr2 hc hc2 hfy hgy hfz hgz hz hy hfe hyl
      by_cases hj0 : j = 0
      · subst hj0
        have hjn : joinT [] = (⟨#[]⟩ : ByteArray) := rfl
        simp only [Nat.zero_mul, Nat.add_zero] at t1 t4
        have hne := Ext.ne wr
        have q1 : ¬ 9223372036854775807 < 1 + y.text.size := by omega
        have q2 : ¬ 9223372036854775807 < 1 + y.text.size + 1 := by omega
        have q3 : ¬ 9223372036854775807 < 1 + y.text.size + 1 + (typT d z).size := by omega
        go_wp2_with fail
        refine wp_region_ext (by kernel_rfl) (by kernel_rfl) ?_
        repeat (quiet_step (exact HC.out _))
        refine wpQuiet_nil ?_
        rintro _ ⟨k, rfl⟩
        have HB1 := Lib.hid (below_then HB.out (Nat.le_trans (by rw [size_alloc, size_alloc]; omega) HB.out.size) k.b)
        clear q1 q2 q3
        go_wp2_with fail
        go_roundw
        case rel => exact ⟨1, by omega, by go_num, by rw [← join_start HY.out, HFE.out]; simp [ba_assoc, ba_nil], HB1.out⟩
        case measure => simp [intOf]; omega
      · have hjp : 0 < j := by omega
        have hne := Ext.ne wr
        have q1 : ¬ 9223372036854775807 < 1 + (joinT ((p.list.map (fieldT (typT d))).take j)).size + 2 + y.text.size := by omega
        have q2 : ¬ 9223372036854775807 < 1 + (joinT ((p.list.map (fieldT (typT d))).take j)).size + 2 + y.text.size + 1 := by omega
        have q3 : ¬ 9223372036854775807 < 1 + (joinT ((p.list.map (fieldT (typT d))).take j)).size + 2 + y.text.size + 1 + (typT d z).size := by omega
        go_wp2_with fail
        refine wp_region_ext (by kernel_rfl) (by kernel_rfl) ?_
        repeat (quiet_step (exact HC.out _))
        refine wpQuiet_nil ?_
        rintro _ ⟨k, rfl⟩
        have HB1 := Lib.hid (below_then HB.out (Nat.le_trans (by rw [size_alloc, size_alloc]; omega) HB.out.size) k.b)
        clear q1 q2 q3
        go_wp2_with fail
        go_roundw
        case rel => exact ⟨j + 1, by omega, by go_num, by rw [← join_step (by omega) HY.out, HFE.out]; simp [ba_assoc], HB1.out⟩
        case measure => simp [intOf]; omega
    · have hj2 : j = p.list.length := by omega
      subst hj2
      rw [show (p.list.map (fieldT (typT d))).take p.list.length = p.list.map (fieldT (typT d)) from List.take_of_length_le (by simp)] at *
      by_cases hl : q.list.length = 1
      · obtain ⟨z, hz⟩ : ∃ z, q.list = [z] := by
          cases h : q.list with
          | nil => rw [h] at hl; cases hl
          | cons a l => cases l with
            | nil => exact ⟨a, rfl⟩
            | cons b l => rw [h] at hl; simp at hl
        have hr := HRQ.out
        rw [hz] at hr
        obtain ⟨b2, o2, A3, c3, rfl, hc2, hr2⟩ := hr.at0 (x := z) rfl
        obtain ⟨u0, u1, u2, u3, u4⟩ := hc2.below (box_below (two_first HB.out))
        have hfz := HFQ.out.kid (y := z) (by simp [hz])
        have hgz := goodB_in HGQ.out (y := z) (by simp [hz])
        have hzs := typ_le (d := d) hfz
        have HZ := Lib.hid hz
        have HFZ := Lib.hid hfz
        have HGZ := Lib.hid hgz
        have HR2 := Lib.hid hr2
        have hq1 : ((q.list.length : Int) == 1) = true := by rw [hl]; rfl
        rw [hl] at e4
        clear hz hfz hgz hr hr2 hc2
        go_wp2_with fail
        refine (typR_any d z A3 c3 _ HGZ.out HFZ.out (HR2.out.keep (box_below (two_first HB.out)))).mono ?_
        rintro e w1 ⟨rfl, hb⟩
        have HB1 := Lib.hid (below_then HB.out (Nat.le_trans (by rw [size_alloc, size_alloc]; omega) HB.out.size) hb)
        clear hb
        go_wp2_with fail
        go_ret
        exact ⟨by simp [headT, HZ.out, ch], box_below (two_first HB1.out)⟩
      · have hq1 : ((q.list.length : Int) == 1) = false := beq_eq_false_iff_ne.2 (by omega)
        have hl2 : (q.list.length == 1) = false := by simpa using hl
        go_wp2_with fail
        go_ret
        exact ⟨by rw [headT, hl2]; rfl, box_below (two_first HB.out)⟩
end Go.Proofs.YtoemljgkofhhpaaGreatDoor
