import Derived.Test.YtoemljgkofhhpaaGreatDoorJoinP
namespace Go.Proofs.YtoemljgkofhhpaaGreatDoor
open Go.RowKit

theorem Rd.take {w : World} {l : List T} {A : Option Addr} {c : Nat} (h : Rd w l A c) (k : Nat) : Rd w (l.take k) A c := by
  cases h with
  | mk l A c b o f g hc hA hcell hsub =>
    have hi : ∀ i x, (l.take k)[i]? = some x → l[i]? = some x := fun i x hx => by
      rw [List.getElem?_take] at hx
      split at hx
      · exact hx
      · cases hx
    exact .mk _ A c b o f g (by rw [List.length_take]; omega) (fun h => hA (by rw [List.length_take] at h; omega)) (fun i x hx => hcell i x (hi i x hx)) (fun i x hx => hsub i x (hi i x hx))

set_option maxRecDepth 100000 in
set_option maxHeartbeats 4000000 in
theorem typP_any (d : Nat) : ∀ (x : T) (A : Option Addr) (c : Nat) (w : World), goodB d x = true → Fine x → Rd w x.list A c →
    Calls Tryz.prog 23 #[nv x A c] w fun e w' => e = .returned (.string (typT d x)) ∧ Below w.heap.size w w' := by
  induction d with
  | zero => intro x A c w h; simp [goodB] at h
  | succ d ih =>
    intro x A c w hg hF hR
    have IH := Lib.hid ih
    have HF := Lib.hid hF
    have hch := goodB_kids hg
    have hlab := goodB_label hg
    have hkid : ∀ y ∈ x.list, goodB d y = true := fun y hy => goodB_down hg hy
    have HK := Lib.hid hkid
    clear ih hF hg hkid
    cases x with
    | mk k t n p l =>
      by_cases k11 : k = 11
      · subst k11
        simp [childrenB] at hch
        obtain ⟨y, rfl, -⟩ := kids_one hch
        obtain ⟨b, o, A', c', rfl, hc, hr⟩ := hR.at0 (x := y) rfl
        have hfy := HF.out.kid (y := y) (by simp)
        have hz := typ_le (d := d) hfy
        obtain ⟨h0, h1, h2, h3, h4⟩ := hc.below (one_below (o1 := .cells #[.int .i64 11, .string t, .int .u64 n, .int .i64 p, .slice (some ⟨b, o, none⟩) 1 c] 25))
        have HR := Lib.hid hr
        have HFY := Lib.hid hfy
        clear hr hfy hch hlab hR hc
        go_enter Tryz.func23, Tryz.ntmps23
        go_wp2_with fail
        refine (IH.out y A' c' _ (HK.out y (by simp)) HFY.out (HR.out.keep (box_below (Below.refl _ _)))).mono ?_
        rintro e w1 ⟨rfl, hb⟩
        have HB := Lib.hid (box_below (box_after hb))
        clear hb
        go_wp2_with fail
        go_ret
        exact ⟨rfl, HB.out⟩
      · by_cases k12 : k = 12
        · subst k12
          simp [childrenB] at hch
          obtain ⟨y, rfl, -⟩ := kids_one hch
          obtain ⟨b, o, A', c', rfl, hc, hr⟩ := hR.at0 (x := y) rfl
          have hfy := HF.out.kid (y := y) (by simp)
          have hz := typ_le (d := d) hfy
          obtain ⟨h0, h1, h2, h3, h4⟩ := hc.below (one_below (o1 := .cells #[.int .i64 12, .string t, .int .u64 n, .int .i64 p, .slice (some ⟨b, o, none⟩) 1 c] 25))
          have HR := Lib.hid hr
          have HFY := Lib.hid hfy
          clear hr hfy hch hlab hR hc
          go_enter Tryz.func23, Tryz.ntmps23
          go_wp2_with fail
          refine (IH.out y A' c' _ (HK.out y (by simp)) HFY.out (HR.out.keep (box_below (Below.refl _ _)))).mono ?_
          rintro e w1 ⟨rfl, hb⟩
          have HB := Lib.hid (box_below (box_after hb))
          clear hb
          go_wp2_with fail
          go_ret
          exact ⟨rfl, HB.out⟩
        · by_cases k13 : k = 13
          · subst k13
            rw [childrenB_mk] at hch
            simp at hch
            have hn1 : n ≤ 1 := by simp only [labelB, numB_mk, Bool.and_eq_true] at hlab; simpa using hlab.2
            have hn0 : 0 ≤ n := HF.out.num
            have hl17 : l.length ≤ 17 := by omega
            have hnl : n ≤ l.length := by omega
            have hnn : n = 0 ∨ n = 1 := by omega
            have HR := Lib.hid hR
            clear hch hlab hR
            rcases hnn with rfl | rfl
            · have HC := Lib.hid (joinP_any (typT d) 23 #[] (enters_of Tryz.func23 (by kernel_rfl) rfl) l A c (w.alloc (nbox (T.mk 13 t 0 p l) A c)) (by omega)
                (fun y A' c' w' hy _ hr => IH.out y A' c' w' (HK.out y hy) (HF.out.kid hy) hr) (Nat.le_trans (join_bulk (fun y _ => by have := typT_short d y; omega)) (by have := HF.out.bulks; rw [T.list_mk] at this; omega)) (HR.out.keep one_below))
              have hjs : (joinT (l.map (typT d))).size ≤ 1048576000 := Nat.le_trans (join_bulk (fun y _ => by have := typT_short d y; omega)) (by have := HF.out.bulks; rw [T.list_mk] at this; omega)
              have HX := Lib.hid (show typT (d + 1) (T.mk 13 t 0 p l) = ⟨#[102, 117, 110, 99, 40]⟩ ++ joinT (l.map (typT d)) ++ ⟨#[41]⟩ from rfl)
              have hlc := HR.out.len
              rw [T.list_mk] at hlc
              go_enter Tryz.func23, Tryz.ntmps23
              go_wp2_with fail
              refine HC.out.mono ?_
              rintro e w1 ⟨rfl, hb⟩
              have hB := box_after hb
              obtain ⟨g0, g1, g2, g3, g4⟩ := box_raw hB
              have HB := Lib.hid (box_below hB)
              clear hb hB
              go_wp2_with fail
              go_ret
              exact ⟨by rw [HX.out]; rfl, HB.out⟩
            · obtain ⟨j, hj⟩ : ∃ j, l.length = j + 1 := ⟨l.length - 1, by omega⟩
              have hlt : (l.take j).length = j := by rw [List.length_take]; omega
              obtain ⟨y, hy⟩ : ∃ y, l[j]? = some y := ⟨l[j]'(by omega), by simp⟩
              obtain ⟨b, o, A', c', rfl, hc, hr⟩ := HR.out.at_ hy
              have hmem := List.mem_of_getElem? hy
              have hys := typ_le (d := d) (HF.out.kid (y := y) hmem)
              have hcj : j + 1 ≤ c := by have := HR.out.len; rw [T.list_mk] at this; omega
              have hW : Below w.heap.size w (w.alloc (.cells #[.int .i64 13, .string t, .int .u64 1, .int .i64 p, .slice (some ⟨b, o, none⟩) (j + 1) c] 25)) := one_below
              have hjs : (joinT ((l.take j).map (typT d))).size ≤ 1048576000 := join_take_le j (fun y _ => by have := typT_short d y; omega) (by have := HF.out.bulks; rw [T.list_mk] at this; omega)
              have hC := joinP_any (typT d) 23 #[] (enters_of Tryz.func23 (by kernel_rfl) rfl) (l.take j) (some ⟨b, o, none⟩) c _ (by omega)
                (fun y A' c' w' hy _ hr => IH.out y A' c' w' (HK.out y (List.mem_of_mem_take hy)) (HF.out.kid (List.mem_of_mem_take hy)) hr) hjs ((HR.out.take j).keep hW)
              rw [hlt] at hC
              have HC := Lib.hid hC
              have HY := Lib.hid (fun w' (hb : Below (w.alloc (.cells #[.int .i64 13, .string t, .int .u64 1, .int .i64 p, .slice (some ⟨b, o, none⟩) (j + 1) c] 25)).heap.size (w.alloc (.cells #[.int .i64 13, .string t, .int .u64 1, .int .i64 p, .slice (some ⟨b, o, none⟩) (j + 1) c] 25)) w') => IH.out y A' c' w' (HK.out y hmem) (HF.out.kid hmem) ((hr.keep hW).keep hb))
              have HH := Lib.hid (hc.below hW)
              have HX := Lib.hid (show typT (d + 1) (T.mk 13 t 1 p l) = ⟨#[102, 117, 110, 99, 40]⟩ ++ joinT ((l.take j).map (typT d)) ++ ⟨#[41]⟩ ++ ⟨#[32]⟩ ++ typT d y from by
                show typF (typT d) (T.mk 13 t 1 p l) = _
                have e : (T.mk 13 t 1 p l).list.length - 1 = j := by rw [T.list_mk]; omega
                unfold typF
                rw [e, T.list_mk, ch_at hy]; rfl)
              have HW := Lib.hid hW
              have hj17 : j ≤ 16 := by omega
              clear hC hc hr hy hmem hlt hW hl17 hnl
              generalize joinT ((l.take j).map (typT d)) = J at *
              show Calls Tryz.prog 23 #[.agg #[.int .i64 13, .string t, .int .u64 1, .int .i64 p, .slice (some ⟨b, o, none⟩) l.length c]] w _
              rw [hj]
              clear hj
              go_enter Tryz.func23, Tryz.ntmps23
              go_wp2_with fail
              refine HC.out.mono ?_
              rintro e w1 ⟨rfl, hb⟩
              have hB := box_after hb
              obtain ⟨g0, g1, g2, g3, g4⟩ := box_raw hB
              obtain ⟨h0, h1, h2, h3, h4⟩ := HH.out.below hb
              have HB := Lib.hid hb
              clear hb hB
              go_wp2_with fail
              refine (HY.out _ HB.out).mono ?_
              rintro e w2 ⟨rfl, hb⟩
              have HB2 := Lib.hid (below_then HW.out HW.out.size (below_then HB.out HB.out.size hb))
              clear hb
              go_wp2_with fail
              go_ret
              exact ⟨by rw [HX.out]; simp only [ba_assoc]; rfl, HB2.out⟩
          · have q1 : (k == 11) = false := by simpa using k11
            have q2 : (k == 12) = false := by simpa using k12
            have q3 : (k == 13) = false := by simpa using k13
            go_enter Tryz.func23, Tryz.ntmps23
            go_wp2_with fail
            go_ret
            exact ⟨by simp [typT, typF, k11, k12, k13], box_below (Below.refl _ _)⟩
end Go.Proofs.YtoemljgkofhhpaaGreatDoor
