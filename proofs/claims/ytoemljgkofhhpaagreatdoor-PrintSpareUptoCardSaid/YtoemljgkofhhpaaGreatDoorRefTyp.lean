import Derived.Test.YtoemljgkofhhpaaGreatDoorRefT
import Derived.Test.YtoemljgkofhhpaaGreatDoorPgD
namespace Go.Proofs.YtoemljgkofhhpaaGreatDoor
open Go.RowKit

theorem kids_one {l : List T} {v : Int} (h : kindsB l [v] = true) : ∃ y, l = [y] ∧ okKind y.kind v = true := by
  cases l with
  | nil => cases h
  | cons y l => cases l with
    | nil => simp only [kindsB, Bool.and_true] at h; exact ⟨y, rfl, h⟩
    | cons z l => simp [kindsB] at h
theorem kids_two {l : List T} {v u : Int} (h : kindsB l [v, u] = true) : ∃ y z, l = [y, z] ∧ okKind y.kind v = true ∧ okKind z.kind u = true := by
  cases l with
  | nil => cases h
  | cons y l =>
    simp only [kindsB, Bool.and_eq_true] at h
    obtain ⟨z, rfl, h2⟩ := kids_one h.2
    exact ⟨y, z, rfl, h.1, h2⟩
theorem kids_three {l : List T} {v u s : Int} (h : kindsB l [v, u, s] = true) : ∃ y z t, l = [y, z, t] ∧ okKind y.kind v = true ∧ okKind z.kind u = true ∧ okKind t.kind s = true := by
  cases l with
  | nil => cases h
  | cons y l =>
    simp only [kindsB, Bool.and_eq_true] at h
    obtain ⟨z, t, rfl, h2⟩ := kids_two h.2
    exact ⟨y, z, t, rfl, h.1, h2⟩
theorem join_step {f : T → ByteArray} {l : List T} {s : ByteArray} {j : Nat} {y : T} (h1 : 1 ≤ j) (h : l[j]? = some y) :
    s ++ joinT ((l.map f).take j) ++ ⟨#[44, 32]⟩ ++ f y = s ++ joinT ((l.map f).take (j + 1)) := by
  have h2 : (l.map f)[j]? = some (f y) := by simp [h]
  rw [joinT_take h1 h2]
  simp only [ba_assoc]
theorem join_start {f : T → ByteArray} {l : List T} {s : ByteArray} {y : T} (h : l[0]? = some y) : s ++ f y = s ++ joinT ((l.map f).take 1) := by
  have h2 : (l.map f)[0]? = some (f y) := by simp [h]
  rw [joinT_first h2]

set_option maxRecDepth 100000 in
set_option maxHeartbeats 4000000 in
theorem typR_any (d : Nat) : ∀ (x : T) (A : Option Addr) (c : Nat) (w : World), goodB d x = true → Fine x → Rd w x.list A c →
    Calls Tryz.prog 20 #[nv x A c] w fun e w' => e = .returned (.string (typT d x)) ∧ Below w.heap.size w w' := by
  induction d with
  | zero => intro x A c w h; simp [goodB] at h
  | succ d ih =>
    intro x A c w hg hF hR
    have IH := Lib.hid ih
    have HF := Lib.hid hF
    have hch := goodB_kids hg
    have hlab := goodB_label hg
    have hkid : ∀ y ∈ x.list, goodB d y = true := fun y hy => goodB_down hg hy
    have HK := Lib.hid hkid
    clear ih hF hg hkid
    cases x with
    | mk k t n p l =>
      by_cases k11 : k = 11
      · subst k11
        simp [childrenB] at hch
        obtain ⟨y, rfl, -⟩ := kids_one hch
        obtain ⟨b, o, A', c', rfl, hc, hr⟩ := hR.at0 (x := y) rfl
        have hfy := HF.out.kid (y := y) (by simp)
        have hz := typ_le (d := d) hfy
        obtain ⟨h0, h1, h2, h3, h4⟩ := hc.below (one_below (o1 := .cells #[.int .i64 11, .string t, .int .u64 n, .int .i64 p, .slice (some ⟨b, o, none⟩) 1 c] 25))
        have HR := Lib.hid hr
        have HFY := Lib.hid hfy
        clear hr hfy hch hlab hR hc
        go_enter Tryz.func20, Tryz.ntmps20
        go_wp2_with fail
        refine (IH.out y A' c' _ (HK.out y (by simp)) HFY.out (HR.out.keep (box_below (Below.refl _ _)))).mono ?_
        rintro e w1 ⟨rfl, hb⟩
        have HB := Lib.hid (box_below (box_after hb))
        clear hb
        go_wp2_with fail
        go_ret
        exact ⟨rfl, HB.out⟩
      · by_cases k12 : k = 12
        · subst k12
          simp [childrenB] at hch
          obtain ⟨y, rfl, -⟩ := kids_one hch
          obtain ⟨b, o, A', c', rfl, hc, hr⟩ := hR.at0 (x := y) rfl
          have hfy := HF.out.kid (y := y) (by simp)
          have hz := typ_le (d := d) hfy
          obtain ⟨h0, h1, h2, h3, h4⟩ := hc.below (one_below (o1 := .cells #[.int .i64 12, .string t, .int .u64 n, .int .i64 p, .slice (some ⟨b, o, none⟩) 1 c] 25))
          have HR := Lib.hid hr
          have HFY := Lib.hid hfy
          clear hr hfy hch hlab hR hc
          go_enter Tryz.func20, Tryz.ntmps20
          go_wp2_with fail
          refine (IH.out y A' c' _ (HK.out y (by simp)) HFY.out (HR.out.keep (box_below (Below.refl _ _)))).mono ?_
          rintro e w1 ⟨rfl, hb⟩
          have HB := Lib.hid (box_below (box_after hb))
          clear hb
          go_wp2_with fail
          go_ret
          exact ⟨rfl, HB.out⟩
        · by_cases k13 : k = 13
          · subst k13
            rw [childrenB_mk] at hch
            simp at hch
            have hn1 : n ≤ 1 := by simp only [labelB, numB_mk, Bool.and_eq_true] at hlab; simpa using hlab.2
            have hn0 : 0 ≤ n := HF.out.num
            have hl17 : l.length ≤ 17 := by omega
            have hnl : n ≤ l.length := by omega
            have hnn : n = 0 ∨ n = 1 := by omega
            have HR := Lib.hid hR
            clear hch hlab hR
            have hlp : ∀ y ∈ l, Short (typT d) y := fun y _ => by have := typT_short d y; unfold Short; omega
            have hjn : ∀ m, m ≤ l.length → (joinT ((l.map (typT d)).take m)).size ≤ 1048576000 := fun m _ =>
              List.map_take (f := typT d) (l := l) (i := m) ▸ join_take_le m (fun y _ => by have := typT_short d y; omega) (HF.out.bulks)
            have HJ := Lib.hid hjn
            clear hjn hlp
            rcases hnn with rfl | rfl
            · go_enter Tryz.func20, Tryz.ntmps20
              go_wp2_with fail
              go_loopw [3, 5] (fun s i wr => ∃ j : Nat, j ≤ l.length ∧ i = .int .i64 j ∧ s = .string (⟨#[102, 117, 110, 99, 40]⟩ ++ joinT ((l.map (typT d)).take j)) ∧ Below (w.heap.size + 1) (w.alloc (nbox (T.mk 13 t 0 p l) A c)) wr) (fun _ i _ => l.length - (intOf i).toNat)
              case atStart => exact ⟨0, Nat.zero_le _, rfl, by simp [joinT, ba_nil'], Below.refl _ _⟩
              case round =>
                obtain ⟨j, hj, rfl, rfl, hB⟩ := hrel
                obtain ⟨g0, g1, g2, g3, g4⟩ := box_raw hB
                have HB := Lib.hid hB
                have hjs := HJ.out j (by omega)
                clear hB g0 g1 g3
                by_cases hlt : j < l.length
                · obtain ⟨y, hy⟩ : ∃ y, l[j]? = some y := ⟨l[j], by simp⟩
                  obtain ⟨b, o, A', c', rfl, hc, hr⟩ := HR.out.at_ hy
                  obtain ⟨h0, h1, h2, h3, h4⟩ := hc.below (box_below HB.out)
                  have hfy := HF.out.kid (List.mem_of_getElem? hy)
                  have hz := typ_le (d := d) hfy
                  have HR' := Lib.hid hr
                  have HY := Lib.hid hy
                  have HFY := Lib.hid hfy
                  clear hc hr hy hfy
                  by_cases hj0 : j = 0
                  · subst hj0
                    simp only [Nat.zero_mul, Nat.add_zero] at h0 h1 h2 h3 h4
                    go_wp2_with fail
                    refine (IH.out y A' c' _ (HK.out y (List.mem_of_getElem? HY.out)) HFY.out (HR'.out.keep (box_below HB.out))).mono ?_
                    rintro e w1 ⟨rfl, hb⟩
                    have HB1 := Lib.hid (below_then HB.out (box_size HB.out) hb)
                    clear hb
                    have hjn : joinT [] = (⟨#[]⟩ : ByteArray) := rfl
                    go_wp2_with fail
                    go_roundw
                    case rel => exact ⟨1, by omega, by go_num, by rw [← join_start HY.out]; simp [ba_nil'], HB1.out⟩
                    case measure => simp [intOf]; omega
                  · have hjp : 0 < j := by omega
                    go_wp2_with fail
                    refine (IH.out y A' c' _ (HK.out y (List.mem_of_getElem? HY.out)) HFY.out (HR'.out.keep (box_below HB.out))).mono ?_
                    rintro e w1 ⟨rfl, hb⟩
                    have HB1 := Lib.hid (below_then HB.out (box_size HB.out) hb)
                    clear hb
                    go_wp2_with fail
                    go_roundw
                    case rel => exact ⟨j + 1, by omega, by go_num, by rw [← join_step (by omega) HY.out], HB1.out⟩
                    case measure => simp [intOf]; omega
                · have hj2 : j = l.length := by omega
                  subst hj2
                  rw [show (l.map (typT d)).take l.length = l.map (typT d) from List.take_of_length_le (by simp)] at *
                  go_wp2_with fail
                  go_ret
                  exact ⟨rfl, box_below HB.out⟩
            · go_enter Tryz.func20, Tryz.ntmps20
              go_wp2_with fail
              go_loopw [3, 5] (fun s i wr => ∃ j : Nat, j ≤ (l.length - 1) ∧ i = .int .i64 j ∧ s = .string (⟨#[102, 117, 110, 99, 40]⟩ ++ joinT ((l.map (typT d)).take j)) ∧ Below (w.heap.size + 1) (w.alloc (nbox (T.mk 13 t 1 p l) A c)) wr) (fun _ i _ => l.length - (intOf i).toNat)
              case atStart => exact ⟨0, Nat.zero_le _, rfl, by simp [joinT, ba_nil'], Below.refl _ _⟩
              case round =>
                obtain ⟨j, hj, rfl, rfl, hB⟩ := hrel
                obtain ⟨g0, g1, g2, g3, g4⟩ := box_raw hB
                have HB := Lib.hid hB
                have hjs := HJ.out j (by omega)
                clear hB g0 g1 g3
                by_cases hlt : j < (l.length - 1)
                · obtain ⟨y, hy⟩ : ∃ y, l[j]? = some y := ⟨l[j], by simp⟩
                  obtain ⟨b, o, A', c', rfl, hc, hr⟩ := HR.out.at_ hy
                  obtain ⟨h0, h1, h2, h3, h4⟩ := hc.below (box_below HB.out)
                  have hfy := HF.out.kid (List.mem_of_getElem? hy)
                  have hz := typ_le (d := d) hfy
                  have HR' := Lib.hid hr
                  have HY := Lib.hid hy
                  have HFY := Lib.hid hfy
                  clear hc hr hy hfy
                  by_cases hj0 : j = 0
                  · subst hj0
                    simp only [Nat.zero_mul, Nat.add_zero] at h0 h1 h2 h3 h4
                    go_wp2_with fail
                    refine (IH.out y A' c' _ (HK.out y (List.mem_of_getElem? HY.out)) HFY.out (HR'.out.keep (box_below HB.out))).mono ?_
                    rintro e w1 ⟨rfl, hb⟩
                    have HB1 := Lib.hid (below_then HB.out (box_size HB.out) hb)
                    clear hb
                    have hjn : joinT [] = (⟨#[]⟩ : ByteArray) := rfl
                    go_wp2_with fail
                    go_roundw
                    case rel => exact ⟨1, by omega, by go_num, by rw [← join_start HY.out]; simp [ba_nil'], HB1.out⟩
                    case measure => simp [intOf]; omega
                  · have hjp : 0 < j := by omega
                    go_wp2_with fail
                    refine (IH.out y A' c' _ (HK.out y (List.mem_of_getElem? HY.out)) HFY.out (HR'.out.keep (box_below HB.out))).mono ?_
                    rintro e w1 ⟨rfl, hb⟩
                    have HB1 := Lib.hid (below_then HB.out (box_size HB.out) hb)
                    clear hb
                    go_wp2_with fail
                    go_roundw
                    case rel => exact ⟨j + 1, by omega, by go_num, by rw [← join_step (by omega) HY.out], HB1.out⟩
                    case measure => simp [intOf]; omega
                · have hj2 : j = l.length - 1 := by omega
                  obtain ⟨y, hy⟩ : ∃ y, l[j]? = some y := ⟨l[j]'(by omega), by simp⟩
                  obtain ⟨b, o, A', c', rfl, hc, hr⟩ := HR.out.at_ hy
                  obtain ⟨h0, h1, h2, h3, h4⟩ := hc.below (box_below HB.out)
                  have hfy := HF.out.kid (List.mem_of_getElem? hy)
                  have hz := typ_le (d := d) hfy
                  have HR' := Lib.hid hr
                  have HY := Lib.hid hy
                  have HFY := Lib.hid hfy
                  have hjl : j < l.length := by omega
                  have hje : (l.length : Int) - 1 = (j : Int) := by omega
                  clear hc hr hy hfy
                  rw [hje] at *
                  have HJ2 := Lib.hid hj2
                  clear hj2 hje
                  go_wp2_with fail
                  refine (IH.out y A' c' _ (HK.out y (List.mem_of_getElem? HY.out)) HFY.out (HR'.out.keep (box_below HB.out))).mono ?_
                  rintro e w1 ⟨rfl, hb⟩
                  have HB1 := Lib.hid (below_then HB.out (box_size HB.out) hb)
                  clear hb
                  go_wp2_with fail
                  go_ret
                  exact ⟨by have hj2 := HJ2.out; subst hj2; simp [typT, typF, ch_at HY.out], box_below HB1.out⟩
          · have q1 : (k == 11) = false := by simpa using k11
            have q2 : (k == 12) = false := by simpa using k12
            have q3 : (k == 13) = false := by simpa using k13
            go_enter Tryz.func20, Tryz.ntmps20
            go_wp2_with fail
            go_ret
            exact ⟨by simp [typT, typF, k11, k12, k13], box_below (Below.refl _ _)⟩
end Go.Proofs.YtoemljgkofhhpaaGreatDoor
