import Derived.Test.YtoemljgkofhhpaaGreatDoorRefHead
namespace Go.Proofs.YtoemljgkofhhpaaGreatDoor
open Go.RowKit

theorem T.litss_any (l : List T) : T.litss l = l.any T.lits := by
  induction l with
  | nil => rfl
  | cons a l ih => simp only [T.litss, ih, List.any_cons]
theorem T.lits_eq (x : T) : x.lits = (x.kind == 37 || x.list.any T.lits) := by
  cases x; simp only [T.lits, T.litss_any, T.kind_mk, T.list_mk]

set_option maxRecDepth 100000 in
set_option maxHeartbeats 2000000 in
theorem litsR_any (N : Nat) : ∀ (x : T) (A : Option Addr) (c : Nat) (w : World), x.size ≤ N → Rd w x.list A c → x.size ≤ 1048576 →
    Calls Tryz.prog 136 #[nv x A c] w fun e w' => e = .returned (.bool x.lits) ∧ Below w.heap.size w w' := by
  induction N with
  | zero => intro x A c w h; have := T.size_pos x; omega
  | succ N ih =>
    intro x A c w hN hR hs
    have hse := T.size_eq x
    have hll := T.length_le x.list
    have hl8 : x.list.length ≤ 1048576 := by omega
    have HSE := Lib.hid hse
    have IH := Lib.hid ih
    have HS := Lib.hid hs
    have HN := Lib.hid hN
    have HR := Lib.hid hR
    have HX := Lib.hid (T.lits_eq x)
    clear hR hN ih hse hs hll
    cases hk : (x.kind == 37) with
    | true =>
      go_enter Tryz.func136, Tryz.ntmps136
      go_wp2_with fail
      go_ret
      exact ⟨ret_bool (by rw [HX.out, hk]; rfl), one_below⟩
    | false =>
      go_enter Tryz.func136, Tryz.ntmps136
      go_wp2_with fail
      go_loopw [3] (fun i wr => ∃ j : Nat, j ≤ x.list.length ∧ i = .int .i64 j ∧ Hid ((x.list.take j).any T.lits = false) ∧ Below (w.heap.size + 1) (w.alloc (nbox x A c)) wr) (fun i _ => x.list.length - (intOf i).toNat)
      case atStart => exact ⟨0, Nat.zero_le _, rfl, rfl, Below.refl _ _⟩
      case round =>
        obtain ⟨j, hj, rfl, HI, hB⟩ := hrel
        have g4 : wr.cell? ⟨w.heap.size, 4, none⟩ = some (.slice A x.list.length c) := (box_cells hB).c4
        have HB := Lib.hid hB
        clear hB
        by_cases hlt : j < x.list.length
        · obtain ⟨y, hy⟩ : ∃ y, x.list[j]? = some y := ⟨x.list[j], by simp [hlt]⟩
          obtain ⟨b, o, A', c', rfl, hc, hr⟩ := HR.out.at_ hy
          obtain ⟨h0, h1, h2, h3, h4⟩ := hc.below (box_below HB.out)
          have hy1 := Lib.hid (T.size_le hy)
          have HR' := Lib.hid hr
          have HY := Lib.hid hy
          clear hr hc hy
          go_wp2_with fail
          refine (IH.out y A' c' _ (by have := HSE.out; have := HN.out; have := hy1.out; omega) (HR'.out.keep (box_below HB.out)) (by have := HSE.out; have := HS.out; have := hy1.out; omega)).mono ?_
          rintro e w1 ⟨rfl, hb⟩
          have HB1 := Lib.hid (below_then HB.out (box_size HB.out) hb)
          clear hb
          cases hl : y.lits with
          | true =>
            have HL := Lib.hid hl
            clear hl
            go_wp2_with fail
            go_ret
            exact ⟨ret_bool (by rw [HX.out, any_hit HY.out HL.out]; simp), box_below HB1.out⟩
          | false =>
            have HL := Lib.hid hl
            clear hl
            go_wp2_with fail
            go_roundw
            case rel => exact ⟨j + 1, by omega, by go_num, (by rw [any_take HY.out, HI.out, HL.out]; rfl : (x.list.take (j + 1)).any T.lits = false), HB1.out⟩
            case measure => simp [intOf]; omega
        · go_wp2_with fail
          go_ret
          exact ⟨ret_bool (by have : j = x.list.length := by omega
                              have h2 := HI.out
                              subst this; rw [List.take_length] at h2; rw [HX.out, h2, hk]; rfl), box_below HB.out⟩

set_option maxRecDepth 100000 in
set_option maxHeartbeats 2000000 in
theorem litsP_any (N : Nat) : ∀ (x : T) (A : Option Addr) (c : Nat) (w : World), x.size ≤ N → Rd w x.list A c → x.size ≤ 1048576 →
    Calls Tryz.prog 167 #[nv x A c] w fun e w' => e = .returned (.bool x.lits) ∧ Below w.heap.size w w' := by
  induction N with
  | zero => intro x A c w h; have := T.size_pos x; omega
  | succ N ih =>
    intro x A c w hN hR hs
    have hse := T.size_eq x
    have hll := T.length_le x.list
    have hl8 : x.list.length ≤ 1048576 := by omega
    have HSE := Lib.hid hse
    have IH := Lib.hid ih
    have HS := Lib.hid hs
    have HN := Lib.hid hN
    have HR := Lib.hid hR
    have HX := Lib.hid (T.lits_eq x)
    clear hR hN ih hse hs hll
    cases hk : (x.kind == 37) with
    | true =>
      go_enter Tryz.func167, Tryz.ntmps167
      go_wp2_with fail
      go_ret
      exact ⟨ret_bool (by rw [HX.out, hk]; rfl), one_below⟩
    | false =>
      go_enter Tryz.func167, Tryz.ntmps167
      go_wp2_with fail
      go_loopw [11] (fun i wr => ∃ j : Nat, j ≤ x.list.length ∧ i = .int .i64 j ∧ Hid ((x.list.take j).any T.lits = false) ∧ Below (w.heap.size + 1) (w.alloc (nbox x A c)) wr) (fun i _ => x.list.length - (intOf i).toNat)
      case atStart => exact ⟨0, Nat.zero_le _, rfl, rfl, Below.refl _ _⟩
      case round =>
        obtain ⟨j, hj, rfl, HI, hB⟩ := hrel
        have HB := Lib.hid hB
        clear hB
        by_cases hlt : j < x.list.length
        · obtain ⟨y, hy⟩ : ∃ y, x.list[j]? = some y := ⟨x.list[j], by simp [hlt]⟩
          obtain ⟨b, o, A', c', rfl, hc, hr⟩ := HR.out.at_ hy
          obtain ⟨h0, h1, h2, h3, h4⟩ := hc.below (box_below HB.out)
          have hy1 := Lib.hid (T.size_le hy)
          have HR' := Lib.hid hr
          have HY := Lib.hid hy
          clear hr hc hy
          go_wp2_with fail
          refine (IH.out y A' c' _ (by have := HSE.out; have := HN.out; have := hy1.out; omega) (HR'.out.keep ((box_below HB.out).alloc (by have := box_size HB.out; omega) _)) (by have := HSE.out; have := HS.out; have := hy1.out; omega)).mono ?_
          rintro e w1 ⟨rfl, hb⟩
          have HB1 := Lib.hid (below_push HB.out (box_size HB.out) hb)
          clear hb
          cases hl : y.lits with
          | true =>
            have HL := Lib.hid hl
            clear hl
            go_wp2_with fail
            go_ret
            exact ⟨ret_bool (by rw [HX.out, any_hit HY.out HL.out]; simp), box_below HB1.out⟩
          | false =>
            have HL := Lib.hid hl
            clear hl
            go_wp2_with fail
            go_roundw
            case rel => exact ⟨j + 1, by omega, by go_num, (by rw [any_take HY.out, HI.out, HL.out]; rfl : (x.list.take (j + 1)).any T.lits = false), HB1.out⟩
            case measure => simp [intOf]; omega
        · go_wp2_with fail
          go_ret
          exact ⟨ret_bool (by have : j = x.list.length := by omega
                              have h2 := HI.out
                              subst this; rw [List.take_length] at h2; rw [HX.out, h2, hk]; rfl), box_below HB.out⟩
end Go.Proofs.YtoemljgkofhhpaaGreatDoor
