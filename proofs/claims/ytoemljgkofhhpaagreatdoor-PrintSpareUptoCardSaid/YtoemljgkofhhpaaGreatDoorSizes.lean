import Derived.Test.YtoemljgkofhhpaaGreatDoorNode
namespace Go.Proofs.YtoemljgkofhhpaaGreatDoor
open Go.RowKit

/-- What holds of the box of a node behind a call's beginning. -/
theorem box_cells {w wr : World} {x : T} {A : Option Addr} {c : Nat} (h : Below (w.heap.size + 1) (w.alloc (nbox x A c)) wr) : Cells wr w.heap.size 0 x A c := by
  have hs : w.heap.size < w.heap.size + 1 := by omega
  have e : ∀ j, wr.cell? ⟨w.heap.size, j, none⟩ = #[.int .i64 x.kind, .string x.text, .int .u64 x.num, .int .i64 x.place, .slice A x.list.length c][j]? := fun j =>
    (h.cell (p := ⟨w.heap.size, j, none⟩) (by exact hs)).trans (cell_of_row (w.alloc (nbox x A c)) w.heap.size j _ 25 (0, 0) (heap_alloc_new w _))
  exact ⟨e 0, e 1, e 2, e 3, e 4⟩
theorem box_below {w wr : World} {o : Obj} (h : Below (w.heap.size + 1) (w.alloc o) wr) : Below w.heap.size w wr :=
  (((Below.refl _ _).alloc (Nat.le_refl _) _).trans (h.mono (by omega)))
theorem size_alloc (w : World) (o : Obj) : (w.alloc o).heap.size = w.heap.size + 1 := by
  show (w.heap.push o).size = _
  rw [Array.size_push]
theorem box_after {w w1 : World} {o : Obj} (hb : Below (w.alloc o).heap.size (w.alloc o) w1) : Below (w.heap.size + 1) (w.alloc o) w1 := by
  rwa [size_alloc] at hb
theorem box_size {w wr : World} {o : Obj} (h : Below (w.heap.size + 1) (w.alloc o) wr) : w.heap.size + 1 ≤ wr.heap.size := by
  have h1 : (w.heap.push o).size ≤ wr.heap.size := h.size
  rwa [Array.size_push] at h1

theorem box_raw {w wr : World} {v0 v1 v2 v3 v4 : Value} (h : Below (w.heap.size + 1) (w.alloc (.cells #[v0, v1, v2, v3, v4] 25)) wr) :
    wr.cell? ⟨w.heap.size, 0, none⟩ = some v0 ∧ wr.cell? ⟨w.heap.size, 1, none⟩ = some v1 ∧ wr.cell? ⟨w.heap.size, 2, none⟩ = some v2 ∧ wr.cell? ⟨w.heap.size, 3, none⟩ = some v3 ∧ wr.cell? ⟨w.heap.size, 4, none⟩ = some v4 := by
  have hs : w.heap.size < w.heap.size + 1 := by omega
  have e : ∀ j, wr.cell? ⟨w.heap.size, j, none⟩ = #[v0, v1, v2, v3, v4][j]? := fun j =>
    (h.cell (p := ⟨w.heap.size, j, none⟩) (by exact hs)).trans (cell_of_row (w.alloc (.cells #[v0, v1, v2, v3, v4] 25)) w.heap.size j _ 25 (0, 0) (heap_alloc_new w _))
  exact ⟨e 0, e 1, e 2, e 3, e 4⟩

set_option maxRecDepth 100000 in
set_option maxHeartbeats 1000000 in
theorem size_any (N : Nat) : ∀ (x : T) (A : Option Addr) (c : Nat) (w : World), x.size ≤ N → Rd w x.list A c → x.size ≤ 1048576 →
    Calls Tryz.prog 36 #[nv x A c] w fun e w' => e = .returned (.int .i64 x.size) ∧ Below w.heap.size w w' := by
  induction N with
  | zero => intro x A c w h; have := T.size_pos x; omega
  | succ N ih =>
    intro x A c w hN hR hs
    have hse := T.size_eq x
    have hll := T.length_le x.list
    have HSE := Lib.hid hse
    have IH := Lib.hid ih
    have HS := Lib.hid hs
    have HN := Lib.hid hN
    have HR := Lib.hid hR
    clear hR hN ih hse
    go_enter Tryz.func36, Tryz.ntmps36
    go_wp2_with fail
    go_loopw [3, 4] (fun k i wr => ∃ j : Nat, j ≤ x.list.length ∧ i = .int .i64 j ∧ k = .int .i64 ((1 + T.sizes (x.list.take j) : Nat) : Int) ∧ Below (w.heap.size + 1) (w.alloc (nbox x A c)) wr) (fun _ i _ => x.list.length - (intOf i).toNat)
    case atStart => exact ⟨0, Nat.zero_le _, rfl, by simp [T.sizes], Below.refl _ _⟩
    case round =>
      obtain ⟨j, hj, rfl, rfl, hB⟩ := hrel
      have hb4 : wr.cell? ⟨w.heap.size, 4, none⟩ = some (.slice A x.list.length c) := (box_cells hB).c4
      have hl8 : x.list.length ≤ 1048576 := by have := HSE.out; omega
      by_cases hlt : j < x.list.length
      · obtain ⟨y, hy⟩ : ∃ y, x.list[j]? = some y := ⟨x.list[j], by simp [hlt]⟩
        obtain ⟨b, o, A', c', rfl, hc, hr⟩ := HR.out.at_ hy
        have hc := hc.below (box_below hB)
        have h0 := hc.c0
        have h1 := hc.c1
        have h2 := hc.c2
        have h3 := hc.c3
        have h4 := hc.c4
        have hy1 := T.size_le hy
        have ht1 := T.sizes_take hy
        have ht2 := T.sizes_take_le x.list (j + 1)
        have hbnd : T.sizes (x.list.take j) + y.size ≤ 1048576 := by have := HSE.out; omega
        have HT := Lib.hid ht1
        have HR' := Lib.hid hr
        have HB := Lib.hid hB
        have HY := Lib.hid hy
        clear ht1 hr hB hc hy ht2
        go_wp2_with fail
        refine (IH.out y A' c' _ (by have := HSE.out; have := HN.out; omega) (HR'.out.keep (box_below HB.out)) (by have := HSE.out; omega)).mono ?_
        rintro e w1 ⟨rfl, hb1⟩
        have HB1 := Lib.hid (below_then HB.out (box_size HB.out) hb1)
        clear hb1
        go_wp2_with fail
        go_roundw
        case rel => exact ⟨j + 1, by omega, by go_num, by rw [HT.out]; go_num, HB1.out⟩
        case measure => simp [intOf]; omega
      · have HB := Lib.hid hB
        clear hB
        go_wp2_with fail
        go_ret
        exact ⟨ret_int (by have : j = x.list.length := by omega
                           subst this; rw [HSE.out, List.take_length]), box_below HB.out⟩
end Go.Proofs.YtoemljgkofhhpaaGreatDoor
