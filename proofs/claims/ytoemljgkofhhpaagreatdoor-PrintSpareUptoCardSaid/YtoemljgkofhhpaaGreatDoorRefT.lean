import Derived.Test.YtoemljgkofhhpaaGreatDoorTextSize
namespace Go.Proofs.YtoemljgkofhhpaaGreatDoor
open Go.RowKit

/-- A world in which all that was is as it was. -/
structure Ext (w : World) where
  v : World
  b : Below w.heap.size w v
theorem Ext.ne (w : World) : Nonempty (Ext w) := ⟨⟨w, Below.refl _ _⟩⟩
theorem Ext.call {w : World} (k : Ext w) {f : FuncId} {args : Array Value} {v : Value} (h : Calls Tryz.prog f args k.v fun e w' => e = .returned v ∧ Below k.v.heap.size k.v w') :
    Calls Tryz.prog f args k.v fun e w' => e = .returned v ∧ ∃ k' : Ext w, w' = k'.v :=
  h.mono fun _ _ ⟨he, hb⟩ => ⟨he, ⟨_, below_then k.b k.b.size hb⟩, rfl⟩
theorem Ext.same {w : World} (k : Ext w) {f : FuncId} {args : Array Value} {v : Value} (h : Calls Tryz.prog f args k.v fun e w' => e = .returned v ∧ k.v = w') :
    Calls Tryz.prog f args k.v fun e w' => e = .returned v ∧ ∃ k' : Ext w, w' = k'.v :=
  h.mono fun _ _ ⟨he, hb⟩ => ⟨he, k, hb.symm⟩
theorem wp_region_ext {id : Nat} {Q : Exit → Act → World → Prop} {a : Act} {w : World} {l : List Oper} (hm : Tryz.prog.follows .mixedOrders = true) (hB : Region.lexB .any l.toArray = true)
    (h : wpQuiet Tryz.prog l.toArray (fun w' => ∃ k : Ext w, w' = k.v) (fun a' => ∀ w', (∃ k : Ext w, w' = k.v) → Q .normal a' w') l a) : (Code.region id l.toArray true).wp Tryz.prog Q a w :=
  wp_region_quiet (C := fun w' => ∃ k : Ext w, w' = k.v) hm hB ⟨⟨w.drew, (Below.refl _ _).drew⟩, rfl⟩ (by simpa using h)
theorem Ext.cells {w : World} {b o : Nat} {x : T} {A : Option Addr} {c : Nat} (h : Cells w b o x A c) :
    (∀ k : Ext w, k.v.cell? ⟨b, o, none⟩ = some (.int .i64 x.kind)) ∧ (∀ k : Ext w, k.v.cell? ⟨b, o + 1, none⟩ = some (.string x.text)) ∧ (∀ k : Ext w, k.v.cell? ⟨b, o + 2, none⟩ = some (.int .u64 x.num)) ∧
      (∀ k : Ext w, k.v.cell? ⟨b, o + 3, none⟩ = some (.int .i64 x.place)) ∧ (∀ k : Ext w, k.v.cell? ⟨b, o + 4, none⟩ = some (.slice A x.list.length c)) :=
  ⟨fun k => keep_cell k.b h.c0, fun k => keep_cell k.b h.c1, fun k => keep_cell k.b h.c2, fun k => keep_cell k.b h.c3, fun k => keep_cell k.b h.c4⟩
theorem Ext.cell {w : World} {a : Addr} {v : Value} (h : w.cell? a = some v) (k : Ext w) : k.v.cell? a = some v := keep_cell k.b h

theorem Rd.at0 {w : World} {l : List T} {A : Option Addr} {c : Nat} (h : Rd w l A c) {x : T} (hx : l[0]? = some x) : ∃ b o A' c', A = some ⟨b, o, none⟩ ∧ Cells w b o x A' c' ∧ Rd w x.list A' c' := by
  obtain ⟨b, o, A', c', h1, h2, h3⟩ := h.at_ hx
  exact ⟨b, o, A', c', h1, by simpa using h2, h3⟩

set_option maxRecDepth 100000 in
set_option maxHeartbeats 2000000 in
theorem twoR_any (x : T) (A : Option Addr) (c : Nat) (w : World) : Calls Tryz.prog 42 #[nv x A c] w fun e w' => e = .returned (.bool (twoB x)) ∧ Below w.heap.size w w' := by
  cases h : (x.kind == 33) with
  | true =>
    go_enter Tryz.func42, Tryz.ntmps42
    go_wp2_with fail
    go_ret
    exact ⟨ret_bool (by rw [Bool.eq_iff_iff]; simp [twoB, h]; try omega), box_below (Below.refl _ _)⟩
  | false =>
    go_enter Tryz.func42, Tryz.ntmps42
    go_wp2_with fail
    go_ret
    exact ⟨ret_bool (by simp [twoB, h]), box_below (Below.refl _ _)⟩
theorem tabsT_succ (n : Nat) : tabsT n ++ ⟨#[9]⟩ = tabsT (n + 1) := by
  apply ByteArray.ext
  simp [tabsT, ByteArray.data_append, Array.replicate_succ]
set_option maxRecDepth 100000 in
set_option maxHeartbeats 2000000 in
theorem tabsR_any (n : Nat) (hn : n ≤ 1000) (w : World) : Calls Tryz.prog 72 #[.int .i64 n] w fun e w' => e = .returned (.string (tabsT n)) ∧ w = w' := by
  go_enter Tryz.func72, Tryz.ntmps72
  go_wp2_with fail
  go_loop [3, 4] (fun s i => ∃ j : Nat, j ≤ n ∧ i = .int .i64 j ∧ s = .string (tabsT j)) (fun _ i => n - (intOf i).toNat)
  case atStart => exact ⟨0, Nat.zero_le _, rfl, rfl⟩
  case round =>
    obtain ⟨j, hj, rfl, rfl⟩ := hrel
    have hs := tabsT_size j
    by_cases hlt : j < n
    · go_wp2_with fail
      go_round
      case rel => exact ⟨j + 1, by omega, by go_num, by rw [tabsT_succ]⟩
      case measure => simp [intOf]; omega
    · have : j = n := by omega
      subst this
      go_wp2_with fail
      go_ret
      exact ⟨rfl, rfl⟩

theorem typ_le {d : Nat} {x : T} (h : Fine x) : (typT d x).size ≤ 1048576000 := by have := typT_short d x; have := h.bulk; omega
theorem join_take_le {f : T → ByteArray} {l : List T} (j : Nat) (h : ∀ y ∈ l, (f y).size + 2 ≤ 1000 * y.bulk) (hb : T.bulks l ≤ 1048576) : (joinT ((l.take j).map f)).size ≤ 1048576000 := by
  have h1 := join_bulk (f := f) (l := l.take j) (fun y hy => h y (List.mem_of_mem_take hy))
  have h2 : T.bulks (l.take j) + T.bulks (l.drop j) = T.bulks l := by rw [← T.bulks_append, List.take_append_drop]
  omega
theorem Fine.bulks {x : T} (h : Fine x) : T.bulks x.list ≤ 1048576 := by have := T.bulk_eq x; have := h.bulk; omega
theorem Fine.kid {x y : T} (h : Fine x) (hy : y ∈ x.list) : Fine y := by
  obtain ⟨i, hi⟩ := List.getElem?_of_mem hy
  exact h.at_ hi
end Go.Proofs.YtoemljgkofhhpaaGreatDoor
