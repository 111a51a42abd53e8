import Derived.Test.YtoemljgkofhhpaaGreatDoorRefHead
import Derived.Test.YtoemljgkofhhpaaGreatDoorWrt
import Derived.Deep.RegionHeld3
import Derived.Deep.AppendLies
import Derived.Deep.RegionLaw
import Derived.Laws.OwnMore
namespace Go.Proofs.YtoemljgkofhhpaaGreatDoor
open Go.RowKit

def cell5 (x : T) (a : Option Addr × Nat) : List Value := [.int .i64 x.kind, .string x.text, .int .u64 x.num, .int .i64 x.place, .slice a.1 x.list.length a.2]
def flat : List T → List (Option Addr × Nat) → List Value
  | x :: l, a :: bs => cell5 x a ++ flat l bs
  | _, _ => []
theorem flat_snoc {l : List T} {bs : List (Option Addr × Nat)} {x : T} {a : Option Addr × Nat} (h : l.length = bs.length) : flat (l ++ [x]) (bs ++ [a]) = flat l bs ++ cell5 x a := by
  induction l generalizing bs with
  | nil => cases bs with
    | nil => simp [flat]
    | cons b bs => cases h
  | cons y l ih => cases bs with
    | nil => cases h
    | cons b bs => simp only [List.cons_append, flat, ih (by simpa using h), List.append_assoc]
theorem flat_at {l : List T} {bs : List (Option Addr × Nat)} {i k : Nat} {x : T} {a : Option Addr × Nat} (hx : l[i]? = some x) (ha : bs[i]? = some a) (hk : k < 5) : (flat l bs)[i * 5 + k]? = (cell5 x a)[k]? := by
  induction l generalizing bs i with
  | nil => simp at hx
  | cons y l ih => cases bs with
    | nil => simp at ha
    | cons b bs =>
      have h5 : (cell5 y b).length = 5 := rfl
      cases i with
      | zero =>
        simp at hx ha
        subst hx ha
        simp only [flat, Nat.zero_mul, Nat.zero_add]
        rw [List.getElem?_append_left (by omega)]
      | succ i =>
        simp at hx ha
        simp only [flat]
        rw [List.getElem?_append_right (by omega), h5, show (i + 1) * 5 + k - 5 = i * 5 + k by omega]
        exact ih hx ha
theorem owns5_below {w w' : World} {B : Nat} {e : TypeId} {s : Nat} {v : Value} {n : Nat} {xs : List Value} (h : w.ownsRow B e s v n xs) (hb : Below w.heap.size w w') : w'.ownsRow B e s v n xs := by
  refine ⟨h.1, ?_⟩
  rcases h.2 with h2 | ⟨g, cap, cur, h1, h2, h3, h4⟩
  · exact .inl h2
  · refine .inr ⟨g, cap, cur, h1, h2, ?_, h4⟩
    rw [hb.block g ?_]
    · exact h3
    · rcases Nat.lt_or_ge g w.heap.size with h' | h'
      · exact h'
      · simp [Array.getElem?_eq_none h'] at h3
/-- An owned row of nodes reads bs a list of trees. -/
theorem rd_own {w : World} {B : Nat} {v : Value} {l : List T} {bs : List (Option Addr × Nat)} (hown : w.ownsRow B 25 5 v l.length (flat l bs)) (hl : bs.length = l.length)
    (hs : ∀ (i : Nat) (y : T) (a : Option Addr × Nat), l[i]? = some y → bs[i]? = some a → Rd w y.list a.1 a.2) : ∃ A c, v = .slice A l.length c ∧ Rd w l A c := by
  have hk := hown
  rcases hown.2 with ⟨rfl, h0⟩ | ⟨g, cap, cur, rfl, hB, hg, hn, hc, hcs, ht⟩
  · have : l = [] := List.eq_nil_of_length_eq_zero h0
    subst this
    exact ⟨none, 0, rfl, Rd.nil w⟩
  · refine ⟨some ⟨g, 0, none⟩, cap, rfl, .mk l _ _ g 0 (fun i => ((bs[i]?).getD (none, 0)).1) (fun i => ((bs[i]?).getD (none, 0)).2) hn (fun _ => rfl) (fun i x hx => ?_) (fun i x hx => ?_)⟩
    · have hi := (List.getElem?_eq_some_iff.1 hx).1
      obtain ⟨a, ha⟩ : ∃ a, bs[i]? = some a := ⟨bs[i]'(by omega), by simp⟩
      rw [ha]
      have e : ∀ k, k < 5 → w.cell? ⟨g, 0 + i * 5 + k, none⟩ = (cell5 x a)[k]? := fun k hk5 => by
        rw [Nat.zero_add, hk.cellAt (i * 5 + k) (by omega), flat_at hx ha hk5]
      exact ⟨e 0 (by omega), e 1 (by omega), e 2 (by omega), e 3 (by omega), e 4 (by omega)⟩
    · have hi := (List.getElem?_eq_some_iff.1 hx).1
      obtain ⟨a, ha⟩ : ∃ a, bs[i]? = some a := ⟨bs[i]'(by omega), by simp⟩
      rw [ha]
      exact hs i x a hx ha
theorem own_final {wr w'' : World} {B : Nat} {A9 : Option Addr} {c9 : Nat} {l : List T} {bs : List (Option Addr × Nat)} (hown : wr.ownsRow B 25 5 (.slice A9 l.length c9) l.length (flat l bs)) (hbl : bs.length = l.length)
    (hs : ∀ (i : Nat) (y : T) (a : Option Addr × Nat), l[i]? = some y → bs[i]? = some a → Rd w'' y.list a.1 a.2) (hg : ∀ k, (Value.slice A9 l.length c9).ownBlock = some k → w''.heap[k]? = wr.heap[k]?) : Rd w'' l A9 c9 := by
  have h2 : w''.ownsRow B 25 5 (.slice A9 l.length c9) l.length (flat l bs) := by
    refine ⟨hown.1, ?_⟩
    rcases hown.2 with h | ⟨g, cap, cur, h1, h2, h3, h4⟩
    · exact .inl h
    · exact .inr ⟨g, cap, cur, h1, h2, by rw [hg g (by rw [h1]; rfl)]; exact h3, h4⟩
  obtain ⟨A, c, hv, hr⟩ := rd_own h2 hbl hs
  injection hv with h3 _ h5
  rw [h3, h5]; exact hr
def put5 (w : World) (g : Nat) (v0 v1 v2 v3 v4 : Value) : World := ((((w.setCell ⟨g, 0, none⟩ v0).setCell ⟨g, 1, none⟩ v1).setCell ⟨g, 2, none⟩ v2).setCell ⟨g, 3, none⟩ v3).setCell ⟨g, 4, none⟩ v4
theorem put5_same {w : World} {g : Nat} {u0 u1 u2 u3 u4 : Value} (v0 v1 v2 v3 v4 : Value) (h : w.heap[g]? = some (.cells #[u0, u1, u2, u3, u4] 25 (0, 0))) : (put5 w g v0 v1 v2 v3 v4).heap[g]? = some (.cells #[v0, v1, v2, v3, v4] 25 (0, 0)) := by
  have h0 := heap_setCell_same w g 0 _ 25 v0 h
  have h1 := heap_setCell_same _ g 1 _ 25 v1 h0
  have h2 := heap_setCell_same _ g 2 _ 25 v2 h1
  have h3 := heap_setCell_same _ g 3 _ 25 v3 h2
  have h4 := heap_setCell_same _ g 4 _ 25 v4 h3
  exact h4
theorem put5_other (w : World) (g : Nat) (v0 v1 v2 v3 v4 : Value) {k : Nat} (h : k ≠ g) : (put5 w g v0 v1 v2 v3 v4).heap[k]? = w.heap[k]? := by
  unfold put5
  rw [heap_setCell_other _ _ _ _ (by exact h), heap_setCell_other _ _ _ _ (by exact h), heap_setCell_other _ _ _ _ (by exact h), heap_setCell_other _ _ _ _ (by exact h), heap_setCell_other _ _ _ _ (by exact h)]
theorem put5_size (w : World) (g : Nat) (v0 v1 v2 v3 v4 : Value) : (put5 w g v0 v1 v2 v3 v4).heap.size = w.heap.size := by simp [put5, World.setCell]
theorem put5_below {B : Nat} {a w : World} (h : Below B a w) {g : Nat} (hg : B ≤ g) (v0 v1 v2 v3 v4 : Value) : Below B a (put5 w g v0 v1 v2 v3 v4) :=
  ((((h.setCell (p := ⟨g, 0, none⟩) hg v0).setCell (p := ⟨g, 1, none⟩) hg v1).setCell (p := ⟨g, 2, none⟩) hg v2).setCell (p := ⟨g, 3, none⟩) hg v3).setCell (p := ⟨g, 4, none⟩) hg v4
theorem infoN : (Tryz.prog.info? 25).map (fun i => (i.zero, i.size, i.bytes)) = some (some (.agg #[.int .i64 0, .string ByteArray.empty, .int .u64 0, .int .i64 0, .slice none 0 0]), 5, 64) := by kernel_rfl
theorem one5 (x : T) (a : Option Addr × Nat) : ∀ u ∈ cell5 x a, u.oneCell' = true := by intro u hu; simp [cell5] at hu; rcases hu with rfl | rfl | rfl | rfl | rfl <;> rfl

theorem far_grown {w3 w4 : World} {o : Obj} {v : Value} {B n : Nat} {e : TypeId} {sz : Nat} {xs : List Value} {a : Addr} {u : Value} (h : w3.cell? a = some u) (hg : (w3.alloc o).grownBy w4 v.ownBlock) (hown : (w3.alloc o).ownsRow B e sz v n xs) (ha : a.block < B) : w4.cell? a = some u := by
  have hl := World.block_lt_of_cell? w3 a h
  rw [hg.cell_far a (by rw [size_alloc]; omega) (fun hk => by have := (hown.lt a.block hk.symm).1; omega)]
  exact keep_cell ((Below.refl w3.heap.size w3).alloc (Nat.le_refl _) o) h
theorem far_frozen {w3 w4 : World} {o : Obj} {v : Value} {B n : Nat} {e : TypeId} {sz : Nat} {xs : List Value} {a : Addr} (hg : (w3.alloc o).grownBy w4 v.ownBlock) (hown : (w3.alloc o).ownsRow B e sz v n xs) (ha : a.block < B) (hl : a.block < w3.heap.size) (h : w3.frozen? a = false) : w4.frozen? a = false := by
  rw [hg.frozen_far a (by rw [size_alloc]; omega) (fun hk => by have := (hown.lt a.block hk.symm).1; omega)]
  have e : (w3.alloc o).heap[a.block]? = w3.heap[a.block]? := ((Below.refl w3.heap.size w3).alloc (Nat.le_refl _) o).block a.block hl
  unfold World.frozen? at h ⊢
  rw [e]; exact h
theorem frozen_below {w w' : World} (hb : Below w.heap.size w w') {a : Addr} (h : w.frozen? a = false) (hl : a.block < w.heap.size) : w'.frozen? a = false := by
  unfold World.frozen? at h ⊢
  rw [hb.block a.block hl]; exact h
theorem kept6 {w3 w4 : World} {ob : Obj} {v : Value} {B n : Nat} {xs : List Value} {g b o : Nat} {u0 u1 u2 u3 u4 u5 : Value}
    (h : w3.cell? ⟨g, 4, none⟩ = some u0 ∧ w3.cell? ⟨b, o, none⟩ = some u1 ∧ w3.cell? ⟨b, o + 1, none⟩ = some u2 ∧ w3.cell? ⟨b, o + 2, none⟩ = some u3 ∧ w3.cell? ⟨b, o + 3, none⟩ = some u4 ∧ w3.cell? ⟨b, o + 4, none⟩ = some u5)
    (hg : (w3.alloc ob).grownBy w4 v.ownBlock) (hown : (w3.alloc ob).ownsRow B 25 5 v n xs) (h1 : g < B) (h2 : b < B) :
    w4.cell? ⟨g, 4, none⟩ = some u0 ∧ w4.cell? ⟨b, o, none⟩ = some u1 ∧ w4.cell? ⟨b, o + 1, none⟩ = some u2 ∧ w4.cell? ⟨b, o + 2, none⟩ = some u3 ∧ w4.cell? ⟨b, o + 3, none⟩ = some u4 ∧ w4.cell? ⟨b, o + 4, none⟩ = some u5 :=
  ⟨far_grown h.1 hg hown h1, far_grown h.2.1 hg hown h2, far_grown h.2.2.1 hg hown h2, far_grown h.2.2.2.1 hg hown h2, far_grown h.2.2.2.2.1 hg hown h2, far_grown h.2.2.2.2.2 hg hown h2⟩

set_option maxRecDepth 100000 in
set_option maxHeartbeats 4000000 in
theorem ownR_any (N : Nat) : ∀ (x : T) (A : Option Addr) (c : Nat) (w : World), x.size ≤ N → x.size ≤ 1048576 → Rd w x.list A c →
    Calls Tryz.prog 6 #[nv x A c] w fun e w' => (∃ A' c', e = .returned (nv x A' c') ∧ ∀ w'' : World, (∀ k, w.heap.size ≤ k → k < w'.heap.size → w''.heap[k]? = w'.heap[k]?) → Rd w'' x.list A' c') ∧ Below w.heap.size w w' := by
  induction N with
  | zero => intro x A c w h; have := T.size_pos x; omega
  | succ N ih =>
    intro x A c w hN hs hR
    go_enter Tryz.func6, Tryz.ntmps6
    go_wp2_with fail
    go_loopw [4] (fun i wr => ∃ (j : Nat) (bs : List (Option Addr × Nat)) (v : Value), j ≤ x.list.length ∧ i = .int .i64 j ∧ bs.length = j ∧ wr.heap[w.heap.size + 2]? = some (.cells #[.int .i64 x.kind, .string x.text, .int .u64 x.num, .int .i64 x.place, v] 25 (0, 0)) ∧
        wr.ownsRow (w.heap.size + 3) 25 5 v j (flat (x.list.take j) bs) ∧ (∀ (i : Nat) (y : T) (a : Option Addr × Nat), x.list[i]? = some y → bs[i]? = some a → ∀ w'' : World, (∀ k, w.heap.size + 3 ≤ k → k < wr.heap.size → some k ≠ v.ownBlock → w''.heap[k]? = wr.heap[k]?) → Rd w'' y.list a.1 a.2) ∧
        Below (w.heap.size + 2) ((w.alloc (nbox x A c)).alloc (.cells #[.int .i64 0, .string ⟨#[]⟩, .int .u64 0, .int .i64 0, .slice none 0 0] 25)) wr) (fun i _ => x.list.length - (intOf i).toNat)
    case atStart =>
      refine ⟨0, [], .slice none 0 0, Nat.zero_le _, rfl, rfl, ?_, World.ownsRow_nil _ _ _ _, fun i y a _ h => by simp at h, (Below.refl _ _).alloc (by rw [size_alloc, size_alloc]; omega) _⟩
      have := heap_alloc_new ((w.alloc (nbox x A c)).alloc (.cells #[.int .i64 0, .string ⟨#[]⟩, .int .u64 0, .int .i64 0, .slice none 0 0] 25)) (.cells #[.int .i64 x.kind, .string x.text, .int .u64 x.num, .int .i64 x.place, .slice none 0 0] 25)
      rw [size_alloc, size_alloc] at this
      exact this
    case round =>
      obtain ⟨j, bs, v, hj, rfl, hbl, ho, hown, hrd, hB⟩ := hrel
      obtain ⟨g0, g1, g2, g3, g4⟩ := box_raw (two_first hB)
      have oc : wr.cell? ⟨w.heap.size + 1 + 1, 4, none⟩ = some v := by rw [Lib.cell_of_heap ho]; rfl
      have of : wr.frozen? ⟨w.heap.size + 1 + 1, 4, none⟩ = false := Lib.frozen_of_heap ho 4
      have HB := Lib.hid hB
      have HO := Lib.hid hown
      have HRD := Lib.hid hrd
      have HOC := Lib.hid ho
      clear hB hown hrd ho
      by_cases hlt : j < x.list.length
      · obtain ⟨y, hy⟩ : ∃ y, x.list[j]? = some y := ⟨x.list[j], by simp⟩
        obtain ⟨b, o, A', c', rfl, hc, hr⟩ := hR.at_ hy
        have hbw := box_below (two_first HB.out)
        have hce := hc.below hbw
        have hblt : b < w.heap.size := World.block_lt_of_cell? w _ hc.c0
        have hsw : w.heap.size + 3 ≤ wr.heap.size := by
          rcases Nat.lt_or_ge (w.heap.size + 2) wr.heap.size with h' | h'
          · omega
          · have := HOC.out; simp [Array.getElem?_eq_none h'] at this
        obtain ⟨h0, h1, h2, h3, h4⟩ := hce
        have hy1 := T.size_le hy
        have hxs := T.size_eq x
        have hlen := T.length_le x.list
        have hj0 : (0 : Int) ≤ (j : Int) := by omega
        have hj1 : (j : Int) < (x.list.length : Int) := by omega
        have IHC := Lib.hid (fun W (hb : Below wr.heap.size wr W) => ih y A' c' W (by omega) (by omega) ((hr.keep hbw).keep hb))
        obtain ⟨i0, hi, hz0, hz1, hz2⟩ := info_parts infoN
        have HD := Lib.hid (show Below wr.heap.size wr wr.drew from (Below.refl _ _).drew)
        have KS := Lib.hid (fun W (hb : Below wr.heap.size wr W) => (show W.cell? ⟨w.heap.size + 1 + 1, 4, none⟩ = some v ∧ W.cell? ⟨w.heap.size, 4, none⟩ = some (.slice (some ⟨b, o, none⟩) x.list.length c) ∧ W.cell? ⟨b, o + j * 5, none⟩ = some (.int .i64 y.kind) ∧ W.cell? ⟨b, o + j * 5 + 1, none⟩ = some (.string y.text) ∧
          W.cell? ⟨b, o + j * 5 + 2, none⟩ = some (.int .u64 y.num) ∧ W.cell? ⟨b, o + j * 5 + 3, none⟩ = some (.int .i64 y.place) ∧ W.cell? ⟨b, o + j * 5 + 4, none⟩ = some (.slice A' y.list.length c') from
            ⟨keep_cell hb oc, keep_cell hb g4, keep_cell hb h0, keep_cell hb h1, keep_cell hb h2, keep_cell hb h3, keep_cell hb h4⟩))
        have hyl := List.mem_of_getElem? hy
        clear hc hr hbw
        go_wp2_with fail
        go_region_law (first
            | (go_simp; go_at_call 6; refine (IHC.out _ ?_).mono ?_; exact HD.out; rintro e w3 ⟨⟨A3, c3, rfl, hrd3⟩, hb3⟩; have hb3w := below_then HD.out HD.out.size hb3; have oc3 := keep_cell hb3w oc; have oca := fun ob : Obj => keep_cell ((Below.refl w3.heap.size w3).alloc (Nat.le_refl _) ob) oc3)
            | ((refine step_append_lies _ (by rfl) _ _ _ (by rfl) (w.heap.size + 3) 25 i0 _ 5 64 Tryz.underlying23 hi hz0 hz1 hz2 (by rfl) (by omega) v j _ (by rfl) ((owns5_below HO.out hb3w).alloc _) ⟨w3.heap.size, 0, none⟩ 1 1 (cell5 y (A3, c3)) (by rfl) (by rfl) (World.news_of_block (cs := #[.int .i64 y.kind, .string y.text, .int .u64 y.num, .int .i64 y.place, .slice A3 y.list.length c3]) (t := 25) (fr := (0, 0)) (heap_alloc_new w3 _)) (one5 y (A3, c3)) (by omega) (by unfold maxLen; omega) (by omega) (by have := hb3w.size; rw [size_alloc]; omega) (w3.heap.size + 1) (by simp) ?_; intro g cap w4 hown4 hgrow hat hlt4; have KSA := And.intro (far_grown oc3 hgrow ((owns5_below HO.out hb3w).alloc _) (show w.heap.size + 1 + 1 < w.heap.size + 3 by omega)) (kept6 (KS.out _ hb3w).2 hgrow ((owns5_below HO.out hb3w).alloc _) (by show w.heap.size < w.heap.size + 3; omega) (by show b < w.heap.size + 3; omega)); have of4 := far_frozen hgrow (owns5_below HO.out hb3w |>.alloc _) (by show w.heap.size + 1 + 1 < w.heap.size + 3; omega) (by have := hb3w.size; show w.heap.size + 1 + 1 < _; omega) (frozen_below hb3w of (by show w.heap.size + 1 + 1 < _; omega)); have oc4 := far_grown oc3 hgrow ((owns5_below HO.out hb3w).alloc _) (by show w.heap.size + 1 + 1 < w.heap.size + 3; omega))))
        all_goals
          have hvl : ∀ k, v.ownBlock = some k → k < wr.heap.size := fun k hk => (HO.out.lt k hk).2
          have hsz3 : wr.heap.size ≤ w3.heap.size := hb3w.size
          have hblk : ∀ k, k < w3.heap.size → some k ≠ v.ownBlock → w4.heap[k]? = w3.heap[k]? := fun k hk hne => by
            rw [hgrow.block k (by rw [size_alloc]; omega) (fun e => hne e)]
            exact ((Below.refl w3.heap.size w3).alloc (Nat.le_refl _) _).block k hk
          have hnew : w4.heap[w.heap.size + 1 + 1]? = some (.cells #[.int .i64 x.kind, .string x.text, .int .u64 x.num, .int .i64 x.place, v] 25 (0, 0)) := by
            rw [hblk _ (by omega) (fun e => by have := (HO.out.lt _ e.symm).1; omega), hb3w.block _ (by omega)]
            exact HOC.out
          have hB4 : Below (w.heap.size + 2) ((w.alloc (nbox x (some ⟨b, o, none⟩) c)).alloc (.cells #[.int .i64 0, .string ⟨#[]⟩, .int .u64 0, .int .i64 0, .slice none 0 0] 25)) w4 :=
            (((HB.out.trans (hb3w.mono (by omega))).alloc (by omega) _).grown hgrow (by rw [size_alloc]; omega) (fun k hk => by have := (HO.out.lt k hk).1; omega))
          have HN := Lib.hid hnew
          have HB4 := Lib.hid hB4
          have HK := Lib.hid hblk
          have HO4 := Lib.hid hown4
          have HR3 := Lib.hid hrd3
          have HAT := Lib.hid hat
          have HV := Lib.hid hvl
          have HS4 := Lib.hid hgrow.size
          clear hnew hB4 hblk hown4 hrd3 hat hvl hgrow KSA
          go_wp2_with fail
          go_roundw
          case measure => simp [intOf]; omega
          case rel =>
            refine ⟨j + 1, bs ++ [(A3, c3)], .slice (some ⟨g, 0, none⟩) (j + 1) cap, by omega, by go_num, by simp [hbl], ?_, ?_, ?_, HB4.out.setCell (p := ⟨w.heap.size + 1 + 1, 4, none⟩) (by show w.heap.size + 2 ≤ w.heap.size + 1 + 1; omega) _⟩
            · have hn := HN.out
              simp [World.setCell, Array.getElem?_modify, hn]
            · have h4 := ownsRow_setCell_below HO4.out (a := ⟨w.heap.size + 1 + 1, 4, none⟩) (by show w.heap.size + 1 + 1 < w.heap.size + 3; omega) (.slice (some ⟨g, 0, none⟩) (j + 1) cap)
              rw [List.take_add_one, hy, Option.toList_some, flat_snoc (by rw [List.length_take]; omega)]
              exact h4
            · intro i y2 a2 hi2 ha2 w'' hw''
              have hset : ∀ k, w.heap.size + 3 ≤ k → (w4.setCell ⟨w.heap.size + 1 + 1, 4, none⟩ (.slice (some ⟨g, 0, none⟩) (j + 1) cap)).heap[k]? = w4.heap[k]? := fun k hk => Below.heap_setCell _ _ _ _ (by show k ≠ w.heap.size + 1 + 1; omega)
              have hss : (w4.setCell ⟨w.heap.size + 1 + 1, 4, none⟩ (.slice (some ⟨g, 0, none⟩) (j + 1) cap)).heap.size = w4.heap.size := by simp [World.setCell]
              rw [hss] at hw''
              have hsz4 : w3.heap.size ≤ w4.heap.size := by have := HS4.out; rw [size_alloc] at this; omega
              have hg2 : ∀ k, k < w3.heap.size → some k ≠ v.ownBlock → some k ≠ (Value.slice (some ⟨g, 0, none⟩) (j + 1) cap).ownBlock := fun k hk hne e => by
                simp only [Value.ownBlock, Option.some.injEq] at e
                rcases HAT.out with h | h
                · exact hne (by rw [h, e])
                · omega
              by_cases hij : i < j
              · rw [List.getElem?_append_left (by omega)] at ha2
                refine HRD.out i y2 a2 hi2 ha2 w'' (fun k hk1 hk2 hne => ?_)
                rw [hw'' k hk1 (by omega) (hg2 k (by omega) hne), hset k hk1, HK.out k (by omega) hne, hb3w.block k hk2]
              · have hij2 : i = j := by
                  have := (List.getElem?_eq_some_iff.1 ha2).1
                  simp [hbl] at this; omega
                subst hij2
                rw [List.getElem?_append_right (by omega), hbl, Nat.sub_self] at ha2
                simp at ha2
                subst ha2
                rw [hy] at hi2
                simp at hi2
                subst hi2
                refine HR3.out w'' (fun k hk1 hk2 => ?_)
                have hk1' : wr.heap.size ≤ k := hk1
                have hne : some k ≠ v.ownBlock := fun e => by have := HV.out k e.symm; omega
                rw [hw'' k (by omega) (by omega) (hg2 k hk2 hne), hset k (by omega), HK.out k hk2 hne]
      · have hj2 : j = x.list.length := by omega
        subst hj2
        have HO := HO.out
        rw [List.take_length] at HO
        have hrc : ∀ k, w.heap.size + 3 ≤ k → k < wr.heap.size → True := fun _ _ _ => trivial
        clear hrc
        have hsw : w.heap.size + 3 ≤ wr.heap.size := by
          rcases Nat.lt_or_ge (w.heap.size + 2) wr.heap.size with h' | h'
          · omega
          · have := HOC.out; simp [Array.getElem?_eq_none h'] at this
        obtain ⟨A9, c9, hv, -⟩ := rd_own HO hbl (fun i y a hi ha => HRD.out i y a hi ha wr (fun _ _ _ _ => rfl))
        subst hv
        have HO := Lib.hid HO
        have e0 : ∀ k, wr.cell? ⟨w.heap.size + 1 + 1, k, none⟩ = (#[.int .i64 x.kind, .string x.text, .int .u64 x.num, .int .i64 x.place, .slice A9 x.list.length c9] : Array Value)[k]? := fun k => Lib.cell_of_heap HOC.out k
        have q0 := e0 0
        have q1 := e0 1
        have q2 := e0 2
        have q3 := e0 3
        have q4 := e0 4
        have hz : wr.heap[w.heap.size + 1]? = some (.cells #[.int .i64 0, .string ⟨#[]⟩, .int .u64 0, .int .i64 0, .slice none 0 0] 25 (0, 0)) := by
          rw [HB.out.block (w.heap.size + 1) (by omega)]
          have := heap_alloc_new (w.alloc (nbox x A c)) (.cells #[.int .i64 0, .string ⟨#[]⟩, .int .u64 0, .int .i64 0, .slice none 0 0] 25)
          rw [size_alloc] at this
          exact this
        have e1 : ∀ k, wr.cell? ⟨w.heap.size + 1, k, none⟩ = (#[.int .i64 0, .string ⟨#[]⟩, .int .u64 0, .int .i64 0, .slice none 0 0] : Array Value)[k]? := fun k => Lib.cell_of_heap hz k
        have f1 : ∀ k, wr.frozen? ⟨w.heap.size + 1, k, none⟩ = false := fun k => Lib.frozen_of_heap hz k
        have r0 := e1 0
        have r1 := e1 1
        have r2 := e1 2
        have r3 := e1 3
        have r4 := e1 4
        have HZ := Lib.hid hz
        clear e0 e1 hz
        go_wp2_with fail
        show bodyPost _ _ _ _ _ (put5 wr (w.heap.size + 1) (.int .i64 x.kind) (.string x.text) (.int .u64 x.num) (.int .i64 x.place) (.slice A9 x.list.length c9))
        refine bodyPost_ret (results_cell_row rfl _ _ (w.heap.size + 1) 25 #[.int .i64 x.kind, .string x.text, .int .u64 x.num, .int .i64 x.place, .slice A9 x.list.length c9] (0, 0) _ rfl (put5_same _ _ _ _ _ HZ.out) Tryz.underlying25 rfl (by kernel_rfl)) rfl ?_
        refine ⟨⟨A9, c9, rfl, fun w'' hw'' => ?_⟩, box_below (put5_below (two_first HB.out) (Nat.le_refl _) _ _ _ _ _)⟩
        rw [put5_size] at hw''
        refine own_final HO.out hbl (fun i y a hi ha => HRD.out i y a hi ha w'' (fun k hk1 hk2 _ => ?_)) (fun k hk => ?_)
        · rw [hw'' k (by omega) hk2, put5_other _ _ _ _ _ _ _ (by omega)]
        · have := HO.out.lt k hk
          rw [hw'' k (by omega) this.2, put5_other _ _ _ _ _ _ _ (by omega)]
end Go.Proofs.YtoemljgkofhhpaaGreatDoor
