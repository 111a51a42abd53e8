import Derived.Test.YtoemljgkofhhpaaGreatDoorPgF
import Derived.Test.YtoemljgkofhhpaaGreatDoorRefC
import Derived.Deep.RegionHeld3
namespace Go.Proofs.YtoemljgkofhhpaaGreatDoor
open Go.RowKit

theorem IsB.keep {B b : Nat} {t : ByteArray} {w w' : World} (h : IsB B b t w) (hb : Below w.heap.size w w') : IsB B b t w' := by
  have key : ∀ p, Lib.BuilderAt 54 5 B b p (Lib.strCells t) w → Lib.BuilderAt 54 5 B b p (Lib.strCells t) w' := fun p hp => by
    have hlt := hp.lt
    obtain ⟨h1, v, h2, h3, h4⟩ := hp
    exact ⟨h1, v, by rw [hb.block b hlt]; exact h2, owns_below h3 hb, h4⟩
  rcases h with h | h
  · exact .inl (key _ h)
  · exact .inr (key _ h)
theorem fresh_isB (w : World) : IsB w.heap.size w.heap.size ⟨#[]⟩ (w.alloc (.cells #[.pointer none, .slice none 0 0] 54)) := Lib.fresh_isBuilder 54 5 w
/-- A box of a node stands through a write. -/
theorem kept_box {w w' : World} {b g : Nat} {cs : Array Value} {t : TypeId} {fz : Nat × Nat} (h : Lib.OthersKept 5 (some b) w w') (hg : w.heap[g]? = some (.cells cs t fz)) (hb : g ≠ b) (ht : t ≠ 5) : w'.heap[g]? = some (.cells cs t fz) := by
  refine h g _ hg (by simpa using hb) ?_
  intro c fz' e
  simp only [Obj.cells.injEq] at e
  exact ht e.2.1
theorem PAt.keep' {w w' : World} {pb n B : Nat} (h : PAt w pb n) (hb : Below B w w') (hp : pb < B) : PAt w' pb n := by
  unfold PAt; rw [hb.block pb hp]; exact h
theorem IsB.lt {B b : Nat} {t : ByteArray} {w : World} (h : IsB B b t w) : b < w.heap.size := by
  rcases h with h | h <;> exact h.lt
theorem IsB.set {B b pb : Nat} {t : ByteArray} {w : World} (h : IsB B b t w) (hp : pb < B) (v : Value) : IsB B b t (w.setCell ⟨pb, 0, none⟩ v) := by
  have key : ∀ p, Lib.BuilderAt 54 5 B b p (Lib.strCells t) w → Lib.BuilderAt 54 5 B b p (Lib.strCells t) (w.setCell ⟨pb, 0, none⟩ v) := fun p hh => by
    obtain ⟨h1, u, h2, h3, h4⟩ := hh
    exact ⟨h1, u, by rw [Below.heap_setCell w ⟨pb, 0, none⟩ v b (by show b ≠ pb; omega)]; exact h2, ownsRow_setCell_below h3 (a := ⟨pb, 0, none⟩) hp v, h4⟩
  rcases h with h | h
  · exact .inl (key _ h)
  · exact .inr (key _ h)
theorem below_reset {w wr : World} {pb n : Nat} (h : PAt w pb n) (v : Value) (hb : Below w.heap.size (w.setCell ⟨pb, 0, none⟩ v) wr) (hp : PAt (wr.setCell ⟨pb, 0, none⟩ (.int .i64 (n : Int))) pb n) : Below w.heap.size w (wr.setCell ⟨pb, 0, none⟩ (.int .i64 (n : Int))) := by
  refine ⟨hb.os, hb.tape, hb.output, by have := hb.size; simpa [World.setCell] using this, fun i hi => ?_⟩
  by_cases e : i = pb
  · subst e; rw [show (wr.setCell ⟨i, 0, none⟩ (.int .i64 (n : Int))).heap[i]? = _ from hp]; exact h.symm
  · rw [Below.heap_setCell wr ⟨pb, 0, none⟩ _ i e, hb.block i hi, Below.heap_setCell w ⟨pb, 0, none⟩ v i e]
/-- What the statement's region loads. -/
def Loads (pb n : Nat) (g : Nat) (y : T) (A : Option Addr) (c : Nat) (w' : World) : Prop :=
  w'.cell? ⟨pb, 0, none⟩ = some (.int .i64 ((n : Int) + 1)) ∧ w'.cell? ⟨g, 0, none⟩ = some (.int .i64 y.kind) ∧ w'.cell? ⟨g, 1, none⟩ = some (.string y.text) ∧ w'.cell? ⟨g, 2, none⟩ = some (.int .u64 y.num) ∧
    w'.cell? ⟨g, 3, none⟩ = some (.int .i64 y.place) ∧ w'.cell? ⟨g, 4, none⟩ = some (.slice A y.list.length c)
theorem loads_of {pb n g : Nat} {y : T} {A : Option Addr} {c : Nat} {w' : World} (hp : PAt w' pb (n + 1)) (hg : w'.heap[g]? = some (nbox y A c)) : Loads pb n g y A c w' := by
  have e : ∀ j, w'.cell? ⟨g, j, none⟩ = (#[.int .i64 y.kind, .string y.text, .int .u64 y.num, .int .i64 y.place, .slice A y.list.length c] : Array Value)[j]? := fun j => Lib.cell_of_heap hg j
  refine ⟨?_, e 0, e 1, e 2, e 3, e 4⟩
  rw [hp.cell]; rfl

set_option maxRecDepth 100000 in
set_option maxHeartbeats 4000000 in
theorem linesP_any {d : Nat} (hS : StmtP d) (l : List T) (n : Nat) (A : Option Addr) (c pb : Nat) (w : World) (hn : n + 1 + d ≤ 200) (hl : l.length ≤ 1048576) (hk : ∀ y ∈ l, isStmtB y.kind = true) (hg : ∀ y ∈ l, goodB d y = true) (hF : ∀ y ∈ l, Fine y)
    (hb : T.bulks l ≤ 1048576) (hR : Rd w l A c) (hP : Pr w pb n) :
    Calls Tryz.prog 67 #[.pointer (some ⟨pb, 0, none⟩), .slice A l.length c] w fun e w' => e = .returned (.string (linesF (n + 1) (stmtT d (n + 1)) l)) ∧ Below w.heap.size w w' := by
  have hn2 : n + 1 ≤ 1000 := by omega
  have hcast : ((n + 1 : Nat) : Int) = (n : Int) + 1 := by omega
  generalize hts : (l.map fun y => tabsT (n + 1) ++ stmtT d (n + 1) y ++ (⟨#[10]⟩ : ByteArray)) = ts
  have he : linesF (n + 1) (stmtT d (n + 1)) l = catT ts := by rw [← hts]; rfl
  have hat : ∀ j y, l[j]? = some y → ts[j]? = some (tabsT (n + 1) ++ stmtT d (n + 1) y ++ ⟨#[10]⟩) := fun j y h => by rw [← hts, List.getElem?_map, h]; rfl
  have htl : ts.length = l.length := by rw [← hts, List.length_map]
  have hsz : ∀ j, (catT (ts.take j)).size ≤ 1048576000 := fun j => by
    have h1 := cat_bulk (l := l.take j) (f := fun y => tabsT (n + 1) ++ stmtT d (n + 1) y ++ (⟨#[10]⟩ : ByteArray)) (fun y hy => by
      have hm := List.mem_of_mem_take hy
      have := (txt_short d y (n + 1) (hg y hm) (hF y hm).wf hn).2.2
      simp only [ba_size, ba_mk, tabsT_size, List.size_toArray, List.length_cons, List.length_nil]; omega)
    have h2 : T.bulks (l.take j) + T.bulks (l.drop j) = T.bulks l := by rw [← T.bulks_append, List.take_append_drop]
    rw [List.map_take, hts] at h1
    omega
  have hW1 : (w.setCell ⟨pb, 0, none⟩ (.int .i64 ((n : Int) + 1))).heap.size = w.heap.size := by simp [World.setCell]
  have hP1 : Pr (w.setCell ⟨pb, 0, none⟩ (.int .i64 ((n : Int) + 1))) pb (n + 1) := by have := hP.set (n + 1); rw [hcast] at this; exact this
  have hR1 : Rd (w.setCell ⟨pb, 0, none⟩ (.int .i64 ((n : Int) + 1))) l A c := hR.set hP.at_ _
  have hpc := hP.at_.cell
  have hpf := hP.at_.frozen
  have HPA := Lib.hid hP.at_
  have HX := Lib.hid he
  have HAT := Lib.hid hat
  have HTL := Lib.hid htl
  have HSZ := Lib.hid hsz
  have HS := Lib.hid hS
  have HK := Lib.hid hk
  have HG := Lib.hid hg
  have HF := Lib.hid hF
  have HR := Lib.hid hR1
  have HP := Lib.hid hP1
  have HW := Lib.hid hW1
  have HC := Lib.hid hcast
  clear he hat hsz hS hk hg hF hR hts htl hb hP hR1 hP1 hW1 hcast
  go_enter Tryz.func67, Tryz.ntmps67
  go_wp2_with fail
  go_loopw [17] (fun i wr => ∃ j : Nat, j ≤ l.length ∧ i = .int .i64 j ∧ IsB w.heap.size w.heap.size (catT (ts.take j)) wr ∧ Below w.heap.size (w.setCell ⟨pb, 0, none⟩ (.int .i64 ((n : Int) + 1))) wr) (fun i _ => l.length - (intOf i).toNat)
  case atStart =>
    refine ⟨0, Nat.zero_le _, rfl, ?_, (Below.refl _ _).alloc (by rw [HW.out]; omega) _⟩
    have := fresh_isB (w.setCell ⟨pb, 0, none⟩ (.int .i64 ((n : Int) + 1)))
    rw [HW.out] at this
    exact this
  case round =>
    obtain ⟨j, hj, rfl, hI, hB⟩ := hrel
    have HB := Lib.hid hB
    have HI := Lib.hid hI
    have hcs := HSZ.out j
    clear hB hI
    by_cases hlt : j < l.length
    · obtain ⟨y, hy⟩ : ∃ y, l[j]? = some y := ⟨l[j], by simp⟩
      obtain ⟨b, o, A', c', rfl, hc, hr⟩ := HR.out.at_ hy
      have hB1 : Below (w.setCell ⟨pb, 0, none⟩ (.int .i64 ((n : Int) + 1))).heap.size (w.setCell ⟨pb, 0, none⟩ (.int .i64 ((n : Int) + 1))) wr := by rw [HW.out]; exact HB.out
      obtain ⟨h0, h1, h2, h3, h4⟩ := hc.below hB1
      have hm := List.mem_of_getElem? hy
      have hys := stmt_le (n := n + 1) (HG.out y hm) (HF.out y hm) hn
      have hsw : w.heap.size ≤ wr.heap.size := by have := HB.out.size; rw [HW.out] at this; exact this
      have hWr : ∀ W, Below (wr.alloc (nbox y A' c')).heap.size (wr.alloc (nbox y A' c')) W → Below wr.heap.size wr W := fun W h => below_then ((Below.refl _ wr).alloc (Nat.le_refl _) _) (by rw [size_alloc]; omega) h
      have hprs : ∀ W, Below (wr.alloc (nbox y A' c')).heap.size (wr.alloc (nbox y A' c')) W → Pr W pb (n + 1) := fun W h => (HP.out.keep hB1).keep (hWr W h)
      have CT := Lib.hid (fun W => HC.out ▸ tabsP_any (n + 1) hn2 W)
      have CS := Lib.hid (fun W (h : Below (wr.alloc (nbox y A' c')).heap.size (wr.alloc (nbox y A' c')) W) => HS.out y (n + 1) A' c' pb W hn (HK.out y hm) (HG.out y hm) (HF.out y hm) ((hr.keep hB1).keep (hWr W h)) (hprs W h))
      have CW := Lib.hid (fun W (h : Below (wr.alloc (nbox y A' c')).heap.size (wr.alloc (nbox y A' c')) W) => write_any w.heap.size w.heap.size (catT (ts.take j)) (tabsT (n + 1) ++ stmtT d (n + 1) y ++ ⟨#[10]⟩) W (HI.out.keep (hWr W h))
        (by simp only [ba_size, ba_mk, tabsT_size, List.size_toArray, List.length_cons, List.length_nil]; omega) (by have := (hWr W h).size; omega))
      have LD := Lib.hid (fun W (h : Below (wr.alloc (nbox y A' c')).heap.size (wr.alloc (nbox y A' c')) W) => loads_of (hprs W h).at_ ((h.block wr.heap.size (by rw [size_alloc]; omega)).trans (heap_alloc_new wr _)))
      have L2 := Lib.hid (fun W W' (h : Below (wr.alloc (nbox y A' c')).heap.size (wr.alloc (nbox y A' c')) W) (hbw : Below w.heap.size W W') (hkw : Lib.OthersKept 5 (some w.heap.size) W W') =>
        loads_of (y := y) (A := A') (c := c') (PAt.keep' (hprs W h).at_ hbw (by have := HPA.out.lt; omega)) (kept_box hkw ((h.block wr.heap.size (by rw [size_alloc]; omega)).trans (heap_alloc_new wr _)) (by have := HI.out; have := IsB.lt this; omega) (by decide)))
      have HY := Lib.hid (HAT.out j y hy)
      have HWr := Lib.hid hWr
      have hns := tabsT_size (n + 1)
      have HD := Lib.hid (show Below (wr.alloc (nbox y A' c')).heap.size (wr.alloc (nbox y A' c')) (wr.alloc (nbox y A' c')).drew from (Below.refl _ _).drew)
      have q0 : ¬ 9223372036854775807 < (tabsT (n + 1)).size + (stmtT d (n + 1) y).size := by omega
      have q1 : ¬ 9223372036854775807 < (tabsT (n + 1)).size + (stmtT d (n + 1) y).size + 1 := by omega
      clear hc hr hm hy hB1 hWr hprs hns
      go_wp2_with fail
      go_region_held3 (fun w' => w'.cell? ⟨pb, 0, none⟩ = some (.int .i64 ((n : Int) + 1)) ∧ w'.cell? ⟨wr.heap.size, 0, none⟩ = some (.int .i64 y.kind) ∧ w'.cell? ⟨wr.heap.size, 1, none⟩ = some (.string y.text) ∧ w'.cell? ⟨wr.heap.size, 2, none⟩ = some (.int .u64 y.num) ∧
          w'.cell? ⟨wr.heap.size, 3, none⟩ = some (.int .i64 y.place) ∧ w'.cell? ⟨wr.heap.size, 4, none⟩ = some (.slice A' y.list.length c'))
        (first
          | exact LD.out _ HD.out
          | exact LD.out _ (below_then HD.out HD.out.size hbt)
          | exact LD.out _ (below_then HD.out HD.out.size hbs)
          | exact LD.out _ (below_then (below_then HD.out HD.out.size hbt) (below_then HD.out HD.out.size hbt).size hbs)
          | exact LD.out _ (below_then (below_then HD.out HD.out.size hbs) (below_then HD.out HD.out.size hbs).size hbt)
          | exact L2.out _ _ (below_then (below_then HD.out HD.out.size hbt) (below_then HD.out HD.out.size hbt).size hbs) hbw hkw
          | exact L2.out _ _ (below_then (below_then HD.out HD.out.size hbs) (below_then HD.out HD.out.size hbs).size hbt) hbw hkw)
        (first
          | (go_at_call 68; refine (CT.out _).mono ?_; rintro e wt ⟨rfl, hbt⟩)
          | (go_at_call 91; refine (CS.out _ ?_).mono ?_; (first | exact HD.out | exact below_then HD.out HD.out.size hbt); rintro e ws ⟨rfl, hbs⟩)
          | (go_at_call 28; refine (CW.out _ ?_).mono ?_; (first | exact below_then (below_then HD.out HD.out.size hbt) (below_then HD.out HD.out.size hbt).size hbs | exact below_then (below_then HD.out HD.out.size hbs) (below_then HD.out HD.out.size hbs).size hbt); rintro e ww ⟨rfl, hib, hbw, hkw⟩))
      all_goals have HB1 := Lib.hid ((HB.out.trans ((HWr.out _ (by first | exact below_then (below_then HD.out HD.out.size hbt) (below_then HD.out HD.out.size hbt).size hbs | exact below_then (below_then HD.out HD.out.size hbs) (below_then HD.out HD.out.size hbs).size hbt)).mono hsw)).trans hbw)
      all_goals have HI1 := Lib.hid hib
      all_goals clear hbt hbs hbw hkw hib
      all_goals go_wp2_with fail
      all_goals
        go_roundw
        case rel => exact ⟨j + 1, by omega, by go_num, by rw [catT_take HY.out]; exact HI1.out, HB1.out⟩
        case measure => simp [intOf]; omega
    · have hjt : ts.take j = ts := List.take_of_length_le (by have := HTL.out; omega)
      have hI2 := HI.out
      rw [hjt] at hI2
      have hB1 : Below (w.setCell ⟨pb, 0, none⟩ (.int .i64 ((n : Int) + 1))).heap.size (w.setCell ⟨pb, 0, none⟩ (.int .i64 ((n : Int) + 1))) wr := by rw [HW.out]; exact HB.out
      have hpw := HP.out.keep hB1
      have hpc2 : wr.cell? ⟨pb, 0, none⟩ = some (.int .i64 ((n : Int) + 1)) := by rw [hpw.at_.cell, HC.out]
      have hpf2 := hpw.at_.frozen
      have hlt2 := HPA.out.lt
      have hsw : w.heap.size ≤ wr.heap.size := by have := HB.out.size; rw [HW.out] at this; exact this
      have CST := Lib.hid (string_any w.heap.size w.heap.size (catT ts) (wr.setCell ⟨pb, 0, none⟩ (.int .i64 (n : Int))) (hI2.set hlt2 _) (by simpa [World.setCell] using hsw))
      have HBK := Lib.hid (below_reset HPA.out _ HB.out (hpw.at_.set n))
      clear hjt hI2 hB1 hpw hlt2 hsw
      go_wp2_with fail
      refine CST.out.mono ?_
      rintro e w2 ⟨rfl, hbw⟩
      have HB2 := Lib.hid (HBK.out.trans hbw)
      clear hbw
      go_wp2_with fail
      go_ret
      exact ⟨by rw [HX.out]; rfl, HB2.out⟩
end Go.Proofs.YtoemljgkofhhpaaGreatDoor
