import Derived.Test.YtoemljgkofhhpaaGreatDoorSqA
namespace Go.Proofs.YtoemljgkofhhpaaGreatDoor
open Go.RowKit

theorem fin63 {tmps : Array Value} {W : World} {g : Nat} {x : T} {A : Option Addr} {c : Nat} {R : Ending → World → Prop} (hz : W.heap[g]? = zrow) (hp : tmps.getD 4 undef = .pointer (some ⟨g, 0, none⟩))
    (h : R (.returned (nv x A c)) (put5 W g (.int .i64 x.kind) (.string x.text) (.int .u64 x.num) (.int .i64 x.place) (.slice A x.list.length c))) :
    bodyPost Tryz.prog Tryz.f63 R Exit.ret { tmps := tmps, defers := [] } (put5 W g (.int .i64 x.kind) (.string x.text) (.int .u64 x.num) (.int .i64 x.place) (.slice A x.list.length c)) :=
  bodyPost_ret (results_cell_row rfl _ _ g 25 #[.int .i64 x.kind, .string x.text, .int .u64 x.num, .int .i64 x.place, .slice A x.list.length c] (0, 0) _ hp (put5_same _ _ _ _ _ hz) Tryz.underlying25 rfl (by kernel_rfl)) rfl h
/-- The box of two nodes side by side. -/
abbrev nbox2 (x : T) (A : Option Addr) (c : Nat) (y : T) (A' : Option Addr) (c' : Nat) : Obj :=
  .cells #[.int .i64 x.kind, .string x.text, .int .u64 x.num, .int .i64 x.place, .slice A x.list.length c, .int .i64 y.kind, .string y.text, .int .u64 y.num, .int .i64 y.place, .slice A' y.list.length c'] 25
/-- What holds of the loop over operators of two. -/
structure Ops (w wr : World) (r n g : Nat) (least : Int) (ps : List Pc) (x : T) (A : Option Addr) (c : Nat) (used rest : List Pc) : Prop where
  un : UnB w r wr
  box : wr.heap[g]? = some (.cells #[.int .i64 x.kind, .string x.text, .int .u64 x.num, .int .i64 x.place, .slice A x.list.length c] 25 (0, 0))
  low : w.heap.size < g
  rp : RP wr r rest
  rd : ∀ w' : World, (∀ k, w.heap.size < k → k < wr.heap.size → k ≠ g → w'.heap[k]? = wr.heap[k]?) → Rd w' x.list A c
  split : ps = used ++ rest
  run : runS .b rest = some .b
  dep : dep n rest = some 0
  size : x.size ≤ used.length
  need : (x.need + b2n (twoB x) ≤ lps used ∧ stopP 100 rest) ∨ (twoB x = true ∧ least ≤ bindsT x.text ∧ x.need ≤ lps used ∧ stopP (bindsT x.text + 1) rest)
theorem Ops.lt {w wr : World} {r n g : Nat} {least : Int} {ps : List Pc} {x : T} {A : Option Addr} {c : Nat} {used rest : List Pc} (h : Ops w wr r n g least ps x A c used rest) : g < wr.heap.size := (Array.getElem?_eq_some_iff.1 h.box).1
theorem ops0 {w w3 : World} {r n : Nat} {least : Int} {ps : List Pc} {x : T} {A : Option Addr} {c : Nat} {used rest : List Pc} (hl : r < w.heap.size) (hG : Got (w.alloc zbox) w3 r n ps x A c used rest) (hn : x.need + b2n (twoB x) ≤ lps used) (hst : stopP 100 rest) :
    Ops w (w3.alloc (nbox x A c)) r n w3.heap.size least ps x A c used rest := by
  have hsz := hG.par.size
  have hsa := size_alloc w zbox
  refine ⟨((unB0 hl).step hG.par).step (Par.of one_below), heap_alloc_new w3 _, by omega, hG.rp.keep one_below, fun w' hk => ?_, hG.split, hG.run, hG.dep, hG.size, .inl ⟨hn, hst⟩⟩
  refine hG.rd w' fun k h1 h2 => ?_
  rw [hk k (by omega) (by rw [size_alloc]; omega) (by omega)]
  exact ((Below.refl w3.heap.size w3).alloc (Nat.le_refl _) _).block k h2
theorem Ops.keep {w wr w' : World} {r n g : Nat} {least : Int} {ps : List Pc} {x : T} {A : Option Addr} {c : Nat} {used rest : List Pc} (h : Ops w wr r n g least ps x A c used rest) (hb : Below wr.heap.size wr w') : Ops w w' r n g least ps x A c used rest :=
  ⟨h.un.step (Par.of hb), (hb.block g h.lt).trans h.box, h.low, h.rp.keep hb, fun w'' hk => h.rd w'' fun k h1 h2 h3 => (hk k h1 (Nat.lt_of_lt_of_le h2 hb.size) h3).trans (hb.block k h2), h.split, h.run, h.dep, h.size, h.need⟩
/-- Behind an operator of two and what stands to its right. -/
theorem Ops.bin {w wr w3 w4 : World} {r n g : Nat} {least : Int} {ps : List Pc} {x : T} {A : Option Addr} {c : Nat} {used rest l : List Pc} {s : ByteArray} {a : Int} {y : T} {A' : Option Addr} {c' : Nat} {used' : List Pc}
    (h : Ops w wr r n g least ps x A c used (.bin s :: l)) (hp : Par r wr w3) (hG : Got w3 w4 r n l y A' c' used' rest) (hn : y.need + b2n (twoB y && decide (bindsT y.text < bindsT s + 1)) ≤ lps used') (hst : stopP (bindsT s + 1) rest) (hle : least ≤ bindsT s) :
    Ops w (put5 (w4.alloc (nbox2 x A c y A' c')) g (.int .i64 33) (.string s) (.int .u64 (0 : Int)) (.int .i64 a) (.slice (some ⟨w4.heap.size, 0, none⟩) 2 2)) r n g least ps (T.mk 33 s 0 a [x, y]) (some ⟨w4.heap.size, 0, none⟩) 2 (used ++ .bin s :: used') rest := by
  have hlt := h.lt
  have hlow := h.low
  have hul := h.un.lt
  have hp4 := hp.trans hG.par
  have hsz3 := hp.size
  have hsz := hp4.size
  have hsz4 := hG.par.size
  have hb4 : w4.heap[g]? = some (.cells #[.int .i64 x.kind, .string x.text, .int .u64 x.num, .int .i64 x.place, .slice A x.list.length c] 25 (0, 0)) := (hp4.block g hlt (by omega)).trans h.box
  have hb5 : (w4.alloc (nbox2 x A c y A' c')).heap[g]? = some (.cells #[.int .i64 x.kind, .string x.text, .int .u64 x.num, .int .i64 x.place, .slice A x.list.length c] 25 (0, 0)) := (((Below.refl w4.heap.size w4).alloc (Nat.le_refl _) _).block g (by omega)).trans hb4
  have hU := (h.un.step hp4).step (Par.of (one_below (o1 := nbox2 x A c y A' c')))
  have hpb : Below g (w4.alloc (nbox2 x A c y A' c')) (put5 (w4.alloc (nbox2 x A c y A' c')) g (.int .i64 33) (.string s) (.int .u64 (0 : Int)) (.int .i64 a) (.slice (some ⟨w4.heap.size, 0, none⟩) 2 2)) := put5_below (Below.refl _ _) (Nat.le_refl _) _ _ _ _ _
  have hus := hU.size
  refine ⟨⟨hU.par.low (hpb.mono (by omega)), (hpb.block _ (by omega)).trans hU.res, by rw [put5_size]; exact hus, hul⟩, put5_same _ _ _ _ _ hb5, hlow, (hG.rp.keep one_below).low (hpb.mono (by omega)), fun w' hk => ?_, by rw [h.split, hG.split]; simp, hG.run, hG.dep, ?_, ?_⟩
  · rw [put5_size, size_alloc] at hk
    have hnew : w'.heap[w4.heap.size]? = some (.cells #[.int .i64 x.kind, .string x.text, .int .u64 x.num, .int .i64 x.place, .slice A x.list.length c, .int .i64 y.kind, .string y.text, .int .u64 y.num, .int .i64 y.place, .slice A' y.list.length c'] 25 (0, 0)) := by
      rw [hk _ (by omega) (by omega) (by omega), put5_other _ _ _ _ _ _ _ (by omega)]
      exact heap_alloc_new w4 _
    have e := fun j => Lib.cell_of_heap hnew j
    refine .mk [x, y] _ 2 w4.heap.size 0 (fun i => if i = 0 then A else A') (fun i => if i = 0 then c else c') (by simp) (fun _ => rfl) (fun i z hz => ?_) (fun i z hz => ?_)
    · match i, hz with
      | 0, hz => simp at hz; subst hz; exact ⟨e 0, e 1, e 2, e 3, e 4⟩
      | 1, hz => simp at hz; subst hz; exact ⟨e 5, e 6, e 7, e 8, e 9⟩
      | i + 2, hz => simp at hz
    · match i, hz with
      | 0, hz =>
        simp at hz; subst hz
        refine h.rd w' fun k h1 h2 h3 => ?_
        rw [hk k h1 (by omega) h3, put5_other _ _ _ _ _ _ _ h3, ((Below.refl w4.heap.size w4).alloc (Nat.le_refl _) _).block k (by omega), hp4.block k h2 (by omega)]
      | 1, hz =>
        simp at hz; subst hz
        refine hG.rd w' fun k h1 h2 => ?_
        rw [hk k (by omega) (by omega) (by omega), put5_other _ _ _ _ _ _ _ (by omega), ((Below.refl w4.heap.size w4).alloc (Nat.le_refl _) _).block k (by omega)]
      | i + 2, hz => simp at hz
  · have := h.size
    have := hG.size
    simp only [T.size, T.sizes, List.length_append, List.length_cons]; omega
  · refine .inr ⟨rfl, hle, ?_, hst⟩
    have hx : x.need + b2n (twoB x && decide (bindsT x.text < bindsT s)) ≤ lps used := by
      rcases h.need with ⟨h1, -⟩ | ⟨-, -, h1, h2⟩
      · have : b2n (twoB x && decide (bindsT x.text < bindsT s)) ≤ b2n (twoB x) := by cases twoB x <;> cases decide (bindsT x.text < bindsT s) <;> simp [b2n]
        omega
      · simp only [stopP] at h2
        have : decide (bindsT x.text < bindsT s) = false := by simp; omega
        rw [this]; simp [b2n]; exact h1
    have hy : decide (bindsT y.text < bindsT s + 1) = decide (bindsT y.text ≤ bindsT s) := by simp only [decide_eq_decide]; omega
    rw [hy] at hn
    have e1 : lps (used ++ .bin s :: used') = lps used + lps used' := by simp [lps_append, lps]
    have e2 : (T.mk 33 s 0 a [x, y]).need = x.need + b2n (twoB x && decide (bindsT x.text < bindsT s)) + (y.need + b2n (twoB y && decide (bindsT y.text ≤ bindsT s))) := by
      simp [T.need, T.needs, brk]
    rw [e1, e2]; omega
/-- The end of the loop. -/
theorem Ops.fin {w wr : World} {r n g : Nat} {least : Int} {ps : List Pc} {x : T} {A : Option Addr} {c : Nat} {used rest : List Pc} (h : Ops w wr r n g least ps x A c used rest) :
    Got w (put5 wr w.heap.size (.int .i64 x.kind) (.string x.text) (.int .u64 x.num) (.int .i64 x.place) (.slice A x.list.length c)) r n ps x A c used rest := by
  have hpb : Below w.heap.size wr (put5 wr w.heap.size (.int .i64 x.kind) (.string x.text) (.int .u64 x.num) (.int .i64 x.place) (.slice A x.list.length c)) := put5_below (Below.refl _ _) (Nat.le_refl _) _ _ _ _ _
  have hul := h.un.lt
  refine ⟨h.un.par.low hpb, h.rp.low (hpb.mono (by omega)), fun w' hk => ?_, h.split, h.run, h.dep, h.size⟩
  rw [put5_size] at hk
  refine h.rd w' fun k h1 h2 h3 => ?_
  rw [hk k (by omega) h2, put5_other _ _ _ _ _ _ _ (by omega)]
theorem Ops.fin_need {w wr : World} {r n g : Nat} {least : Int} {ps : List Pc} {x : T} {A : Option Addr} {c : Nat} {used rest : List Pc} (h : Ops w wr r n g least ps x A c used rest) : x.need + b2n (twoB x && decide (bindsT x.text < least)) ≤ lps used := by
  rcases h.need with ⟨h1, -⟩ | ⟨-, h0, h1, -⟩
  · have : b2n (twoB x && decide (bindsT x.text < least)) ≤ b2n (twoB x) := by cases twoB x <;> cases decide (bindsT x.text < least) <;> simp [b2n]
    omega
  · have : decide (bindsT x.text < least) = false := by simp; omega
    rw [this]; simp [b2n]; exact h1
/-- What stands behind an expression so far. -/
inductive Nx (rest : List Pc) : Prop
  | nil (h : rest = [])
  | rp (l : List Pc) (h : rest = .rp :: l)
  | bin (s : ByteArray) (l : List Pc) (h : rest = .bin s :: l)
theorem nx_of {k : Int} {rest : List Pc} (h : stopP k rest) : Nx rest := by
  cases rest with
  | nil => exact .nil rfl
  | cons p l =>
    cases p with
    | rp => exact .rp l rfl
    | bin s => exact .bin s l rfl
    | atom k s => exact h.elim
    | un s => exact h.elim
    | lp => exact h.elim
    | dot => exact h.elim
theorem Ops.nx {w wr : World} {r n g : Nat} {least : Int} {ps : List Pc} {x : T} {A : Option Addr} {c : Nat} {used rest : List Pc} (h : Ops w wr r n g least ps x A c used rest) : Nx rest := by
  rcases h.need with ⟨-, h1⟩ | ⟨-, -, -, h1⟩
  · exact nx_of h1
  · exact nx_of h1
theorem RP.raw {w : World} {r : Nat} {p : Pc} {ps : List Pc} (h : RP w r (p :: ps)) : ∃ tb o c m, w.cell? ⟨r, 0, none⟩ = some (.slice (some ⟨tb, o, none⟩) (m + 1) c) ∧ w.frozen? ⟨r, 0, none⟩ = false ∧ m + 1 ≤ c ∧ ¬ c = 1 ∧
    RP (w.setCell ⟨r, 0, none⟩ (.slice (some ⟨tb, o + 4, none⟩) m (c - 1))) r ps ∧ Par r w (w.setCell ⟨r, 0, none⟩ (.slice (some ⟨tb, o + 4, none⟩) m (c - 1))) := by
  obtain ⟨tb, o, c, e, ts, hm, hr⟩ := h.rdr
  obtain ⟨t, ts', rfl, -, -, hm', hne⟩ := mt_cons hm
  have hl := hr.len
  simp only [List.length_cons] at hl
  have h0 := hr.c0
  simp only [List.length_cons] at h0
  exact ⟨tb, o, c, ts'.length, h0, hr.fz 0, hl, by omega, ⟨⟨_, _, _, _, _, hm', hr.next⟩, base_par h.base ((Par.refl r w).set 0 _)⟩, (Par.refl r w).set 0 _⟩
theorem rp_binds {w : World} {r : Nat} {ps : List Pc} (h : RP w r ps) (s : ByteArray) : Calls Tryz.prog 55 #[.string s] w fun e w' => e = .returned (.int .i64 (bindsT s)) ∧ w = w' := by
  obtain ⟨b, o, c, t, fr, ho⟩ := h.ops
  exact binds_any s w b o c t fr ho
/-- The two boxes that the last region of expr looks at. -/
structure Sees (W : World) (tk g : Nat) (s : ByteArray) (nn a : Int) (x : T) (A : Option Addr) (c : Nat) : Prop where
  tok : W.heap[tk]? = some (.cells #[.int .i64 4, .string s, .int .u64 nn, .int .i64 a] 85 (0, 0))
  box : W.heap[g]? = some (.cells #[.int .i64 x.kind, .string x.text, .int .u64 x.num, .int .i64 x.place, .slice A x.list.length c] 25 (0, 0))
theorem Sees.step {W W' : World} {r tk g : Nat} {s : ByteArray} {nn a : Int} {x : T} {A : Option Addr} {c : Nat} (h : Sees W tk g s nn a x A c) (hp : Par r W W') (h1 : tk ≠ r) (h2 : g ≠ r) : Sees W' tk g s nn a x A c :=
  ⟨(hp.block _ (Array.getElem?_eq_some_iff.1 h.tok).1 h1).trans h.tok, (hp.block _ (Array.getElem?_eq_some_iff.1 h.box).1 h2).trans h.box⟩
theorem Sees.cells {W : World} {tk g : Nat} {s : ByteArray} {nn a : Int} {x : T} {A : Option Addr} {c : Nat} (h : Sees W tk g s nn a x A c) :
    W.cell? ⟨tk, 1, none⟩ = some (.string s) ∧ W.cell? ⟨tk, 3, none⟩ = some (.int .i64 a) ∧ W.cell? ⟨g, 0, none⟩ = some (.int .i64 x.kind) ∧ W.cell? ⟨g, 1, none⟩ = some (.string x.text) ∧ W.cell? ⟨g, 2, none⟩ = some (.int .u64 x.num) ∧
      W.cell? ⟨g, 3, none⟩ = some (.int .i64 x.place) ∧ W.cell? ⟨g, 4, none⟩ = some (.slice A x.list.length c) ∧ ∀ k, W.frozen? ⟨g, k, none⟩ = false :=
  ⟨Lib.cell_of_heap h.tok 1, Lib.cell_of_heap h.tok 3, Lib.cell_of_heap h.box 0, Lib.cell_of_heap h.box 1, Lib.cell_of_heap h.box 2, Lib.cell_of_heap h.box 3, Lib.cell_of_heap h.box 4, fun k => Lib.frozen_of_heap h.box k⟩
set_option maxRecDepth 100000 in
set_option maxHeartbeats 4000000 in
theorem expr_any (ps : List Pc) (hU : UnaryC ps) (hE : ∀ qs : List Pc, qs.length < ps.length → ExprC qs) : ExprC ps := by
  intro w r n least hA hk1 hk6
  have hl := hA.rp.lt
  have C1 := Lib.hid (hU (w.alloc zbox) r n ⟨hA.rp.keep one_below, hA.run, hA.ok, hA.dep⟩)
  have HA := Lib.hid hA
  have HE := Lib.hid hE
  clear hA hE hU
  go_enter Tryz.func63, Tryz.ntmps63
  go_wp2_with fail
  refine C1.out.mono ?_
  rintro e1 w1 ⟨x, A, c, used, rest, rfl, hG, hn, hst⟩
  have HOP := Lib.hid (ops0 (least := least) hl hG hn hst)
  clear hG hn hst
  go_wp2_with fail
  go_loopg [7] (rest.length) (fun k _ wr => ∃ x A c used rest, k = rest.length ∧ Ops w wr r n w1.heap.size least ps x A c used rest)
  case atStart => exact ⟨_, _, _, _, _, rfl, HOP.out⟩
  case round =>
    clear HOP
    obtain ⟨x, A, c, used, rest, rfl, hD⟩ := hrel
    have hrest := run_rest hD.split HA.out.ok
    have C2 := rp_peek hD.rp
    have HD := Lib.hid hD
    have HR := Lib.hid hrest
    have hnx := hD.nx
    clear hD hrest
    cases hnx with
    | nil h =>
      subst h
      simp only [hdK] at C2
      have C2 := Lib.hid C2
      go_wp2_with fail
      refine C2.out.mono ?_
      rintro e1 w2 ⟨nn, a, rfl, hb⟩
      have hD2 := (HD.out.keep hb).keep (one_below (o1 := .cells #[.int .i64 5, .string ⟨#[]⟩, .int .u64 nn, .int .i64 a] 85))
      have hbx := hD2.box
      have k0 := Lib.cell_of_heap hbx 0
      have k1 := Lib.cell_of_heap hbx 1
      have k2 := Lib.cell_of_heap hbx 2
      have k3 := Lib.cell_of_heap hbx 3
      have k4 := Lib.cell_of_heap hbx 4
      obtain ⟨⟨z0, z1, z2, z3, z4⟩, zf⟩ := zero_facts hD2.un.res
      have HD2 := Lib.hid hD2
      clear hb hD2 hbx
      go_wp2_with fail
      refine fin63 (x := x) (A := A) (c := c) HD2.out.un.res rfl ?_
      exact ⟨_, _, _, _, _, rfl, HD2.out.fin, HD2.out.fin_need, trivial⟩
    | rp l h =>
      subst h
      simp only [hdK, keyP] at C2
      have C2 := Lib.hid C2
      go_wp2_with fail
      refine C2.out.mono ?_
      rintro e1 w2 ⟨nn, a, rfl, hb⟩
      have hD2 := (HD.out.keep hb).keep (one_below (o1 := .cells #[.int .i64 4, .string ⟨#[41]⟩, .int .u64 nn, .int .i64 a] 85))
      have C3 := rp_binds hD2.rp ⟨#[41]⟩
      rw [show bindsT ⟨#[41]⟩ = 0 by decide +kernel] at C3
      have C3 := Lib.hid C3
      have hbx := hD2.box
      have k0 := Lib.cell_of_heap hbx 0
      have k1 := Lib.cell_of_heap hbx 1
      have k2 := Lib.cell_of_heap hbx 2
      have k3 := Lib.cell_of_heap hbx 3
      have k4 := Lib.cell_of_heap hbx 4
      obtain ⟨⟨z0, z1, z2, z3, z4⟩, zf⟩ := zero_facts hD2.un.res
      have HD2 := Lib.hid hD2
      clear hb hD2 hbx
      go_wp2_with fail
      refine C3.out.mono ?_
      rintro e1 w3 ⟨rfl, rfl⟩
      go_wp2_with fail
      refine fin63 (x := x) (A := A) (c := c) HD2.out.un.res rfl ?_
      exact ⟨_, _, _, _, _, rfl, HD2.out.fin, HD2.out.fin_need, trivial⟩
    | bin s l h =>
      subst h
      simp only [hdK, keyP] at C2
      have C2 := Lib.hid C2
      go_wp2_with fail
      refine C2.out.mono ?_
      rintro e1 w2 ⟨nn, a, rfl, hb⟩
      obtain ⟨t0, t1, t2, t3⟩ := box4 (w := w2) (Below.refl _ (w2.alloc (.cells #[.int .i64 4, .string s, .int .u64 nn, .int .i64 a] 85)))
      have hsw2 := hb.size
      have hD2 := (HD.out.keep hb).keep (one_below (o1 := .cells #[.int .i64 4, .string s, .int .u64 nn, .int .i64 a] 85))
      have C3 := Lib.hid (rp_binds hD2.rp s)
      have hbx := hD2.box
      have k0 := Lib.cell_of_heap hbx 0
      have k1 := Lib.cell_of_heap hbx 1
      have k2 := Lib.cell_of_heap hbx 2
      have k3 := Lib.cell_of_heap hbx 3
      have k4 := Lib.cell_of_heap hbx 4
      have hpos : 0 < bindsT s := HR.out (.bin s) (by simp)
      have hle5 := binds_le s
      have hgl := HD.out.lt
      have hgr := HD.out.un.lt
      have hglow := HD.out.low
      have HD2 := Lib.hid hD2
      clear hb hD2
      by_cases hlt : bindsT s < least
      · obtain ⟨⟨z0, z1, z2, z3, z4⟩, zf⟩ := zero_facts HD2.out.un.res
        clear hbx
        go_wp2_with fail
        refine C3.out.mono ?_
        rintro e1 w3 ⟨rfl, rfl⟩
        go_wp2_with fail
        refine fin63 (x := x) (A := A) (c := c) HD2.out.un.res rfl ?_
        exact ⟨_, _, _, _, _, rfl, HD2.out.fin, HD2.out.fin_need, hlt⟩
      · obtain ⟨tb, o, cc, m, q0, q1, q2, q3, hr3, hp3⟩ := HD2.out.rp.raw
        have hne0 : (bindsT s == 0) = false := by simp; omega
        have hne1 : decide (bindsT s < least) = false := by simp; omega
        have HR3 := Lib.hid hr3
        have HP3 := Lib.hid hp3
        have HBX := Lib.hid hbx
        clear hr3 hp3 hbx
        go_wp2_with fail
        refine C3.out.mono ?_
        rintro e1 w3 ⟨rfl, rfl⟩
        go_wp2_with fail
        have hsn := HP3.out.size
        have hsa2 := size_alloc w2 (.cells #[.int .i64 4, .string s, .int .u64 nn, .int .i64 a] 85)
        obtain ⟨WR, hWR⟩ : ∃ WR, WR = (w2.alloc (.cells #[.int .i64 4, .string s, .int .u64 nn, .int .i64 a] 85)).setCell ⟨r, 0, none⟩ (.slice (some ⟨tb, o + 4, none⟩) m (cc - 1)) := ⟨_, rfl⟩
        have hsee : Sees WR w2.heap.size w1.heap.size s nn a x A c := by
          rw [hWR]
          exact ⟨(HP3.out.block _ (by omega) (by omega)).trans (heap_alloc_new w2 _), (HP3.out.block _ (by omega) (by omega)).trans HBX.out⟩
        have hRP := HR3.out
        have hPar := HP3.out
        rw [← hWR] at hRP hPar hsn ⊢
        have hDB : Below WR.heap.size WR WR.drew := (Below.refl _ _).drew
        have CE := Lib.hid (fun W (h : Below WR.heap.size WR W) => HE.out l (by have := congrArg List.length HD2.out.split; simp at this; omega) W r n (bindsT s + 1) ⟨hRP.keep h, by simpa [runS, nxt] using HD2.out.run, fun p hp => HR.out p (by simp [hp]), by simpa [YtoemljgkofhhpaaGreatDoor.dep] using HD2.out.dep⟩ (by omega) (by omega))
        have hsd := hsee.step (Par.of (r := r) hDB) (by omega) (by omega)
        obtain ⟨v1, v3, g0, g1, g2, g3, g4, gf⟩ := hsd.cells
        have HSD := Lib.hid hsd
        have HD := Lib.hid hDB
        have HPR := Lib.hid (hPar.trans (Par.of hDB))
        have hr1 : w2.heap.size ≠ r := by omega
        have hr2 : w1.heap.size ≠ r := by omega
        have HNE := Lib.hid (And.intro hr1 hr2)
        have HLT := Lib.hid hlt
        have hwr : IntKind.i64.wrap (bindsT s + 1) = bindsT s + 1 := Go.IntWalk.i64_in _ (by omega)
        clear HR3 HP3 hWR hRP hPar hsn hDB hsee hsd hr1 hr2 k0 k1 k2 k3 k4 t0 t1 t2 t3 q0 q1 q2 q3
        go_region_law (first
          | (go_simp; go_at_call 63; (with_reducible refine (CE.out _ HD.out).mono ?_); rintro e1 w4 ⟨y, A', c', used', rest', rfl, hG, hn, hst⟩; have hs4 := HSD.out.step hG.par HNE.out.1 HNE.out.2; have hs5 := hs4.step (Par.of (r := r) (one_below (o1 := nbox2 x A c y A' c'))) HNE.out.1 HNE.out.2; obtain ⟨a1, a3, b0, b1, b2, b3, b4, bf⟩ := hs4.cells; obtain ⟨d1, d3, f0, f1, f2, f3, f4, ff⟩ := hs5.cells; have HX := Lib.hid (And.intro hG (And.intro hn hst)); clear hG hn hst hs4 hs5))
        all_goals
          go_wp2_with fail
          go_roundg rest'.length
          case measure =>
            have := congrArg List.length HX.out.1.split
            simp at this ⊢; omega
          case rel => exact ⟨_, _, _, _, _, rfl, HD2.out.bin HPR.out HX.out.1 HX.out.2.1 HX.out.2.2 (by have := HLT.out; omega)⟩
theorem all_any (N : Nat) : ∀ ps : List Pc, ps.length < N → UnaryC ps ∧ ExprC ps := by
  induction N with
  | zero => intro ps h; omega
  | succ N ih =>
    intro ps hN
    have hsh : ∀ qs : List Pc, qs.length < ps.length → ExprC qs := fun qs h => (ih qs (by omega)).2
    have hU : UnaryC ps := unary_any ps (operand_any ps hsh) fun s l h => (ih l (by subst h; simp at hN ⊢; omega)).1
    exact ⟨hU, expr_any ps hU hsh⟩
theorem expr_all (ps : List Pc) : ExprC ps := (all_any (ps.length + 1) ps (by omega)).2
end Go.Proofs.YtoemljgkofhhpaaGreatDoor
