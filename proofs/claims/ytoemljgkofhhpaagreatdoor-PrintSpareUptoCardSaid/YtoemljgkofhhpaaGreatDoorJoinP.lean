import Derived.Test.YtoemljgkofhhpaaGreatDoorRefTyp
import Derived.Test.YtoemljgkofhhpaaGreatDoorPgT
import Derived.Test.YtoemljgkofhhpaaGreatDoorWrt
import Derived.Laws.OwnMore
namespace Go.Proofs.YtoemljgkofhhpaaGreatDoor
open Go.RowKit

theorem infoS : (Tryz.prog.info? 9).map (fun i => (i.zero, i.size, i.bytes)) = some (some (.string ByteArray.empty), 1, 16) := by kernel_rfl
theorem owns_below {w w' : World} {B : Nat} {e : TypeId} {v : Value} {n : Nat} {xs : List Value} (h : w.ownsRow B e 1 v n xs) (hb : Below w.heap.size w w') : w'.ownsRow B e 1 v n xs := by
  refine ⟨h.1, ?_⟩
  rcases h.2 with h2 | ⟨g, cap, cur, h1, h2, h3, h4⟩
  · exact .inl h2
  · refine .inr ⟨g, cap, cur, h1, h2, ?_, h4⟩
    rw [hb.block g ?_]
    · exact h3
    · rcases Nat.lt_or_ge g w.heap.size with h' | h'
      · exact h'
      · simp [Array.getElem?_eq_none h'] at h3
theorem grown_below {B : Nat} {w w1 w2 : World} {v : Value} {e : TypeId} {n : Nat} {xs : List Value} (hb : Below B w w1) (hB : B ≤ w1.heap.size) (hown : w1.ownsRow B e 1 v n xs) (hg : w1.grownBy w2 v.ownBlock) : Below B w w2 :=
  hb.grown hg hB (fun k hk => (hown.lt k hk).1)
theorem cell_new1 (w : World) (v : Value) (t : TypeId) : ∀ j u, ([v] : List Value)[j]? = some u → (w.alloc (.cells #[v] t)).cell? ((⟨w.heap.size, 0, none⟩ : Addr).add j) = some u := by
  intro j u hj
  cases j with
  | zero => simp at hj; subst hj; simp [Addr.add, World.cell?_alloc_new]
  | succ j => simp at hj
/-- strings.Join over an owned row of strings. -/
theorem join_own (v : Value) (ts : List ByteArray) (w : World) (B : Nat) (hown : w.ownsRow B 9 1 v ts.length (ts.map Value.string)) (hl : ts.length ≤ 1048576) (hlen : (joinT ts).size ≤ 140737488355328) :
    Calls Tryz.prog 66 #[v, .string ⟨#[44, 32]⟩] w fun e w' => e = .returned (.string (joinT ts)) ∧ Below w.heap.size w w' := by
  rcases hown.2 with ⟨rfl, h0⟩ | ⟨g, cap, cur, rfl, hB, hg, hn, hc, hs, ht⟩
  · have : ts = [] := by simpa using h0
    subst this
    refine (Tryz.strings_Join_none none 0 _ w).mono ?_
    rintro e w' ⟨rfl, rfl⟩
    exact ⟨rfl, Below.refl _ _⟩
  · have hj := joinT_lib ts
    have hlt : g < w.heap.size := by
      rcases Nat.lt_or_ge g w.heap.size with h' | h'
      · exact h'
      · simp [Array.getElem?_eq_none h'] at hg
    have hcells : ∀ (j : Nat) x, ts[j]? = some x → w.cell? ⟨g, 0 + j, none⟩ = some (.string x) := fun j x hx => by
      have := hown.cellAt j (by rw [Nat.mul_one]; exact (List.getElem?_eq_some_iff.1 hx).1)
      rw [Nat.zero_add, this]; simp [hx]
    have h := Tryz.strings_Join g 0 cap ts ⟨#[44, 32]⟩ w hcells hlt (by omega) hn (by
      have e : (joinT ts).size = (Lib.join (ts.map (·.data.toList)) [44, 32]).length := by rw [← hj]; simp [ba_mk]
      have : (⟨#[44, 32]⟩ : ByteArray).data.toList = [44, 32] := rfl
      rw [this, ← e]; exact hlen)
    refine h.mono ?_
    rintro e w' ⟨rfl, hb⟩
    exact ⟨by rw [← hj], hb⟩

set_option maxRecDepth 100000 in
set_option maxHeartbeats 4000000 in
theorem joinP_any (f : T → ByteArray) (fid : FuncId) (first : Array Value) (hent : ∀ args w, (callFunc fid args).run Tryz.prog w = .ok (.enter fid args) w)
    (l : List T) (A : Option Addr) (c : Nat) (w : World) (hl : l.length ≤ 1048576)
    (hcall : ∀ (y : T) (A' : Option Addr) (c' : Nat) (w' : World), y ∈ l → Below w.heap.size w w' → Rd w' y.list A' c' → Calls Tryz.prog fid (first.push (nv y A' c')) w' fun e w'' => e = .returned (.string (f y)) ∧ Below w'.heap.size w' w'')
    (hlen : (joinT (l.map f)).size ≤ 1048576000) (hR : Rd w l A c) :
    Calls Tryz.prog 30 #[.slice A l.length c, .func (.func fid) first #[]] w fun e w' => e = .returned (.string (joinT (l.map f))) ∧ Below w.heap.size w w' := by
  obtain ⟨i0, hi, hz0, hz1, hz2⟩ := info_parts infoS
  have HR := Lib.hid hR
  have HC := Lib.hid hcall
  clear hR hcall
  go_enter Tryz.func30, Tryz.ntmps30
  go_wp2_with fail
  go_loopw [5, 10] (fun s i wr => ∃ (j : Nat) (v : Value), j ≤ l.length ∧ i = .int .i64 j ∧ v = s ∧ wr.ownsRow w.heap.size 9 1 v j (((l.map f).take j).map Value.string) ∧ Below w.heap.size w wr) (fun _ i _ => l.length - (intOf i).toNat)
  case atStart => exact ⟨0, _, Nat.zero_le _, rfl, rfl, World.ownsRow_nil _ _ _ _, Below.refl _ _⟩
  case round =>
    obtain ⟨j, v, hj, rfl, rfl, hown, hB⟩ := hrel
    have HB := Lib.hid hB
    have HO := Lib.hid hown
    clear hB hown
    by_cases hlt : j < l.length
    · obtain ⟨y, hy⟩ : ∃ y, l[j]? = some y := ⟨l[j], by simp⟩
      obtain ⟨b, o, A', c', rfl, hc, hr⟩ := HR.out.at_ hy
      obtain ⟨h0, h1, h2, h3, h4⟩ := hc.below HB.out
      go_wp2_with fail
      refine (HC.out y A' c' _ (List.mem_of_getElem? hy) (HB.out.alloc HB.out.size _) ((hr.keep HB.out).keep one_below)).mono ?_
      rintro e w1 ⟨rfl, hb⟩
      have HB1 := Lib.hid (below_then (HB.out.alloc HB.out.size _) (by rw [size_alloc]; have := HB.out.size; omega) hb)
      have HO1 := Lib.hid (owns_below (HO.out.alloc _) hb)
      clear hb hc hr h0 h1 h2 h3 h4
      go_wp2_with (at_builtin; refine wpList_append_own _ rfl _ _ 66 rfl w.heap.size 9 i0 (.string ByteArray.empty) 1 16 Tryz.underlying66 hi hz0 hz1 hz2 rfl (by decide) _ _ _ rfl (HO1.out.alloc _) ⟨w1.heap.size, 0, none⟩ 1 1 [.string (f y)] rfl rfl (cell_new1 _ _ _) ?c2 ?c3 ?c4 ?c5 ?_)
      case c2 => intro u hu; simp at hu; subst hu; rfl
      case c3 => unfold maxLen; omega
      case c4 => omega
      case c5 => have := HB1.out.size; rw [size_alloc]; omega
      intro v' w2 hown' hgrow _
      have HB2 := Lib.hid (grown_below (HB1.out.alloc HB1.out.size _) (by rw [size_alloc]; have := HB1.out.size; omega) (HO1.out.alloc _) hgrow)
      have HO2 := Lib.hid hown'
      have HY := Lib.hid hy
      clear hown' hgrow hy
      go_wp2_with fail
      go_roundw
      case rel => exact ⟨j + 1, _, by omega, by go_num, rfl, by have := HO2.out; rw [List.take_add_one, List.getElem?_map, HY.out]; simpa using this, HB2.out⟩
      case measure => simp [intOf]; omega
    · have hj2 : j = l.length := by omega
      subst hj2
      go_wp2_with fail
      have ho := HO.out
      rw [List.take_of_length_le (by simp)] at ho
      have hjo := join_own v (l.map f) wr w.heap.size (by simpa using ho) (by simpa using hl) (by omega)
      refine hjo.mono ?_
      rintro e w1 ⟨rfl, hb⟩
      have HB1 := Lib.hid (below_then HB.out HB.out.size hb)
      go_wp2_with fail
      go_ret
      exact ⟨rfl, HB1.out⟩
end Go.Proofs.YtoemljgkofhhpaaGreatDoor
