import Derived.Test.YtoemljgkofhhpaaGreatDoorLists
import Derived.Shelf.Strconv.Itoa3
import Derived.Test.YtoemljgkofhhpaaGreatDoorSizes
namespace Go.Proofs.YtoemljgkofhhpaaGreatDoor
open Go.RowKit Go.Sort Go.Lib

/-- A number in tens. -/
def digT (u : Nat) : ByteArray := ⟨(Lib.decDigits u).toArray⟩

theorem grow_below (w : World) (k : Nat) (os : Array Obj) : Below w.heap.size w (grow (w.drewN k) os) := by
  have h := drewN_below (Below.refl w.heap.size w) k
  refine h.trans ⟨rfl, rfl, rfl, by show _ ≤ ((w.drewN k).heap ++ os).size; rw [Array.size_append]; have := h.size; omega, fun i hi => ?_⟩
  show ((w.drewN k).heap ++ os)[i]? = _
  exact Array.getElem?_append_left (Nat.lt_of_lt_of_le hi h.size)

set_option maxHeartbeats 6400000 in
set_option maxRecDepth 100000 in
theorem formatU_any (u : Nat) (hu64 : u < 18446744073709551616) (w : World) (htab : Lib.TabIs Tryz.prog w "internal/strconv.uint64pow10" .u64 Lib.pow10Tab) :
    Calls Tryz.prog 73 #[.int .u64 u, .int .i64 10] w fun e w' => e = .returned (.string (digT u)) ∧ Below w.heap.size w w' := by
  by_cases hs : u < 100
  · go_enter Tryz.func73, Tryz.ntmps73
    go_wp2_with (go_at_call 98; refine (Tryz.internal_strconv_small u hs _).mono ?_; rintro e w' ⟨rfl, rfl⟩)
    go_ret
    exact ⟨rfl, Below.refl _ _⟩
  · have hu1 : 1 ≤ u := by omega
    have hnd20 : Lib.nDigits u ≤ 20 := by have := Lib.numDigits_eq u hu1 hu64; split at this <;> omega
    have hb3 : Lib.nDigits u ≤ 24 := by omega
    have hal : Tryz.prog.arrayLen 111 = 24 := by simp [Program.arrayLen, Tryz.underlying111]
    have hsl1 : ∀ W, (Instr.sliceAt 111 (.pointer (some ⟨w.heap.size, 0, none⟩)) none (some (.int .i64 ((Lib.nDigits u : Nat) : Int))) none).run Tryz.prog W = .ok (.slice (some ⟨w.heap.size, 0, none⟩) (Lib.nDigits u) 24) W := fun W => by
      rw [run_sliceAt_array_h W 111 ⟨w.heap.size, 0, none⟩ (by simp [Program.arrayLen, Program.elem, Tryz.underlying111]) .i64 ((Lib.nDigits u : Nat) : Int) (by omega) (by rw [hal]; omega)]
      go_simp
    have hH0 : Holds (fun (b : UInt8) => Value.int .u8 (b.toNat : Int)) (w.alloc (.cells Lib.zeros24 111)) w.heap.size 0 (Array.replicate (Lib.nDigits u) (0 : UInt8)) := fun j hj => by
      have hj' : j < Lib.nDigits u := by simpa using hj
      refine ⟨?_, World.frozen?_alloc_new _ _ _ _⟩
      rw [World.cell?_alloc_new, Lib.zeros24_at _ (by omega), getElem!_pos _ j hj]
      simp
    have hfmt := Tryz.internal_strconv_formatBase10 w.heap.size 0 24 u (Array.replicate (Lib.nDigits u) 0) (w.alloc (.cells Lib.zeros24 111)) hH0 (by rw [Array.size_replicate]; exact Lib.lt_pow_nDigits u) hu64 (by rw [Array.size_replicate]; omega)
    rw [Array.size_replicate] at hfmt
    have HH0 := Lib.hid hH0
    clear hH0 hal
    go_enter Tryz.func73, Tryz.ntmps73
    go_wp2_with (go_at_call 99; refine (Tryz.internal_strconv_numDigits u hu1 hu64 _ (Lib.tabIs_alloc htab _)).mono ?_; rintro e w' ⟨rfl, rfl⟩)
    go_at_call 100
    refine hfmt.mono ?_
    rintro e w' ⟨rfl, k, v', dk, rfl, hF⟩
    have hcv : (convert 52 9 (.slice (some ⟨w.heap.size, 0, none⟩) (Lib.nDigits u) 24)).run Tryz.prog ((putRow (fun (b : UInt8) => Value.int .u8 (b.toNat : Int)) (w.alloc (.cells Lib.zeros24 111)) w.heap.size 0 dk).drewN k) = .ok (.string ⟨(Lib.decDigits u).toArray⟩) ((putRow (fun (b : UInt8) => Value.int .u8 (b.toNat : Int)) (w.alloc (.cells Lib.zeros24 111)) w.heap.size 0 dk).drewN k) := by
      have h := run_convert_bytes_back (P := Tryz.prog) ((putRow (fun (b : UInt8) => Value.int .u8 (b.toNat : Int)) (w.alloc (.cells Lib.zeros24 111)) w.heap.size 0 dk).drewN k) 52 9 5 ⟨w.heap.size, 0, none⟩ 24 (Lib.decDigits u) Tryz.underlying52 Tryz.underlying5 Tryz.underlying9 (fun j hj => by
        rw [Lib.row_is_numeral hF j hj, Lib.add_plain, World.cell?_drewN]
        exact cell?_putRow (fun (b : UInt8) => Value.int .u8 (b.toNat : Int)) _ w.heap.size 0 _ dk HH0.out (by rw [hF.size, Array.size_replicate]) j (by rw [hF.size]; rw [Lib.decDigits_length] at hj; exact hj))
      rw [Lib.decDigits_length] at h
      exact h
    go_wp2
    go_ret
    refine ⟨rfl, ?_⟩
    rw [alloc_eq_grow]
    obtain ⟨os', _, e⟩ := putRow_grow_new (fun (b : UInt8) => Value.int .u8 (b.toNat : Int)) w #[.cells Lib.zeros24 111] w.heap.size 0 dk (Nat.le_refl _)
    rw [e]
    exact grow_below w k os'

theorem formatUint_any (u : Nat) (hu64 : u < 18446744073709551616) (w : World) (htab : Lib.TabIs Tryz.prog w "internal/strconv.uint64pow10" .u64 Lib.pow10Tab) :
    Calls Tryz.prog 49 #[.int .u64 u, .int .i64 10] w fun e w' => e = .returned (.string (digT u)) ∧ Below w.heap.size w w' := by
  go_enter Tryz.func49, Tryz.ntmps49
  go_wp2_with fail
  refine (formatU_any u hu64 w htab).mono ?_
  rintro e w1 ⟨rfl, hb⟩
  have HB := Lib.hid hb
  clear hb
  go_wp2_with fail
  go_ret
  exact ⟨rfl, HB.out⟩

theorem one_digit (wr : World) (d : Nat) (z : Int) (hz : z = ((48 + d : Nat) : Int)) (hd : d < 10) :
    (convert 52 9 (.slice (some ⟨wr.heap.size, 0, none⟩) 1 1)).run Tryz.prog (wr.alloc (.cells #[.int .u8 z] 5)) = .ok (.string ⟨#[UInt8.ofNat (48 + d)]⟩) (wr.alloc (.cells #[.int .u8 z] 5)) := by
  have h := run_convert_bytes_back (P := Tryz.prog) (wr.alloc (.cells #[.int .u8 z] 5)) 52 9 5 ⟨wr.heap.size, 0, none⟩ 1 [UInt8.ofNat (48 + d)] Tryz.underlying52 Tryz.underlying5 Tryz.underlying9 (fun j hj => by
    have hj0 : j = 0 := by simpa using hj
    subst hj0
    rw [Lib.add_plain, World.cell?_alloc_new]
    subst hz
    simp; omega)
  exact h
theorem decDigits_small {v : Nat} (h : v < 10) : Lib.decDigits v = [UInt8.ofNat (48 + v)] := by rw [Lib.decDigits, dif_pos h]
theorem decDigits_big {v : Nat} (h : ¬ v < 10) : Lib.decDigits v = Lib.decDigits (v / 10) ++ [UInt8.ofNat (48 + v % 10)] := by rw [Lib.decDigits, dif_neg h]
theorem digT_size {u : Nat} (hu64 : u < 18446744073709551616) : (Lib.decDigits u).length ≤ 20 := by
  rw [Lib.decDigits_length]
  by_cases h : u < 10
  · rw [Lib.nDigits_small h]; decide
  · have := Lib.numDigits_eq u (by omega) hu64; split at this <;> omega
set_option maxHeartbeats 2000000 in
set_option maxRecDepth 100000 in
theorem digitsR_any (u : Nat) (hu64 : u < 18446744073709551616) (w : World) :
    Calls Tryz.prog 40 #[.agg #[.bool false, .int .u64 u]] w fun e w' => e = .returned (.string (digT u)) ∧ RowKit.Below w.heap.size w w' := by
  go_enter Tryz.func40, Tryz.ntmps40
  go_wp2_with fail
  go_loopw [3, 4] (fun a s wr => ∃ (v : Nat) (t : ByteArray), v ≤ u ∧ a = .int .u64 v ∧ s = .string t ∧ Hid (Lib.decDigits u = Lib.decDigits v ++ t.data.toList) ∧ RowKit.Below (w.heap.size + 1) (w.alloc (.cells #[.bool false, .int .u64 u] 69)) wr) (fun a _ _ => (RowKit.intOf a).toNat)
  case atStart => exact ⟨u, ⟨#[]⟩, Nat.le_refl _, rfl, rfl, (by simp : Lib.decDigits u = Lib.decDigits u ++ []), RowKit.Below.refl _ _⟩
  case round =>
    obtain ⟨v, t, hv, rfl, rfl, HI, hB⟩ := hrel
    have HB := Lib.hid hB
    clear hB
    have hts : t.size ≤ 20 := by
      have h1 := digT_size hu64
      have h2 := congrArg List.length HI.out
      rw [List.length_append] at h2
      have h3 : t.data.toList.length = t.size := by rw [Array.length_toList]; rfl
      omega
    by_cases h10 : 10 ≤ v
    · have hcv := one_digit wr (v % 10) (48 + (v : Int) % 10) (by omega) (by omega)
      go_wp2_with fail
      go_roundw
      case rel => exact ⟨v / 10, _, by omega, by go_num, rfl, (by have := HI.out; rw [decDigits_big (v := v) (by omega)] at this; rw [this]; simp [ByteArray.data_append] : Lib.decDigits u = Lib.decDigits (v / 10) ++ _), HB.out.alloc (box_size HB.out) _⟩
      case measure => simp [RowKit.intOf]; omega
    · have hcv := one_digit wr v (48 + (v : Int)) (by omega) (by omega)
      have f0 := HB.out.alloc (box_size HB.out) (.cells #[.int .u8 (48 + (v : Int))] 5)
      have f1 : (wr.alloc (.cells #[.int .u8 (48 + (v : Int))] 5)).cell? ⟨w.heap.size, 0, none⟩ = some (.bool false) :=
        (f0.cell (p := ⟨w.heap.size, 0, none⟩) (by show w.heap.size < w.heap.size + 1; omega)).trans (cell_of_row (w.alloc (.cells #[.bool false, .int .u64 u] 69)) w.heap.size 0 _ 69 (0, 0) (heap_alloc_new w _))
      have HF := Lib.hid f0
      clear f0
      go_wp2_with fail
      go_ret
      refine ⟨ret_str ?_, box_below HF.out⟩
      have := HI.out
      rw [decDigits_small (v := v) (by omega)] at this
      unfold digT
      rw [this]
      apply ByteArray.ext
      simp [ByteArray.data_append]
end Go.Proofs.YtoemljgkofhhpaaGreatDoor
