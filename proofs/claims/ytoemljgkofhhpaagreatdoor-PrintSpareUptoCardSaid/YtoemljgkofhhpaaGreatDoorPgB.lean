import Derived.Test.YtoemljgkofhhpaaGreatDoorPgA
import Derived.Test.YtoemljgkofhhpaaGreatDoorChild
namespace Go.Proofs.YtoemljgkofhhpaaGreatDoor
open Go.RowKit

set_option maxRecDepth 100000 in
set_option maxHeartbeats 2000000 in
theorem list1_any (k : Int) (w : World) : Calls Tryz.prog 122 #[.int .i64 k] w fun e w' => e = .returned (.bool (k == 2 || k == 3)) ∧ w = w' := by
  cases h : (k == 2) with
  | true =>
    go_enter Tryz.func122, Tryz.ntmps122
    go_wp2_with fail
    go_ret
    exact ⟨ret_bool (by simp), rfl⟩
  | false =>
    go_enter Tryz.func122, Tryz.ntmps122
    go_wp2_with fail
    go_ret
    exact ⟨ret_bool (by simp), rfl⟩
set_option maxRecDepth 100000 in
set_option maxHeartbeats 2000000 in
theorem list2_any (k : Int) (w : World) : Calls Tryz.prog 126 #[.int .i64 k] w fun e w' => e = .returned (.bool (isExprB k || (k == 11 || k == 12))) ∧ w = w' := by
  cases h : isExprB k with
  | true =>
    go_enter Tryz.func126, Tryz.ntmps126
    go_wp2_with (go_at_call 47; refine (isExpr_any _ _).mono ?_; rintro e w' ⟨rfl, rfl⟩)
    go_ret
    exact ⟨ret_bool (by simp), rfl⟩
  | false =>
    cases h2 : (k == 11) with
    | true =>
      go_enter Tryz.func126, Tryz.ntmps126
      go_wp2_with (go_at_call 47; refine (isExpr_any _ _).mono ?_; rintro e w' ⟨rfl, rfl⟩)
      go_ret
      exact ⟨ret_bool (by simp), rfl⟩
    | false =>
      go_enter Tryz.func126, Tryz.ntmps126
      go_wp2_with (go_at_call 47; refine (isExpr_any _ _).mono ?_; rintro e w' ⟨rfl, rfl⟩)
      go_ret
      exact ⟨ret_bool (by simp), rfl⟩
set_option maxRecDepth 100000 in
set_option maxHeartbeats 2000000 in
theorem cases1_any (k : Int) (w : World) : Calls Tryz.prog 165 #[.int .i64 k] w fun e w' => e = .returned (.bool (decide (43 ≤ k) && decide (k ≤ 45))) ∧ w = w' := by
  by_cases h : 43 ≤ k
  · go_enter Tryz.func165, Tryz.ntmps165
    go_wp2_with fail
    go_ret
    exact ⟨ret_bool (by simp [h]), rfl⟩
  · go_enter Tryz.func165, Tryz.ntmps165
    go_wp2_with fail
    go_ret
    exact ⟨ret_bool (by simp; omega), rfl⟩
set_option maxRecDepth 100000 in
set_option maxHeartbeats 2000000 in
theorem only1_any (k s : Int) (q : Addr) (w : World) (hq : w.cell? q = some (.int .i64 s)) : Calls Tryz.prog 161 #[.int .i64 k, .pointer (some q)] w fun e w' => e = .returned (.bool (k == s)) ∧ w = w' := by
  go_enter Tryz.func161, Tryz.ntmps161
  go_wp2_with fail
  go_ret
  exact ⟨rfl, rfl⟩
set_option maxRecDepth 100000 in
set_option maxHeartbeats 2000000 in
theorem only_any (s : Int) (w : World) : Calls Tryz.prog 123 #[.int .i64 s] w fun e w' => e = .returned (.func (.func 161) #[] #[.pointer (some ⟨w.heap.size, 0, none⟩)]) ∧ w' = w.alloc (.cells #[.int .i64 s] 3) := by
  have hmf : ∀ (fn : Fn) (first cap : Array Value) (w : World), (Instr.makeFunc fn first cap).run Tryz.prog w = .ok (.func fn first cap) w := fun _ _ _ _ => rfl
  go_enter Tryz.func123, Tryz.ntmps123
  go_wp2_with fail
  go_ret
  exact ⟨rfl, rfl⟩

set_option maxRecDepth 100000 in
set_option maxHeartbeats 2000000 in
theorem all1_p1 (x : T) (A : Option Addr) (c : Nat) (r : Addr) (w : World) (hr : w.cell? r = some (.func (.func 122) #[] #[])) :
    Calls Tryz.prog 160 #[nv x A c, .pointer (some r)] w fun e w' => e = .returned (.bool (!(fun k => k == 2 || k == 3) x.kind)) ∧ Below w.heap.size w w' := by
  have hr2 : (w.alloc (.cells #[.int .i64 x.kind, .string x.text, .int .u64 x.num, .int .i64 x.place, .slice A x.list.length c] 25)).cell? r = some (.func (.func 122) #[] #[]) := keep_cell one_below hr
  go_enter Tryz.func160, Tryz.ntmps160
  go_wp2_with fail
  refine (list1_any _ _).mono ?_
  rintro e w1 ⟨rfl, rfl⟩
  go_wp2_with fail
  go_ret
  exact ⟨ret_bool (by simp), one_below⟩

set_option maxRecDepth 100000 in
set_option maxHeartbeats 2000000 in
theorem all1_ix (x : T) (A : Option Addr) (c : Nat) (r : Addr) (w : World) (hr : w.cell? r = some (.func (.func 126) #[] #[])) :
    Calls Tryz.prog 160 #[nv x A c, .pointer (some r)] w fun e w' => e = .returned (.bool (!(fun k => isExprB k || (k == 11 || k == 12)) x.kind)) ∧ Below w.heap.size w w' := by
  have hr2 : (w.alloc (.cells #[.int .i64 x.kind, .string x.text, .int .u64 x.num, .int .i64 x.place, .slice A x.list.length c] 25)).cell? r = some (.func (.func 126) #[] #[]) := keep_cell one_below hr
  go_enter Tryz.func160, Tryz.ntmps160
  go_wp2_with fail
  refine (list2_any _ _).mono ?_
  rintro e w1 ⟨rfl, rfl⟩
  go_wp2_with fail
  go_ret
  exact ⟨ret_bool (by simp), one_below⟩

set_option maxRecDepth 100000 in
set_option maxHeartbeats 2000000 in
theorem all1_cs (x : T) (A : Option Addr) (c : Nat) (r : Addr) (w : World) (hr : w.cell? r = some (.func (.func 165) #[] #[])) :
    Calls Tryz.prog 160 #[nv x A c, .pointer (some r)] w fun e w' => e = .returned (.bool (!(fun k => decide (43 ≤ k) && decide (k ≤ 45)) x.kind)) ∧ Below w.heap.size w w' := by
  have hr2 : (w.alloc (.cells #[.int .i64 x.kind, .string x.text, .int .u64 x.num, .int .i64 x.place, .slice A x.list.length c] 25)).cell? r = some (.func (.func 165) #[] #[]) := keep_cell one_below hr
  go_enter Tryz.func160, Tryz.ntmps160
  go_wp2_with fail
  refine (cases1_any _ _).mono ?_
  rintro e w1 ⟨rfl, rfl⟩
  go_wp2_with fail
  go_ret
  exact ⟨ret_bool (by simp), one_below⟩

set_option maxRecDepth 100000 in
set_option maxHeartbeats 2000000 in
theorem all1_ex (x : T) (A : Option Addr) (c : Nat) (r : Addr) (w : World) (hr : w.cell? r = some (.func (.func 47) #[] #[])) :
    Calls Tryz.prog 160 #[nv x A c, .pointer (some r)] w fun e w' => e = .returned (.bool (!isExprB x.kind)) ∧ Below w.heap.size w w' := by
  have hr2 : (w.alloc (.cells #[.int .i64 x.kind, .string x.text, .int .u64 x.num, .int .i64 x.place, .slice A x.list.length c] 25)).cell? r = some (.func (.func 47) #[] #[]) := keep_cell one_below hr
  go_enter Tryz.func160, Tryz.ntmps160
  go_wp2_with fail
  refine (isExpr_any _ _).mono ?_
  rintro e w1 ⟨rfl, rfl⟩
  go_wp2_with fail
  go_ret
  exact ⟨ret_bool (by simp), one_below⟩

set_option maxRecDepth 100000 in
set_option maxHeartbeats 2000000 in
theorem all1_ty (x : T) (A : Option Addr) (c : Nat) (r : Addr) (w : World) (hr : w.cell? r = some (.func (.func 48) #[] #[])) :
    Calls Tryz.prog 160 #[nv x A c, .pointer (some r)] w fun e w' => e = .returned (.bool (!isTypeB x.kind)) ∧ Below w.heap.size w w' := by
  have hr2 : (w.alloc (.cells #[.int .i64 x.kind, .string x.text, .int .u64 x.num, .int .i64 x.place, .slice A x.list.length c] 25)).cell? r = some (.func (.func 48) #[] #[]) := keep_cell one_below hr
  go_enter Tryz.func160, Tryz.ntmps160
  go_wp2_with fail
  refine (isType_any _ _).mono ?_
  rintro e w1 ⟨rfl, rfl⟩
  go_wp2_with fail
  go_ret
  exact ⟨ret_bool (by simp), one_below⟩

set_option maxRecDepth 100000 in
set_option maxHeartbeats 2000000 in
theorem all1_st (x : T) (A : Option Addr) (c : Nat) (r : Addr) (w : World) (hr : w.cell? r = some (.func (.func 46) #[] #[])) :
    Calls Tryz.prog 160 #[nv x A c, .pointer (some r)] w fun e w' => e = .returned (.bool (!isStmtB x.kind)) ∧ Below w.heap.size w w' := by
  have hr2 : (w.alloc (.cells #[.int .i64 x.kind, .string x.text, .int .u64 x.num, .int .i64 x.place, .slice A x.list.length c] 25)).cell? r = some (.func (.func 46) #[] #[]) := keep_cell one_below hr
  go_enter Tryz.func160, Tryz.ntmps160
  go_wp2_with fail
  refine (isStmt_any _ _).mono ?_
  rintro e w1 ⟨rfl, rfl⟩
  go_wp2_with fail
  go_ret
  exact ⟨ret_bool (by simp), one_below⟩

set_option maxRecDepth 100000 in
set_option maxHeartbeats 2000000 in
theorem all1_on (x : T) (A : Option Addr) (c : Nat) (r : Addr) (q : Addr) (s : Int) (w : World) (hr : w.cell? r = some (.func (.func 161) #[] #[.pointer (some q)])) (hq : w.cell? q = some (.int .i64 s)) :
    Calls Tryz.prog 160 #[nv x A c, .pointer (some r)] w fun e w' => e = .returned (.bool (!(· == s) x.kind)) ∧ Below w.heap.size w w' := by
  have hr2 : (w.alloc (.cells #[.int .i64 x.kind, .string x.text, .int .u64 x.num, .int .i64 x.place, .slice A x.list.length c] 25)).cell? r = some (.func (.func 161) #[] #[.pointer (some q)]) := keep_cell one_below hr
  go_enter Tryz.func160, Tryz.ntmps160
  go_wp2_with fail
  refine (only1_any _ s q _ (keep_cell one_below hq)).mono ?_
  rintro e w1 ⟨rfl, rfl⟩
  go_wp2_with fail
  go_ret
  exact ⟨ret_bool (by simp), one_below⟩

theorem any_take {q : T → Bool} {l : List T} {j : Nat} {x : T} (h : l[j]? = some x) : (l.take (j + 1)).any q = ((l.take j).any q || q x) := by
  rw [List.take_add_one, h, List.any_append]; simp
theorem any_hit {q : T → Bool} {l : List T} {j : Nat} {x : T} (h : l[j]? = some x) (hq : q x = true) : l.any q = true :=
  List.any_eq_true.2 ⟨x, List.mem_of_getElem? h, hq⟩

set_option maxRecDepth 100000 in
set_option maxHeartbeats 2000000 in
theorem indexP_160 (l : List T) (A : Option Addr) (c : Nat) (r : Addr) (q : T → Bool) (w : World) (hl : l.length ≤ 1048576) (hR : Rd w l A c)
    (hq : ∀ (i : Nat) (y : T) (A' : Option Addr) (c' : Nat) (w' : World), l[i]? = some y → Rd w' y.list A' c' → Below w.heap.size w w' → Calls Tryz.prog 160 #[nv y A' c', .pointer (some r)] w' fun e w'' => e = .returned (.bool (q y)) ∧ Below w'.heap.size w' w'') :
    Calls Tryz.prog 128 #[.slice A l.length c, .func (.func 160) #[] #[.pointer (some r)]] w fun e w' => ∃ n : Int, e = .returned (.int .i64 n) ∧ decide (0 ≤ n) = l.any q ∧ Below w.heap.size w w' := by
  have HR := Lib.hid hR
  have HQ := Lib.hid hq
  clear hR hq
  go_enter Tryz.func128, Tryz.ntmps128
  go_wp2_with fail
  go_loopw [8] (fun i wr => ∃ j : Nat, j ≤ l.length ∧ i = .int .i64 j ∧ Hid ((l.take j).any q = false) ∧ Below w.heap.size w wr) (fun i _ => l.length - (intOf i).toNat)
  case atStart => exact ⟨0, Nat.zero_le _, rfl, rfl, Below.refl _ _⟩
  case round =>
    obtain ⟨j, hj, rfl, HI, hB⟩ := hrel
    have HB := Lib.hid hB
    clear hB
    by_cases hlt : j < l.length
    · obtain ⟨y, hy⟩ : ∃ y, l[j]? = some y := ⟨l[j], by simp [hlt]⟩
      obtain ⟨b, o, A', c', rfl, hc, hr⟩ := HR.out.at_ hy
      have hc := hc.below HB.out
      have h0 := hc.c0
      have h1 := hc.c1
      have h2 := hc.c2
      have h3 := hc.c3
      have h4 := hc.c4
      have HR' := Lib.hid hr
      have HY := Lib.hid hy
      clear hc hr hy
      go_wp2_with fail
      refine (HQ.out j y A' c' _ HY.out (HR'.out.keep HB.out) HB.out).mono ?_
      rintro e w1 ⟨rfl, hb⟩
      have HB1 := Lib.hid (below_then HB.out (HB.out.size) hb)
      clear hb
      cases hk : q y with
      | true =>
        have HK := Lib.hid hk
        clear hk
        go_wp2_with fail
        go_ret
        exact ⟨_, rfl, by rw [any_hit HY.out HK.out]; simp, HB1.out⟩
      | false =>
        have HK := Lib.hid hk
        clear hk
        go_wp2_with fail
        go_roundw
        case rel => exact ⟨j + 1, by omega, by go_num, (by rw [any_take HY.out, HI.out, HK.out]; rfl : (l.take (j + 1)).any q = false), HB1.out⟩
        case measure => simp [intOf]; omega
    · go_wp2_with fail
      go_ret
      exact ⟨_, rfl, by have : j = l.length := by omega
                        have h2 := HI.out
                        subst this; rw [List.take_length] at h2; rw [h2]; rfl, HB.out⟩

set_option maxRecDepth 100000 in
set_option maxHeartbeats 2000000 in
theorem containsP_160 (l : List T) (A : Option Addr) (c : Nat) (r : Addr) (q : T → Bool) (w : World) (hl : l.length ≤ 1048576) (hR : Rd w l A c)
    (hq : ∀ (i : Nat) (y : T) (A' : Option Addr) (c' : Nat) (w' : World), l[i]? = some y → Rd w' y.list A' c' → Below w.heap.size w w' → Calls Tryz.prog 160 #[nv y A' c', .pointer (some r)] w' fun e w'' => e = .returned (.bool (q y)) ∧ Below w'.heap.size w' w'') :
    Calls Tryz.prog 87 #[.slice A l.length c, .func (.func 160) #[] #[.pointer (some r)]] w fun e w' => e = .returned (.bool (l.any q)) ∧ Below w.heap.size w w' := by
  have HR := Lib.hid hR
  have HQ := Lib.hid hq
  clear hR hq
  go_enter Tryz.func87, Tryz.ntmps87
  go_wp2_with fail
  refine (indexP_160 l A c r q w hl HR.out HQ.out).mono ?_
  rintro e w1 ⟨n, rfl, hn, hb⟩
  have HB := Lib.hid hb
  have HN := Lib.hid hn
  clear hn hb
  go_wp2_with fail
  go_ret
  exact ⟨ret_bool HN.out, HB.out⟩

set_option maxRecDepth 100000 in
set_option maxHeartbeats 2000000 in
theorem indexP_88 (l : List T) (A : Option Addr) (c : Nat) (r : Addr) (q : T → Bool) (w : World) (hl : l.length ≤ 1048576) (hR : Rd w l A c)
    (hq : ∀ (i : Nat) (y : T) (A' : Option Addr) (c' : Nat) (w' : World), l[i]? = some y → Rd w' y.list A' c' → Below w.heap.size w w' → Calls Tryz.prog 88 #[nv y A' c', .pointer (some r)] w' fun e w'' => e = .returned (.bool (q y)) ∧ Below w'.heap.size w' w'') :
    Calls Tryz.prog 128 #[.slice A l.length c, .func (.func 88) #[] #[.pointer (some r)]] w fun e w' => ∃ n : Int, e = .returned (.int .i64 n) ∧ decide (0 ≤ n) = l.any q ∧ Below w.heap.size w w' := by
  have HR := Lib.hid hR
  have HQ := Lib.hid hq
  clear hR hq
  go_enter Tryz.func128, Tryz.ntmps128
  go_wp2_with fail
  go_loopw [8] (fun i wr => ∃ j : Nat, j ≤ l.length ∧ i = .int .i64 j ∧ Hid ((l.take j).any q = false) ∧ Below w.heap.size w wr) (fun i _ => l.length - (intOf i).toNat)
  case atStart => exact ⟨0, Nat.zero_le _, rfl, rfl, Below.refl _ _⟩
  case round =>
    obtain ⟨j, hj, rfl, HI, hB⟩ := hrel
    have HB := Lib.hid hB
    clear hB
    by_cases hlt : j < l.length
    · obtain ⟨y, hy⟩ : ∃ y, l[j]? = some y := ⟨l[j], by simp [hlt]⟩
      obtain ⟨b, o, A', c', rfl, hc, hr⟩ := HR.out.at_ hy
      have hc := hc.below HB.out
      have h0 := hc.c0
      have h1 := hc.c1
      have h2 := hc.c2
      have h3 := hc.c3
      have h4 := hc.c4
      have HR' := Lib.hid hr
      have HY := Lib.hid hy
      clear hc hr hy
      go_wp2_with fail
      refine (HQ.out j y A' c' _ HY.out (HR'.out.keep HB.out) HB.out).mono ?_
      rintro e w1 ⟨rfl, hb⟩
      have HB1 := Lib.hid (below_then HB.out (HB.out.size) hb)
      clear hb
      cases hk : q y with
      | true =>
        have HK := Lib.hid hk
        clear hk
        go_wp2_with fail
        go_ret
        exact ⟨_, rfl, by rw [any_hit HY.out HK.out]; simp, HB1.out⟩
      | false =>
        have HK := Lib.hid hk
        clear hk
        go_wp2_with fail
        go_roundw
        case rel => exact ⟨j + 1, by omega, by go_num, (by rw [any_take HY.out, HI.out, HK.out]; rfl : (l.take (j + 1)).any q = false), HB1.out⟩
        case measure => simp [intOf]; omega
    · go_wp2_with fail
      go_ret
      exact ⟨_, rfl, by have : j = l.length := by omega
                        have h2 := HI.out
                        subst this; rw [List.take_length] at h2; rw [h2]; rfl, HB.out⟩

set_option maxRecDepth 100000 in
set_option maxHeartbeats 2000000 in
theorem containsP_88 (l : List T) (A : Option Addr) (c : Nat) (r : Addr) (q : T → Bool) (w : World) (hl : l.length ≤ 1048576) (hR : Rd w l A c)
    (hq : ∀ (i : Nat) (y : T) (A' : Option Addr) (c' : Nat) (w' : World), l[i]? = some y → Rd w' y.list A' c' → Below w.heap.size w w' → Calls Tryz.prog 88 #[nv y A' c', .pointer (some r)] w' fun e w'' => e = .returned (.bool (q y)) ∧ Below w'.heap.size w' w'') :
    Calls Tryz.prog 87 #[.slice A l.length c, .func (.func 88) #[] #[.pointer (some r)]] w fun e w' => e = .returned (.bool (l.any q)) ∧ Below w.heap.size w w' := by
  have HR := Lib.hid hR
  have HQ := Lib.hid hq
  clear hR hq
  go_enter Tryz.func87, Tryz.ntmps87
  go_wp2_with fail
  refine (indexP_88 l A c r q w hl HR.out HQ.out).mono ?_
  rintro e w1 ⟨n, rfl, hn, hb⟩
  have HB := Lib.hid hb
  have HN := Lib.hid hn
  clear hn hb
  go_wp2_with fail
  go_ret
  exact ⟨ret_bool HN.out, HB.out⟩

set_option maxRecDepth 100000 in
set_option maxHeartbeats 2000000 in
theorem all_p1 (l : List T) (A : Option Addr) (c : Nat) (w : World) (hl : l.length ≤ 1048576) (hR : Rd w l A c) :
    Calls Tryz.prog 121 #[.slice A l.length c, .func (.func 122) #[] #[]] w fun e w' => e = .returned (.bool (allB l (fun k => k == 2 || k == 3))) ∧ Below w.heap.size w w' := by
  have HR := Lib.hid hR
  clear hR
  have hmf : ∀ (fn : Fn) (first cap : Array Value) (w : World), (Instr.makeFunc fn first cap).run Tryz.prog w = .ok (.func fn first cap) w := fun _ _ _ _ => rfl
  go_enter Tryz.func121, Tryz.ntmps121
  go_wp2_with fail
  refine (containsP_160 l A c ⟨w.heap.size, 0, none⟩ (fun y => !(fun k => k == 2 || k == 3) y.kind) _ hl (HR.out.keep one_below) (fun i y A' c' w' hy hR' hb => all1_p1 y A' c' _ w' (keep_cell hb (cell_of_row _ _ 0 _ _ (0, 0) (heap_alloc_new w _))))).mono ?_
  rintro e w1 ⟨rfl, hb⟩
  have HB := Lib.hid (below_then one_below (by rw [size_alloc]; omega) hb)
  clear hb
  go_wp2_with fail
  go_ret
  exact ⟨ret_bool (by simp [allB, List.any_eq_not_all_not]), HB.out⟩

set_option maxRecDepth 100000 in
set_option maxHeartbeats 2000000 in
theorem all_ix (l : List T) (A : Option Addr) (c : Nat) (w : World) (hl : l.length ≤ 1048576) (hR : Rd w l A c) :
    Calls Tryz.prog 121 #[.slice A l.length c, .func (.func 126) #[] #[]] w fun e w' => e = .returned (.bool (allB l (fun k => isExprB k || (k == 11 || k == 12)))) ∧ Below w.heap.size w w' := by
  have HR := Lib.hid hR
  clear hR
  have hmf : ∀ (fn : Fn) (first cap : Array Value) (w : World), (Instr.makeFunc fn first cap).run Tryz.prog w = .ok (.func fn first cap) w := fun _ _ _ _ => rfl
  go_enter Tryz.func121, Tryz.ntmps121
  go_wp2_with fail
  refine (containsP_160 l A c ⟨w.heap.size, 0, none⟩ (fun y => !(fun k => isExprB k || (k == 11 || k == 12)) y.kind) _ hl (HR.out.keep one_below) (fun i y A' c' w' hy hR' hb => all1_ix y A' c' _ w' (keep_cell hb (cell_of_row _ _ 0 _ _ (0, 0) (heap_alloc_new w _))))).mono ?_
  rintro e w1 ⟨rfl, hb⟩
  have HB := Lib.hid (below_then one_below (by rw [size_alloc]; omega) hb)
  clear hb
  go_wp2_with fail
  go_ret
  exact ⟨ret_bool (by simp [allB, List.any_eq_not_all_not]), HB.out⟩

set_option maxRecDepth 100000 in
set_option maxHeartbeats 2000000 in
theorem all_cs (l : List T) (A : Option Addr) (c : Nat) (w : World) (hl : l.length ≤ 1048576) (hR : Rd w l A c) :
    Calls Tryz.prog 121 #[.slice A l.length c, .func (.func 165) #[] #[]] w fun e w' => e = .returned (.bool (allB l (fun k => decide (43 ≤ k) && decide (k ≤ 45)))) ∧ Below w.heap.size w w' := by
  have HR := Lib.hid hR
  clear hR
  have hmf : ∀ (fn : Fn) (first cap : Array Value) (w : World), (Instr.makeFunc fn first cap).run Tryz.prog w = .ok (.func fn first cap) w := fun _ _ _ _ => rfl
  go_enter Tryz.func121, Tryz.ntmps121
  go_wp2_with fail
  refine (containsP_160 l A c ⟨w.heap.size, 0, none⟩ (fun y => !(fun k => decide (43 ≤ k) && decide (k ≤ 45)) y.kind) _ hl (HR.out.keep one_below) (fun i y A' c' w' hy hR' hb => all1_cs y A' c' _ w' (keep_cell hb (cell_of_row _ _ 0 _ _ (0, 0) (heap_alloc_new w _))))).mono ?_
  rintro e w1 ⟨rfl, hb⟩
  have HB := Lib.hid (below_then one_below (by rw [size_alloc]; omega) hb)
  clear hb
  go_wp2_with fail
  go_ret
  exact ⟨ret_bool (by simp [allB, List.any_eq_not_all_not]), HB.out⟩

set_option maxRecDepth 100000 in
set_option maxHeartbeats 2000000 in
theorem all_ex (l : List T) (A : Option Addr) (c : Nat) (w : World) (hl : l.length ≤ 1048576) (hR : Rd w l A c) :
    Calls Tryz.prog 121 #[.slice A l.length c, .func (.func 47) #[] #[]] w fun e w' => e = .returned (.bool (allB l isExprB)) ∧ Below w.heap.size w w' := by
  have HR := Lib.hid hR
  clear hR
  have hmf : ∀ (fn : Fn) (first cap : Array Value) (w : World), (Instr.makeFunc fn first cap).run Tryz.prog w = .ok (.func fn first cap) w := fun _ _ _ _ => rfl
  go_enter Tryz.func121, Tryz.ntmps121
  go_wp2_with fail
  refine (containsP_160 l A c ⟨w.heap.size, 0, none⟩ (fun y => !isExprB y.kind) _ hl (HR.out.keep one_below) (fun i y A' c' w' hy hR' hb => all1_ex y A' c' _ w' (keep_cell hb (cell_of_row _ _ 0 _ _ (0, 0) (heap_alloc_new w _))))).mono ?_
  rintro e w1 ⟨rfl, hb⟩
  have HB := Lib.hid (below_then one_below (by rw [size_alloc]; omega) hb)
  clear hb
  go_wp2_with fail
  go_ret
  exact ⟨ret_bool (by simp [allB, List.any_eq_not_all_not]), HB.out⟩

set_option maxRecDepth 100000 in
set_option maxHeartbeats 2000000 in
theorem all_ty (l : List T) (A : Option Addr) (c : Nat) (w : World) (hl : l.length ≤ 1048576) (hR : Rd w l A c) :
    Calls Tryz.prog 121 #[.slice A l.length c, .func (.func 48) #[] #[]] w fun e w' => e = .returned (.bool (allB l isTypeB)) ∧ Below w.heap.size w w' := by
  have HR := Lib.hid hR
  clear hR
  have hmf : ∀ (fn : Fn) (first cap : Array Value) (w : World), (Instr.makeFunc fn first cap).run Tryz.prog w = .ok (.func fn first cap) w := fun _ _ _ _ => rfl
  go_enter Tryz.func121, Tryz.ntmps121
  go_wp2_with fail
  refine (containsP_160 l A c ⟨w.heap.size, 0, none⟩ (fun y => !isTypeB y.kind) _ hl (HR.out.keep one_below) (fun i y A' c' w' hy hR' hb => all1_ty y A' c' _ w' (keep_cell hb (cell_of_row _ _ 0 _ _ (0, 0) (heap_alloc_new w _))))).mono ?_
  rintro e w1 ⟨rfl, hb⟩
  have HB := Lib.hid (below_then one_below (by rw [size_alloc]; omega) hb)
  clear hb
  go_wp2_with fail
  go_ret
  exact ⟨ret_bool (by simp [allB, List.any_eq_not_all_not]), HB.out⟩

set_option maxRecDepth 100000 in
set_option maxHeartbeats 2000000 in
theorem all_st (l : List T) (A : Option Addr) (c : Nat) (w : World) (hl : l.length ≤ 1048576) (hR : Rd w l A c) :
    Calls Tryz.prog 121 #[.slice A l.length c, .func (.func 46) #[] #[]] w fun e w' => e = .returned (.bool (allB l isStmtB)) ∧ Below w.heap.size w w' := by
  have HR := Lib.hid hR
  clear hR
  have hmf : ∀ (fn : Fn) (first cap : Array Value) (w : World), (Instr.makeFunc fn first cap).run Tryz.prog w = .ok (.func fn first cap) w := fun _ _ _ _ => rfl
  go_enter Tryz.func121, Tryz.ntmps121
  go_wp2_with fail
  refine (containsP_160 l A c ⟨w.heap.size, 0, none⟩ (fun y => !isStmtB y.kind) _ hl (HR.out.keep one_below) (fun i y A' c' w' hy hR' hb => all1_st y A' c' _ w' (keep_cell hb (cell_of_row _ _ 0 _ _ (0, 0) (heap_alloc_new w _))))).mono ?_
  rintro e w1 ⟨rfl, hb⟩
  have HB := Lib.hid (below_then one_below (by rw [size_alloc]; omega) hb)
  clear hb
  go_wp2_with fail
  go_ret
  exact ⟨ret_bool (by simp [allB, List.any_eq_not_all_not]), HB.out⟩

set_option maxRecDepth 100000 in
set_option maxHeartbeats 2000000 in
theorem all_on (l : List T) (A : Option Addr) (c : Nat) (q : Addr) (s : Int) (w : World) (hl : l.length ≤ 1048576) (hR : Rd w l A c) (hq : w.cell? q = some (.int .i64 s)) :
    Calls Tryz.prog 121 #[.slice A l.length c, .func (.func 161) #[] #[.pointer (some q)]] w fun e w' => e = .returned (.bool (allB l (· == s))) ∧ Below w.heap.size w w' := by
  have HR := Lib.hid hR
  clear hR
  have hmf : ∀ (fn : Fn) (first cap : Array Value) (w : World), (Instr.makeFunc fn first cap).run Tryz.prog w = .ok (.func fn first cap) w := fun _ _ _ _ => rfl
  go_enter Tryz.func121, Tryz.ntmps121
  go_wp2_with fail
  refine (containsP_160 l A c ⟨w.heap.size, 0, none⟩ (fun y => !(· == s) y.kind) _ hl (HR.out.keep one_below) (fun i y A' c' w' hy hR' hb => all1_on y A' c' _ q s w' (keep_cell hb (cell_of_row _ _ 0 _ _ (0, 0) (heap_alloc_new w _))) (keep_cell hb (keep_cell one_below hq)))).mono ?_
  rintro e w1 ⟨rfl, hb⟩
  have HB := Lib.hid (below_then one_below (by rw [size_alloc]; omega) hb)
  clear hb
  go_wp2_with fail
  go_ret
  exact ⟨ret_bool (by simp [allB, List.any_eq_not_all_not]), HB.out⟩

set_option maxRecDepth 100000 in
set_option maxHeartbeats 2000000 in
theorem kinds1_any (x : T) (A : Option Addr) (c : Nat) (v : Int) (w : World) :
    Calls Tryz.prog 163 #[nv x A c, .int .i64 v] w fun e w' => e = .returned (.bool (okKind x.kind v)) ∧ Below w.heap.size w w' := by
  by_cases h1 : v = -1
  · subst h1
    go_enter Tryz.func163, Tryz.ntmps163
    go_wp2_with (go_at_call 47; refine (isExpr_any _ _).mono ?_; rintro e w' ⟨rfl, rfl⟩)
    go_ret
    exact ⟨ret_bool (by simp [okKind]), one_below⟩
  · by_cases h2 : v = -2
    · subst h2
      go_enter Tryz.func163, Tryz.ntmps163
      go_wp2_with (go_at_call 48; refine (isType_any _ _).mono ?_; rintro e w' ⟨rfl, rfl⟩)
      go_ret
      exact ⟨ret_bool (by simp [okKind]), one_below⟩
    · by_cases h3 : v = -3
      · subst h3
        go_enter Tryz.func163, Tryz.ntmps163
        go_wp2_with (go_at_call 46; refine (isStmt_any _ _).mono ?_; rintro e w' ⟨rfl, rfl⟩)
        go_ret
        exact ⟨ret_bool (by simp [okKind]), one_below⟩
      · have q1 : (v == -1) = false := by simpa using h1
        have q2 : (v == -2) = false := by simpa using h2
        have q3 : (v == -3) = false := by simpa using h3
        go_enter Tryz.func163, Tryz.ntmps163
        go_wp2_with fail
        go_ret
        exact ⟨ret_bool (by simp [okKind, h1, h2, h3]), one_below⟩
set_option maxRecDepth 100000 in
set_option maxHeartbeats 2000000 in
theorem equalP_any (l : List T) (A : Option Addr) (c : Nat) (ws : List Int) (b2 n2 c2 : Nat) (w : World) (hl : l.length ≤ 1048576) (hn : n2 = ws.length) (hR : Rd w l A c)
    (hc2 : ∀ j v, ws[j]? = some v → w.cell? ⟨b2, j, none⟩ = some (.int .i64 v)) :
    Calls Tryz.prog 162 #[.slice A l.length c, .slice (some ⟨b2, 0, none⟩) n2 c2, .func (.func 163) #[] #[]] w fun e w' => e = .returned (.bool (kindsB l ws)) ∧ Below w.heap.size w w' := by
  have HR := Lib.hid hR
  have HC := Lib.hid hc2
  clear hR hc2
  by_cases hlen : l.length = n2
  case neg =>
    have q : ((l.length : Int) == n2) = false := beq_eq_false_iff_ne.2 (by omega)
    have HL := Lib.hid (kindsB_len (l := l) (ws := ws) (by omega))
    clear hn hlen
    go_enter Tryz.func162, Tryz.ntmps162
    go_wp2_with fail
    go_ret
    exact ⟨ret_bool HL.out.symm, Below.refl _ _⟩
  case pos =>
    have HLEN := Lib.hid (hlen.trans hn)
    subst hlen
    clear hn
    go_enter Tryz.func162, Tryz.ntmps162
    go_wp2_with fail
    go_loopw [17] (fun i wr => ∃ j : Nat, j ≤ l.length ∧ i = .int .i64 j ∧ Hid (kindsB (l.take j) (ws.take j) = true) ∧ Below w.heap.size w wr) (fun i _ => l.length - (intOf i).toNat)
    case atStart => exact ⟨0, Nat.zero_le _, rfl, rfl, Below.refl _ _⟩
    case round =>
      obtain ⟨j, hj, rfl, HI, hB⟩ := hrel
      have HB := Lib.hid hB
      clear hB
      by_cases hlt : j < l.length
      · obtain ⟨y, hy⟩ : ∃ y, l[j]? = some y := ⟨l[j], by simp [hlt]⟩
        have hlt2 : j < ws.length := by have := HLEN.out; omega
        obtain ⟨v, hv⟩ : ∃ v, ws[j]? = some v := ⟨ws[j], by simp [hlt2]⟩
        obtain ⟨b, o, A', c', rfl, hc, hr⟩ := HR.out.at_ hy
        have hc := hc.below HB.out
        have h0 := hc.c0
        have h1 := hc.c1
        have h2 := hc.c2
        have h3 := hc.c3
        have h4 := hc.c4
        have h5 := keep_cell (HB.out.alloc HB.out.size (nbox y A' c')) (HC.out j v hv)
        have h5 := (show (wr.alloc (.cells #[.int .i64 y.kind, .string y.text, .int .u64 y.num, .int .i64 y.place, .slice A' y.list.length c'] 25)).cell? ⟨b2, j, none⟩ = some (.int .i64 v) from h5)
        have HY := Lib.hid hy
        have HV := Lib.hid hv
        clear hc hr hy hv hlt2
        go_wp2_with fail
        refine (kinds1_any y A' c' v _).mono ?_
        rintro e w1 ⟨rfl, hb⟩
        have HB1 := Lib.hid (below_push HB.out HB.out.size hb)
        clear hb
        cases hk : okKind y.kind v with
        | true =>
          have HK := Lib.hid hk
          clear hk
          go_wp2_with fail
          go_roundw
          case rel => exact ⟨j + 1, by omega, by go_num, (by rw [kindsB_take HY.out HV.out, HI.out, HK.out]; rfl : kindsB (l.take (j + 1)) (ws.take (j + 1)) = true), HB1.out⟩
          case measure => simp [intOf]; omega
        | false =>
          have HK := Lib.hid hk
          clear hk
          go_wp2_with fail
          go_ret
          exact ⟨ret_bool (kindsB_miss HY.out HV.out HK.out).symm, HB1.out⟩
      · go_wp2_with fail
        go_ret
        exact ⟨ret_bool (by have : j = l.length := by omega
                            have h2 := HI.out
                            subst this; rw [List.take_length, HLEN.out, List.take_length] at h2; exact h2.symm), HB.out⟩
set_option maxRecDepth 100000 in
set_option maxHeartbeats 2000000 in
theorem kinds_any (l : List T) (A : Option Addr) (c : Nat) (ws : List Int) (b2 n2 c2 : Nat) (w : World) (hl : l.length ≤ 1048576) (hn : n2 = ws.length) (hR : Rd w l A c)
    (hc2 : ∀ j v, ws[j]? = some v → w.cell? ⟨b2, j, none⟩ = some (.int .i64 v)) :
    Calls Tryz.prog 124 #[.slice A l.length c, .slice (some ⟨b2, 0, none⟩) n2 c2] w fun e w' => e = .returned (.bool (kindsB l ws)) ∧ Below w.heap.size w w' := by
  have HR := Lib.hid hR
  have HC := Lib.hid hc2
  have HN := Lib.hid hn
  clear hR hc2 hn
  go_enter Tryz.func124, Tryz.ntmps124
  go_wp2_with fail
  refine (equalP_any l A c ws b2 n2 c2 w hl HN.out HR.out HC.out).mono ?_
  rintro e w1 ⟨rfl, hb⟩
  have HB := Lib.hid hb
  clear hb
  go_wp2_with fail
  go_ret
  exact ⟨rfl, HB.out⟩
set_option maxRecDepth 100000 in
set_option maxHeartbeats 2000000 in
theorem casesP_any (l : List T) (A : Option Addr) (c : Nat) (w : World) (hl : l.length ≤ 1048576) (hR : Rd w l A c) :
    Calls Tryz.prog 127 #[.slice A l.length c] w fun e w' => e = .returned (.bool (decide ((l.filter fun y => y.kind == 45).length ≤ 1) && allB l (fun k => decide (43 ≤ k) && decide (k ≤ 45)))) ∧ Below w.heap.size w w' := by
  have HR := Lib.hid hR
  clear hR
  go_enter Tryz.func127, Tryz.ntmps127
  go_wp2_with fail
  go_loopw [3, 8] (fun q i wr => ∃ j : Nat, j ≤ l.length ∧ i = .int .i64 j ∧ q = .int .i64 (((l.take j).filter fun y => y.kind == 45).length : Nat) ∧ Below w.heap.size w wr) (fun _ i _ => l.length - (intOf i).toNat)
  case atStart => exact ⟨0, Nat.zero_le _, rfl, rfl, Below.refl _ _⟩
  case round =>
    obtain ⟨j, hj, rfl, rfl, hB⟩ := hrel
    have HB := Lib.hid hB
    clear hB
    have hcnt : ((l.take j).filter fun y => y.kind == 45).length ≤ j := Nat.le_trans (List.length_filter_le _ _) (by rw [List.length_take]; omega)
    by_cases hlt : j < l.length
    · obtain ⟨y, hy⟩ : ∃ y, l[j]? = some y := ⟨l[j], by simp [hlt]⟩
      obtain ⟨b, o, A', c', rfl, hc, hr⟩ := HR.out.at_ hy
      have hc := hc.below HB.out
      have h0 := hc.c0
      have h1 := hc.c1
      have h2 := hc.c2
      have h3 := hc.c3
      have h4 := hc.c4
      have hf : ((l.take (j + 1)).filter fun y => y.kind == 45).length = ((l.take j).filter fun y => y.kind == 45).length + (if y.kind = 45 then 1 else 0) := by
        rw [List.take_add_one, hy, List.filter_append]
        by_cases h : y.kind = 45 <;> simp [h]
      by_cases h45 : y.kind = 45
      · rw [h45] at h0
        rw [if_pos h45] at hf
        have HF := Lib.hid hf
        clear hc hr hy hf h45
        go_wp2_with fail
        go_roundw
        case rel => exact ⟨j + 1, by omega, by go_num, by rw [HF.out]; go_num, HB.out.alloc HB.out.size _⟩
        case measure => simp [intOf]; omega
      · rw [if_neg h45] at hf
        have HF := Lib.hid hf
        have q3 : (y.kind == 45) = false := by simpa using h45
        clear hc hr hy hf h45
        go_wp2_with fail
        go_roundw
        case rel => exact ⟨j + 1, by omega, by go_num, by rw [HF.out]; rfl, HB.out.alloc HB.out.size _⟩
        case measure => simp [intOf]; omega
    · have hj2 : j = l.length := by omega
      subst hj2
      rw [List.take_length] at *
      by_cases h1 : (l.filter fun y => y.kind == 45).length ≤ 1
      · go_wp2_with fail
        refine (all_cs l A c _ hl (HR.out.keep HB.out)).mono ?_
        rintro e w1 ⟨rfl, hb⟩
        have HB1 := Lib.hid (below_then HB.out HB.out.size hb)
        clear hb
        go_wp2_with fail
        go_ret
        exact ⟨ret_bool (by simp [h1]), HB1.out⟩
      · go_wp2_with fail
        go_ret
        exact ⟨ret_bool (by simp), HB.out⟩

end Go.Proofs.YtoemljgkofhhpaaGreatDoor
