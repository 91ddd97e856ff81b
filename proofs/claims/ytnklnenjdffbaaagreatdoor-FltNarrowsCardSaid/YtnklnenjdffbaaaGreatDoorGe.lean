/- The law FltOrders walked: a theorem for each way the three keys stand (printed by genO.py). -/
import Derived.Test.YtnklnenjdffbaaaGreatDoorGd
namespace Go.Proofs.YtnklnenjdffbaaaGreatDoor
open Go.RowKit
set_option linter.unusedVariables false
set_option maxRecDepth 100000
theorem cmpF_m (a b : Nat) (w : World) (ha : a < 18446744073709551616) (hb : b < 18446744073709551616) :
    Calls Tryz.prog 22 #[.float .f64 a, .float .f64 b] w fun e w' => e = .returned (.int .i64 (cmpI (key a) (key b))) ∧ w = w' := (cmpF_any a b w ha hb).mono fun _ _ ⟨h1, h2⟩ => ⟨h1, h2.symm⟩
set_option maxHeartbeats 1000000 in
theorem ord_lll (a b c : Nat) (w : World) (hV : Vars w) (ha : a < 18446744073709551616) (hb : b < 18446744073709551616) (hc : c < 18446744073709551616) (h1 : key a < key b) (h2 : key b < key c) (h3 : key a < key c) :
    Calls Tryz.prog 6 #[.int .u64 (a : Int), .int .u64 (b : Int), .int .u64 (c : Int)] w fun e w' => e = .returned (.bool true) ∧ Below w.heap.size w w' := by
  have e1 : cmpI (key a) (key b) = -1 := by unfold cmpI; split <;> (try split) <;> omega
  have e2 : cmpI (key b) (key a) = 1 := by unfold cmpI; split <;> (try split) <;> omega
  have e3 : cmpI (key b) (key c) = -1 := by unfold cmpI; split <;> (try split) <;> omega
  have e4 : cmpI (key a) (key c) = -1 := by unfold cmpI; split <;> (try split) <;> omega
  have s1 : (((canonB a : Nat) : Int) == ((canonB b : Nat) : Int)) = false := by
    rw [beq_eq_false_iff_ne]; intro h; have h' : canonB a = canonB b := by omega
    unfold key at h1; rw [h'] at h1; omega
  have d1 : decide (key a < key b) = true := by simp; omega
  have o1 : True := trivial
  have o2 : (FloatKind.f64.format.order a b == some Ordering.gt) = false := by
    rw [beq_eq_false_iff_ne]; intro h; have := (order_key ha hb h).2 rfl; omega
  have HV := Lib.hid hV
  have HA := Lib.hid ha
  have HB := Lib.hid hb
  have HC := Lib.hid hc
  clear hV h1 h2 h3 ha hb hc
  cases o3 : (FloatKind.f64.format.order a b == some Ordering.lt)
  all_goals
    go_enter Tryz.func6, Tryz.ntmps6
    go_wp2_with fail
    refine (wakes_any _ HV.out).mono ?_
    rintro e w1 ⟨rfl, hb1⟩
    have HB1 := Lib.hid hb1
    clear hb1
    go_wp2_with (first
      | (go_at_call 9; refine (from_any _ _).mono ?_; rintro e w' ⟨rfl, rfl⟩)
      | (go_at_call 22; refine (cmpF_m _ _ _ (by first | exact HA.out | exact HB.out | exact HC.out) (by first | exact HA.out | exact HB.out | exact HC.out)).mono ?_; rintro e w' ⟨rfl, rfl⟩)
      | (go_at_call 19; refine (canon_any _ _).mono ?_; rintro e w' ⟨rfl, rfl⟩)
      | (go_at_call 14; refine (same_any _ _ _).mono ?_; rintro e w' ⟨rfl, rfl⟩)
      | (go_at_call 21; refine (key_any _ _ (by first | exact HA.out | exact HB.out | exact HC.out)).mono ?_; rintro e w' ⟨rfl, rfl⟩))
    go_ret
    exact ⟨rfl, HB1.out⟩
set_option maxHeartbeats 1000000 in
theorem ord_lel (a b c : Nat) (w : World) (hV : Vars w) (ha : a < 18446744073709551616) (hb : b < 18446744073709551616) (hc : c < 18446744073709551616) (h1 : key a < key b) (h2 : key b = key c) (h3 : key a < key c) :
    Calls Tryz.prog 6 #[.int .u64 (a : Int), .int .u64 (b : Int), .int .u64 (c : Int)] w fun e w' => e = .returned (.bool true) ∧ Below w.heap.size w w' := by
  have e1 : cmpI (key a) (key b) = -1 := by unfold cmpI; split <;> (try split) <;> omega
  have e2 : cmpI (key b) (key a) = 1 := by unfold cmpI; split <;> (try split) <;> omega
  have e3 : cmpI (key b) (key c) = 0 := by unfold cmpI; split <;> (try split) <;> omega
  have e4 : cmpI (key a) (key c) = -1 := by unfold cmpI; split <;> (try split) <;> omega
  have s1 : (((canonB a : Nat) : Int) == ((canonB b : Nat) : Int)) = false := by
    rw [beq_eq_false_iff_ne]; intro h; have h' : canonB a = canonB b := by omega
    unfold key at h1; rw [h'] at h1; omega
  have d1 : decide (key a < key b) = true := by simp; omega
  have o1 : True := trivial
  have o2 : (FloatKind.f64.format.order a b == some Ordering.gt) = false := by
    rw [beq_eq_false_iff_ne]; intro h; have := (order_key ha hb h).2 rfl; omega
  have HV := Lib.hid hV
  have HA := Lib.hid ha
  have HB := Lib.hid hb
  have HC := Lib.hid hc
  clear hV h1 h2 h3 ha hb hc
  cases o3 : (FloatKind.f64.format.order a b == some Ordering.lt)
  all_goals
    go_enter Tryz.func6, Tryz.ntmps6
    go_wp2_with fail
    refine (wakes_any _ HV.out).mono ?_
    rintro e w1 ⟨rfl, hb1⟩
    have HB1 := Lib.hid hb1
    clear hb1
    go_wp2_with (first
      | (go_at_call 9; refine (from_any _ _).mono ?_; rintro e w' ⟨rfl, rfl⟩)
      | (go_at_call 22; refine (cmpF_m _ _ _ (by first | exact HA.out | exact HB.out | exact HC.out) (by first | exact HA.out | exact HB.out | exact HC.out)).mono ?_; rintro e w' ⟨rfl, rfl⟩)
      | (go_at_call 19; refine (canon_any _ _).mono ?_; rintro e w' ⟨rfl, rfl⟩)
      | (go_at_call 14; refine (same_any _ _ _).mono ?_; rintro e w' ⟨rfl, rfl⟩)
      | (go_at_call 21; refine (key_any _ _ (by first | exact HA.out | exact HB.out | exact HC.out)).mono ?_; rintro e w' ⟨rfl, rfl⟩))
    go_ret
    exact ⟨rfl, HB1.out⟩
set_option maxHeartbeats 1000000 in
theorem ord_lgl (a b c : Nat) (w : World) (hV : Vars w) (ha : a < 18446744073709551616) (hb : b < 18446744073709551616) (hc : c < 18446744073709551616) (h1 : key a < key b) (h2 : key c < key b) (h3 : key a < key c) :
    Calls Tryz.prog 6 #[.int .u64 (a : Int), .int .u64 (b : Int), .int .u64 (c : Int)] w fun e w' => e = .returned (.bool true) ∧ Below w.heap.size w w' := by
  have e1 : cmpI (key a) (key b) = -1 := by unfold cmpI; split <;> (try split) <;> omega
  have e2 : cmpI (key b) (key a) = 1 := by unfold cmpI; split <;> (try split) <;> omega
  have e3 : cmpI (key b) (key c) = 1 := by unfold cmpI; split <;> (try split) <;> omega
  have e4 : cmpI (key a) (key c) = -1 := by unfold cmpI; split <;> (try split) <;> omega
  have s1 : (((canonB a : Nat) : Int) == ((canonB b : Nat) : Int)) = false := by
    rw [beq_eq_false_iff_ne]; intro h; have h' : canonB a = canonB b := by omega
    unfold key at h1; rw [h'] at h1; omega
  have d1 : decide (key a < key b) = true := by simp; omega
  have o1 : True := trivial
  have o2 : (FloatKind.f64.format.order a b == some Ordering.gt) = false := by
    rw [beq_eq_false_iff_ne]; intro h; have := (order_key ha hb h).2 rfl; omega
  have HV := Lib.hid hV
  have HA := Lib.hid ha
  have HB := Lib.hid hb
  have HC := Lib.hid hc
  clear hV h1 h2 h3 ha hb hc
  cases o3 : (FloatKind.f64.format.order a b == some Ordering.lt)
  all_goals
    go_enter Tryz.func6, Tryz.ntmps6
    go_wp2_with fail
    refine (wakes_any _ HV.out).mono ?_
    rintro e w1 ⟨rfl, hb1⟩
    have HB1 := Lib.hid hb1
    clear hb1
    go_wp2_with (first
      | (go_at_call 9; refine (from_any _ _).mono ?_; rintro e w' ⟨rfl, rfl⟩)
      | (go_at_call 22; refine (cmpF_m _ _ _ (by first | exact HA.out | exact HB.out | exact HC.out) (by first | exact HA.out | exact HB.out | exact HC.out)).mono ?_; rintro e w' ⟨rfl, rfl⟩)
      | (go_at_call 19; refine (canon_any _ _).mono ?_; rintro e w' ⟨rfl, rfl⟩)
      | (go_at_call 14; refine (same_any _ _ _).mono ?_; rintro e w' ⟨rfl, rfl⟩)
      | (go_at_call 21; refine (key_any _ _ (by first | exact HA.out | exact HB.out | exact HC.out)).mono ?_; rintro e w' ⟨rfl, rfl⟩))
    go_ret
    exact ⟨rfl, HB1.out⟩
set_option maxHeartbeats 1000000 in
theorem ord_lge (a b c : Nat) (w : World) (hV : Vars w) (ha : a < 18446744073709551616) (hb : b < 18446744073709551616) (hc : c < 18446744073709551616) (h1 : key a < key b) (h2 : key c < key b) (h3 : key a = key c) :
    Calls Tryz.prog 6 #[.int .u64 (a : Int), .int .u64 (b : Int), .int .u64 (c : Int)] w fun e w' => e = .returned (.bool true) ∧ Below w.heap.size w w' := by
  have e1 : cmpI (key a) (key b) = -1 := by unfold cmpI; split <;> (try split) <;> omega
  have e2 : cmpI (key b) (key a) = 1 := by unfold cmpI; split <;> (try split) <;> omega
  have e3 : cmpI (key b) (key c) = 1 := by unfold cmpI; split <;> (try split) <;> omega
  have e4 : cmpI (key a) (key c) = 0 := by unfold cmpI; split <;> (try split) <;> omega
  have s1 : (((canonB a : Nat) : Int) == ((canonB b : Nat) : Int)) = false := by
    rw [beq_eq_false_iff_ne]; intro h; have h' : canonB a = canonB b := by omega
    unfold key at h1; rw [h'] at h1; omega
  have d1 : decide (key a < key b) = true := by simp; omega
  have o1 : True := trivial
  have o2 : (FloatKind.f64.format.order a b == some Ordering.gt) = false := by
    rw [beq_eq_false_iff_ne]; intro h; have := (order_key ha hb h).2 rfl; omega
  have HV := Lib.hid hV
  have HA := Lib.hid ha
  have HB := Lib.hid hb
  have HC := Lib.hid hc
  clear hV h1 h2 h3 ha hb hc
  cases o3 : (FloatKind.f64.format.order a b == some Ordering.lt)
  all_goals
    go_enter Tryz.func6, Tryz.ntmps6
    go_wp2_with fail
    refine (wakes_any _ HV.out).mono ?_
    rintro e w1 ⟨rfl, hb1⟩
    have HB1 := Lib.hid hb1
    clear hb1
    go_wp2_with (first
      | (go_at_call 9; refine (from_any _ _).mono ?_; rintro e w' ⟨rfl, rfl⟩)
      | (go_at_call 22; refine (cmpF_m _ _ _ (by first | exact HA.out | exact HB.out | exact HC.out) (by first | exact HA.out | exact HB.out | exact HC.out)).mono ?_; rintro e w' ⟨rfl, rfl⟩)
      | (go_at_call 19; refine (canon_any _ _).mono ?_; rintro e w' ⟨rfl, rfl⟩)
      | (go_at_call 14; refine (same_any _ _ _).mono ?_; rintro e w' ⟨rfl, rfl⟩)
      | (go_at_call 21; refine (key_any _ _ (by first | exact HA.out | exact HB.out | exact HC.out)).mono ?_; rintro e w' ⟨rfl, rfl⟩))
    go_ret
    exact ⟨rfl, HB1.out⟩
set_option maxHeartbeats 1000000 in
theorem ord_lgg (a b c : Nat) (w : World) (hV : Vars w) (ha : a < 18446744073709551616) (hb : b < 18446744073709551616) (hc : c < 18446744073709551616) (h1 : key a < key b) (h2 : key c < key b) (h3 : key c < key a) :
    Calls Tryz.prog 6 #[.int .u64 (a : Int), .int .u64 (b : Int), .int .u64 (c : Int)] w fun e w' => e = .returned (.bool true) ∧ Below w.heap.size w w' := by
  have e1 : cmpI (key a) (key b) = -1 := by unfold cmpI; split <;> (try split) <;> omega
  have e2 : cmpI (key b) (key a) = 1 := by unfold cmpI; split <;> (try split) <;> omega
  have e3 : cmpI (key b) (key c) = 1 := by unfold cmpI; split <;> (try split) <;> omega
  have e4 : cmpI (key a) (key c) = 1 := by unfold cmpI; split <;> (try split) <;> omega
  have s1 : (((canonB a : Nat) : Int) == ((canonB b : Nat) : Int)) = false := by
    rw [beq_eq_false_iff_ne]; intro h; have h' : canonB a = canonB b := by omega
    unfold key at h1; rw [h'] at h1; omega
  have d1 : decide (key a < key b) = true := by simp; omega
  have o1 : True := trivial
  have o2 : (FloatKind.f64.format.order a b == some Ordering.gt) = false := by
    rw [beq_eq_false_iff_ne]; intro h; have := (order_key ha hb h).2 rfl; omega
  have HV := Lib.hid hV
  have HA := Lib.hid ha
  have HB := Lib.hid hb
  have HC := Lib.hid hc
  clear hV h1 h2 h3 ha hb hc
  cases o3 : (FloatKind.f64.format.order a b == some Ordering.lt)
  all_goals
    go_enter Tryz.func6, Tryz.ntmps6
    go_wp2_with fail
    refine (wakes_any _ HV.out).mono ?_
    rintro e w1 ⟨rfl, hb1⟩
    have HB1 := Lib.hid hb1
    clear hb1
    go_wp2_with (first
      | (go_at_call 9; refine (from_any _ _).mono ?_; rintro e w' ⟨rfl, rfl⟩)
      | (go_at_call 22; refine (cmpF_m _ _ _ (by first | exact HA.out | exact HB.out | exact HC.out) (by first | exact HA.out | exact HB.out | exact HC.out)).mono ?_; rintro e w' ⟨rfl, rfl⟩)
      | (go_at_call 19; refine (canon_any _ _).mono ?_; rintro e w' ⟨rfl, rfl⟩)
      | (go_at_call 14; refine (same_any _ _ _).mono ?_; rintro e w' ⟨rfl, rfl⟩)
      | (go_at_call 21; refine (key_any _ _ (by first | exact HA.out | exact HB.out | exact HC.out)).mono ?_; rintro e w' ⟨rfl, rfl⟩))
    go_ret
    exact ⟨rfl, HB1.out⟩
set_option maxHeartbeats 1000000 in
theorem ord_ell (a b c : Nat) (w : World) (hV : Vars w) (ha : a < 18446744073709551616) (hb : b < 18446744073709551616) (hc : c < 18446744073709551616) (h1 : key a = key b) (h2 : key b < key c) (h3 : key a < key c) :
    Calls Tryz.prog 6 #[.int .u64 (a : Int), .int .u64 (b : Int), .int .u64 (c : Int)] w fun e w' => e = .returned (.bool true) ∧ Below w.heap.size w w' := by
  have e1 : cmpI (key a) (key b) = 0 := by unfold cmpI; split <;> (try split) <;> omega
  have e2 : cmpI (key b) (key a) = 0 := by unfold cmpI; split <;> (try split) <;> omega
  have e3 : cmpI (key b) (key c) = -1 := by unfold cmpI; split <;> (try split) <;> omega
  have e4 : cmpI (key a) (key c) = -1 := by unfold cmpI; split <;> (try split) <;> omega
  have s1 : (((canonB a : Nat) : Int) == ((canonB b : Nat) : Int)) = true := by rw [key_inj ha hb h1]; simp
  have d1 : decide (key a < key b) = false := by simp; omega
  have o1 : (FloatKind.f64.format.order a b == some Ordering.lt) = false := by
    rw [beq_eq_false_iff_ne]; intro h; have := (order_key ha hb h).1 rfl; omega
  have o2 : (FloatKind.f64.format.order a b == some Ordering.gt) = false := by
    rw [beq_eq_false_iff_ne]; intro h; have := (order_key ha hb h).2 rfl; omega
  have HV := Lib.hid hV
  have HA := Lib.hid ha
  have HB := Lib.hid hb
  have HC := Lib.hid hc
  clear hV h1 h2 h3 ha hb hc
  go_enter Tryz.func6, Tryz.ntmps6
  go_wp2_with fail
  refine (wakes_any _ HV.out).mono ?_
  rintro e w1 ⟨rfl, hb1⟩
  have HB1 := Lib.hid hb1
  clear hb1
  go_wp2_with (first
    | (go_at_call 9; refine (from_any _ _).mono ?_; rintro e w' ⟨rfl, rfl⟩)
    | (go_at_call 22; refine (cmpF_m _ _ _ (by first | exact HA.out | exact HB.out | exact HC.out) (by first | exact HA.out | exact HB.out | exact HC.out)).mono ?_; rintro e w' ⟨rfl, rfl⟩)
    | (go_at_call 19; refine (canon_any _ _).mono ?_; rintro e w' ⟨rfl, rfl⟩)
    | (go_at_call 14; refine (same_any _ _ _).mono ?_; rintro e w' ⟨rfl, rfl⟩)
    | (go_at_call 21; refine (key_any _ _ (by first | exact HA.out | exact HB.out | exact HC.out)).mono ?_; rintro e w' ⟨rfl, rfl⟩))
  go_ret
  exact ⟨rfl, HB1.out⟩
set_option maxHeartbeats 1000000 in
theorem ord_eee (a b c : Nat) (w : World) (hV : Vars w) (ha : a < 18446744073709551616) (hb : b < 18446744073709551616) (hc : c < 18446744073709551616) (h1 : key a = key b) (h2 : key b = key c) (h3 : key a = key c) :
    Calls Tryz.prog 6 #[.int .u64 (a : Int), .int .u64 (b : Int), .int .u64 (c : Int)] w fun e w' => e = .returned (.bool true) ∧ Below w.heap.size w w' := by
  have e1 : cmpI (key a) (key b) = 0 := by unfold cmpI; split <;> (try split) <;> omega
  have e2 : cmpI (key b) (key a) = 0 := by unfold cmpI; split <;> (try split) <;> omega
  have e3 : cmpI (key b) (key c) = 0 := by unfold cmpI; split <;> (try split) <;> omega
  have e4 : cmpI (key a) (key c) = 0 := by unfold cmpI; split <;> (try split) <;> omega
  have s1 : (((canonB a : Nat) : Int) == ((canonB b : Nat) : Int)) = true := by rw [key_inj ha hb h1]; simp
  have d1 : decide (key a < key b) = false := by simp; omega
  have o1 : (FloatKind.f64.format.order a b == some Ordering.lt) = false := by
    rw [beq_eq_false_iff_ne]; intro h; have := (order_key ha hb h).1 rfl; omega
  have o2 : (FloatKind.f64.format.order a b == some Ordering.gt) = false := by
    rw [beq_eq_false_iff_ne]; intro h; have := (order_key ha hb h).2 rfl; omega
  have HV := Lib.hid hV
  have HA := Lib.hid ha
  have HB := Lib.hid hb
  have HC := Lib.hid hc
  clear hV h1 h2 h3 ha hb hc
  go_enter Tryz.func6, Tryz.ntmps6
  go_wp2_with fail
  refine (wakes_any _ HV.out).mono ?_
  rintro e w1 ⟨rfl, hb1⟩
  have HB1 := Lib.hid hb1
  clear hb1
  go_wp2_with (first
    | (go_at_call 9; refine (from_any _ _).mono ?_; rintro e w' ⟨rfl, rfl⟩)
    | (go_at_call 22; refine (cmpF_m _ _ _ (by first | exact HA.out | exact HB.out | exact HC.out) (by first | exact HA.out | exact HB.out | exact HC.out)).mono ?_; rintro e w' ⟨rfl, rfl⟩)
    | (go_at_call 19; refine (canon_any _ _).mono ?_; rintro e w' ⟨rfl, rfl⟩)
    | (go_at_call 14; refine (same_any _ _ _).mono ?_; rintro e w' ⟨rfl, rfl⟩)
    | (go_at_call 21; refine (key_any _ _ (by first | exact HA.out | exact HB.out | exact HC.out)).mono ?_; rintro e w' ⟨rfl, rfl⟩))
  go_ret
  exact ⟨rfl, HB1.out⟩
set_option maxHeartbeats 1000000 in
theorem ord_egg (a b c : Nat) (w : World) (hV : Vars w) (ha : a < 18446744073709551616) (hb : b < 18446744073709551616) (hc : c < 18446744073709551616) (h1 : key a = key b) (h2 : key c < key b) (h3 : key c < key a) :
    Calls Tryz.prog 6 #[.int .u64 (a : Int), .int .u64 (b : Int), .int .u64 (c : Int)] w fun e w' => e = .returned (.bool true) ∧ Below w.heap.size w w' := by
  have e1 : cmpI (key a) (key b) = 0 := by unfold cmpI; split <;> (try split) <;> omega
  have e2 : cmpI (key b) (key a) = 0 := by unfold cmpI; split <;> (try split) <;> omega
  have e3 : cmpI (key b) (key c) = 1 := by unfold cmpI; split <;> (try split) <;> omega
  have e4 : cmpI (key a) (key c) = 1 := by unfold cmpI; split <;> (try split) <;> omega
  have s1 : (((canonB a : Nat) : Int) == ((canonB b : Nat) : Int)) = true := by rw [key_inj ha hb h1]; simp
  have d1 : decide (key a < key b) = false := by simp; omega
  have o1 : (FloatKind.f64.format.order a b == some Ordering.lt) = false := by
    rw [beq_eq_false_iff_ne]; intro h; have := (order_key ha hb h).1 rfl; omega
  have o2 : (FloatKind.f64.format.order a b == some Ordering.gt) = false := by
    rw [beq_eq_false_iff_ne]; intro h; have := (order_key ha hb h).2 rfl; omega
  have HV := Lib.hid hV
  have HA := Lib.hid ha
  have HB := Lib.hid hb
  have HC := Lib.hid hc
  clear hV h1 h2 h3 ha hb hc
  go_enter Tryz.func6, Tryz.ntmps6
  go_wp2_with fail
  refine (wakes_any _ HV.out).mono ?_
  rintro e w1 ⟨rfl, hb1⟩
  have HB1 := Lib.hid hb1
  clear hb1
  go_wp2_with (first
    | (go_at_call 9; refine (from_any _ _).mono ?_; rintro e w' ⟨rfl, rfl⟩)
    | (go_at_call 22; refine (cmpF_m _ _ _ (by first | exact HA.out | exact HB.out | exact HC.out) (by first | exact HA.out | exact HB.out | exact HC.out)).mono ?_; rintro e w' ⟨rfl, rfl⟩)
    | (go_at_call 19; refine (canon_any _ _).mono ?_; rintro e w' ⟨rfl, rfl⟩)
    | (go_at_call 14; refine (same_any _ _ _).mono ?_; rintro e w' ⟨rfl, rfl⟩)
    | (go_at_call 21; refine (key_any _ _ (by first | exact HA.out | exact HB.out | exact HC.out)).mono ?_; rintro e w' ⟨rfl, rfl⟩))
  go_ret
  exact ⟨rfl, HB1.out⟩
set_option maxHeartbeats 1000000 in
theorem ord_gll (a b c : Nat) (w : World) (hV : Vars w) (ha : a < 18446744073709551616) (hb : b < 18446744073709551616) (hc : c < 18446744073709551616) (h1 : key b < key a) (h2 : key b < key c) (h3 : key a < key c) :
    Calls Tryz.prog 6 #[.int .u64 (a : Int), .int .u64 (b : Int), .int .u64 (c : Int)] w fun e w' => e = .returned (.bool true) ∧ Below w.heap.size w w' := by
  have e1 : cmpI (key a) (key b) = 1 := by unfold cmpI; split <;> (try split) <;> omega
  have e2 : cmpI (key b) (key a) = -1 := by unfold cmpI; split <;> (try split) <;> omega
  have e3 : cmpI (key b) (key c) = -1 := by unfold cmpI; split <;> (try split) <;> omega
  have e4 : cmpI (key a) (key c) = -1 := by unfold cmpI; split <;> (try split) <;> omega
  have s1 : (((canonB a : Nat) : Int) == ((canonB b : Nat) : Int)) = false := by
    rw [beq_eq_false_iff_ne]; intro h; have h' : canonB a = canonB b := by omega
    unfold key at h1; rw [h'] at h1; omega
  have d1 : decide (key a < key b) = false := by simp; omega
  have o1 : (FloatKind.f64.format.order a b == some Ordering.lt) = false := by
    rw [beq_eq_false_iff_ne]; intro h; have := (order_key ha hb h).1 rfl; omega
  have HV := Lib.hid hV
  have HA := Lib.hid ha
  have HB := Lib.hid hb
  have HC := Lib.hid hc
  clear hV h1 h2 h3 ha hb hc
  cases o3 : (FloatKind.f64.format.order a b == some Ordering.gt)
  all_goals
    go_enter Tryz.func6, Tryz.ntmps6
    go_wp2_with fail
    refine (wakes_any _ HV.out).mono ?_
    rintro e w1 ⟨rfl, hb1⟩
    have HB1 := Lib.hid hb1
    clear hb1
    go_wp2_with (first
      | (go_at_call 9; refine (from_any _ _).mono ?_; rintro e w' ⟨rfl, rfl⟩)
      | (go_at_call 22; refine (cmpF_m _ _ _ (by first | exact HA.out | exact HB.out | exact HC.out) (by first | exact HA.out | exact HB.out | exact HC.out)).mono ?_; rintro e w' ⟨rfl, rfl⟩)
      | (go_at_call 19; refine (canon_any _ _).mono ?_; rintro e w' ⟨rfl, rfl⟩)
      | (go_at_call 14; refine (same_any _ _ _).mono ?_; rintro e w' ⟨rfl, rfl⟩)
      | (go_at_call 21; refine (key_any _ _ (by first | exact HA.out | exact HB.out | exact HC.out)).mono ?_; rintro e w' ⟨rfl, rfl⟩))
    go_ret
    exact ⟨rfl, HB1.out⟩
set_option maxHeartbeats 1000000 in
theorem ord_gle (a b c : Nat) (w : World) (hV : Vars w) (ha : a < 18446744073709551616) (hb : b < 18446744073709551616) (hc : c < 18446744073709551616) (h1 : key b < key a) (h2 : key b < key c) (h3 : key a = key c) :
    Calls Tryz.prog 6 #[.int .u64 (a : Int), .int .u64 (b : Int), .int .u64 (c : Int)] w fun e w' => e = .returned (.bool true) ∧ Below w.heap.size w w' := by
  have e1 : cmpI (key a) (key b) = 1 := by unfold cmpI; split <;> (try split) <;> omega
  have e2 : cmpI (key b) (key a) = -1 := by unfold cmpI; split <;> (try split) <;> omega
  have e3 : cmpI (key b) (key c) = -1 := by unfold cmpI; split <;> (try split) <;> omega
  have e4 : cmpI (key a) (key c) = 0 := by unfold cmpI; split <;> (try split) <;> omega
  have s1 : (((canonB a : Nat) : Int) == ((canonB b : Nat) : Int)) = false := by
    rw [beq_eq_false_iff_ne]; intro h; have h' : canonB a = canonB b := by omega
    unfold key at h1; rw [h'] at h1; omega
  have d1 : decide (key a < key b) = false := by simp; omega
  have o1 : (FloatKind.f64.format.order a b == some Ordering.lt) = false := by
    rw [beq_eq_false_iff_ne]; intro h; have := (order_key ha hb h).1 rfl; omega
  have HV := Lib.hid hV
  have HA := Lib.hid ha
  have HB := Lib.hid hb
  have HC := Lib.hid hc
  clear hV h1 h2 h3 ha hb hc
  cases o3 : (FloatKind.f64.format.order a b == some Ordering.gt)
  all_goals
    go_enter Tryz.func6, Tryz.ntmps6
    go_wp2_with fail
    refine (wakes_any _ HV.out).mono ?_
    rintro e w1 ⟨rfl, hb1⟩
    have HB1 := Lib.hid hb1
    clear hb1
    go_wp2_with (first
      | (go_at_call 9; refine (from_any _ _).mono ?_; rintro e w' ⟨rfl, rfl⟩)
      | (go_at_call 22; refine (cmpF_m _ _ _ (by first | exact HA.out | exact HB.out | exact HC.out) (by first | exact HA.out | exact HB.out | exact HC.out)).mono ?_; rintro e w' ⟨rfl, rfl⟩)
      | (go_at_call 19; refine (canon_any _ _).mono ?_; rintro e w' ⟨rfl, rfl⟩)
      | (go_at_call 14; refine (same_any _ _ _).mono ?_; rintro e w' ⟨rfl, rfl⟩)
      | (go_at_call 21; refine (key_any _ _ (by first | exact HA.out | exact HB.out | exact HC.out)).mono ?_; rintro e w' ⟨rfl, rfl⟩))
    go_ret
    exact ⟨rfl, HB1.out⟩
set_option maxHeartbeats 1000000 in
theorem ord_glg (a b c : Nat) (w : World) (hV : Vars w) (ha : a < 18446744073709551616) (hb : b < 18446744073709551616) (hc : c < 18446744073709551616) (h1 : key b < key a) (h2 : key b < key c) (h3 : key c < key a) :
    Calls Tryz.prog 6 #[.int .u64 (a : Int), .int .u64 (b : Int), .int .u64 (c : Int)] w fun e w' => e = .returned (.bool true) ∧ Below w.heap.size w w' := by
  have e1 : cmpI (key a) (key b) = 1 := by unfold cmpI; split <;> (try split) <;> omega
  have e2 : cmpI (key b) (key a) = -1 := by unfold cmpI; split <;> (try split) <;> omega
  have e3 : cmpI (key b) (key c) = -1 := by unfold cmpI; split <;> (try split) <;> omega
  have e4 : cmpI (key a) (key c) = 1 := by unfold cmpI; split <;> (try split) <;> omega
  have s1 : (((canonB a : Nat) : Int) == ((canonB b : Nat) : Int)) = false := by
    rw [beq_eq_false_iff_ne]; intro h; have h' : canonB a = canonB b := by omega
    unfold key at h1; rw [h'] at h1; omega
  have d1 : decide (key a < key b) = false := by simp; omega
  have o1 : (FloatKind.f64.format.order a b == some Ordering.lt) = false := by
    rw [beq_eq_false_iff_ne]; intro h; have := (order_key ha hb h).1 rfl; omega
  have HV := Lib.hid hV
  have HA := Lib.hid ha
  have HB := Lib.hid hb
  have HC := Lib.hid hc
  clear hV h1 h2 h3 ha hb hc
  cases o3 : (FloatKind.f64.format.order a b == some Ordering.gt)
  all_goals
    go_enter Tryz.func6, Tryz.ntmps6
    go_wp2_with fail
    refine (wakes_any _ HV.out).mono ?_
    rintro e w1 ⟨rfl, hb1⟩
    have HB1 := Lib.hid hb1
    clear hb1
    go_wp2_with (first
      | (go_at_call 9; refine (from_any _ _).mono ?_; rintro e w' ⟨rfl, rfl⟩)
      | (go_at_call 22; refine (cmpF_m _ _ _ (by first | exact HA.out | exact HB.out | exact HC.out) (by first | exact HA.out | exact HB.out | exact HC.out)).mono ?_; rintro e w' ⟨rfl, rfl⟩)
      | (go_at_call 19; refine (canon_any _ _).mono ?_; rintro e w' ⟨rfl, rfl⟩)
      | (go_at_call 14; refine (same_any _ _ _).mono ?_; rintro e w' ⟨rfl, rfl⟩)
      | (go_at_call 21; refine (key_any _ _ (by first | exact HA.out | exact HB.out | exact HC.out)).mono ?_; rintro e w' ⟨rfl, rfl⟩))
    go_ret
    exact ⟨rfl, HB1.out⟩
set_option maxHeartbeats 1000000 in
theorem ord_geg (a b c : Nat) (w : World) (hV : Vars w) (ha : a < 18446744073709551616) (hb : b < 18446744073709551616) (hc : c < 18446744073709551616) (h1 : key b < key a) (h2 : key b = key c) (h3 : key c < key a) :
    Calls Tryz.prog 6 #[.int .u64 (a : Int), .int .u64 (b : Int), .int .u64 (c : Int)] w fun e w' => e = .returned (.bool true) ∧ Below w.heap.size w w' := by
  have e1 : cmpI (key a) (key b) = 1 := by unfold cmpI; split <;> (try split) <;> omega
  have e2 : cmpI (key b) (key a) = -1 := by unfold cmpI; split <;> (try split) <;> omega
  have e3 : cmpI (key b) (key c) = 0 := by unfold cmpI; split <;> (try split) <;> omega
  have e4 : cmpI (key a) (key c) = 1 := by unfold cmpI; split <;> (try split) <;> omega
  have s1 : (((canonB a : Nat) : Int) == ((canonB b : Nat) : Int)) = false := by
    rw [beq_eq_false_iff_ne]; intro h; have h' : canonB a = canonB b := by omega
    unfold key at h1; rw [h'] at h1; omega
  have d1 : decide (key a < key b) = false := by simp; omega
  have o1 : (FloatKind.f64.format.order a b == some Ordering.lt) = false := by
    rw [beq_eq_false_iff_ne]; intro h; have := (order_key ha hb h).1 rfl; omega
  have HV := Lib.hid hV
  have HA := Lib.hid ha
  have HB := Lib.hid hb
  have HC := Lib.hid hc
  clear hV h1 h2 h3 ha hb hc
  cases o3 : (FloatKind.f64.format.order a b == some Ordering.gt)
  all_goals
    go_enter Tryz.func6, Tryz.ntmps6
    go_wp2_with fail
    refine (wakes_any _ HV.out).mono ?_
    rintro e w1 ⟨rfl, hb1⟩
    have HB1 := Lib.hid hb1
    clear hb1
    go_wp2_with (first
      | (go_at_call 9; refine (from_any _ _).mono ?_; rintro e w' ⟨rfl, rfl⟩)
      | (go_at_call 22; refine (cmpF_m _ _ _ (by first | exact HA.out | exact HB.out | exact HC.out) (by first | exact HA.out | exact HB.out | exact HC.out)).mono ?_; rintro e w' ⟨rfl, rfl⟩)
      | (go_at_call 19; refine (canon_any _ _).mono ?_; rintro e w' ⟨rfl, rfl⟩)
      | (go_at_call 14; refine (same_any _ _ _).mono ?_; rintro e w' ⟨rfl, rfl⟩)
      | (go_at_call 21; refine (key_any _ _ (by first | exact HA.out | exact HB.out | exact HC.out)).mono ?_; rintro e w' ⟨rfl, rfl⟩))
    go_ret
    exact ⟨rfl, HB1.out⟩
set_option maxHeartbeats 1000000 in
theorem ord_ggg (a b c : Nat) (w : World) (hV : Vars w) (ha : a < 18446744073709551616) (hb : b < 18446744073709551616) (hc : c < 18446744073709551616) (h1 : key b < key a) (h2 : key c < key b) (h3 : key c < key a) :
    Calls Tryz.prog 6 #[.int .u64 (a : Int), .int .u64 (b : Int), .int .u64 (c : Int)] w fun e w' => e = .returned (.bool true) ∧ Below w.heap.size w w' := by
  have e1 : cmpI (key a) (key b) = 1 := by unfold cmpI; split <;> (try split) <;> omega
  have e2 : cmpI (key b) (key a) = -1 := by unfold cmpI; split <;> (try split) <;> omega
  have e3 : cmpI (key b) (key c) = 1 := by unfold cmpI; split <;> (try split) <;> omega
  have e4 : cmpI (key a) (key c) = 1 := by unfold cmpI; split <;> (try split) <;> omega
  have s1 : (((canonB a : Nat) : Int) == ((canonB b : Nat) : Int)) = false := by
    rw [beq_eq_false_iff_ne]; intro h; have h' : canonB a = canonB b := by omega
    unfold key at h1; rw [h'] at h1; omega
  have d1 : decide (key a < key b) = false := by simp; omega
  have o1 : (FloatKind.f64.format.order a b == some Ordering.lt) = false := by
    rw [beq_eq_false_iff_ne]; intro h; have := (order_key ha hb h).1 rfl; omega
  have HV := Lib.hid hV
  have HA := Lib.hid ha
  have HB := Lib.hid hb
  have HC := Lib.hid hc
  clear hV h1 h2 h3 ha hb hc
  cases o3 : (FloatKind.f64.format.order a b == some Ordering.gt)
  all_goals
    go_enter Tryz.func6, Tryz.ntmps6
    go_wp2_with fail
    refine (wakes_any _ HV.out).mono ?_
    rintro e w1 ⟨rfl, hb1⟩
    have HB1 := Lib.hid hb1
    clear hb1
    go_wp2_with (first
      | (go_at_call 9; refine (from_any _ _).mono ?_; rintro e w' ⟨rfl, rfl⟩)
      | (go_at_call 22; refine (cmpF_m _ _ _ (by first | exact HA.out | exact HB.out | exact HC.out) (by first | exact HA.out | exact HB.out | exact HC.out)).mono ?_; rintro e w' ⟨rfl, rfl⟩)
      | (go_at_call 19; refine (canon_any _ _).mono ?_; rintro e w' ⟨rfl, rfl⟩)
      | (go_at_call 14; refine (same_any _ _ _).mono ?_; rintro e w' ⟨rfl, rfl⟩)
      | (go_at_call 21; refine (key_any _ _ (by first | exact HA.out | exact HB.out | exact HC.out)).mono ?_; rintro e w' ⟨rfl, rfl⟩))
    go_ret
    exact ⟨rfl, HB1.out⟩
theorem orders_any (a b c : Nat) (w : World) (hV : Vars w) (ha : a < 18446744073709551616) (hb : b < 18446744073709551616) (hc : c < 18446744073709551616) :
    Calls Tryz.prog 6 #[.int .u64 (a : Int), .int .u64 (b : Int), .int .u64 (c : Int)] w fun e w' => e = .returned (.bool true) ∧ Below w.heap.size w w' := by
  rcases Int.lt_trichotomy (key a) (key b) with h1 | h1 | h1 <;> rcases Int.lt_trichotomy (key b) (key c) with h2 | h2 | h2 <;> rcases Int.lt_trichotomy (key a) (key c) with h3 | h3 | h3
  · exact ord_lll a b c w hV ha hb hc h1 h2 h3
  · omega
  · omega
  · exact ord_lel a b c w hV ha hb hc h1 h2 h3
  · omega
  · omega
  · exact ord_lgl a b c w hV ha hb hc h1 h2 h3
  · exact ord_lge a b c w hV ha hb hc h1 h2 h3
  · exact ord_lgg a b c w hV ha hb hc h1 h2 h3
  · exact ord_ell a b c w hV ha hb hc h1 h2 h3
  · omega
  · omega
  · omega
  · exact ord_eee a b c w hV ha hb hc h1 h2 h3
  · omega
  · omega
  · omega
  · exact ord_egg a b c w hV ha hb hc h1 h2 h3
  · exact ord_gll a b c w hV ha hb hc h1 h2 h3
  · exact ord_gle a b c w hV ha hb hc h1 h2 h3
  · exact ord_glg a b c w hV ha hb hc h1 h2 h3
  · omega
  · omega
  · exact ord_geg a b c w hV ha hb hc h1 h2 h3
  · omega
  · omega
  · exact ord_ggg a b c w hV ha hb hc h1 h2 h3
end Go.Proofs.YtnklnenjdffbaaaGreatDoor
