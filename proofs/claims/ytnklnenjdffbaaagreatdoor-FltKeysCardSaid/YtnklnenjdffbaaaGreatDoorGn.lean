/- The laws FltNarrows and FltKeys walked. -/
import Derived.Test.YtnklnenjdffbaaaGreatDoorGm
namespace Go.Proofs.YtnklnenjdffbaaaGreatDoor
open Go.RowKit
set_option linter.unusedVariables false
set_option maxRecDepth 100000
theorem narR_form (x : Nat) : ∃ (P : Int) (B : Bool), narR x = .tuple #[.int .u32 P, .bool B] := by
  unfold narR
  split
  · exact ⟨_, _, rfl⟩
  · split
    · exact ⟨_, _, rfl⟩
    · exact ⟨_, _, rfl⟩
theorem widC_lt (r : Nat) : widC r < 18446744073709551616 := by
  unfold widC
  split
  · rename_i h; exact (rung_word (neg4 r) (widR (rung4 r)) (widR_lt h)).2.2
  · decide
set_option maxHeartbeats 1000000 in
theorem narrows_any (a b : Nat) (w : World) (hV : Vars w) (ha : a < 18446744073709551616) (hb : b < 4294967296) :
    Calls Tryz.prog 4 #[.int .u64 (a : Int), .int .u32 (b : Int)] w fun e w' => e = .returned (.bool true) ∧ Below w.heap.size w w' := by
  have HV := Lib.hid hV
  have HA := Lib.hid ha
  have HB := Lib.hid hb
  have HW := Lib.hid (widC_lt b)
  obtain ⟨P, B, hPB⟩ := narR_form a
  obtain ⟨P2, B2, hPB2⟩ := narR_form (widC b)
  have HP := Lib.hid hPB
  have HP2 := Lib.hid hPB2
  clear hV ha hb hPB hPB2
  go_enter Tryz.func4, Tryz.ntmps4
  go_wp2_with fail
  refine (wakes_any _ HV.out).mono ?_
  rintro e w1 ⟨rfl, hb1⟩
  have HB1 := Lib.hid hb1
  have hz1 := hb1.size
  clear hb1
  go_wp2_with fail
  refine (from_any _ _).mono ?_
  rintro e w' ⟨rfl, rfl⟩
  go_wp2_with fail
  refine (narrow_any a _ HA.out).mono ?_
  rw [HP.out]
  rintro e w2 ⟨rfl, hb2⟩
  have HB2 : Hid (Below w.heap.size w w2) := HB1.out.trans (hb2.mono hz1)
  have hz2 := HB2.out.size
  clear hb2
  go_wp2_with fail
  refine (rnarrow_any a _ HA.out).mono ?_
  rw [HP.out]
  rintro e w' ⟨rfl, rfl⟩
  go_wp2_with fail
  refine (widen_any b _ HB.out).mono ?_
  rintro e w3 ⟨rfl, hb3⟩
  have HB3 : Hid (Below w.heap.size w w3) := HB2.out.trans (hb3.mono hz2)
  have hz3 := HB3.out.size
  clear hb3
  go_wp2_with fail
  refine (rwiden_any b _ HB.out).mono ?_
  rintro e w4 ⟨rfl, hb4⟩
  have HB4 : Hid (Below w.heap.size w w4) := HB3.out.trans (hb4.mono hz3)
  have hz4 := HB4.out.size
  clear hb4
  go_wp2_with fail
  refine (same_any _ _ _).mono ?_
  rintro e w' ⟨rfl, rfl⟩
  go_wp2_with fail
  refine (narrow_any (widC b) _ HW.out).mono ?_
  rw [HP2.out]
  rintro e w5 ⟨rfl, hb5⟩
  have HB5 : Hid (Below w.heap.size w w5) := HB4.out.trans (hb5.mono hz4)
  clear hb5
  go_wp2_with fail
  refine (rnarrow_any (widC b) _ HW.out).mono ?_
  rw [HP2.out]
  rintro e w' ⟨rfl, rfl⟩
  go_wp2_with fail
  go_ret
  exact ⟨rfl, HB5.out⟩
set_option maxHeartbeats 1000000 in
theorem keys_any (a b k : Nat) (w : World) (hV : Vars w) (ha : a < 18446744073709551616) (hb : b < 18446744073709551616) (hk : k < 18446744073709551616) :
    Calls Tryz.prog 7 #[.int .u64 (a : Int), .int .u64 (b : Int), .int .u64 (k : Int)] w fun e w' => e = .returned (.bool true) ∧ Below w.heap.size w w' := by
  have HV := Lib.hid hV
  have HA := Lib.hid ha
  have HB := Lib.hid hb
  have HK := Lib.hid hk
  clear hV ha hb hk
  go_enter Tryz.func7, Tryz.ntmps7
  go_wp2_with fail
  refine (wakes_any _ HV.out).mono ?_
  rintro e w1 ⟨rfl, hb1⟩
  have HB1 := Lib.hid hb1
  clear hb1
  go_wp2_with fail
  refine (from_any _ _).mono ?_
  rintro e w' ⟨rfl, rfl⟩
  go_wp2_with fail
  refine (from_any _ _).mono ?_
  rintro e w' ⟨rfl, rfl⟩
  go_wp2_with fail
  refine (unkey_any k _ HK.out).mono ?_
  rintro e w' ⟨rfl, rfl⟩
  go_wp2_with fail
  refine (runkey_any k _ HK.out).mono ?_
  rintro e w' ⟨rfl, rfl⟩
  go_wp2_with fail
  refine (canon_any _ _).mono ?_
  rintro e w' ⟨rfl, rfl⟩
  go_wp2_with fail
  refine (rcanon_any a _ HA.out).mono ?_
  rintro e w' ⟨rfl, rfl⟩
  go_wp2_with fail
  refine (same_any _ _ _).mono ?_
  rintro e w' ⟨rfl, rfl⟩
  go_wp2_with fail
  refine (key_any a _ HA.out).mono ?_
  rintro e w' ⟨rfl, rfl⟩
  go_wp2_with fail
  refine (rkey_any a _ HA.out).mono ?_
  rintro e w' ⟨rfl, rfl⟩
  go_wp2_with fail
  refine (cmpF_any a b _ HA.out HB.out).mono ?_
  rintro e w2 ⟨rfl, hw2⟩
  rw [hw2]
  clear hw2
  go_wp2_with fail
  refine (rcmp_any a b _ HA.out HB.out).mono ?_
  rintro e w' ⟨rfl, rfl⟩
  go_wp2_with fail
  refine (same_any _ _ _).mono ?_
  rintro e w' ⟨rfl, rfl⟩
  go_wp2_with fail
  go_ret
  exact ⟨rfl, HB1.out⟩
end Go.Proofs.YtnklnenjdffbaaaGreatDoor
