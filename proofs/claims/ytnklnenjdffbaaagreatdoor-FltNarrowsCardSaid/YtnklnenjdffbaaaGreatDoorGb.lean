/- strconv.ParseFloat at "0.1"; flt.Parse at it; the law's wakes. -/
import Derived.Test.YtnklnenjdffbaaaGreatDoorGa
namespace Go.Proofs.YtnklnenjdffbaaaGreatDoor
open Go.RowKit Go.Sort
set_option linter.unusedVariables false
set_option maxRecDepth 100000
theorem bool2u_m (b : Bool) (w : World) : Calls Tryz.prog 77 #[.bool b] w fun e w' => e = .returned (.int .u64 (if b then 1 else 0)) ∧ w = w' := (bool2u_any b w).mono fun _ _ ⟨h1, h2⟩ => ⟨h1, h2.symm⟩
set_option maxHeartbeats 1000000 in
theorem atof_01 (w : World) (hV : Vars w) : Calls Tryz.prog 49 #[.string ⟨#[48, 46, 49]⟩] w fun e w' => e = .returned (.tuple #[.float .f64 4591870180066957722, .int .i64 3, .nilIface]) ∧ w = w' := by
  have HV := Lib.hid hV
  have c0 := hV.opt
  clear hV
  go_enter Tryz.func49, Tryz.ntmps49
  go_wp2_with (first
    | (go_at_call 68; refine (special_01 _).mono ?_; rintro e w' ⟨rfl, rfl⟩)
    | (go_at_call 69; refine (read_01 _).mono ?_; rintro e w' ⟨rfl, rfl⟩)
    | (go_at_call 77; refine (bool2u_m _ _).mono ?_; rintro e w' ⟨rfl, rfl⟩)
    | (go_at_call 79; refine (exact_01 _ HV.out).mono ?_; rintro e w' ⟨rfl, rfl⟩))
  go_ret3
  exact ⟨rfl, rfl⟩
set_option maxHeartbeats 1000000 in
theorem prefix_01 (w : World) (hV : Vars w) : Calls Tryz.prog 41 #[.string ⟨#[48, 46, 49]⟩, .int .i64 64] w fun e w' => e = .returned (.tuple #[.float .f64 4591870180066957722, .int .i64 3, .nilIface]) ∧ w = w' := by
  have HV := Lib.hid hV
  clear hV
  go_enter Tryz.func41, Tryz.ntmps41
  go_wp2_with (first
    | (go_at_call 49; refine (atof_01 _ HV.out).mono ?_; rintro e w' ⟨rfl, rfl⟩))
  go_ret3
  exact ⟨rfl, rfl⟩
set_option maxHeartbeats 1000000 in
theorem parseI_01 (w : World) (hV : Vars w) : Calls Tryz.prog 37 #[.string ⟨#[48, 46, 49]⟩, .int .i64 64] w fun e w' => e = .returned (.tuple #[.float .f64 4591870180066957722, .nilIface]) ∧ w = w' := by
  have HV := Lib.hid hV
  clear hV
  go_enter Tryz.func37, Tryz.ntmps37
  go_wp2_with (first
    | (go_at_call 41; refine (prefix_01 _ HV.out).mono ?_; rintro e w' ⟨rfl, rfl⟩))
  go_ret2
  exact ⟨rfl, rfl⟩
set_option maxHeartbeats 1000000 in
theorem parseF_01 (w : World) (hV : Vars w) : Calls Tryz.prog 28 #[.string ⟨#[48, 46, 49]⟩, .int .i64 64] w fun e w' => e = .returned (.tuple #[.float .f64 4591870180066957722, .nilIface]) ∧ w = w' := by
  have HV := Lib.hid hV
  clear hV
  go_enter Tryz.func28, Tryz.ntmps28
  go_wp2_with (first
    | (go_at_call 37; refine (parseI_01 _ HV.out).mono ?_; rintro e w' ⟨rfl, rfl⟩))
  go_ret2
  exact ⟨rfl, rfl⟩
end Go.Proofs.YtnklnenjdffbaaaGreatDoor
