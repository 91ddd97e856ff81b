/- strconv.ParseFloat at "0.1"; flt.Parse at it; the law's wakes. -/
import Derived.Test.YtnklnenjdffbaaaDoorGa
namespace Go.Proofs.YtnklnenjdffbaaaDoor
open Go.RowKit Go.Sort
set_option linter.unusedVariables false
set_option maxRecDepth 100000
theorem bool2u_m (b : Bool) (w : World) : Calls Tryd.prog 77 #[.bool b] w fun e w' => e = .returned (.int .u64 (if b then 1 else 0)) ∧ w = w' := (bool2u_any b w).mono fun _ _ ⟨h1, h2⟩ => ⟨h1, h2.symm⟩
set_option maxHeartbeats 1000000 in
theorem atof_01 (w : World) (hV : Vars w) : Calls Tryd.prog 43 #[.string ⟨#[48, 46, 49]⟩] w fun e w' => e = .returned (.tuple #[.float .f64 4591870180066957722, .int .i64 3, .nilIface]) ∧ w = w' := by
  have HV := Lib.hid hV
  have c0 := hV.opt
  clear hV
  go_enter Tryd.func43, Tryd.ntmps43
  go_wp2_with (first
    | (go_at_call 68; refine (special_01 _).mono ?_; rintro e w' ⟨rfl, rfl⟩)
    | (go_at_call 69; refine (read_01 _).mono ?_; rintro e w' ⟨rfl, rfl⟩)
    | (go_at_call 77; refine (bool2u_m _ _).mono ?_; rintro e w' ⟨rfl, rfl⟩)
    | (go_at_call 79; refine (exact_01 _ HV.out).mono ?_; rintro e w' ⟨rfl, rfl⟩))
  go_ret3
  exact ⟨rfl, rfl⟩
set_option maxHeartbeats 1000000 in
theorem prefix_01 (w : World) (hV : Vars w) : Calls Tryd.prog 22 #[.string ⟨#[48, 46, 49]⟩, .int .i64 64] w fun e w' => e = .returned (.tuple #[.float .f64 4591870180066957722, .int .i64 3, .nilIface]) ∧ w = w' := by
  have HV := Lib.hid hV
  clear hV
  go_enter Tryd.func22, Tryd.ntmps22
  go_wp2_with (first
    | (go_at_call 43; refine (atof_01 _ HV.out).mono ?_; rintro e w' ⟨rfl, rfl⟩))
  go_ret3
  exact ⟨rfl, rfl⟩
set_option maxHeartbeats 1000000 in
theorem parseI_01 (w : World) (hV : Vars w) : Calls Tryd.prog 18 #[.string ⟨#[48, 46, 49]⟩, .int .i64 64] w fun e w' => e = .returned (.tuple #[.float .f64 4591870180066957722, .nilIface]) ∧ w = w' := by
  have HV := Lib.hid hV
  clear hV
  go_enter Tryd.func18, Tryd.ntmps18
  go_wp2_with (first
    | (go_at_call 22; refine (prefix_01 _ HV.out).mono ?_; rintro e w' ⟨rfl, rfl⟩))
  go_ret2
  exact ⟨rfl, rfl⟩
set_option maxHeartbeats 1000000 in
theorem parseF_01 (w : World) (hV : Vars w) : Calls Tryd.prog 16 #[.string ⟨#[48, 46, 49]⟩, .int .i64 64] w fun e w' => e = .returned (.tuple #[.float .f64 4591870180066957722, .nilIface]) ∧ w = w' := by
  have HV := Lib.hid hV
  clear hV
  go_enter Tryd.func16, Tryd.ntmps16
  go_wp2_with (first
    | (go_at_call 18; refine (parseI_01 _ HV.out).mono ?_; rintro e w' ⟨rfl, rfl⟩))
  go_ret2
  exact ⟨rfl, rfl⟩
end Go.Proofs.YtnklnenjdffbaaaDoor
