/- strconv: the small functions of the shortest format. -/
import Derived.Test.YtnklnenjdffbaaaDoorShelf
import Derived.WalkKit
import Derived.WalkLawsBesides
import Derived.Lib.Hide
import Derived.Deep.QuietTactic
import Derived.BigQuiet
import Derived.Outline
import Derived.Laws.Externs
import Derived.Laws.BitsAllLaws
namespace Go.Proofs.YtnklnenjdffbaaaDoor
open Go.RowKit
set_option linter.unusedVariables false
set_option maxRecDepth 100000

theorem ret_i64 {a b : Int} (h : a = b) : Ending.returned (.int .i64 a) = .returned (.int .i64 b) := by rw [h]
theorem ret_u64 {a b : Int} (h : a = b) : Ending.returned (.int .u64 a) = .returned (.int .u64 b) := by rw [h]
theorem ret_bool {a b : Bool} (h : a = b) : Ending.returned (.bool a) = .returned (.bool b) := by rw [h]

theorem l10_any (x : Int) (w : World) (h1 : -100000 ≤ x) (h2 : x ≤ 100000) :
    Calls Tryd.prog 36 #[.int .i64 x] w fun e w' => e = .returned (.int .i64 (x * 78913 / 262144)) ∧ w = w' := by
  go_enter Tryd.func36, Tryd.ntmps36
  go_wp2
  go_ret
  exact ⟨rfl, rfl⟩
theorem l2_any (x : Int) (w : World) (h1 : -100000 ≤ x) (h2 : x ≤ 100000) :
    Calls Tryd.prog 52 #[.int .i64 x] w fun e w' => e = .returned (.int .i64 (x * 108853 / 32768)) ∧ w = w' := by
  go_enter Tryd.func52, Tryd.ntmps52
  go_wp2
  go_ret
  exact ⟨rfl, rfl⟩
theorem skewed_any (x : Int) (w : World) (h1 : -100000 ≤ x) (h2 : x ≤ 100000) :
    Calls Tryd.prog 50 #[.int .i64 x] w fun e w' => e = .returned (.int .i64 ((x * 631305 - 261663) / 2097152)) ∧ w = w' := by
  go_enter Tryd.func50, Tryd.ntmps50
  go_wp2
  go_ret
  exact ⟨rfl, rfl⟩
theorem bool2u_any (b : Bool) (w : World) :
    Calls Tryd.prog 77 #[.bool b] w fun e w' => e = .returned (.int .u64 (if b then 1 else 0)) ∧ w' = w := by
  cases b
  all_goals
    go_enter Tryd.func77, Tryd.ntmps77
    go_wp2
    go_ret
    exact ⟨rfl, rfl⟩
theorem bool2r_any (b : Bool) (w : World) :
    Calls Tryd.prog 85 #[.bool b] w fun e w' => e = .returned (.int .u64 (if b then 1 else 0)) ∧ w' = w := by
  cases b
  all_goals
    go_enter Tryd.func85, Tryd.ntmps85
    go_wp2
    go_ret
    exact ⟨rfl, rfl⟩
/-- the unrounded ones, where nothing wraps round -/
theorem floor_any (u : Int) (w : World) (h0 : 0 ≤ u) (h1 : u < 9223372036854775808) :
    Calls Tryd.prog 56 #[.int .u64 u] w fun e w' => e = .returned (.int .u64 (u / 4)) ∧ w = w' := by
  go_enter Tryd.func56, Tryd.ntmps56
  go_wp2
  go_ret
  exact ⟨rfl, rfl⟩
theorem ceil_any (u : Int) (w : World) (h0 : 0 ≤ u) (h1 : u < 9223372036854775808) :
    Calls Tryd.prog 55 #[.int .u64 u] w fun e w' => e = .returned (.int .u64 ((u + 3) / 4)) ∧ w = w' := by
  go_enter Tryd.func55, Tryd.ntmps55
  go_wp2
  go_ret
  exact ⟨rfl, rfl⟩
theorem round_any (u : Int) (w : World) (h0 : 0 ≤ u) (h1 : u < 9223372036854775808) :
    Calls Tryd.prog 57 #[.int .u64 u] w fun e w' => e = .returned (.int .u64 ((u + 1 + u / 4 % 2) / 4)) ∧ w = w' := by
  go_enter Tryd.func57, Tryd.ntmps57
  go_wp2
  go_ret
  have e1 : bits .and .u64 (u / 4) 1 = u / 4 % 2 := by
    obtain ⟨n, hn⟩ := Int.eq_ofNat_of_zero_le (show 0 ≤ u / 4 by omega)
    rw [hn]
    have := u64_and_nat n 1 (by omega) (by omega)
    rw [nat_mask1] at this
    exact this
  refine ⟨ret_u64 ?_, rfl⟩
  show IntKind.u64.wrap (u + 1 + bits .and .u64 (u / 4) 1) / 4 = _
  rw [e1, IntKind.wrap_u64]
  omega
end Go.Proofs.YtnklnenjdffbaaaDoor
