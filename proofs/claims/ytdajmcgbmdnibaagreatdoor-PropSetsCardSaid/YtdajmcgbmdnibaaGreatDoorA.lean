/- Leaf functions: floats' keys, comparisons. -/
import Derived.Test.YtdajmcgbmdnibaaGreatDoorProg
import Derived.WalkKit
import Derived.WalkLawsBesides
import Derived.Lib.Hide
import Derived.Lib.Bytealg
import Derived.StillTailTactics
import Derived.Deep.QuietTactic
import Derived.BigQuiet
import Derived.Outline
import Derived.Laws.Externs
namespace Go.Proofs.YtdajmcgbmdnibaaGreatDoor
open Go.RowKit
set_option linter.unusedVariables false
set_option maxRecDepth 100000

theorem run_bits (b : Nat) (w : World) : (callFunc 43 #[.float .f64 b]).run Tryz.prog w = .ok (.value (.int .u64 (b : Int))) w := by
  rw [run_callFunc_extern (e := Extern.MathFloatBits.float64bits) Tryz.func43 (by kernel_rfl) (by kernel_rfl) (by kernel_rfl) (by kernel_rfl)]; rfl
theorem run_frombits (n : Int) (w : World) : (callFunc 69 #[.int .u64 n]).run Tryz.prog w = .ok (.value (.float .f64 n.toNat)) w := by
  rw [run_callFunc_extern (e := Extern.MathFloatBits.float64frombits) Tryz.func69 (by kernel_rfl) (by kernel_rfl) (by kernel_rfl) (by kernel_rfl)]; rfl
theorem run_cmpstr (a b : ByteArray) (w : World) : (callFunc 101 #[.string a, .string b]).run Tryz.prog w = .ok (.value (.int .i64 (Lib.compareBytes a.data.toList b.data.toList))) w := by
  rw [run_callFunc_extern (e := Extern.BytealgCompare.compare) Tryz.func101 (by kernel_rfl) (by kernel_rfl) (by kernel_rfl) (by kernel_rfl), Lib.run_compareString]; rfl

/-- is it a NaN? -/
def nanB (b : Nat) : Bool := FloatKind.f64.format.order b b != some Ordering.eq
def canonB (b : Nat) : Nat := if nanB b then 9221120237041090561 else b
theorem canon_any (b : Nat) (w : World) : Calls Tryz.prog 44 #[.float .f64 b] w fun e w' => e = .returned (.float .f64 (canonB b)) ∧ w = w' := by
  have hf := run_frombits
  by_cases hb : nanB b = true
  · have h1 : canonB b = 9221120237041090561 := by unfold canonB; rw [if_pos hb]
    rw [h1]; clear h1
    unfold nanB at hb
    go_enter Tryz.func44, Tryz.ntmps44
    go_wp2_with fail
    go_ret
    exact ⟨rfl, rfl⟩
  · have h1 : canonB b = b := by unfold canonB; rw [if_neg hb]
    rw [h1]; clear h1
    have hb : nanB b = false := by simpa using hb
    unfold nanB at hb
    go_enter Tryz.func44, Tryz.ntmps44
    go_wp2_with fail
    go_ret
    exact ⟨rfl, rfl⟩
theorem xor_all (b : Nat) (h : b < 18446744073709551616) : bits .xor .u64 IntKind.u64.max (b : Int) = 18446744073709551615 - (b : Int) := by
  have e : IntKind.u64.max = ((18446744073709551615 : Nat) : Int) := by rfl
  rw [e, u64_xor_nat _ _ (by omega) h]
  have h1 := congrArg BitVec.toNat (BitVec.allOnes_xor (x := BitVec.ofNat 64 b))
  rw [BitVec.toNat_xor, BitVec.toNat_not, BitVec.toNat_allOnes, BitVec.toNat_ofNat, Nat.mod_eq_of_lt (by omega)] at h1
  have h2 : 18446744073709551615 ^^^ b = 18446744073709551615 - b := h1
  rw [h2]; omega
theorem or_top (b : Nat) (h : b < 9223372036854775808) : bits .or .u64 (b : Int) 9223372036854775808 = (b : Int) + 9223372036854775808 := by
  have e : (9223372036854775808 : Int) = ((9223372036854775808 : Nat) : Int) := rfl
  rw [e, u64_or_nat _ _ (by omega) (by omega), Nat.or_comm, nat_join 63 _ _ (by decide) (by omega)]; omega
def keyN (b : Nat) : Int := if 9223372036854775808 ≤ b then 18446744073709551615 - (b : Int) else (b : Int) + 9223372036854775808
def key (b : Nat) : Int := keyN (canonB b)
theorem canon_lt {b : Nat} (h : b < 18446744073709551616) : canonB b < 18446744073709551616 := by unfold canonB; split <;> omega
theorem key_any (b : Nat) (w : World) (hb : b < 18446744073709551616) : Calls Tryz.prog 68 #[.float .f64 b] w fun e w' => e = .returned (.int .u64 (key b)) ∧ w = w' := by
  have hl := canon_lt hb
  have hk : Hid (key b = keyN (canonB b)) := rfl
  have hf := run_bits
  by_cases h : 9223372036854775808 ≤ canonB b
  · have e1 : (((canonB b : Nat) : Int) / 9223372036854775808 == 1) = true := by simp; omega
    have hx : Hid (bits .xor .u64 IntKind.u64.max ((canonB b : Nat) : Int) = key b) := by
      rw [hk.out]; unfold keyN; rw [if_pos h]; exact xor_all _ hl
    clear hb hl h hk
    go_enter Tryz.func68, Tryz.ntmps68
    go_wp2_with (first | (go_at_call 44; refine (canon_any _ _).mono ?_; rintro e w' ⟨rfl, rfl⟩))
    go_ret
    exact ⟨congrArg (fun n => Ending.returned (.int .u64 n)) hx.out, rfl⟩
  · have e1 : (((canonB b : Nat) : Int) / 9223372036854775808 == 1) = false := by simp; omega
    have hx : Hid (bits .or .u64 ((canonB b : Nat) : Int) 9223372036854775808 = key b) := by
      rw [hk.out]; unfold keyN; rw [if_neg h]; exact or_top _ (by omega)
    clear hb hl h hk
    go_enter Tryz.func68, Tryz.ntmps68
    go_wp2_with (first | (go_at_call 44; refine (canon_any _ _).mono ?_; rintro e w' ⟨rfl, rfl⟩))
    go_ret
    exact ⟨congrArg (fun n => Ending.returned (.int .u64 n)) hx.out, rfl⟩
/-- -1, 0, 1. -/
def cmpI (x y : Int) : Int := if x < y then -1 else if y < x then 1 else 0
theorem cmpI_lt {x y : Int} (h : x < y) : -1 = cmpI x y := by unfold cmpI; rw [if_pos h]
theorem cmpI_gt {x y : Int} (h : y < x) : 1 = cmpI x y := by unfold cmpI; rw [if_neg (by omega), if_pos h]
theorem cmpI_eq {x y : Int} (h : x = y) : 0 = cmpI x y := by unfold cmpI; rw [if_neg (by omega), if_neg (by omega)]
theorem ret_i64 {a b : Int} (h : a = b) : Ending.returned (.int .i64 a) = .returned (.int .i64 b) := by rw [h]
theorem ret_bool {a b : Bool} (h : a = b) : Ending.returned (.bool a) = .returned (.bool b) := by rw [h]
theorem cmp_u64 (x y : Int) (w : World) : Calls Tryz.prog 67 #[.int .u64 x, .int .u64 y] w fun e w' => e = .returned (.int .i64 (cmpI x y)) ∧ w = w' := by
  go_enter Tryz.func67, Tryz.ntmps67
  go_wp2
  all_goals go_ret
  · have h : x < y := by assumption
    exact ⟨ret_i64 (cmpI_lt h), rfl⟩
  · have h : y < x := by assumption
    exact ⟨ret_i64 (cmpI_gt h), rfl⟩
  · exact ⟨ret_i64 (cmpI_eq (by omega)), rfl⟩
theorem cmp_i64 (x y : Int) (w : World) : Calls Tryz.prog 40 #[.int .i64 x, .int .i64 y] w fun e w' => e = .returned (.int .i64 (cmpI x y)) ∧ w' = w := by
  go_enter Tryz.func40, Tryz.ntmps40
  go_wp2
  all_goals go_ret
  · have h : x < y := by assumption
    exact ⟨ret_i64 (cmpI_lt h), rfl⟩
  · have h : y < x := by assumption
    exact ⟨ret_i64 (cmpI_gt h), rfl⟩
  · exact ⟨ret_i64 (cmpI_eq (by omega)), rfl⟩
theorem cmpF_any (a b : Nat) (w : World) (ha : a < 18446744073709551616) (hb : b < 18446744073709551616) :
    Calls Tryz.prog 42 #[.float .f64 a, .float .f64 b] w fun e w' => e = .returned (.int .i64 (cmpI (key a) (key b))) ∧ w' = w := by
  have h1 := Lib.hid ha
  have h2 := Lib.hid hb
  clear ha hb
  go_enter Tryz.func42, Tryz.ntmps42
  go_wp2_with fail
  refine (key_any _ _ h1.out).mono ?_
  rintro e w' ⟨rfl, rfl⟩
  go_wp2_with fail
  refine (key_any _ _ h2.out).mono ?_
  rintro e w' ⟨rfl, rfl⟩
  go_wp2_with fail
  refine (cmp_u64 _ _ _).mono ?_
  rintro e w' ⟨rfl, rfl⟩
  go_wp2_with fail
  go_ret
  exact ⟨rfl, rfl⟩
theorem cmpS_any (a b : ByteArray) (w : World) :
    Calls Tryz.prog 41 #[.string a, .string b] w fun e w' => e = .returned (.int .i64 (Lib.compareBytes a.data.toList b.data.toList)) ∧ w' = w := by
  have hf := run_cmpstr
  go_enter Tryz.func41, Tryz.ntmps41
  go_wp2
  go_ret
  exact ⟨rfl, rfl⟩
end Go.Proofs.YtdajmcgbmdnibaaGreatDoor
