/- flt: Canon, Key, Compare, Parse at "0.1"; the law's wakes. -/
import Derived.Test.YtnklnenjdffbaaaDoorGb
namespace Go.Proofs.YtnklnenjdffbaaaDoor
open Go.RowKit Go.Sort
set_option linter.unusedVariables false
set_option maxRecDepth 100000
theorem run_bits (b : Nat) (w : World) : (callFunc 13 #[.float .f64 b]).run Tryd.prog w = .ok (.value (.int .u64 (b : Int))) w := by
  rw [run_callFunc_extern (e := Extern.MathFloatBits.float64bits) Tryd.func13 (by kernel_rfl) (by kernel_rfl) (by kernel_rfl) (by kernel_rfl)]; rfl
theorem run_frombits (n : Int) (w : World) : (callFunc 12 #[.int .u64 n]).run Tryd.prog w = .ok (.value (.float .f64 n.toNat)) w := by
  rw [run_callFunc_extern (e := Extern.MathFloatBits.float64frombits) Tryd.func12 (by kernel_rfl) (by kernel_rfl) (by kernel_rfl) (by kernel_rfl)]; rfl
/-- is it a NaN? -/
def nanB (b : Nat) : Bool := FloatKind.f64.format.order b b != some Ordering.eq
def canonB (b : Nat) : Nat := if nanB b then 9221120237041090561 else b
theorem canon_any (b : Nat) (w : World) : Calls Tryd.prog 5 #[.float .f64 b] w fun e w' => e = .returned (.float .f64 (canonB b)) ∧ w = w' := by
  have hf := run_frombits
  by_cases hb : nanB b = true
  · have h1 : canonB b = 9221120237041090561 := by unfold canonB; rw [if_pos hb]
    rw [h1]; clear h1
    unfold nanB at hb
    go_enter Tryd.func5, Tryd.ntmps5
    go_wp2_with fail
    go_ret
    exact ⟨rfl, rfl⟩
  · have h1 : canonB b = b := by unfold canonB; rw [if_neg hb]
    rw [h1]; clear h1
    have hb : nanB b = false := by simpa using hb
    unfold nanB at hb
    go_enter Tryd.func5, Tryd.ntmps5
    go_wp2_with fail
    go_ret
    exact ⟨rfl, rfl⟩
theorem xor_all (b : Nat) (h : b < 18446744073709551616) : bits .xor .u64 IntKind.u64.max (b : Int) = 18446744073709551615 - (b : Int) := by
  have e : IntKind.u64.max = ((18446744073709551615 : Nat) : Int) := by rfl
  rw [e, u64_xor_nat _ _ (by omega) h]
  have h1 := congrArg BitVec.toNat (BitVec.allOnes_xor (x := BitVec.ofNat 64 b))
  rw [BitVec.toNat_xor, BitVec.toNat_not, BitVec.toNat_allOnes, BitVec.toNat_ofNat, Nat.mod_eq_of_lt (by omega)] at h1
  have h2 : 18446744073709551615 ^^^ b = 18446744073709551615 - b := h1
  rw [h2]; omega
theorem or_top (b : Nat) (h : b < 9223372036854775808) : bits .or .u64 (b : Int) 9223372036854775808 = (b : Int) + 9223372036854775808 := by
  have e : (9223372036854775808 : Int) = ((9223372036854775808 : Nat) : Int) := rfl
  rw [e, u64_or_nat _ _ (by omega) (by omega), Nat.or_comm, nat_join 63 _ _ (by decide) (by omega)]; omega
def keyN (b : Nat) : Int := if 9223372036854775808 ≤ b then 18446744073709551615 - (b : Int) else (b : Int) + 9223372036854775808
def key (b : Nat) : Int := keyN (canonB b)
theorem canon_lt {b : Nat} (h : b < 18446744073709551616) : canonB b < 18446744073709551616 := by unfold canonB; split <;> omega
theorem key_any (b : Nat) (w : World) (hb : b < 18446744073709551616) : Calls Tryd.prog 11 #[.float .f64 b] w fun e w' => e = .returned (.int .u64 (key b)) ∧ w = w' := by
  have hl := canon_lt hb
  have hk : Hid (key b = keyN (canonB b)) := rfl
  have hf := run_bits
  by_cases h : 9223372036854775808 ≤ canonB b
  · have e1 : (((canonB b : Nat) : Int) / 9223372036854775808 == 1) = true := by simp; omega
    have hx : Hid (bits .xor .u64 IntKind.u64.max ((canonB b : Nat) : Int) = key b) := by
      rw [hk.out]; unfold keyN; rw [if_pos h]; exact xor_all _ hl
    clear hb hl h hk
    go_enter Tryd.func11, Tryd.ntmps11
    go_wp2_with (first | (go_at_call 5; refine (canon_any _ _).mono ?_; rintro e w' ⟨rfl, rfl⟩))
    go_ret
    exact ⟨congrArg (fun n => Ending.returned (.int .u64 n)) hx.out, rfl⟩
  · have e1 : (((canonB b : Nat) : Int) / 9223372036854775808 == 1) = false := by simp; omega
    have hx : Hid (bits .or .u64 ((canonB b : Nat) : Int) 9223372036854775808 = key b) := by
      rw [hk.out]; unfold keyN; rw [if_neg h]; exact or_top _ (by omega)
    clear hb hl h hk
    go_enter Tryd.func11, Tryd.ntmps11
    go_wp2_with (first | (go_at_call 5; refine (canon_any _ _).mono ?_; rintro e w' ⟨rfl, rfl⟩))
    go_ret
    exact ⟨congrArg (fun n => Ending.returned (.int .u64 n)) hx.out, rfl⟩
/-- -1, 0, 1. -/
def cmpI (x y : Int) : Int := if x < y then -1 else if y < x then 1 else 0
theorem from_any (n : Nat) (w : World) : Calls Tryd.prog 6 #[.int .u64 (n : Int)] w fun e w' => e = .returned (.float .f64 n) ∧ w = w' := by
  have hf := run_frombits
  go_enter Tryd.func6, Tryd.ntmps6
  go_wp2_with fail
  go_ret
  exact ⟨rfl, rfl⟩
theorem same_any (a b : Nat) (w : World) : Calls Tryd.prog 7 #[.float .f64 a, .float .f64 b] w fun e w' => e = .returned (.bool ((a : Int) == (b : Int))) ∧ w = w' := by
  have hf := run_bits
  go_enter Tryd.func7, Tryd.ntmps7
  go_wp2_with fail
  go_ret
  exact ⟨rfl, rfl⟩
theorem text_01 : textS 4591870180066957722 = ⟨#[48, 46, 49]⟩ := by
  have hd : shortD (mN 4591870180066957722) (eN 4591870180066957722) = 1000000000000000 := by decide +kernel
  have hp : shortP (mN 4591870180066957722) (eN 4591870180066957722) = -16 := by decide +kernel
  have h1 : Lib.decDigits 1000000000000000 = [49, 48, 48, 48, 48, 48, 48, 48, 48, 48, 48, 48, 48, 48, 48, 48] := by simp [Lib.decDigits]
  unfold textS textB digN dpN
  rw [hd, hp, h1]
  decide +kernel
theorem text_e21 : textS 4921056587992461136 = ⟨#[49, 101, 43, 50, 49]⟩ := by
  have hd : shortD (mN 4921056587992461136) (eN 4921056587992461136) = 1000000000000000 := by decide +kernel
  have hp : shortP (mN 4921056587992461136) (eN 4921056587992461136) = 6 := by decide +kernel
  have h1 : Lib.decDigits 1000000000000000 = [49, 48, 48, 48, 48, 48, 48, 48, 48, 48, 48, 48, 48, 48, 48, 48] := by simp [Lib.decDigits]
  unfold textS textB digN dpN
  rw [hd, hp, h1]
  decide +kernel
set_option maxHeartbeats 1000000 in
theorem parse_01 (w : World) (hV : Vars w) : Calls Tryd.prog 10 #[.string ⟨#[48, 46, 49]⟩] w fun e w' => e = .returned (.tuple #[.float .f64 4591870180066957722, .int .i64 0]) ∧ Below w.heap.size w w' := by
  have HV := Lib.hid hV
  have hs := hV.size
  have ht := text_any 4591870180066957722 w hV.p10 (by omega) hV.tab (by omega)
  rw [text_01] at ht
  have HT := Lib.hid ht
  have hcan : canonB 4591870180066957722 = 4591870180066957722 := by decide +kernel
  have hn : ∀ W : World, (binOp .neq 9 (.string ⟨#[48, 46, 49]⟩) (.string ⟨#[48, 46, 49]⟩)).run Tryd.prog W = .ok (.bool false) W := fun W => by kernel_rfl
  clear hV ht
  go_enter Tryd.func10, Tryd.ntmps10
  go_wp2_with (first
    | (go_at_call 16; refine (parseF_01 _ HV.out).mono ?_; rintro e w' ⟨rfl, rfl⟩)
    | (go_at_call 9; refine HT.out.mono ?_; rintro e w' ⟨rfl, hb⟩; have HB := Lib.hid hb; clear hb)
    | (go_at_call 5; refine (canon_any _ _).mono ?_; rintro e w' ⟨rfl, rfl⟩))
  go_ret2
  exact ⟨rfl, HB.out⟩
set_option maxHeartbeats 1000000 in
theorem wakes_any (w : World) (hV : Vars w) : Calls Tryd.prog 4 #[] w fun e w' => e = .returned (.bool true) ∧ Below w.heap.size w w' := by
  have HV := Lib.hid hV
  have hs := hV.size
  clear hV
  have k0 : key 0 = 9223372036854775808 := by decide +kernel
  have k1 : key 9223372036854775808 = 9223372036854775807 := by decide +kernel
  have f1 : (binOp .eql 24 (.float .f64 4591870180066957722) (.float .f64 4591870180066957722)).run Tryd.prog = (binOp .eql 24 (.float .f64 4591870180066957722) (.float .f64 4591870180066957722)).run Tryd.prog := rfl
  have fe : ∀ W : World, (binOp .eql 24 (.float .f64 4591870180066957722) (.float .f64 4591870180066957722)).run Tryd.prog W = .ok (.bool true) W := fun W => by kernel_rfl
  have se : ∀ W : World, (binOp .eql 9 (.string ⟨#[49, 101, 43, 50, 49]⟩) (.string ⟨#[49, 101, 43, 50, 49]⟩)).run Tryd.prog W = .ok (.bool true) W := fun W => by kernel_rfl
  clear f1
  have HT : Hid (∀ W, Vars W → Calls Tryd.prog 9 #[.float .f64 4921056587992461136] W fun e w' => e = .returned (.string ⟨#[49, 101, 43, 50, 49]⟩) ∧ Below W.heap.size W w') := fun W hW => by
    have hs := hW.size
    have ht := text_any 4921056587992461136 W hW.p10 (by omega) hW.tab (by omega)
    rwa [text_e21] at ht
  go_enter Tryd.func4, Tryd.ntmps4
  go_wp2_with fail
  refine (parse_01 _ HV.out).mono ?_
  rintro e w1 ⟨rfl, hb⟩
  have HB := Lib.hid hb
  have hz1 := hb.size
  clear hb
  go_wp2_with fail
  refine (key_any 0 _ (by omega)).mono ?_
  rintro e w' ⟨rfl, rfl⟩
  go_wp2_with fail
  refine (from_any 9223372036854775808 _).mono ?_
  rintro e w' ⟨rfl, rfl⟩
  go_wp2_with fail
  refine (key_any 9223372036854775808 _ (by omega)).mono ?_
  rintro e w' ⟨rfl, rfl⟩
  go_wp2_with fail
  refine (HT.out w1 (HV.out.on HB.out)).mono ?_
  rintro e w2 ⟨rfl, hb⟩
  have HB2 : Hid (Below w.heap.size w w2) := HB.out.trans (hb.mono hz1)
  clear hb
  go_wp2_with fail
  go_ret
  exact ⟨rfl, HB2.out⟩
end Go.Proofs.YtnklnenjdffbaaaDoor
