/- trivetref06.Narrow (its ways printed by genN.py). -/
import Derived.Test.YtnklnenjdffbaaaGreatDoorGl
namespace Go.Proofs.YtnklnenjdffbaaaGreatDoor
open Go.RowKit
set_option linter.unusedVariables false
set_option maxRecDepth 100000
theorem rung_parts (x : Nat) : rung x = exN x * 4503599627370496 + frN x ∧ frN x < 4503599627370496 ∧ exN x < 2048 := by unfold rung exN frN; omega
theorem and29 (f : Nat) (h : f < 18446744073709551616) : bits .and .u64 (f : Int) 536870911 = ((f % 536870912 : Nat) : Int) := by
  have := u64_and_nat f 536870911 h (by omega)
  rw [show (536870911 : Int) = ((536870911 : Nat) : Int) by rfl, this, show (536870911 : Nat) = 2 ^ 29 - 1 by rfl, Nat.and_two_pow_sub_one_eq_mod]
theorem and_pow (M d : Nat) (h : M < 9007199254740992) (hd : d ≤ 52) : bits .and .u64 (M : Int) (IntKind.u64.wrap (IntKind.u64.wrap (2 ^ d) - 1)) = (M : Int) % 2 ^ d := by
  have hp : 0 < 2 ^ d := Nat.two_pow_pos d
  have hp2 : 2 ^ d ≤ 4503599627370496 := Nat.pow_le_pow_right (n := 2) (by decide) hd
  have e : IntKind.u64.wrap (IntKind.u64.wrap (2 ^ d) - 1) = ((2 ^ d - 1 : Nat) : Int) := by
    rw [show ((2 : Int) ^ d) = ((2 ^ d : Nat) : Int) by push_cast; rfl, IntKind.wrap_u64, IntKind.wrap_u64]; omega
  rw [e, u64_and_nat M (2 ^ d - 1) (by omega) (by omega), Nat.and_two_pow_sub_one_eq_mod]; push_cast; rfl
theorem sub_or (M d : Nat) (h : M < 9007199254740992) (hd1 : 30 ≤ d) (hd : d ≤ 52) : M / 2 ^ d < 8388608 := by
  have hp : 2 ^ 30 ≤ 2 ^ d := Nat.pow_le_pow_right (n := 2) (by decide) hd1
  have : M / 2 ^ d ≤ M / 2 ^ 30 := Nat.div_le_div_left hp (by decide)
  omega
theorem or_sub0 (M d : Nat) (h : M / 2 ^ d < 8388608) : bits .or .u32 0 ((M : Int) / 2 ^ d % 4294967296) = 0 + ((M / 2 ^ d : Nat) : Int) := by
  rw [show (M : Int) / 2 ^ d = ((M / 2 ^ d : Nat) : Int) by push_cast; rfl]
  generalize M / 2 ^ d = q at h ⊢
  rw [show (q : Int) % 4294967296 = (q : Int) by omega, show (0 : Int) = ((0 : Nat) : Int) by rfl, u32_or_nat 0 _ (by omega) (by omega), Nat.zero_or]
  omega
theorem or_sub1 (M d : Nat) (h : M / 2 ^ d < 8388608) : bits .or .u32 2147483648 ((M : Int) / 2 ^ d % 4294967296) = 2147483648 + ((M / 2 ^ d : Nat) : Int) := by
  rw [show (M : Int) / 2 ^ d = ((M / 2 ^ d : Nat) : Int) by push_cast; rfl]
  generalize M / 2 ^ d = q at h ⊢
  rw [show (q : Int) % 4294967296 = (q : Int) by omega, show (2147483648 : Int) = ((2147483648 : Nat) : Int) by rfl, u32_or_nat _ _ (by omega) (by omega), nat_join 31 _ _ (by decide) (by omega)]
  omega
theorem or_ok0 (a f : Nat) (h1 : 897 ≤ a) (h2 : a ≤ 1150) (hf : f < 4503599627370496) :
    bits .or .u32 (bits .or .u32 0 (((a : Int) - 1023 + 127) * 8388608)) ((f : Int) / 536870912 % 4294967296) = 0 + ((a - 896 : Nat) : Int) * 8388608 + ((f / 536870912 : Nat) : Int) := by
  have e1 : ((a : Int) - 1023 + 127) * 8388608 = (((a - 896) * 8388608 : Nat) : Int) := by omega
  have e2 : (f : Int) / 536870912 % 4294967296 = ((f / 536870912 : Nat) : Int) := by omega
  rw [e1, e2, show (0 : Int) = ((0 : Nat) : Int) by rfl, u32_or_nat 0 _ (by omega) (by omega), Nat.zero_or, u32_or_nat _ _ (by omega) (by omega)]
  rw [nat_join 23 _ _ (by omega) (by omega)]
  omega
theorem or_ok1 (a f : Nat) (h1 : 897 ≤ a) (h2 : a ≤ 1150) (hf : f < 4503599627370496) :
    bits .or .u32 (bits .or .u32 2147483648 (((a : Int) - 1023 + 127) * 8388608)) ((f : Int) / 536870912 % 4294967296) = 2147483648 + ((a - 896 : Nat) : Int) * 8388608 + ((f / 536870912 : Nat) : Int) := by
  have e1 : ((a : Int) - 1023 + 127) * 8388608 = (((a - 896) * 8388608 : Nat) : Int) := by omega
  have e2 : (f : Int) / 536870912 % 4294967296 = ((f / 536870912 : Nat) : Int) := by omega
  rw [e1, e2, show (2147483648 : Int) = ((2147483648 : Nat) : Int) by rfl, u32_or_nat _ _ (by omega) (by omega), nat_join 31 _ _ (by decide) (by omega), u32_or_nat _ _ (by omega) (by omega)]
  rw [nat_join 23 _ _ (by omega) (by omega)]
  omega
set_option maxHeartbeats 1000000 in
theorem rnar_inf0 (x a f : Nat) (w : World) (hx : x < 18446744073709551616) (hq : (x : Int) / 9223372036854775808 = 0) (hn : Hid (nanB x = false)) (ha : a = exN x) (hf : f = frN x) (h1 : a = 2047) (F : Int) (hF : Hid (F = 0 + 2139095040)) :
    Calls Tryz.prog 16 #[.float .f64 x] w fun e w' => e = .returned (.tuple #[.int .u32 F, .bool true]) ∧ w = w' := by
  have hfl : f < 4503599627370496 := by rw [hf]; unfold frN; omega
  have hal : a < 2048 := by rw [ha]; unfold exN; omega
  have a1 := and_exu x hx
  have a2 := and_fr x hx
  rw [← ha] at a1
  rw [← hf] at a2
  have HX := Lib.hid hx
  have HFL := Lib.hid hfl
  have hb1 : ((a : Int) == 2047) = true := by simp; omega
  clear h1
  have o0 : bits .or .u32 0 2139095040 = 2139095040 := by decide
  have o1 : bits .or .u32 2147483648 2139095040 = 4286578688 := by decide
  clear ha hf hx hfl
  go_enter Tryz.func16, Tryz.ntmps16
  go_wp2_with (first
    | (go_at_call 29; refine (isnan_any x _ HX.out).mono ?_; rw [hn.out]; rintro e w' ⟨rfl, rfl⟩)
    | (go_at_call 33; refine (bits_any _ _).mono ?_; rintro e w' ⟨rfl, rfl⟩))
  go_ret2
  rw [hF.out]; exact ⟨rfl, rfl⟩
set_option maxHeartbeats 1000000 in
theorem rnar_zero0 (x a f : Nat) (w : World) (hx : x < 18446744073709551616) (hq : (x : Int) / 9223372036854775808 = 0) (hn : Hid (nanB x = false)) (ha : a = exN x) (hf : f = frN x) (h1 : a = 0) (h2 : f = 0) (F : Int) (hF : Hid (F = 0)) :
    Calls Tryz.prog 16 #[.float .f64 x] w fun e w' => e = .returned (.tuple #[.int .u32 F, .bool true]) ∧ w = w' := by
  have hfl : f < 4503599627370496 := by rw [hf]; unfold frN; omega
  have hal : a < 2048 := by rw [ha]; unfold exN; omega
  have a1 := and_exu x hx
  have a2 := and_fr x hx
  rw [← ha] at a1
  rw [← hf] at a2
  have HX := Lib.hid hx
  have HFL := Lib.hid hfl
  have hb1 : ((a : Int) == 2047) = false := by simp; omega
  have hb2 : ((a : Int) == 0) = true := by simp; omega
  have hb3 : ((f : Int) == 0) = true := by simp; omega
  clear h1 h2
  clear ha hf hx hfl
  go_enter Tryz.func16, Tryz.ntmps16
  go_wp2_with (first
    | (go_at_call 29; refine (isnan_any x _ HX.out).mono ?_; rw [hn.out]; rintro e w' ⟨rfl, rfl⟩)
    | (go_at_call 33; refine (bits_any _ _).mono ?_; rintro e w' ⟨rfl, rfl⟩))
  go_ret2
  rw [hF.out]; exact ⟨rfl, rfl⟩
set_option maxHeartbeats 1000000 in
theorem rnar_ok0 (x a f : Nat) (w : World) (hx : x < 18446744073709551616) (hq : (x : Int) / 9223372036854775808 = 0) (hn : Hid (nanB x = false)) (ha : a = exN x) (hf : f = frN x) (h1 : 897 ≤ a) (h2 : a ≤ 1150) (h3 : f % 536870912 = 0) (F : Int) (hF : Hid (F = 0 + ((a - 896 : Nat) : Int) * 8388608 + ((f / 536870912 : Nat) : Int))) :
    Calls Tryz.prog 16 #[.float .f64 x] w fun e w' => e = .returned (.tuple #[.int .u32 F, .bool true]) ∧ w = w' := by
  have hfl : f < 4503599627370496 := by rw [hf]; unfold frN; omega
  have hal : a < 2048 := by rw [ha]; unfold exN; omega
  have a1 := and_exu x hx
  have a2 := and_fr x hx
  rw [← ha] at a1
  rw [← hf] at a2
  have HX := Lib.hid hx
  have HFL := Lib.hid hfl
  have hb1 : ((a : Int) == 2047) = false := by simp; omega
  have hb2 : ((a : Int) == 0) = false := by simp; omega
  have a3 := and29 f (by omega)
  rw [h3] at a3
  have H12 := Lib.hid (And.intro h1 h2)
  clear ha hf hx hfl
  go_enter Tryz.func16, Tryz.ntmps16
  go_wp2_with (first
    | (go_at_call 29; refine (isnan_any x _ HX.out).mono ?_; rw [hn.out]; rintro e w' ⟨rfl, rfl⟩)
    | (go_at_call 33; refine (bits_any _ _).mono ?_; rintro e w' ⟨rfl, rfl⟩))
  go_ret2
  have hfl := HFL.out
  rw [hF.out]
  refine ⟨congrArg (fun n => Ending.returned (.tuple #[.int .u32 n, .bool true])) ?_, rfl⟩
  exact or_ok0 a f h1 h2 hfl
set_option maxHeartbeats 1000000 in
theorem rnar_no0 (x a f : Nat) (w : World) (hx : x < 18446744073709551616) (hq : (x : Int) / 9223372036854775808 = 0) (hn : Hid (nanB x = false)) (ha : a = exN x) (hf : f = frN x) (h1 : 897 ≤ a) (h2 : a ≤ 1150) (h3 : f % 536870912 ≠ 0) (F : Int) (hF : Hid (F = 0)) :
    Calls Tryz.prog 16 #[.float .f64 x] w fun e w' => e = .returned (.tuple #[.int .u32 F, .bool false]) ∧ w = w' := by
  have hfl : f < 4503599627370496 := by rw [hf]; unfold frN; omega
  have hal : a < 2048 := by rw [ha]; unfold exN; omega
  have a1 := and_exu x hx
  have a2 := and_fr x hx
  rw [← ha] at a1
  rw [← hf] at a2
  have HX := Lib.hid hx
  have HFL := Lib.hid hfl
  have hb1 : ((a : Int) == 2047) = false := by simp; omega
  have hb2 : ((a : Int) == 0) = false := by simp; omega
  have a3 := and29 f (by omega)
  have hb3 : (((f % 536870912 : Nat) : Int) == 0) = false := by simp; omega
  clear h3
  clear ha hf hx hfl
  go_enter Tryz.func16, Tryz.ntmps16
  go_wp2_with (first
    | (go_at_call 29; refine (isnan_any x _ HX.out).mono ?_; rw [hn.out]; rintro e w' ⟨rfl, rfl⟩)
    | (go_at_call 33; refine (bits_any _ _).mono ?_; rintro e w' ⟨rfl, rfl⟩))
  go_ret2
  rw [hF.out]; exact ⟨rfl, rfl⟩
set_option maxHeartbeats 1000000 in
theorem rnar_big0 (x a f : Nat) (w : World) (hx : x < 18446744073709551616) (hq : (x : Int) / 9223372036854775808 = 0) (hn : Hid (nanB x = false)) (ha : a = exN x) (hf : f = frN x) (h1 : 1150 < a) (h2 : a < 2047) (F : Int) (hF : Hid (F = 0)) :
    Calls Tryz.prog 16 #[.float .f64 x] w fun e w' => e = .returned (.tuple #[.int .u32 F, .bool false]) ∧ w = w' := by
  have hfl : f < 4503599627370496 := by rw [hf]; unfold frN; omega
  have hal : a < 2048 := by rw [ha]; unfold exN; omega
  have a1 := and_exu x hx
  have a2 := and_fr x hx
  rw [← ha] at a1
  rw [← hf] at a2
  have HX := Lib.hid hx
  have HFL := Lib.hid hfl
  have hb1 : ((a : Int) == 2047) = false := by simp; omega
  have hb2 : ((a : Int) == 0) = false := by simp; omega
  clear ha hf hx hfl
  go_enter Tryz.func16, Tryz.ntmps16
  go_wp2_with (first
    | (go_at_call 29; refine (isnan_any x _ HX.out).mono ?_; rw [hn.out]; rintro e w' ⟨rfl, rfl⟩)
    | (go_at_call 33; refine (bits_any _ _).mono ?_; rintro e w' ⟨rfl, rfl⟩))
  go_ret2
  rw [hF.out]; exact ⟨rfl, rfl⟩
set_option maxHeartbeats 1000000 in
theorem rnar_sub0 (x a f : Nat) (w : World) (hx : x < 18446744073709551616) (hq : (x : Int) / 9223372036854775808 = 0) (hn : Hid (nanB x = false)) (ha : a = exN x) (hf : f = frN x) (h1 : 874 ≤ a) (h2 : a < 897) (h3 : (f + 4503599627370496) % 2 ^ (926 - a) = 0) (F : Int) (hF : Hid (F = 0 + (((f + 4503599627370496) / 2 ^ (926 - a) : Nat) : Int))) :
    Calls Tryz.prog 16 #[.float .f64 x] w fun e w' => e = .returned (.tuple #[.int .u32 F, .bool true]) ∧ w = w' := by
  have hfl : f < 4503599627370496 := by rw [hf]; unfold frN; omega
  have hal : a < 2048 := by rw [ha]; unfold exN; omega
  have a1 := and_exu x hx
  have a2 := and_fr x hx
  rw [← ha] at a1
  rw [← hf] at a2
  have HX := Lib.hid hx
  have HFL := Lib.hid hfl
  have hb1 : ((a : Int) == 2047) = false := by simp; omega
  have hb2 : ((a : Int) == 0) = false := by simp; omega
  obtain ⟨M, hM⟩ : ∃ M, M = f + 4503599627370496 := ⟨_, rfl⟩
  have a4 := or_fr f hfl
  rw [← hM] at a4
  have hMl : M < 9007199254740992 := by omega
  obtain ⟨d, hd⟩ : ∃ d : Nat, d = 926 - a := ⟨_, rfl⟩
  have hdi : 926 - (a : Int) = (d : Int) := by omega
  have hd1 : 30 ≤ d := by omega
  have hd2 : d ≤ 52 := by omega
  rw [← hd] at h3
  rw [← hM] at h3
  have a5 := and_pow M d hMl hd2
  have HM := Lib.hid hM
  have HD := Lib.hid hd
  have hb3 : ((M : Int) % 2 ^ d == 0) = true := by
    rw [show (M : Int) % 2 ^ d = ((M % 2 ^ d : Nat) : Int) by push_cast; rfl, h3]; rfl
  have hp := Lib.hid (sub_or M d hMl hd1 hd2)
  clear h3 hM hd
  clear ha hf hx hfl
  go_enter Tryz.func16, Tryz.ntmps16
  go_wp2_with (first
    | (go_at_call 29; refine (isnan_any x _ HX.out).mono ?_; rw [hn.out]; rintro e w' ⟨rfl, rfl⟩)
    | (go_at_call 33; refine (bits_any _ _).mono ?_; rintro e w' ⟨rfl, rfl⟩))
  go_ret2
  rw [hF.out, ← HM.out, ← HD.out]
  refine ⟨congrArg (fun n => Ending.returned (.tuple #[.int .u32 n, .bool true])) ?_, rfl⟩
  exact or_sub0 M d hp.out
set_option maxHeartbeats 1000000 in
theorem rnar_subno0 (x a f : Nat) (w : World) (hx : x < 18446744073709551616) (hq : (x : Int) / 9223372036854775808 = 0) (hn : Hid (nanB x = false)) (ha : a = exN x) (hf : f = frN x) (h1 : 874 ≤ a) (h2 : a < 897) (h3 : (f + 4503599627370496) % 2 ^ (926 - a) ≠ 0) (F : Int) (hF : Hid (F = 0)) :
    Calls Tryz.prog 16 #[.float .f64 x] w fun e w' => e = .returned (.tuple #[.int .u32 F, .bool false]) ∧ w = w' := by
  have hfl : f < 4503599627370496 := by rw [hf]; unfold frN; omega
  have hal : a < 2048 := by rw [ha]; unfold exN; omega
  have a1 := and_exu x hx
  have a2 := and_fr x hx
  rw [← ha] at a1
  rw [← hf] at a2
  have HX := Lib.hid hx
  have HFL := Lib.hid hfl
  have hb1 : ((a : Int) == 2047) = false := by simp; omega
  have hb2 : ((a : Int) == 0) = false := by simp; omega
  obtain ⟨M, hM⟩ : ∃ M, M = f + 4503599627370496 := ⟨_, rfl⟩
  have a4 := or_fr f hfl
  rw [← hM] at a4
  have hMl : M < 9007199254740992 := by omega
  obtain ⟨d, hd⟩ : ∃ d : Nat, d = 926 - a := ⟨_, rfl⟩
  have hdi : 926 - (a : Int) = (d : Int) := by omega
  have hd1 : 30 ≤ d := by omega
  have hd2 : d ≤ 52 := by omega
  rw [← hd] at h3
  rw [← hM] at h3
  have a5 := and_pow M d hMl hd2
  have HM := Lib.hid hM
  have HD := Lib.hid hd
  have hb3 : ((M : Int) % 2 ^ d == 0) = false := by
    rw [show (M : Int) % 2 ^ d = ((M % 2 ^ d : Nat) : Int) by push_cast; rfl, beq_eq_false_iff_ne]; intro h; exact h3 (Int.natCast_eq_zero.1 h)
  clear h3 hM hd
  clear ha hf hx hfl
  go_enter Tryz.func16, Tryz.ntmps16
  go_wp2_with (first
    | (go_at_call 29; refine (isnan_any x _ HX.out).mono ?_; rw [hn.out]; rintro e w' ⟨rfl, rfl⟩)
    | (go_at_call 33; refine (bits_any _ _).mono ?_; rintro e w' ⟨rfl, rfl⟩))
  go_ret2
  rw [hF.out]; exact ⟨rfl, rfl⟩
set_option maxHeartbeats 1000000 in
theorem rnar_small0 (x a f : Nat) (w : World) (hx : x < 18446744073709551616) (hq : (x : Int) / 9223372036854775808 = 0) (hn : Hid (nanB x = false)) (ha : a = exN x) (hf : f = frN x) (h1 : a < 874) (h2 : a ≠ 0) (F : Int) (hF : Hid (F = 0)) :
    Calls Tryz.prog 16 #[.float .f64 x] w fun e w' => e = .returned (.tuple #[.int .u32 F, .bool false]) ∧ w = w' := by
  have hfl : f < 4503599627370496 := by rw [hf]; unfold frN; omega
  have hal : a < 2048 := by rw [ha]; unfold exN; omega
  have a1 := and_exu x hx
  have a2 := and_fr x hx
  rw [← ha] at a1
  rw [← hf] at a2
  have HX := Lib.hid hx
  have HFL := Lib.hid hfl
  have hb1 : ((a : Int) == 2047) = false := by simp; omega
  have hb2 : ((a : Int) == 0) = false := by simp; omega
  clear h2
  clear ha hf hx hfl
  go_enter Tryz.func16, Tryz.ntmps16
  go_wp2_with (first
    | (go_at_call 29; refine (isnan_any x _ HX.out).mono ?_; rw [hn.out]; rintro e w' ⟨rfl, rfl⟩)
    | (go_at_call 33; refine (bits_any _ _).mono ?_; rintro e w' ⟨rfl, rfl⟩))
  go_ret2
  rw [hF.out]; exact ⟨rfl, rfl⟩
set_option maxHeartbeats 1000000 in
theorem rnar_tiny0 (x a f : Nat) (w : World) (hx : x < 18446744073709551616) (hq : (x : Int) / 9223372036854775808 = 0) (hn : Hid (nanB x = false)) (ha : a = exN x) (hf : f = frN x) (h1 : a = 0) (h2 : f ≠ 0) (F : Int) (hF : Hid (F = 0)) :
    Calls Tryz.prog 16 #[.float .f64 x] w fun e w' => e = .returned (.tuple #[.int .u32 F, .bool false]) ∧ w = w' := by
  have hfl : f < 4503599627370496 := by rw [hf]; unfold frN; omega
  have hal : a < 2048 := by rw [ha]; unfold exN; omega
  have a1 := and_exu x hx
  have a2 := and_fr x hx
  rw [← ha] at a1
  rw [← hf] at a2
  have HX := Lib.hid hx
  have HFL := Lib.hid hfl
  have hb1 : ((a : Int) == 2047) = false := by simp; omega
  have hb2 : ((a : Int) == 0) = true := by simp; omega
  have hb3 : ((f : Int) == 0) = false := by simp; omega
  clear h2
  clear ha hf hx hfl
  go_enter Tryz.func16, Tryz.ntmps16
  go_wp2_with (first
    | (go_at_call 29; refine (isnan_any x _ HX.out).mono ?_; rw [hn.out]; rintro e w' ⟨rfl, rfl⟩)
    | (go_at_call 33; refine (bits_any _ _).mono ?_; rintro e w' ⟨rfl, rfl⟩))
  go_ret2
  rw [hF.out]; exact ⟨rfl, rfl⟩
set_option maxHeartbeats 1000000 in
theorem rnar_inf1 (x a f : Nat) (w : World) (hx : x < 18446744073709551616) (hq : (x : Int) / 9223372036854775808 = 1) (hn : Hid (nanB x = false)) (ha : a = exN x) (hf : f = frN x) (h1 : a = 2047) (F : Int) (hF : Hid (F = 2147483648 + 2139095040)) :
    Calls Tryz.prog 16 #[.float .f64 x] w fun e w' => e = .returned (.tuple #[.int .u32 F, .bool true]) ∧ w = w' := by
  have hfl : f < 4503599627370496 := by rw [hf]; unfold frN; omega
  have hal : a < 2048 := by rw [ha]; unfold exN; omega
  have a1 := and_exu x hx
  have a2 := and_fr x hx
  rw [← ha] at a1
  rw [← hf] at a2
  have HX := Lib.hid hx
  have HFL := Lib.hid hfl
  have hb1 : ((a : Int) == 2047) = true := by simp; omega
  clear h1
  have o0 : bits .or .u32 0 2139095040 = 2139095040 := by decide
  have o1 : bits .or .u32 2147483648 2139095040 = 4286578688 := by decide
  clear ha hf hx hfl
  go_enter Tryz.func16, Tryz.ntmps16
  go_wp2_with (first
    | (go_at_call 29; refine (isnan_any x _ HX.out).mono ?_; rw [hn.out]; rintro e w' ⟨rfl, rfl⟩)
    | (go_at_call 33; refine (bits_any _ _).mono ?_; rintro e w' ⟨rfl, rfl⟩))
  go_ret2
  rw [hF.out]; exact ⟨rfl, rfl⟩
set_option maxHeartbeats 1000000 in
theorem rnar_zero1 (x a f : Nat) (w : World) (hx : x < 18446744073709551616) (hq : (x : Int) / 9223372036854775808 = 1) (hn : Hid (nanB x = false)) (ha : a = exN x) (hf : f = frN x) (h1 : a = 0) (h2 : f = 0) (F : Int) (hF : Hid (F = 2147483648)) :
    Calls Tryz.prog 16 #[.float .f64 x] w fun e w' => e = .returned (.tuple #[.int .u32 F, .bool true]) ∧ w = w' := by
  have hfl : f < 4503599627370496 := by rw [hf]; unfold frN; omega
  have hal : a < 2048 := by rw [ha]; unfold exN; omega
  have a1 := and_exu x hx
  have a2 := and_fr x hx
  rw [← ha] at a1
  rw [← hf] at a2
  have HX := Lib.hid hx
  have HFL := Lib.hid hfl
  have hb1 : ((a : Int) == 2047) = false := by simp; omega
  have hb2 : ((a : Int) == 0) = true := by simp; omega
  have hb3 : ((f : Int) == 0) = true := by simp; omega
  clear h1 h2
  clear ha hf hx hfl
  go_enter Tryz.func16, Tryz.ntmps16
  go_wp2_with (first
    | (go_at_call 29; refine (isnan_any x _ HX.out).mono ?_; rw [hn.out]; rintro e w' ⟨rfl, rfl⟩)
    | (go_at_call 33; refine (bits_any _ _).mono ?_; rintro e w' ⟨rfl, rfl⟩))
  go_ret2
  rw [hF.out]; exact ⟨rfl, rfl⟩
set_option maxHeartbeats 1000000 in
theorem rnar_ok1 (x a f : Nat) (w : World) (hx : x < 18446744073709551616) (hq : (x : Int) / 9223372036854775808 = 1) (hn : Hid (nanB x = false)) (ha : a = exN x) (hf : f = frN x) (h1 : 897 ≤ a) (h2 : a ≤ 1150) (h3 : f % 536870912 = 0) (F : Int) (hF : Hid (F = 2147483648 + ((a - 896 : Nat) : Int) * 8388608 + ((f / 536870912 : Nat) : Int))) :
    Calls Tryz.prog 16 #[.float .f64 x] w fun e w' => e = .returned (.tuple #[.int .u32 F, .bool true]) ∧ w = w' := by
  have hfl : f < 4503599627370496 := by rw [hf]; unfold frN; omega
  have hal : a < 2048 := by rw [ha]; unfold exN; omega
  have a1 := and_exu x hx
  have a2 := and_fr x hx
  rw [← ha] at a1
  rw [← hf] at a2
  have HX := Lib.hid hx
  have HFL := Lib.hid hfl
  have hb1 : ((a : Int) == 2047) = false := by simp; omega
  have hb2 : ((a : Int) == 0) = false := by simp; omega
  have a3 := and29 f (by omega)
  rw [h3] at a3
  have H12 := Lib.hid (And.intro h1 h2)
  clear ha hf hx hfl
  go_enter Tryz.func16, Tryz.ntmps16
  go_wp2_with (first
    | (go_at_call 29; refine (isnan_any x _ HX.out).mono ?_; rw [hn.out]; rintro e w' ⟨rfl, rfl⟩)
    | (go_at_call 33; refine (bits_any _ _).mono ?_; rintro e w' ⟨rfl, rfl⟩))
  go_ret2
  have hfl := HFL.out
  rw [hF.out]
  refine ⟨congrArg (fun n => Ending.returned (.tuple #[.int .u32 n, .bool true])) ?_, rfl⟩
  exact or_ok1 a f h1 h2 hfl
set_option maxHeartbeats 1000000 in
theorem rnar_no1 (x a f : Nat) (w : World) (hx : x < 18446744073709551616) (hq : (x : Int) / 9223372036854775808 = 1) (hn : Hid (nanB x = false)) (ha : a = exN x) (hf : f = frN x) (h1 : 897 ≤ a) (h2 : a ≤ 1150) (h3 : f % 536870912 ≠ 0) (F : Int) (hF : Hid (F = 0)) :
    Calls Tryz.prog 16 #[.float .f64 x] w fun e w' => e = .returned (.tuple #[.int .u32 F, .bool false]) ∧ w = w' := by
  have hfl : f < 4503599627370496 := by rw [hf]; unfold frN; omega
  have hal : a < 2048 := by rw [ha]; unfold exN; omega
  have a1 := and_exu x hx
  have a2 := and_fr x hx
  rw [← ha] at a1
  rw [← hf] at a2
  have HX := Lib.hid hx
  have HFL := Lib.hid hfl
  have hb1 : ((a : Int) == 2047) = false := by simp; omega
  have hb2 : ((a : Int) == 0) = false := by simp; omega
  have a3 := and29 f (by omega)
  have hb3 : (((f % 536870912 : Nat) : Int) == 0) = false := by simp; omega
  clear h3
  clear ha hf hx hfl
  go_enter Tryz.func16, Tryz.ntmps16
  go_wp2_with (first
    | (go_at_call 29; refine (isnan_any x _ HX.out).mono ?_; rw [hn.out]; rintro e w' ⟨rfl, rfl⟩)
    | (go_at_call 33; refine (bits_any _ _).mono ?_; rintro e w' ⟨rfl, rfl⟩))
  go_ret2
  rw [hF.out]; exact ⟨rfl, rfl⟩
set_option maxHeartbeats 1000000 in
theorem rnar_big1 (x a f : Nat) (w : World) (hx : x < 18446744073709551616) (hq : (x : Int) / 9223372036854775808 = 1) (hn : Hid (nanB x = false)) (ha : a = exN x) (hf : f = frN x) (h1 : 1150 < a) (h2 : a < 2047) (F : Int) (hF : Hid (F = 0)) :
    Calls Tryz.prog 16 #[.float .f64 x] w fun e w' => e = .returned (.tuple #[.int .u32 F, .bool false]) ∧ w = w' := by
  have hfl : f < 4503599627370496 := by rw [hf]; unfold frN; omega
  have hal : a < 2048 := by rw [ha]; unfold exN; omega
  have a1 := and_exu x hx
  have a2 := and_fr x hx
  rw [← ha] at a1
  rw [← hf] at a2
  have HX := Lib.hid hx
  have HFL := Lib.hid hfl
  have hb1 : ((a : Int) == 2047) = false := by simp; omega
  have hb2 : ((a : Int) == 0) = false := by simp; omega
  clear ha hf hx hfl
  go_enter Tryz.func16, Tryz.ntmps16
  go_wp2_with (first
    | (go_at_call 29; refine (isnan_any x _ HX.out).mono ?_; rw [hn.out]; rintro e w' ⟨rfl, rfl⟩)
    | (go_at_call 33; refine (bits_any _ _).mono ?_; rintro e w' ⟨rfl, rfl⟩))
  go_ret2
  rw [hF.out]; exact ⟨rfl, rfl⟩
set_option maxHeartbeats 1000000 in
theorem rnar_sub1 (x a f : Nat) (w : World) (hx : x < 18446744073709551616) (hq : (x : Int) / 9223372036854775808 = 1) (hn : Hid (nanB x = false)) (ha : a = exN x) (hf : f = frN x) (h1 : 874 ≤ a) (h2 : a < 897) (h3 : (f + 4503599627370496) % 2 ^ (926 - a) = 0) (F : Int) (hF : Hid (F = 2147483648 + (((f + 4503599627370496) / 2 ^ (926 - a) : Nat) : Int))) :
    Calls Tryz.prog 16 #[.float .f64 x] w fun e w' => e = .returned (.tuple #[.int .u32 F, .bool true]) ∧ w = w' := by
  have hfl : f < 4503599627370496 := by rw [hf]; unfold frN; omega
  have hal : a < 2048 := by rw [ha]; unfold exN; omega
  have a1 := and_exu x hx
  have a2 := and_fr x hx
  rw [← ha] at a1
  rw [← hf] at a2
  have HX := Lib.hid hx
  have HFL := Lib.hid hfl
  have hb1 : ((a : Int) == 2047) = false := by simp; omega
  have hb2 : ((a : Int) == 0) = false := by simp; omega
  obtain ⟨M, hM⟩ : ∃ M, M = f + 4503599627370496 := ⟨_, rfl⟩
  have a4 := or_fr f hfl
  rw [← hM] at a4
  have hMl : M < 9007199254740992 := by omega
  obtain ⟨d, hd⟩ : ∃ d : Nat, d = 926 - a := ⟨_, rfl⟩
  have hdi : 926 - (a : Int) = (d : Int) := by omega
  have hd1 : 30 ≤ d := by omega
  have hd2 : d ≤ 52 := by omega
  rw [← hd] at h3
  rw [← hM] at h3
  have a5 := and_pow M d hMl hd2
  have HM := Lib.hid hM
  have HD := Lib.hid hd
  have hb3 : ((M : Int) % 2 ^ d == 0) = true := by
    rw [show (M : Int) % 2 ^ d = ((M % 2 ^ d : Nat) : Int) by push_cast; rfl, h3]; rfl
  have hp := Lib.hid (sub_or M d hMl hd1 hd2)
  clear h3 hM hd
  clear ha hf hx hfl
  go_enter Tryz.func16, Tryz.ntmps16
  go_wp2_with (first
    | (go_at_call 29; refine (isnan_any x _ HX.out).mono ?_; rw [hn.out]; rintro e w' ⟨rfl, rfl⟩)
    | (go_at_call 33; refine (bits_any _ _).mono ?_; rintro e w' ⟨rfl, rfl⟩))
  go_ret2
  rw [hF.out, ← HM.out, ← HD.out]
  refine ⟨congrArg (fun n => Ending.returned (.tuple #[.int .u32 n, .bool true])) ?_, rfl⟩
  exact or_sub1 M d hp.out
set_option maxHeartbeats 1000000 in
theorem rnar_subno1 (x a f : Nat) (w : World) (hx : x < 18446744073709551616) (hq : (x : Int) / 9223372036854775808 = 1) (hn : Hid (nanB x = false)) (ha : a = exN x) (hf : f = frN x) (h1 : 874 ≤ a) (h2 : a < 897) (h3 : (f + 4503599627370496) % 2 ^ (926 - a) ≠ 0) (F : Int) (hF : Hid (F = 0)) :
    Calls Tryz.prog 16 #[.float .f64 x] w fun e w' => e = .returned (.tuple #[.int .u32 F, .bool false]) ∧ w = w' := by
  have hfl : f < 4503599627370496 := by rw [hf]; unfold frN; omega
  have hal : a < 2048 := by rw [ha]; unfold exN; omega
  have a1 := and_exu x hx
  have a2 := and_fr x hx
  rw [← ha] at a1
  rw [← hf] at a2
  have HX := Lib.hid hx
  have HFL := Lib.hid hfl
  have hb1 : ((a : Int) == 2047) = false := by simp; omega
  have hb2 : ((a : Int) == 0) = false := by simp; omega
  obtain ⟨M, hM⟩ : ∃ M, M = f + 4503599627370496 := ⟨_, rfl⟩
  have a4 := or_fr f hfl
  rw [← hM] at a4
  have hMl : M < 9007199254740992 := by omega
  obtain ⟨d, hd⟩ : ∃ d : Nat, d = 926 - a := ⟨_, rfl⟩
  have hdi : 926 - (a : Int) = (d : Int) := by omega
  have hd1 : 30 ≤ d := by omega
  have hd2 : d ≤ 52 := by omega
  rw [← hd] at h3
  rw [← hM] at h3
  have a5 := and_pow M d hMl hd2
  have HM := Lib.hid hM
  have HD := Lib.hid hd
  have hb3 : ((M : Int) % 2 ^ d == 0) = false := by
    rw [show (M : Int) % 2 ^ d = ((M % 2 ^ d : Nat) : Int) by push_cast; rfl, beq_eq_false_iff_ne]; intro h; exact h3 (Int.natCast_eq_zero.1 h)
  clear h3 hM hd
  clear ha hf hx hfl
  go_enter Tryz.func16, Tryz.ntmps16
  go_wp2_with (first
    | (go_at_call 29; refine (isnan_any x _ HX.out).mono ?_; rw [hn.out]; rintro e w' ⟨rfl, rfl⟩)
    | (go_at_call 33; refine (bits_any _ _).mono ?_; rintro e w' ⟨rfl, rfl⟩))
  go_ret2
  rw [hF.out]; exact ⟨rfl, rfl⟩
set_option maxHeartbeats 1000000 in
theorem rnar_small1 (x a f : Nat) (w : World) (hx : x < 18446744073709551616) (hq : (x : Int) / 9223372036854775808 = 1) (hn : Hid (nanB x = false)) (ha : a = exN x) (hf : f = frN x) (h1 : a < 874) (h2 : a ≠ 0) (F : Int) (hF : Hid (F = 0)) :
    Calls Tryz.prog 16 #[.float .f64 x] w fun e w' => e = .returned (.tuple #[.int .u32 F, .bool false]) ∧ w = w' := by
  have hfl : f < 4503599627370496 := by rw [hf]; unfold frN; omega
  have hal : a < 2048 := by rw [ha]; unfold exN; omega
  have a1 := and_exu x hx
  have a2 := and_fr x hx
  rw [← ha] at a1
  rw [← hf] at a2
  have HX := Lib.hid hx
  have HFL := Lib.hid hfl
  have hb1 : ((a : Int) == 2047) = false := by simp; omega
  have hb2 : ((a : Int) == 0) = false := by simp; omega
  clear h2
  clear ha hf hx hfl
  go_enter Tryz.func16, Tryz.ntmps16
  go_wp2_with (first
    | (go_at_call 29; refine (isnan_any x _ HX.out).mono ?_; rw [hn.out]; rintro e w' ⟨rfl, rfl⟩)
    | (go_at_call 33; refine (bits_any _ _).mono ?_; rintro e w' ⟨rfl, rfl⟩))
  go_ret2
  rw [hF.out]; exact ⟨rfl, rfl⟩
set_option maxHeartbeats 1000000 in
theorem rnar_tiny1 (x a f : Nat) (w : World) (hx : x < 18446744073709551616) (hq : (x : Int) / 9223372036854775808 = 1) (hn : Hid (nanB x = false)) (ha : a = exN x) (hf : f = frN x) (h1 : a = 0) (h2 : f ≠ 0) (F : Int) (hF : Hid (F = 0)) :
    Calls Tryz.prog 16 #[.float .f64 x] w fun e w' => e = .returned (.tuple #[.int .u32 F, .bool false]) ∧ w = w' := by
  have hfl : f < 4503599627370496 := by rw [hf]; unfold frN; omega
  have hal : a < 2048 := by rw [ha]; unfold exN; omega
  have a1 := and_exu x hx
  have a2 := and_fr x hx
  rw [← ha] at a1
  rw [← hf] at a2
  have HX := Lib.hid hx
  have HFL := Lib.hid hfl
  have hb1 : ((a : Int) == 2047) = false := by simp; omega
  have hb2 : ((a : Int) == 0) = true := by simp; omega
  have hb3 : ((f : Int) == 0) = false := by simp; omega
  clear h2
  clear ha hf hx hfl
  go_enter Tryz.func16, Tryz.ntmps16
  go_wp2_with (first
    | (go_at_call 29; refine (isnan_any x _ HX.out).mono ?_; rw [hn.out]; rintro e w' ⟨rfl, rfl⟩)
    | (go_at_call 33; refine (bits_any _ _).mono ?_; rintro e w' ⟨rfl, rfl⟩))
  go_ret2
  rw [hF.out]; exact ⟨rfl, rfl⟩

theorem rnar_nan (x : Nat) (w : World) (hx : x < 18446744073709551616) (h : nanB x = true) : Calls Tryz.prog 16 #[.float .f64 x] w fun e w' => e = .returned (.tuple #[.int .u32 2143289344, .bool true]) ∧ w = w' := by
  have HX := Lib.hid hx
  have hn := Lib.hid h
  clear hx h
  go_enter Tryz.func16, Tryz.ntmps16
  go_wp2_with (first
    | (go_at_call 29; refine (isnan_any x _ HX.out).mono ?_; rw [hn.out]; rintro e w' ⟨rfl, rfl⟩))
  go_ret2
  exact ⟨rfl, rfl⟩
theorem word4_int (s : Bool) (g : Nat) : ((Ieee.single.word s g : Nat) : Int) = (if s then 2147483648 else 0) + (g : Int) := by
  unfold Ieee.Format.word
  rw [ssw]
  cases s <;> simp
theorem rnarrow_any (x : Nat) (w : World) (hx : x < 18446744073709551616) : Calls Tryz.prog 16 #[.float .f64 x] w fun e w' => e = .returned (narR x) ∧ w = w' := by
  unfold narR
  cases hn : nanB x
  · have hnn := not_nan hn
    obtain ⟨r1, r2, r3⟩ := rung_parts x
    have hq : (x : Int) / 9223372036854775808 = if neg x then 1 else 0 := by
      cases hs : neg x
      · have := (neg_not hx).1 hs; simp; omega
      · have := (neg_iff hx).1 hs; simp; omega
    have e1 : rung x / 4503599627370496 = exN x := by omega
    have e2 : rung x % 4503599627370496 = frN x := by omega
    have e3 : rung x % 536870912 = frN x % 536870912 := by omega
    unfold refN
    rw [e1, e2, e3]
    by_cases i1 : rung x = 9218868437227405312
    · rw [if_pos i1]
      simp only [word4_int]
      cases hs : neg x <;> rw [hs] at hq
      · exact rnar_inf0 x _ _ w hx hq hn rfl rfl (by omega) _ rfl
      · exact rnar_inf1 x _ _ w hx hq hn rfl rfl (by omega) _ rfl
    rw [if_neg i1]
    by_cases i2 : rung x = 0
    · rw [if_pos i2]
      simp only [word4_int]
      cases hs : neg x <;> rw [hs] at hq
      · exact rnar_zero0 x _ _ w hx hq hn rfl rfl (by omega) (by omega) _ rfl
      · exact rnar_zero1 x _ _ w hx hq hn rfl rfl (by omega) (by omega) _ rfl
    rw [if_neg i2]
    by_cases i3 : 897 ≤ exN x ∧ exN x ≤ 1150 ∧ frN x % 536870912 = 0
    · rw [if_pos i3]
      simp only [word4_int]
      cases hs : neg x <;> rw [hs] at hq
      · exact rnar_ok0 x _ _ w hx hq hn rfl rfl i3.1 i3.2.1 i3.2.2 _ (by show _ = _; first | (simp; done) | (simp; omega))
      · exact rnar_ok1 x _ _ w hx hq hn rfl rfl i3.1 i3.2.1 i3.2.2 _ (by show _ = _; first | (simp; done) | (simp; omega))
    rw [if_neg i3]
    by_cases i4 : 874 ≤ exN x ∧ exN x < 897 ∧ (frN x + 4503599627370496) % 2 ^ (926 - exN x) = 0
    · rw [if_pos i4]
      simp only [word4_int]
      cases hs : neg x <;> rw [hs] at hq
      · exact rnar_sub0 x _ _ w hx hq hn rfl rfl i4.1 i4.2.1 i4.2.2 _ rfl
      · exact rnar_sub1 x _ _ w hx hq hn rfl rfl i4.1 i4.2.1 i4.2.2 _ rfl
    rw [if_neg i4]
    simp only
    by_cases j1 : 1150 < exN x
    · cases hs : neg x <;> rw [hs] at hq
      · exact rnar_big0 x _ _ w hx hq hn rfl rfl j1 (by omega) _ rfl
      · exact rnar_big1 x _ _ w hx hq hn rfl rfl j1 (by omega) _ rfl
    by_cases j2 : 897 ≤ exN x
    · have j3 : frN x % 536870912 ≠ 0 := fun h => i3 ⟨j2, by omega, h⟩
      cases hs : neg x <;> rw [hs] at hq
      · exact rnar_no0 x _ _ w hx hq hn rfl rfl j2 (by omega) j3 _ rfl
      · exact rnar_no1 x _ _ w hx hq hn rfl rfl j2 (by omega) j3 _ rfl
    by_cases j4 : 874 ≤ exN x
    · have j5 : (frN x + 4503599627370496) % 2 ^ (926 - exN x) ≠ 0 := fun h => i4 ⟨j4, by omega, h⟩
      cases hs : neg x <;> rw [hs] at hq
      · exact rnar_subno0 x _ _ w hx hq hn rfl rfl j4 (by omega) j5 _ rfl
      · exact rnar_subno1 x _ _ w hx hq hn rfl rfl j4 (by omega) j5 _ rfl
    by_cases j6 : exN x = 0
    · have j7 : frN x ≠ 0 := by omega
      cases hs : neg x <;> rw [hs] at hq
      · exact rnar_tiny0 x _ _ w hx hq hn rfl rfl j6 j7 _ rfl
      · exact rnar_tiny1 x _ _ w hx hq hn rfl rfl j6 j7 _ rfl
    · cases hs : neg x <;> rw [hs] at hq
      · exact rnar_small0 x _ _ w hx hq hn rfl rfl (by omega) j6 _ rfl
      · exact rnar_small1 x _ _ w hx hq hn rfl rfl (by omega) j6 _ rfl
  · exact rnar_nan x w hx hn

end Go.Proofs.YtnklnenjdffbaaaGreatDoor
