/- trivetref06 and flt: IsNaN, Canon, Key, Compare, Unkey. -/
import Derived.Test.YtnklnenjdffbaaaGreatDoorGd
namespace Go.Proofs.YtnklnenjdffbaaaGreatDoor
open Go.RowKit
set_option linter.unusedVariables false
set_option maxRecDepth 100000
theorem bits_any (b : Nat) (w : World) : Calls Tryz.prog 33 #[.float .f64 b] w fun e w' => e = .returned (.int .u64 (b : Int)) ∧ w = w' := by
  have hf := run_bits
  go_enter Tryz.func33, Tryz.ntmps33
  go_wp2_with fail
  go_ret
  exact ⟨rfl, rfl⟩
theorem and_exu (b : Nat) (hb : b < 18446744073709551616) : bits .and .u64 ((b : Int) / 4503599627370496) 2047 = (exN b : Int) := by
  have := u64_and_nat (b / 4503599627370496) 2047 (by omega) (by omega)
  rw [show ((b : Int) / 4503599627370496) = ((b / 4503599627370496 : Nat) : Int) by omega]
  rw [show (2047 : Int) = ((2047 : Nat) : Int) by rfl, this]
  rw [show (2047 : Nat) = 2 ^ 11 - 1 by rfl, Nat.and_two_pow_sub_one_eq_mod]
  rfl
theorem nanB_ex (b : Nat) (hb : b < 18446744073709551616) : nanB b = true ↔ exN b = 2047 ∧ frN b ≠ 0 := by
  rw [nanB_iff]
  unfold rung exN frN
  omega
theorem isnan_any (b : Nat) (w : World) (hb : b < 18446744073709551616) : Calls Tryz.prog 29 #[.float .f64 b] w fun e w' => e = .returned (.bool (nanB b)) ∧ w = w' := by
  have a1 := and_exu b hb
  have a2 := and_fr b hb
  have hn := nanB_ex b hb
  obtain ⟨x, hx⟩ : ∃ x, x = exN b := ⟨_, rfl⟩
  obtain ⟨f, hf⟩ : ∃ f, f = frN b := ⟨_, rfl⟩
  rw [← hx] at a1 hn
  rw [← hf] at a2 hn
  cases hnb : nanB b
  · rw [hnb] at hn
    by_cases h1 : x = 2047
    · have h2 : f = 0 := by
        rcases Nat.eq_zero_or_pos f with h | h
        · exact h
        · exfalso; have := hn.2 ⟨h1, by omega⟩; cases this
      have b1 : ((x : Int) == 2047) = true := by simp; omega
      have b2 : ((f : Int) != 0) = false := by simp; omega
      clear hn hx hf h1 h2 hnb hb
      go_enter Tryz.func29, Tryz.ntmps29
      go_wp2_with (first | (go_at_call 33; refine (bits_any _ _).mono ?_; rintro e w' ⟨rfl, rfl⟩))
      go_ret
      exact ⟨rfl, rfl⟩
    · have b1 : ((x : Int) == 2047) = false := by simp; omega
      clear hn hx hf h1 hnb hb
      go_enter Tryz.func29, Tryz.ntmps29
      go_wp2_with (first | (go_at_call 33; refine (bits_any _ _).mono ?_; rintro e w' ⟨rfl, rfl⟩))
      go_ret
      exact ⟨rfl, rfl⟩
  · rw [hnb] at hn
    have h1 := hn.1 rfl
    have b1 : ((x : Int) == 2047) = true := by simp; omega
    have b2 : ((f : Int) != 0) = true := by simp; omega
    clear hn hx hf h1 hnb hb
    go_enter Tryz.func29, Tryz.ntmps29
    go_wp2_with (first | (go_at_call 33; refine (bits_any _ _).mono ?_; rintro e w' ⟨rfl, rfl⟩))
    go_ret
    exact ⟨rfl, rfl⟩
theorem rcanon_any (b : Nat) (w : World) (hb : b < 18446744073709551616) : Calls Tryz.prog 24 #[.float .f64 b] w fun e w' => e = .returned (.float .f64 (canonB b)) ∧ w = w' := by
  have HB := Lib.hid hb
  clear hb
  cases hn : nanB b
  · have hc : canonB b = b := canon_num hn
    have HC := Lib.hid hc
    clear hc
    go_enter Tryz.func24, Tryz.ntmps24
    go_wp2_with (first | (go_at_call 29; refine (isnan_any _ _ HB.out).mono ?_; rintro e w' ⟨rfl, rfl⟩))
    go_ret
    exact ⟨by rw [HC.out]; rfl, rfl⟩
  · have hc : canonB b = 9221120237041090561 := by unfold canonB; rw [hn]; rfl
    have HC := Lib.hid hc
    clear hc
    go_enter Tryz.func24, Tryz.ntmps24
    go_wp2_with (first
      | (go_at_call 29; refine (isnan_any _ _ HB.out).mono ?_; rintro e w' ⟨rfl, rfl⟩)
      | (go_at_call 9; refine (from_any 9221120237041090561 _).mono ?_; rintro e w' ⟨rfl, rfl⟩))
    go_ret
    exact ⟨by rw [HC.out]; rfl, rfl⟩
theorem rkey_any (b : Nat) (w : World) (hb : b < 18446744073709551616) : Calls Tryz.prog 25 #[.float .f64 b] w fun e w' => e = .returned (.int .u64 (key b)) ∧ w = w' := by
  have HB := Lib.hid hb
  have hl := canon_lt hb
  have hk : key b = keyN (canonB b) := rfl
  unfold keyN at hk
  obtain ⟨c, hc⟩ : ∃ c, c = canonB b := ⟨_, rfl⟩
  rw [← hc] at hl hk
  have HCC := Lib.hid hc
  by_cases h : 9223372036854775808 ≤ c
  · rw [if_pos h] at hk
    have HK := Lib.hid hk
    have h1 : decide (9223372036854775808 ≤ c) = true := decide_eq_true h
    have h2 : decide ((9223372036854775808 : Int) ≤ (c : Int)) = true := decide_eq_true (by omega)
    have hw : IntKind.u64.wrap (18446744073709551615 - (c : Int)) = 18446744073709551615 - (c : Int) := by rw [IntKind.wrap_u64]; omega
    clear hk hb hc hl h
    go_enter Tryz.func25, Tryz.ntmps25
    go_wp2_with (first
      | (go_at_call 24; refine (rcanon_any _ _ HB.out).mono ?_; rw [← HCC.out]; rintro e w' ⟨rfl, rfl⟩)
      | (go_at_call 33; refine (bits_any _ _).mono ?_; rintro e w' ⟨rfl, rfl⟩))
    go_ret
    exact ⟨by rw [HK.out]; rfl, rfl⟩
  · rw [if_neg h] at hk
    have HK := Lib.hid hk
    have h1 : decide (9223372036854775808 ≤ c) = false := decide_eq_false h
    have h2 : decide ((9223372036854775808 : Int) ≤ (c : Int)) = false := decide_eq_false (by omega)
    have hw : IntKind.u64.wrap ((c : Int) + 9223372036854775808) = (c : Int) + 9223372036854775808 := by rw [IntKind.wrap_u64]; omega
    clear hk hb hc hl h
    go_enter Tryz.func25, Tryz.ntmps25
    go_wp2_with (first
      | (go_at_call 24; refine (rcanon_any _ _ HB.out).mono ?_; rw [← HCC.out]; rintro e w' ⟨rfl, rfl⟩)
      | (go_at_call 33; refine (bits_any _ _).mono ?_; rintro e w' ⟨rfl, rfl⟩))
    go_ret
    exact ⟨by rw [HK.out]; rfl, rfl⟩
theorem rcmp_any (a b : Nat) (w : World) (ha : a < 18446744073709551616) (hb : b < 18446744073709551616) :
    Calls Tryz.prog 26 #[.float .f64 a, .float .f64 b] w fun e w' => e = .returned (.int .i64 (cmpI (key a) (key b))) ∧ w = w' := by
  have HA := Lib.hid ha
  have HB := Lib.hid hb
  clear ha hb
  go_enter Tryz.func26, Tryz.ntmps26
  go_wp2_with (first
    | (go_at_call 25; refine (rkey_any _ _ (by first | exact HA.out | exact HB.out)).mono ?_; rintro e w' ⟨rfl, rfl⟩))
  all_goals go_ret
  · have h : key a < key b := by assumption
    exact ⟨ret_i64 (cmpI_lt h), rfl⟩
  · have h : key b < key a := by assumption
    exact ⟨ret_i64 (cmpI_gt h), rfl⟩
  · exact ⟨ret_i64 (cmpI_eq (by omega)), rfl⟩
/-- the word of a key -/
def unkN (k : Nat) : Nat := if 9223372036854775808 ≤ k then k - 9223372036854775808 else 18446744073709551615 - k
theorem unk_lt {k : Nat} (h : k < 18446744073709551616) : unkN k < 18446744073709551616 := by unfold unkN; split <;> omega
theorem unk_key {k : Nat} (h : k < 18446744073709551616) : keyN (unkN k) = (k : Int) := by
  unfold unkN keyN
  split <;> split <;> omega
theorem keyN_inj {a b : Nat} (ha : a < 18446744073709551616) (hb : b < 18446744073709551616) (h : keyN a = keyN b) : a = b := by
  unfold keyN at h
  split at h <;> split at h <;> omega
theorem unk_bool {k : Nat} (h : k < 18446744073709551616) : (key (unkN k) == (k : Int)) = (((canonB (unkN k) : Nat) : Int) == ((unkN k : Nat) : Int)) := by
  have h1 := unk_lt h
  have h2 := canon_lt h1
  have h3 := unk_key h
  rw [Bool.eq_iff_iff, beq_iff_eq, beq_iff_eq]
  unfold key
  constructor
  · intro e
    have := keyN_inj h2 h1 (by rw [e, h3])
    omega
  · intro e
    have : canonB (unkN k) = unkN k := by omega
    rw [this, h3]
theorem andNot_top (k : Nat) (h : k < 18446744073709551616) (h1 : 9223372036854775808 ≤ k) : bits .andNot .u64 (k : Int) 9223372036854775808 = ((unkN k : Nat) : Int) := by
  have := u64_andNot_nat k 9223372036854775808 h (by omega)
  rw [show (9223372036854775808 : Int) = ((9223372036854775808 : Nat) : Int) by rfl, this]
  rw [show (18446744073709551615 - 9223372036854775808 : Nat) = 2 ^ 63 - 1 by rfl, Nat.and_two_pow_sub_one_eq_mod]
  unfold unkN; rw [if_pos h1]; omega
theorem xor_low (k : Nat) (h : k < 18446744073709551616) (h1 : ¬ 9223372036854775808 ≤ k) : bits .xor .u64 IntKind.u64.max (k : Int) = ((unkN k : Nat) : Int) := by
  rw [xor_all k h]; unfold unkN; rw [if_neg h1]; omega
theorem unkey_any (k : Nat) (w : World) (hk : k < 18446744073709551616) : Calls Tryz.prog 20 #[.int .u64 (k : Int)] w fun e w' => e = .returned (.tuple #[.float .f64 (canonB (unkN k)), .bool (((canonB (unkN k) : Nat) : Int) == ((unkN k : Nat) : Int))]) ∧ w = w' := by
  have hf := run_frombits
  have hb := unk_bool hk
  have HL := Lib.hid (unk_lt hk)
  by_cases h : 9223372036854775808 ≤ k
  · have e1 : (((k : Nat) : Int) / 9223372036854775808 == 1) = true := by simp; omega
    have e2 := andNot_top k hk h
    clear h hk
    go_enter Tryz.func20, Tryz.ntmps20
    go_wp2_with (first
      | (go_at_call 19; refine (canon_any _ _).mono ?_; rintro e w' ⟨rfl, rfl⟩)
      | (go_at_call 21; refine (key_any (unkN k) _ HL.out).mono ?_; rintro e w' ⟨rfl, rfl⟩))
    go_ret2
    exact ⟨rfl, rfl⟩
  · have e1 : (((k : Nat) : Int) / 9223372036854775808 == 1) = false := by simp; omega
    have e2 := xor_low k hk h
    clear h hk
    go_enter Tryz.func20, Tryz.ntmps20
    go_wp2_with fail
    refine (canon_any _ _).mono ?_
    rintro e w' ⟨rfl, rfl⟩
    go_wp2_with fail
    refine (key_any (unkN k) _ HL.out).mono ?_
    rintro e w' ⟨rfl, rfl⟩
    go_wp2_with fail
    go_ret2
    exact ⟨rfl, rfl⟩
theorem runkey_any (k : Nat) (w : World) (hk : k < 18446744073709551616) : Calls Tryz.prog 23 #[.int .u64 (k : Int)] w fun e w' => e = .returned (.tuple #[.float .f64 (canonB (unkN k)), .bool (((canonB (unkN k) : Nat) : Int) == ((unkN k : Nat) : Int))]) ∧ w = w' := by
  have HL := Lib.hid (unk_lt hk)
  by_cases h : 9223372036854775808 ≤ k
  · have h1 : decide (9223372036854775808 ≤ k) = true := decide_eq_true h
    have h2 : decide ((9223372036854775808 : Int) ≤ (k : Int)) = true := decide_eq_true (by omega)
    have e2 : IntKind.u64.wrap ((k : Int) - 9223372036854775808) = ((unkN k : Nat) : Int) := by rw [IntKind.wrap_u64]; unfold unkN; rw [if_pos h]; omega
    clear h hk
    go_enter Tryz.func23, Tryz.ntmps23
    go_wp2_with (first
      | (go_at_call 9; refine (from_any _ _).mono ?_; rintro e w' ⟨rfl, rfl⟩)
      | (go_at_call 24; refine (rcanon_any (unkN k) _ HL.out).mono ?_; rintro e w' ⟨rfl, rfl⟩)
      | (go_at_call 33; refine (bits_any _ _).mono ?_; rintro e w' ⟨rfl, rfl⟩))
    go_ret2
    exact ⟨rfl, rfl⟩
  · have h1 : decide (9223372036854775808 ≤ k) = false := decide_eq_false h
    have h2 : decide ((9223372036854775808 : Int) ≤ (k : Int)) = false := decide_eq_false (by omega)
    have e2 : IntKind.u64.wrap (18446744073709551615 - (k : Int)) = ((unkN k : Nat) : Int) := by rw [IntKind.wrap_u64]; unfold unkN; rw [if_neg h]; omega
    clear h hk
    go_enter Tryz.func23, Tryz.ntmps23
    go_wp2_with (first
      | (go_at_call 9; refine (from_any _ _).mono ?_; rintro e w' ⟨rfl, rfl⟩)
      | (go_at_call 24; refine (rcanon_any (unkN k) _ HL.out).mono ?_; rintro e w' ⟨rfl, rfl⟩)
      | (go_at_call 33; refine (bits_any _ _).mono ?_; rintro e w' ⟨rfl, rfl⟩))
    go_ret2
    exact ⟨rfl, rfl⟩
end Go.Proofs.YtnklnenjdffbaaaGreatDoor
