/- strconv: unrounded scaling. -/
import Derived.Test.YtnklnenjdffbaaaDoorFa
import Derived.Test.YtnklnenjdffbaaaDoorReg
namespace Go.Proofs.YtnklnenjdffbaaaDoor
open Go.RowKit
set_option linter.unusedVariables false
set_option maxRecDepth 100000

/-- a scaler in its cells -/
def ScalerAt (w : World) (b hi lo s : Nat) : Prop := w.cell? ⟨b, 0, none⟩ = some (.int .u64 (hi : Int)) ∧ w.cell? ⟨b, 1, none⟩ = some (.int .u64 (lo : Int)) ∧ w.cell? ⟨b, 2, none⟩ = some (.int .i64 (s : Int))
/-- what uscale answers -/
def usc (x hi lo s : Nat) : Nat :=
  if x * hi / 18446744073709551616 / 2 ^ s * 2 ^ s = x * hi / 18446744073709551616 then
    ((x * hi / 18446744073709551616 + 18446744073709551616 - (if x * hi % 18446744073709551616 < x * lo / 18446744073709551616 then 1 else 0)) % 18446744073709551616 / 2 ^ s) |||
      (if 1 < (x * hi % 18446744073709551616 + 18446744073709551616 - x * lo / 18446744073709551616) % 18446744073709551616 then 1 else 0)
  else (x * hi / 18446744073709551616 / 2 ^ s) ||| 1
set_option maxHeartbeats 1000000 in
theorem uscale_any (x hi lo s b : Nat) (w : World) (hx : x < 18446744073709551616) (hhi : hi < 18446744073709551616) (hlo : lo < 18446744073709551616) (hs : s < 64) (hc : ScalerAt w b hi lo s) :
    Calls Tryd.prog 53 #[.int .u64 (x : Int), .pointer (some ⟨b, 0, none⟩)] w fun e w' => e = .returned (.int .u64 (usc x hi lo s : Nat)) ∧ Below w.heap.size w w' := by
  obtain ⟨c0, c1, c2⟩ := hc
  have hand : bits .and .i64 (s : Int) 63 = (s : Int) := by
    have h : ∀ n, n < 64 → bits .and .i64 ((n : Nat) : Int) 63 = (n : Int) := by decide +kernel
    exact h s hs
  have hxh : x * hi / 18446744073709551616 < 18446744073709551616 := by
    have := Nat.mul_lt_mul'' hx hhi
    omega
  have hxl : x * lo / 18446744073709551616 < 18446744073709551616 := by
    have := Nat.mul_lt_mul'' hx hlo
    omega
  have hM1 := fun W => Tryd.bits_Mul64 x hi hx hhi W
  have hM2 := fun W => Tryd.bits_Mul64 x lo hx hlo W
  obtain ⟨h, hh⟩ : ∃ h, h = x * hi / 18446744073709551616 := ⟨_, rfl⟩
  obtain ⟨m, hm⟩ : ∃ m, m = x * hi % 18446744073709551616 := ⟨_, rfl⟩
  obtain ⟨m2, hm2⟩ : ∃ m2, m2 = x * lo / 18446744073709551616 := ⟨_, rfl⟩
  obtain ⟨l2, hl2⟩ : ∃ l2, l2 = x * lo % 18446744073709551616 := ⟨_, rfl⟩
  rw [← hh, ← hm] at hM1
  rw [← hm2, ← hl2] at hM2
  rw [← hh] at hxh
  rw [← hm2] at hxl
  have hml : m < 18446744073709551616 := by omega
  obtain ⟨r, hr⟩ : ∃ r, r = usc x hi lo s := ⟨_, rfl⟩
  rw [← hr]
  have HR := Lib.hid hr
  have HH := Lib.hid hh
  have HM := Lib.hid hm
  have HM2 := Lib.hid hm2
  have K1 := Lib.hid hM1
  have K2 := Lib.hid hM2
  clear hr hh hm hm2 hl2 hx hhi hlo hM1 hM2
  go_enter Tryd.func53, Tryd.ntmps53
  go_wp2_with fail
  refine (K1.out _).mono ?_
  rintro e w1 ⟨rfl, rfl⟩
  have hp : 0 < 2 ^ s := Nat.two_pow_pos s
  have hle : h / 2 ^ s * 2 ^ s ≤ h := Nat.div_mul_le_self h (2 ^ s)
  have hcast : (h : Int) / 2 ^ s = ((h / 2 ^ s : Nat) : Int) := by push_cast; rfl
  have hcast2 : (h : Int) / 2 ^ s * 2 ^ s = ((h / 2 ^ s * 2 ^ s : Nat) : Int) := by push_cast; rfl
  have hw : IntKind.u64.wrap ((h : Int) / 2 ^ s * 2 ^ s) = ((h / 2 ^ s * 2 ^ s : Nat) : Int) := by
    rw [hcast2, IntKind.wrap_u64]; omega
  have hdl : h / 2 ^ s ≤ h := Nat.div_le_self _ _
  by_cases hd : h / 2 ^ s * 2 ^ s = h
  · have e1 : (IntKind.u64.wrap ((h : Int) / 2 ^ s * 2 ^ s) != (h : Int)) = false := by rw [hw, hd]; simp
    have HD := Lib.hid hd
    have HCAST := Lib.hid hcast
    have HP := Lib.hid hp
    have hsub : IntKind.u64.wrap ((m : Int) - (m2 : Int)) = (((m + 18446744073709551616 - m2) % 18446744073709551616 : Nat) : Int) := by
      rw [IntKind.wrap_u64]; omega
    obtain ⟨d, hdd⟩ : ∃ d, d = (m + 18446744073709551616 - m2) % 18446744073709551616 := ⟨_, rfl⟩
    rw [← hdd] at hsub
    have HDD := Lib.hid hdd
    clear hdd
    by_cases hmm : m < m2
    · obtain ⟨h2, hh2⟩ : ∃ h2, h2 = (h + 18446744073709551616 - 1) % 18446744073709551616 := ⟨_, rfl⟩
      have hs1 : IntKind.u64.wrap ((h : Int) - 1) = (h2 : Int) := by rw [IntKind.wrap_u64, hh2]; omega
      have h2l : h2 < 18446744073709551616 := by rw [hh2]; omega
      have HFIN : Hid (∀ t : Nat, t = (if 1 < d then 1 else 0) → bits .or .u64 ((h2 : Int) / 2 ^ s) (t : Int) = (r : Int)) := by
        intro t ht
        have hc : (h2 : Int) / 2 ^ s = ((h2 / 2 ^ s : Nat) : Int) := by push_cast; rfl
        have hq : h2 / 2 ^ s ≤ h2 := Nat.div_le_self _ _
        rw [hc, HR.out]
        unfold usc
        rw [← HH.out, ← HM.out, ← HM2.out, if_pos hd, if_pos hmm, ← hh2, ← HDD.out, ← ht]
        exact u64_or_nat _ t (by omega) (by rw [ht]; split <;> omega)
      have hb : decide (m < m2) = true := by simp [hmm]
      clear hw hcast hcast2 hle hd hp hdl hh2 hmm
      by_cases hd1 : 1 < d
      · have HD1 := Lib.hid hd1
        have hdb : decide ((1 : Int) < (d : Int)) = true := by simp; omega
        have CB : Hid (∀ W', Below w1.heap.size w1 W' → Calls Tryd.prog 77 #[.bool true] W' (fun e w'' => e = .returned (.int .u64 1) ∧ Below w1.heap.size w1 w'')) := fun W' h' => (bool2u_any true W').mono fun e w'' ⟨he, hw'⟩ => ⟨he, by rw [hw']; exact h'⟩
        clear hd1
        go_wp2_with fail
        refine (K2.out _).mono ?_
        rintro e w2 ⟨rfl, rfl⟩
        go_wp2_with fail
        refine (bool2u_any _ _).mono ?_
        rintro e w3 ⟨rfl, rfl⟩
        go_wp2_with fail
        refine wp_region_S 9 (fun W' => Below w3.heap.size w3 W') (by kernel_rfl) (by kernel_rfl) ((Below.refl _ _).drew) ?_
        simp only [List.take_succ_cons, List.take_zero, List.drop_succ_cons, List.drop_zero]
        iterate 7 (first | (refine wpS_off (by rfl) ?_; try simp only [Act.put, List.setIfInBounds_toArray, List.set_cons_zero, List.set_cons_succ]) | (refine wpS_val ?_ ?_ ?_ ?_; rotate_left; (focus rfl); (focus intro W' hS'; clear hS'; go_simp; all_goals (with_reducible rfl)); try simp only [Act.put, List.setIfInBounds_toArray, List.set_cons_zero, List.set_cons_succ]))
        (refine wpS_call (.int .u64 1) 77 #[.bool true] (by rfl) ?_ CB.out ?_; (focus intro W' hS'; clear hS'; go_simp); try simp only [Act.put, List.setIfInBounds_toArray, List.set_cons_zero, List.set_cons_succ])
        iterate 1 (first | (refine wpS_off (by rfl) ?_; try simp only [Act.put, List.setIfInBounds_toArray, List.set_cons_zero, List.set_cons_succ]) | (refine wpS_val ?_ ?_ ?_ ?_; rotate_left; (focus rfl); (focus intro W' hS'; clear hS'; go_simp; all_goals (with_reducible rfl)); try simp only [Act.put, List.setIfInBounds_toArray, List.set_cons_zero, List.set_cons_succ]))
        refine wpS_nil ?_
        intro w4 hb4
        have HB4 := Lib.hid hb4
        clear hb4
        go_wp2_with fail
        go_ret
        exact ⟨ret_u64 (HFIN.out 1 (by simp [HD1.out])), HB4.out⟩
      · have HD1 := Lib.hid hd1
        have hdb : decide ((1 : Int) < (d : Int)) = false := by simp; omega
        have CB : Hid (∀ W', Below w1.heap.size w1 W' → Calls Tryd.prog 77 #[.bool false] W' (fun e w'' => e = .returned (.int .u64 0) ∧ Below w1.heap.size w1 w'')) := fun W' h' => (bool2u_any false W').mono fun e w'' ⟨he, hw'⟩ => ⟨he, by rw [hw']; exact h'⟩
        clear hd1
        go_wp2_with fail
        refine (K2.out _).mono ?_
        rintro e w2 ⟨rfl, rfl⟩
        go_wp2_with fail
        refine (bool2u_any _ _).mono ?_
        rintro e w3 ⟨rfl, rfl⟩
        go_wp2_with fail
        refine wp_region_S 9 (fun W' => Below w3.heap.size w3 W') (by kernel_rfl) (by kernel_rfl) ((Below.refl _ _).drew) ?_
        simp only [List.take_succ_cons, List.take_zero, List.drop_succ_cons, List.drop_zero]
        iterate 7 (first | (refine wpS_off (by rfl) ?_; try simp only [Act.put, List.setIfInBounds_toArray, List.set_cons_zero, List.set_cons_succ]) | (refine wpS_val ?_ ?_ ?_ ?_; rotate_left; (focus rfl); (focus intro W' hS'; clear hS'; go_simp; all_goals (with_reducible rfl)); try simp only [Act.put, List.setIfInBounds_toArray, List.set_cons_zero, List.set_cons_succ]))
        (refine wpS_call (.int .u64 0) 77 #[.bool false] (by rfl) ?_ CB.out ?_; (focus intro W' hS'; clear hS'; go_simp); try simp only [Act.put, List.setIfInBounds_toArray, List.set_cons_zero, List.set_cons_succ])
        iterate 1 (first | (refine wpS_off (by rfl) ?_; try simp only [Act.put, List.setIfInBounds_toArray, List.set_cons_zero, List.set_cons_succ]) | (refine wpS_val ?_ ?_ ?_ ?_; rotate_left; (focus rfl); (focus intro W' hS'; clear hS'; go_simp; all_goals (with_reducible rfl)); try simp only [Act.put, List.setIfInBounds_toArray, List.set_cons_zero, List.set_cons_succ]))
        refine wpS_nil ?_
        intro w4 hb4
        have HB4 := Lib.hid hb4
        clear hb4
        go_wp2_with fail
        go_ret
        exact ⟨ret_u64 (HFIN.out 0 (by simp [HD1.out])), HB4.out⟩
    · obtain ⟨h2, hh2⟩ : ∃ h2, h2 = (h + 18446744073709551616 - 0) % 18446744073709551616 := ⟨_, rfl⟩
      have hs1 : IntKind.u64.wrap ((h : Int)) = (h2 : Int) := by rw [IntKind.wrap_u64, hh2]; omega
      have h2l : h2 < 18446744073709551616 := by rw [hh2]; omega
      have HFIN : Hid (∀ t : Nat, t = (if 1 < d then 1 else 0) → bits .or .u64 ((h2 : Int) / 2 ^ s) (t : Int) = (r : Int)) := by
        intro t ht
        have hc : (h2 : Int) / 2 ^ s = ((h2 / 2 ^ s : Nat) : Int) := by push_cast; rfl
        have hq : h2 / 2 ^ s ≤ h2 := Nat.div_le_self _ _
        rw [hc, HR.out]
        unfold usc
        rw [← HH.out, ← HM.out, ← HM2.out, if_pos hd, if_neg hmm, ← hh2, ← HDD.out, ← ht]
        exact u64_or_nat _ t (by omega) (by rw [ht]; split <;> omega)
      have hb : decide (m < m2) = false := by simp [hmm]
      clear hw hcast hcast2 hle hd hp hdl hh2 hmm
      by_cases hd1 : 1 < d
      · have HD1 := Lib.hid hd1
        have hdb : decide ((1 : Int) < (d : Int)) = true := by simp; omega
        have CB : Hid (∀ W', Below w1.heap.size w1 W' → Calls Tryd.prog 77 #[.bool true] W' (fun e w'' => e = .returned (.int .u64 1) ∧ Below w1.heap.size w1 w'')) := fun W' h' => (bool2u_any true W').mono fun e w'' ⟨he, hw'⟩ => ⟨he, by rw [hw']; exact h'⟩
        clear hd1
        go_wp2_with fail
        refine (K2.out _).mono ?_
        rintro e w2 ⟨rfl, rfl⟩
        go_wp2_with fail
        refine (bool2u_any _ _).mono ?_
        rintro e w3 ⟨rfl, rfl⟩
        go_wp2_with fail
        refine wp_region_S 9 (fun W' => Below w3.heap.size w3 W') (by kernel_rfl) (by kernel_rfl) ((Below.refl _ _).drew) ?_
        simp only [List.take_succ_cons, List.take_zero, List.drop_succ_cons, List.drop_zero]
        iterate 7 (first | (refine wpS_off (by rfl) ?_; try simp only [Act.put, List.setIfInBounds_toArray, List.set_cons_zero, List.set_cons_succ]) | (refine wpS_val ?_ ?_ ?_ ?_; rotate_left; (focus rfl); (focus intro W' hS'; clear hS'; go_simp; all_goals (with_reducible rfl)); try simp only [Act.put, List.setIfInBounds_toArray, List.set_cons_zero, List.set_cons_succ]))
        (refine wpS_call (.int .u64 1) 77 #[.bool true] (by rfl) ?_ CB.out ?_; (focus intro W' hS'; clear hS'; go_simp); try simp only [Act.put, List.setIfInBounds_toArray, List.set_cons_zero, List.set_cons_succ])
        iterate 1 (first | (refine wpS_off (by rfl) ?_; try simp only [Act.put, List.setIfInBounds_toArray, List.set_cons_zero, List.set_cons_succ]) | (refine wpS_val ?_ ?_ ?_ ?_; rotate_left; (focus rfl); (focus intro W' hS'; clear hS'; go_simp; all_goals (with_reducible rfl)); try simp only [Act.put, List.setIfInBounds_toArray, List.set_cons_zero, List.set_cons_succ]))
        refine wpS_nil ?_
        intro w4 hb4
        have HB4 := Lib.hid hb4
        clear hb4
        go_wp2_with fail
        go_ret
        exact ⟨ret_u64 (HFIN.out 1 (by simp [HD1.out])), HB4.out⟩
      · have HD1 := Lib.hid hd1
        have hdb : decide ((1 : Int) < (d : Int)) = false := by simp; omega
        have CB : Hid (∀ W', Below w1.heap.size w1 W' → Calls Tryd.prog 77 #[.bool false] W' (fun e w'' => e = .returned (.int .u64 0) ∧ Below w1.heap.size w1 w'')) := fun W' h' => (bool2u_any false W').mono fun e w'' ⟨he, hw'⟩ => ⟨he, by rw [hw']; exact h'⟩
        clear hd1
        go_wp2_with fail
        refine (K2.out _).mono ?_
        rintro e w2 ⟨rfl, rfl⟩
        go_wp2_with fail
        refine (bool2u_any _ _).mono ?_
        rintro e w3 ⟨rfl, rfl⟩
        go_wp2_with fail
        refine wp_region_S 9 (fun W' => Below w3.heap.size w3 W') (by kernel_rfl) (by kernel_rfl) ((Below.refl _ _).drew) ?_
        simp only [List.take_succ_cons, List.take_zero, List.drop_succ_cons, List.drop_zero]
        iterate 7 (first | (refine wpS_off (by rfl) ?_; try simp only [Act.put, List.setIfInBounds_toArray, List.set_cons_zero, List.set_cons_succ]) | (refine wpS_val ?_ ?_ ?_ ?_; rotate_left; (focus rfl); (focus intro W' hS'; clear hS'; go_simp; all_goals (with_reducible rfl)); try simp only [Act.put, List.setIfInBounds_toArray, List.set_cons_zero, List.set_cons_succ]))
        (refine wpS_call (.int .u64 0) 77 #[.bool false] (by rfl) ?_ CB.out ?_; (focus intro W' hS'; clear hS'; go_simp); try simp only [Act.put, List.setIfInBounds_toArray, List.set_cons_zero, List.set_cons_succ])
        iterate 1 (first | (refine wpS_off (by rfl) ?_; try simp only [Act.put, List.setIfInBounds_toArray, List.set_cons_zero, List.set_cons_succ]) | (refine wpS_val ?_ ?_ ?_ ?_; rotate_left; (focus rfl); (focus intro W' hS'; clear hS'; go_simp; all_goals (with_reducible rfl)); try simp only [Act.put, List.setIfInBounds_toArray, List.set_cons_zero, List.set_cons_succ]))
        refine wpS_nil ?_
        intro w4 hb4
        have HB4 := Lib.hid hb4
        clear hb4
        go_wp2_with fail
        go_ret
        exact ⟨ret_u64 (HFIN.out 0 (by simp [HD1.out])), HB4.out⟩
  · have e1 : (IntKind.u64.wrap ((h : Int) / 2 ^ s * 2 ^ s) != (h : Int)) = true := by
      rw [hw, bne_iff_ne]; intro h'; exact hd (by omega)
    have HD := Lib.hid hd
    have HO : Hid (bits .or .u64 ((h : Int) / 2 ^ s) 1 = (r : Int)) := by
      show _ = _
      rw [hcast, HR.out]
      unfold usc
      rw [← HH.out, if_neg hd]
      exact u64_or_nat _ 1 (by omega) (by omega)
    clear hw hcast hcast2 hle hd hp hdl
    go_wp2_with fail
    go_ret
    exact ⟨ret_u64 HO.out, Below.refl _ _⟩
end Go.Proofs.YtnklnenjdffbaaaDoor
