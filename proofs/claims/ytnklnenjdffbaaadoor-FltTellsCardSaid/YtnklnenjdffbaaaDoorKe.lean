/- The value of the digits grows from one float to the next. -/
import Derived.Test.YtnklnenjdffbaaaDoorKd
namespace Go.Proofs.YtnklnenjdffbaaaDoor
set_option linter.unusedVariables false
set_option maxRecDepth 100000
theorem step_gen (m : Nat) (e : Int) (h1 : -1137 ≤ e) (h2 : e ≤ 960) (hm : 9223372036854775808 ≤ m) (hy2 : m + 2 ^ spZ e < 18446744073709551616) (hz : m % 2 ^ spZ e = 0)
    (hg : ¬ (m = 9223372036854775808 ∧ -1085 < e)) : vV m e < vV (m + 2 ^ spZ e) e := by
  obtain ⟨za, zb⟩ := spZ_le e h1
  have hp1 : 2 ^ spZ e = 2 * 2 ^ (spZ e - 1) := by rw [← Nat.pow_succ']; congr 1; omega
  have hp0 : 0 < 2 ^ (spZ e - 1) := Nat.two_pow_pos _
  obtain ⟨y, hy⟩ : ∃ y, y = m + 2 ^ spZ e := ⟨_, rfl⟩
  have hym : 9223372036854775808 < y := by omega
  have hy64 : y < 18446744073709551616 := by omega
  have hyz : y % 2 ^ spZ e = 0 := by rw [hy, Nat.add_mod_right]; exact hz
  have hgy : ¬ (y = 9223372036854775808 ∧ -1085 < e) := by omega
  have B := bnd_any m e h1 h2 hm (by omega) hz
  have C := bnd_any y e h1 h2 (by omega) hy64 hyz
  have dm := dD_in m e h1 h2 hm (by omega) hz
  have dy := dD_in y e h1 h2 (by omega) hy64 hyz
  have hP : spP y e = spP m e := by unfold spP; rw [if_neg hg, if_neg hgy]
  have hS : spS y e = spS m e := by unfold spS; rw [hP]
  have hQ : qX y e = qX m e := by unfold qX; rw [hS]
  have hN : ∀ x, nX y e x = nX m e x := fun x => by unfold nX; rw [hP]
  have hmin : spMin y e = spMax m e := by unfold spMin spMax; rw [if_neg hgy]; omega
  have hod : spOdd y e = 1 - spOdd m e := by
    unfold spOdd
    rw [hy, Nat.add_div_right _ (Nat.two_pow_pos _)]; omega
  rw [hQ, hN, hN, hmin] at C
  have hQ1 := qX_ge m e
  have ho : spOdd m e = 0 ∨ spOdd m e = 1 := by unfold spOdd; omega
  have key : dD m e < dD y e := by
    rcases Nat.lt_or_ge (dD m e) (dD y e) with h | h
    · exact h
    · exfalso
      have hmul := Nat.mul_le_mul_right (qX m e) (Nat.mul_le_mul_left 4 h)
      rcases ho with h0 | h0
      · have a := (B.hiE h0 _).1 dm.2
        have b := (C.loO (by omega) _).1 dy.1
        omega
      · have a := (B.hiO h0 _).1 dm.2
        have b := (C.loE (by omega) _).1 dy.1
        omega
  rw [← hy]
  unfold vV
  rw [hP]
  exact Nat.mul_lt_mul_of_pos_right key (Nat.pow_pos (by decide))
theorem step_any (m : Nat) (e : Int) (h1 : -1137 ≤ e) (h2 : e ≤ 960) (hm : 9223372036854775808 ≤ m) (hy2 : m + 2 ^ spZ e < 18446744073709551616) (hz : m % 2 ^ spZ e = 0) : vV m e < vV (m + 2 ^ spZ e) e := by
  by_cases hg : m = 9223372036854775808 ∧ -1085 < e
  · have hz11 : spZ e = 11 := by unfold spZ; rw [if_pos (by omega)]
    have := k1_all (e + 1084).toNat (by omega)
    rw [show (((e + 1084).toNat : Nat) : Int) - 1084 = e by omega] at this
    rw [hz11, hg.1]; exact this
  · exact step_gen m e h1 h2 hm hy2 hz hg
theorem cross_any (m : Nat) (e : Int) (h1 : -1137 ≤ e) (h2 : e ≤ 959) (hm : m = 18446744073709551616 - 2 ^ spZ e) : vV m e < vV 9223372036854775808 (e + 1) := by
  have := k2_all (e + 1137).toNat (by omega)
  rw [show (((e + 1137).toNat : Nat) : Int) - 1137 = e by omega, show (((e + 1137).toNat : Nat) : Int) - 1136 = e + 1 by omega] at this
  rw [hm]; exact this
theorem bl_eq {x k : Nat} (hx : x < 18446744073709551616) (hk : 1 ≤ k) (h1 : 2 ^ (k - 1) ≤ x) (h2 : x < 2 ^ k) : Lib.bitLen x = k := by
  have h0 : 1 ≤ x := Nat.le_trans (Nat.two_pow_pos (k - 1)) h1
  obtain ⟨a, b, c, d⟩ := bitLen_spec hx h0
  rcases Nat.lt_trichotomy (Lib.bitLen x) k with h | h | h
  · have := Nat.pow_le_pow_right (n := 2) (by decide) (show Lib.bitLen x ≤ k - 1 by omega); omega
  · exact h
  · have := Nat.pow_le_pow_right (n := 2) (by decide) (show k ≤ Lib.bitLen x - 1 by omega); omega
theorem spZ_eN (b : Nat) (h : b < 9218868437227405312) (h0 : 1 ≤ b) : spZ (eN b) = shN b := by
  have hx : exN b = b / 4503599627370496 := by unfold exN; omega
  have hl := mant_lt b
  obtain ⟨a1, a2, a3, a4⟩ := bitLen_spec (show mantN b < 18446744073709551616 by omega) (show 1 ≤ mantN b by unfold mantN frN; split <;> omega)
  have he : eN b = expN b - shN b - 52 := rfl
  have hs : shN b = 64 - Lib.bitLen (mantN b) := rfl
  by_cases hx0 : exN b = 0
  · have hm : mantN b < 2 ^ 52 := by unfold mantN frN; rw [if_pos hx0]; omega
    have hl : Lib.bitLen (mantN b) ≤ 52 := by
      rcases Nat.lt_or_ge 52 (Lib.bitLen (mantN b)) with h | h
      · have := Nat.pow_le_pow_right (n := 2) (by decide) (show 52 ≤ Lib.bitLen (mantN b) - 1 by omega); omega
      · exact h
    have hep : expN b = -1022 := by unfold expN; rw [if_pos hx0]
    unfold spZ; rw [if_neg (by omega)]; omega
  · have hm : 2 ^ 52 ≤ mantN b := by unfold mantN frN; rw [if_neg hx0]; omega
    have hl : Lib.bitLen (mantN b) = 53 := bl_eq (by omega) (by decide) hm (by omega)
    have hep : expN b = (exN b : Int) - 1023 := by unfold expN; rw [if_neg hx0]
    unfold spZ; rw [if_pos (by omega)]; omega
/-- one float up, within the finite -/
theorem word_step (b : Nat) (h0 : 1 ≤ b) (h : b + 1 < 9218868437227405312) : vV (mN b) (eN b) < vV (mN (b + 1)) (eN (b + 1)) := by
  have hx : exN b = b / 4503599627370496 := by unfold exN; omega
  have hx' : exN (b + 1) = (b + 1) / 4503599627370496 := by unfold exN; omega
  have hm0 : mantN b ≠ 0 := by unfold mantN frN; split <;> omega
  have hm0' : mantN (b + 1) ≠ 0 := by unfold mantN frN; split <;> omega
  obtain ⟨n1, n2, n3, n4, n5, n6, n7, _, _⟩ := norm_spec b (by omega) (by omega) hm0
  obtain ⟨o1, o2, o3, o4, o5, o6, o7, _, _⟩ := norm_spec (b + 1) (by omega) (by omega) hm0'
  have hz := spZ_eN b (by omega) h0
  have hz' := spZ_eN (b + 1) (by omega) (by omega)
  have hl := mant_lt b
  have hl' := mant_lt (b + 1)
  obtain ⟨a1, a2, a3, a4⟩ := bitLen_spec (show mantN b < 18446744073709551616 by omega) (show 1 ≤ mantN b by omega)
  have he : eN b = expN b - shN b - 52 := rfl
  have hs : shN b = 64 - Lib.bitLen (mantN b) := rfl
  have he' : eN (b + 1) = expN (b + 1) - shN (b + 1) - 52 := rfl
  have hs' : shN (b + 1) = 64 - Lib.bitLen (mantN (b + 1)) := rfl
  have hmN : mN b = mantN b * 2 ^ shN b := rfl
  have hmN' : mN (b + 1) = mantN (b + 1) * 2 ^ shN (b + 1) := rfl
  by_cases hc : 1 ≤ exN b ∧ frN b = 4503599627370495
  · -- the exponent grows
    obtain ⟨c1, c2⟩ := hc
    have c3 : exN (b + 1) = exN b + 1 := by unfold frN at c2; omega
    have c4 : frN (b + 1) = 0 := by unfold frN at c2 ⊢; omega
    have m1 : mantN b = 9007199254740991 := by unfold mantN; rw [if_neg (by omega), c2]
    have m2 : mantN (b + 1) = 4503599627370496 := by unfold mantN; rw [if_neg (by omega), c4]
    have l1 : Lib.bitLen (mantN b) = 53 := by rw [m1]; decide
    have l2 : Lib.bitLen (mantN (b + 1)) = 53 := by rw [m2]; decide
    have e1 : expN b = (exN b : Int) - 1023 := by unfold expN; rw [if_neg (by omega)]
    have e2 : expN (b + 1) = (exN (b + 1) : Int) - 1023 := by unfold expN; rw [if_neg (by omega)]
    have g1 : mN (b + 1) = 9223372036854775808 := by rw [hmN', hs', l2, m2]
    have g2 : eN (b + 1) = eN b + 1 := by omega
    rw [g1, g2]
    refine cross_any _ _ n4 (by omega) ?_
    rw [hz, hmN, hs, l1, m1]
  · have hM : mantN (b + 1) = mantN b + 1 := by
      unfold mantN
      unfold frN at hc ⊢
      by_cases h1 : exN b = 0
      · rw [if_pos h1]
        by_cases h2 : exN (b + 1) = 0
        · rw [if_pos h2]; omega
        · rw [if_neg h2]; omega
      · rw [if_neg h1, if_neg (by omega)]; omega
    have hE : expN (b + 1) = expN b := by
      unfold expN
      unfold frN at hc
      by_cases h1 : exN b = 0
      · rw [if_pos h1]
        by_cases h2 : exN (b + 1) = 0
        · rw [if_pos h2]
        · rw [if_neg h2]; omega
      · rw [if_neg h1, if_neg (by omega)]; omega
    by_cases hb : mantN b + 1 = 2 ^ Lib.bitLen (mantN b)
    · have l2 : Lib.bitLen (mantN (b + 1)) = Lib.bitLen (mantN b) + 1 := bl_eq (by omega) (by omega) (by rw [hM, hb]; exact Nat.le_refl _) (by rw [hM, hb]; exact Nat.pow_lt_pow_right (by decide) (by omega))
      have hsh : shN b = shN (b + 1) + 1 := by omega
      have g1 : mN (b + 1) = 9223372036854775808 := by
        rw [hmN', hM, hb, ← Nat.pow_add, show Lib.bitLen (mantN b) + shN (b + 1) = 63 by omega]
      have g2 : eN (b + 1) = eN b + 1 := by omega
      rw [g1, g2]
      refine cross_any _ _ n4 (by omega) ?_
      rw [hz, hmN]
      have := congrArg (· * 2 ^ shN b) hb
      simp only [Nat.add_mul, Nat.one_mul] at this
      rw [← Nat.pow_add, show Lib.bitLen (mantN b) + shN b = 64 by omega] at this
      omega
    · have l2 : Lib.bitLen (mantN (b + 1)) = Lib.bitLen (mantN b) := bl_eq (by omega) (by omega) (by omega) (by omega)
      have hsh : shN (b + 1) = shN b := by omega
      have g1 : mN (b + 1) = mN b + 2 ^ spZ (eN b) := by rw [hmN', hM, hsh, hz, Nat.add_mul, Nat.one_mul, ← hmN]
      have g2 : eN (b + 1) = eN b := by omega
      rw [g1, g2]
      exact step_any _ _ n4 n5 n1 (by rw [← g1]; exact o2) n3
theorem word_mono (b : Nat) (h0 : 1 ≤ b) : ∀ d, b + d + 1 < 9218868437227405312 → vV (mN b) (eN b) < vV (mN (b + d + 1)) (eN (b + d + 1))
  | 0, h => word_step b h0 h
  | d + 1, h => Nat.lt_trans (word_mono b h0 d (by omega)) (word_step (b + d + 1) (by omega) h)
theorem word_inj {a b : Nat} (ha : 1 ≤ a) (hb : 1 ≤ b) (ha2 : a < 9218868437227405312) (hb2 : b < 9218868437227405312) (h : vV (mN a) (eN a) = vV (mN b) (eN b)) : a = b := by
  rcases Nat.lt_trichotomy a b with h1 | h1 | h1
  · have := word_mono a ha (b - a - 1) (by omega)
    rw [show a + (b - a - 1) + 1 = b by omega] at this; omega
  · exact h1
  · have := word_mono b hb (a - b - 1) (by omega)
    rw [show b + (a - b - 1) + 1 = a by omega] at this; omega
end Go.Proofs.YtnklnenjdffbaaaDoor
