/- The digits of a float stand between the bounds, and grow from one float to the next. -/
import Derived.Test.YtnklnenjdffbaaaDoorKc
namespace Go.Proofs.YtnklnenjdffbaaaDoor
set_option linter.unusedVariables false
set_option maxRecDepth 100000
theorem nN_add (a d hi lo : Nat) (hlo : lo < 18446744073709551616) (hh : 9223372036854775808 ≤ hi) : nN a hi lo + nN d hi lo ≤ nN (a + d) hi lo + 1 ∧ nN (a + d) hi lo ≤ nN a hi lo + nN d hi lo := by
  have g : ∀ x : Nat, x * lo / 18446744073709551616 ≤ x * hi := fun x => by
    have h1 : x * lo ≤ x * 18446744073709551615 := Nat.mul_le_mul_left _ (by omega)
    have h2 : x * 9223372036854775808 ≤ x * hi := Nat.mul_le_mul_left _ hh
    omega
  have g1 := g a
  have g2 := g d
  have g3 := g (a + d)
  unfold nN
  rw [Nat.add_mul] at g3 ⊢
  rw [Nat.add_mul] at g3 ⊢
  omega
/-- all that is known of the bounds of a float's digits -/
structure Bnd (lo hi odd N1 N2 Q : Nat) : Prop where
  lo1 : 1 ≤ lo
  loE : odd = 0 → ∀ k, lo ≤ k ↔ N1 ≤ 4 * k * Q + 1
  loO : odd = 1 → ∀ k, lo ≤ k ↔ N1 < 4 * k * Q
  hiE : odd = 0 → ∀ k, k ≤ hi ↔ 4 * k * Q ≤ N2
  hiO : odd = 1 → ∀ k, k ≤ hi ↔ 4 * k * Q + 2 ≤ N2
theorem spMax_lt (m : Nat) (e : Int) (h1 : -1137 ≤ e) (hm2 : m < 18446744073709551616) (hz : m % 2 ^ spZ e = 0) : spMax m e < 18446744073709551616 := by
  obtain ⟨a, b⟩ := spZ_le e h1
  unfold spMax
  obtain ⟨z, hzd⟩ : ∃ z, z = spZ e := ⟨_, rfl⟩
  rw [← hzd] at a b hz ⊢
  have hp1 : 2 ^ z = 2 * 2 ^ (z - 1) := by rw [← Nat.pow_succ']; congr 1; omega
  have hp0 : 0 < 2 ^ (z - 1) := Nat.two_pow_pos _
  obtain ⟨q, hq⟩ : ∃ q, m = 2 ^ z * q := Nat.dvd_of_mod_eq_zero hz
  have h64 : (18446744073709551616 : Nat) = 2 ^ z * 2 ^ (64 - z) := by rw [← Nat.pow_add]; rw [show z + (64 - z) = 64 by omega]
  have hq2 : q < 2 ^ (64 - z) := by
    rcases Nat.lt_or_ge q (2 ^ (64 - z)) with h | h
    · exact h
    · have := Nat.mul_le_mul_left (2 ^ z) h; omega
  have h3 : 2 ^ z * (q + 1) ≤ 2 ^ z * 2 ^ (64 - z) := Nat.mul_le_mul_left _ hq2
  rw [Nat.mul_add] at h3
  omega
theorem scl_q (m : Nat) (e : Int) (x : Nat) (h1 : -1137 ≤ e) (h2 : e ≤ 960) (hx : x < 18446744073709551616) (hx2 : 4611686018427387904 ≤ x) :
    scl m e x = (nX m e x / qX m e) ||| (if 1 < nX m e x % qX m e then 1 else 0) := by
  have hok := okE_any m e h1 h2
  unfold okE at hok
  rw [decide_eq_true_eq] at hok
  exact usc_eq x _ _ _ hx (row10_lt _).1 (row10_ge hok.1 hok.2.1) (row10_lt _).2 (by omega) hx2
theorem qX_ge (m : Nat) (e : Int) : 18446744073709551616 ≤ qX m e := Nat.pow_le_pow_right (n := 2) (by decide) (show 64 ≤ 64 + (spS m e).toNat by omega)
theorem bnd_any (m : Nat) (e : Int) (h1 : -1137 ≤ e) (h2 : e ≤ 960) (hm : 9223372036854775808 ≤ m) (hm2 : m < 18446744073709551616) (hz : m % 2 ^ spZ e = 0) :
    Bnd (spLo m e) (spHi m e) (spOdd m e) (nX m e (spMin m e)) (nX m e (spMax m e)) (qX m e) := by
  have hQ := qX_ge m e
  have a1 := spMin_ge m e hm (spZ_le e h1).1
  have a2 := spMin_lt m e hm2
  have b1 := spMax_lt m e h1 hm2 hz
  have b2 : 4611686018427387904 ≤ spMax m e := by unfold spMax; exact Nat.le_trans (show 4611686018427387904 ≤ m by omega) (Nat.le_add_right _ _)
  have u1 := scl_le m e (spMin m e) h1 h2 a2
  have u2 := scl_le m e (spMax m e) h1 h2 b1
  have u3 := scl_ge m e (spMax m e) 1 h1 h2 b1 (by omega)
  have ho : spOdd m e ≤ 1 := by unfold spOdd; omega
  have e1 : spLo m e = (scl m e (spMin m e) + spOdd m e + 3) / 4 := by unfold spLo; omega
  have e2 : spHi m e = (scl m e (spMax m e) - spOdd m e) / 4 := by unfold spHi; omega
  have c1 := fun k => q_ge (k := k) (t := 0) (q := 0) (show 2 ≤ qX m e by omega) (scl_q m e (spMin m e) h1 h2 a2 a1)
  have c2 := fun k => q_ge (k := k) (t := 0) (q := 0) (show 2 ≤ qX m e by omega) (scl_q m e (spMax m e) h1 h2 b1 b2)
  refine ⟨spLo_pos m e h1 h2 hm hm2, fun h k => ?_, fun h k => ?_, fun h k => ?_, fun h k => ?_⟩
  · have := (c1 k).2.1; rw [e1, h]; omega
  · have := (c1 k).1; rw [e1, h]; omega
  · have := (c2 k).1; rw [e2, h]; omega
  · have := (c2 k).2.1; rw [e2, h]; omega
theorem chk_any (m : Nat) (e : Int) (h1 : -1137 ≤ e) (h2 : e ≤ 960) : chkE m e = true := by
  have h := chk_all (e + 1137).toNat (by omega)
  rw [show (((e + 1137).toNat : Nat) : Int) - 1137 = e by omega] at h
  by_cases hm : m = 9223372036854775808
  · subst hm; exact h.1
  · have h0 := h.2
    have a1 : ¬ ((0 : Nat) = 9223372036854775808 ∧ -1085 < e) := by omega
    have a2 : ¬ (m = 9223372036854775808 ∧ -1085 < e) := by omega
    unfold chkE nX qX d1X spS spP at h0 ⊢
    simp only [if_neg a1] at h0
    simp only [if_neg a2]
    have a3 : decide ((0 : Nat) ≠ 9223372036854775808 ∧ e = -11) = decide (m ≠ 9223372036854775808 ∧ e = -11) := by
      rw [Bool.eq_iff_iff]; simp only [decide_eq_true_eq]; omega
    rw [a3] at h0
    exact h0
/-- between the bounds, in quarters: the middle stands by its rounding -/
theorem mid_q {N Q u : Nat} (hQ : 2 ≤ Q) (hu : u = (N / Q) ||| (if 1 < N % Q then 1 else 0)) (hl : u < 2305843009213693952) (D : Nat) (hD : D = (u + 1 + u / 4 % 2) % 18446744073709551616 / 4) :
    N ≤ (4 * D + 2) * Q + 1 ∧ (1 ≤ D → (4 * D - 2) * Q ≤ N) := by
  obtain ⟨q, hq⟩ : ∃ q, q = N / Q := ⟨_, rfl⟩
  obtain ⟨r, hr⟩ : ∃ r, r = N % Q := ⟨_, rfl⟩
  have hN : N = Q * q + r := by rw [hq, hr]; exact (Nat.div_add_mod N Q).symm
  have hrQ : r < Q := by rw [hr]; exact Nat.mod_lt _ (by omega)
  have h4 := q_ge (k := 0) (t := 0) (q := 0) hQ hu
  rw [← hq, ← hr] at h4
  obtain ⟨_, _, h5, h6, h7, h8⟩ := h4
  rw [Nat.mod_eq_of_lt (by omega)] at hD
  have k1 : u ≤ 4 * D + 2 := by omega
  have k2 : 1 ≤ D → 4 * D - 2 ≤ u := by omega
  constructor
  · by_cases hu2 : u = 4 * D + 2
    · obtain ⟨j1, j2⟩ := h8 (by omega)
      rw [hN, ← j1, hu2, Nat.mul_comm]; omega
    · have : q + 1 ≤ 4 * D + 2 := by omega
      have := Nat.mul_le_mul_right Q this
      rw [Nat.add_mul, Nat.one_mul, Nat.mul_comm q Q] at this
      omega
  · intro hD1
    have : 4 * D - 2 ≤ q := by
      have := k2 hD1
      rcases Nat.lt_or_ge q (4 * D - 2) with h | h
      · have := h7 (by omega); omega
      · exact h
    have := Nat.mul_le_mul_right Q this
    rw [Nat.mul_comm q Q] at this
    omega
theorem min_max (m : Nat) (e : Int) (h1 : -1137 ≤ e) (hm : 9223372036854775808 ≤ m) : spMin m e + d1X m e = m ∧ m + d2X e = spMax m e := by
  obtain ⟨a, b⟩ := spZ_le e h1
  have hp : 2 ^ (spZ e - 1) ≤ 4611686018427387904 := Nat.pow_le_pow_right (n := 2) (by decide) (show spZ e - 1 ≤ 62 by omega)
  unfold spMin d1X spMax d2X
  split <;> exact ⟨by omega, rfl⟩
theorem dD_in (m : Nat) (e : Int) (h1 : -1137 ≤ e) (h2 : e ≤ 960) (hm : 9223372036854775808 ≤ m) (hm2 : m < 18446744073709551616) (hz : m % 2 ^ spZ e = 0) :
    spLo m e ≤ dD m e ∧ dD m e ≤ spHi m e := by
  have B := bnd_any m e h1 h2 hm hm2 hz
  have hQ := qX_ge m e
  have hok := okE_any m e h1 h2
  unfold okE at hok
  rw [decide_eq_true_eq] at hok
  have hhi := row10_ge hok.1 hok.2.1
  have hlo := (row10_lt (spP m e)).2
  obtain ⟨mm1, mm2⟩ := min_max m e h1 hm
  have n1 := nN_add (spMin m e) (d1X m e) _ _ hlo hhi
  have n2 := nN_add m (d2X e) _ _ hlo hhi
  rw [mm1] at n1
  rw [mm2] at n2
  have n1 : nX m e (spMin m e) + nX m e (d1X m e) ≤ nX m e m + 1 ∧ nX m e m ≤ nX m e (spMin m e) + nX m e (d1X m e) := n1
  have n2 : nX m e m + nX m e (d2X e) ≤ nX m e (spMax m e) + 1 ∧ nX m e (spMax m e) ≤ nX m e m + nX m e (d2X e) := n2
  have hmid := mid_q (show 2 ≤ qX m e by omega) (scl_q m e m h1 h2 hm2 (by omega)) (scl_le m e m h1 h2 hm2) (spMid m e) rfl
  have ho : spOdd m e = 0 ∨ spOdd m e = 1 := by unfold spOdd; omega
  obtain ⟨lo, hloD⟩ : ∃ lo, lo = spLo m e := ⟨_, rfl⟩
  obtain ⟨hi, hhiD⟩ : ∃ hi, hi = spHi m e := ⟨_, rfl⟩
  obtain ⟨N1, hN1⟩ : ∃ N1, N1 = nX m e (spMin m e) := ⟨_, rfl⟩
  obtain ⟨N2, hN2⟩ : ∃ N2, N2 = nX m e (spMax m e) := ⟨_, rfl⟩
  obtain ⟨Nm, hNm⟩ : ∃ Nm, Nm = nX m e m := ⟨_, rfl⟩
  obtain ⟨A, hA⟩ : ∃ A, A = nX m e (d1X m e) := ⟨_, rfl⟩
  obtain ⟨C, hC⟩ : ∃ C, C = nX m e (d2X e) := ⟨_, rfl⟩
  obtain ⟨Q, hQd⟩ : ∃ Q, Q = qX m e := ⟨_, rfl⟩
  have hchk := chk_any m e h1 h2
  unfold chkE at hchk
  simp only [Bool.or_eq_true, decide_eq_true_eq] at hchk
  rw [← hA, ← hC, ← hQd] at hchk
  rw [← hloD, ← hhiD, ← hN1, ← hN2, ← hQd] at B
  rw [← hN1, ← hA, ← hNm] at n1
  rw [← hN2, ← hC, ← hNm] at n2
  rw [← hNm, ← hQd] at hmid
  rw [← hQd] at hQ
  have mulk : ∀ a b : Nat, a = b + 1 → 4 * a * Q = 4 * b * Q + 4 * Q := fun a b h => by rw [h, Nat.mul_add, Nat.mul_one, Nat.add_mul]
  -- there is one
  have hex : lo ≤ hi := by
    obtain ⟨l', hl'⟩ : ∃ l', lo = l' + 1 := ⟨lo - 1, by have := B.lo1; omega⟩
    have hQ4 := mulk lo l' hl'
    by_cases hsp : m ≠ 9223372036854775808 ∧ e = -11
    · -- the whole numbers: the float itself
      obtain ⟨hs1, hs2⟩ := hsp
      have hz11 : spZ e = 11 := by unfold spZ; rw [if_pos (by omega)]
      have hp0 : spP m e = 0 := by unfold spP; rw [if_neg (by omega), if_pos (by omega), hs2]; rfl
      have hr0 : row10 0 = (9223372036854775808, 0) := by decide +kernel
      have hs0 : spS m e = 8 := by unfold spS; rw [hp0, hs2]; rfl
      have hQ0 : Q = 4722366482869645213696 := by rw [hQd]; unfold qX; rw [hs0]; rfl
      have hnx : ∀ x, nX m e x = x * 9223372036854775808 := fun x => by unfold nX nN; rw [hp0, hr0]; simp
      have hd1 : d1X m e = 1024 := by unfold d1X; rw [if_neg (by omega), hz11]
      have hd2 : d2X e = 1024 := by unfold d2X; rw [hz11]
      rw [hz11] at hz
      rw [hd1] at mm1
      rw [hd2] at mm2
      rw [hnx] at hN1 hN2
      have hk : lo ≤ m / 2048 := by
        rcases ho with h | h
        · rw [B.loE h, hQ0]; omega
        · rw [B.loO h, hQ0]; omega
      have hk2 : m / 2048 ≤ hi := by
        rcases ho with h | h
        · rw [B.hiE h, hQ0]; omega
        · rw [B.hiO h, hQ0]; omega
      omega
    · have hchk := hchk.resolve_right hsp
      rcases ho with h | h
      · rw [B.hiE h]
        have := mt (B.loE h l').2 (by omega)
        omega
      · rw [B.hiO h]
        have := mt (B.loO h l').2 (by omega)
        omega
  unfold dD
  rw [← hloD, ← hhiD]
  split
  · rename_i hs; exact ⟨hs, by omega⟩
  · split
    · rename_i hlt
      obtain ⟨D, hD⟩ : ∃ D, D = spMid m e := ⟨_, rfl⟩
      rw [← hD] at hmid ⊢
      have hchk2 : C ≤ 2 * A + 2 ∧ A ≤ C + 1 := by
        rcases hchk with h | h
        · exact h.2
        · obtain ⟨hs1, hs2⟩ := h
          have hz11 : spZ e = 11 := by unfold spZ; rw [if_pos (by omega)]
          have : d1X m e = d2X e := by unfold d1X d2X; rw [if_neg (by omega)]
          rw [hA, hC, this]; omega
      constructor
      · -- not below
        rcases Nat.lt_or_ge D lo with hDl | hDl
        · exfalso
          obtain ⟨l', hl'⟩ : ∃ l', lo = l' + 1 := ⟨lo - 1, by have := B.lo1; omega⟩
          have k1 := Nat.mul_le_mul_right Q (show 4 * D + 2 ≤ 4 * l' + 2 by omega)
          have k2 : (4 * l' + 2) * Q = 4 * l' * Q + 2 * Q := Nat.add_mul _ _ _
          have k3 := mulk (l' + 1) l' rfl
          have k4 := mulk (l' + 2) (l' + 1) rfl
          have hN2 : 4 * (l' + 2) * Q ≤ N2 := by
            rcases ho with h | h
            · exact (B.hiE h _).1 (by omega)
            · have := (B.hiO h (l' + 2)).1 (by omega); omega
          have hN1' : N1 < 4 * l' * Q := by omega
          have : lo ≤ l' := by
            rcases ho with h | h
            · rw [B.loE h]; omega
            · rw [B.loO h]; exact hN1'
          omega
        · exact hDl
      · rcases Nat.lt_or_ge hi D with hDl | hDl
        · exfalso
          obtain ⟨h', hh'⟩ : ∃ h', hi = h' + 1 := ⟨hi - 1, by have := B.lo1; omega⟩
          have k0 := hmid.2 (by omega)
          have k1 := Nat.mul_le_mul_right Q (show 4 * (h' + 1) + 2 ≤ 4 * D - 2 by omega)
          have k2 : (4 * (h' + 1) + 2) * Q = 4 * (h' + 1) * Q + 2 * Q := Nat.add_mul _ _ _
          have k3 := mulk (h' + 1) h' rfl
          have k4 := mulk (h' + 2) (h' + 1) rfl
          have hN1' : N1 ≤ 4 * h' * Q + 1 := by
            rcases ho with h | h
            · exact (B.loE h _).1 (by omega)
            · have := (B.loO h h').1 (by omega); omega
          have hN2' : 4 * (h' + 2) * Q + 2 ≤ N2 := by omega
          have : h' + 2 ≤ hi := by
            rcases ho with h | h
            · rw [B.hiE h]; omega
            · rw [B.hiO h]; exact hN2'
          omega
        · exact hDl
    · exact ⟨Nat.le_refl _, hex⟩
end Go.Proofs.YtnklnenjdffbaaaDoor
