/- The shortest digits of a float lie within what rounds to it. Plain but for strconv's table. -/
import Derived.Test.YtnklnenjdffbaaaDoorFk
namespace Go.Proofs.YtnklnenjdffbaaaDoor
set_option linter.unusedVariables false
set_option maxRecDepth 100000
/-- what is scaled, with 64 bits and s more behind the point -/
def nN (x hi lo : Nat) : Nat := x * hi - x * lo / 18446744073709551616
theorem or_one (q : Nat) : q ||| 1 = if q % 2 = 0 then q + 1 else q := by
  split
  · rename_i h0
    apply Nat.eq_of_testBit_eq
    intro i
    cases i with
    | zero => simp [Nat.testBit_zero]; omega
    | succ i =>
      rw [Nat.testBit_or, Nat.testBit_succ, Nat.testBit_succ, Nat.testBit_succ]
      have e1 : (q + 1) / 2 = q / 2 := by omega
      rw [e1]; simp
  · rename_i h0
    apply Nat.eq_of_testBit_eq
    intro i
    cases i with
    | zero => simp [Nat.testBit_zero]; omega
    | succ i =>
      rw [Nat.testBit_or, Nat.testBit_succ, Nat.testBit_succ]
      simp
theorem hi_mul (x hi lo : Nat) (hx : x < 18446744073709551616) (hlo : lo < 18446744073709551616) (hh : 9223372036854775808 ≤ hi) (hx2 : 4 ≤ x) : x * lo / 18446744073709551616 ≤ x - 1 ∧ x ≤ x * hi := by
  have h1 : x * lo ≤ x * 18446744073709551615 := Nat.mul_le_mul_left _ (by omega)
  have h2 : x * 1 ≤ x * hi := Nat.mul_le_mul_left _ (by omega)
  constructor
  · omega
  · omega
/-- what is answered, out of what is scaled: the whole quarters, and whether anything is left -/
theorem usc_eq (x hi lo s : Nat) (hx : x < 18446744073709551616) (hhi : hi < 18446744073709551616) (hh : 9223372036854775808 ≤ hi) (hlo : lo < 18446744073709551616) (hs : 1 ≤ s) (hx2 : 4611686018427387904 ≤ x) :
    usc x hi lo s = (nN x hi lo / 2 ^ (64 + s)) ||| (if 1 < nN x hi lo % 2 ^ (64 + s) then 1 else 0) := by
  obtain ⟨a1, a2⟩ := hi_mul x hi lo hx hlo hh (by omega)
  have hm2 : x * lo / 18446744073709551616 ≤ 18446744073709551614 := by omega
  have hxh := mulhi x hi hx hhi
  have hx9 : x * 9223372036854775808 ≤ x * hi := Nat.mul_le_mul_left _ hh
  obtain ⟨h, hhd⟩ : ∃ h, h = x * hi / 18446744073709551616 := ⟨_, rfl⟩
  obtain ⟨m, hm⟩ : ∃ m, m = x * hi % 18446744073709551616 := ⟨_, rfl⟩
  obtain ⟨l, hl⟩ : ∃ l, l = x * lo / 18446744073709551616 := ⟨_, rfl⟩
  have hx3 : x * hi = h * 18446744073709551616 + m := by omega
  have hml : m < 18446744073709551616 := by omega
  have hh1 : 2 ≤ h := by omega
  have hN : nN x hi lo = h * 18446744073709551616 + m - l := by unfold nN; rw [hx3, hl]
  have hp : 2 ^ (64 + s) = 18446744073709551616 * 2 ^ s := by rw [Nat.pow_add]
  have hps : 2 ≤ 2 ^ s := Nat.pow_le_pow_right (n := 2) (by decide) hs
  unfold usc
  rw [← hhd, ← hm, ← hl]
  rw [← hl] at hm2
  rw [hN, hp]
  obtain ⟨K, hK⟩ : ∃ K, K = 2 ^ s := ⟨_, rfl⟩
  rw [← hK] at hps ⊢
  obtain ⟨g, hg⟩ : ∃ g, g = h / K := ⟨_, rfl⟩
  obtain ⟨r, hr⟩ : ∃ r, r = h % K := ⟨_, rfl⟩
  have hgr : h = K * g + r := by rw [hg, hr]; exact (Nat.div_add_mod h K).symm
  have hrK : r < K := by rw [hr]; exact Nat.mod_lt _ (by omega)
  rw [← hg]
  have hmul : 18446744073709551616 * K * g = (K * g) * 18446744073709551616 := by rw [Nat.mul_assoc, Nat.mul_comm]
  by_cases hr0 : r = 0
  · have hgK : g * K = h := by rw [hgr, hr0, Nat.mul_comm]; omega
    rw [if_pos hgK]
    by_cases hlt : m < l
    · rw [if_pos hlt]
      have e1 : (h + 18446744073709551616 - 1) % 18446744073709551616 = h - 1 := by rw [← hhd] at hxh; omega
      have e2 : (m + 18446744073709551616 - l) % 18446744073709551616 = m + 18446744073709551616 - l := by omega
      rw [e1, e2]
      have hg1 : 1 ≤ g := by
        rcases Nat.eq_zero_or_pos g with h0 | h0
        · rw [h0] at hgK; omega
        · exact h0
      obtain ⟨g', hg'⟩ : ∃ g', g = g' + 1 := ⟨g - 1, by omega⟩
      have hKg : K * g = K * g' + K := by rw [hg', Nat.mul_add, Nat.mul_one]
      have d1 : (h - 1) / K = g' := by
        rw [Nat.div_eq_iff (by omega)]; rw [Nat.mul_comm g' K]; omega
      have hmul' : 18446744073709551616 * K * g' = (K * g') * 18446744073709551616 := by rw [Nat.mul_assoc, Nat.mul_comm]
      have d2 : h * 18446744073709551616 + m - l = 18446744073709551616 * K * g' + ((K - 1) * 18446744073709551616 + (m + 18446744073709551616 - l)) := by
        rw [hmul']; omega
      have d3 : (K - 1) * 18446744073709551616 + (m + 18446744073709551616 - l) < 18446744073709551616 * K := by omega
      rw [d1, d2, Nat.mul_add_div (by omega), Nat.div_eq_of_lt d3, Nat.add_zero, Nat.mul_add_mod, Nat.mod_eq_of_lt d3, if_pos (by omega), if_pos (by omega)]
      rfl
    · rw [if_neg hlt]
      have e1 : (h + 18446744073709551616 - 0) % 18446744073709551616 = h := by rw [← hhd] at hxh; omega
      have e2 : (m + 18446744073709551616 - l) % 18446744073709551616 = m - l := by omega
      rw [e1, e2, ← hg]
      have d2 : h * 18446744073709551616 + m - l = 18446744073709551616 * K * g + (m - l) := by rw [hmul]; omega
      have d3 : m - l < 18446744073709551616 * K := by omega
      rw [d2, Nat.mul_add_div (by omega), Nat.div_eq_of_lt d3, Nat.add_zero, Nat.mul_add_mod, Nat.mod_eq_of_lt d3]
  · have hgK : g * K ≠ h := by rw [Nat.mul_comm]; omega
    rw [if_neg hgK]
    have d2 : h * 18446744073709551616 + m - l = 18446744073709551616 * K * g + (r * 18446744073709551616 + m - l) := by rw [hmul]; omega
    have d3 : r * 18446744073709551616 + m - l < 18446744073709551616 * K := by omega
    rw [d2, Nat.mul_add_div (by omega), Nat.div_eq_of_lt d3, Nat.add_zero, Nat.mul_add_mod, Nat.mod_eq_of_lt d3, if_pos (by omega)]
/-- whole quarters and what is left: against 4k -/
theorem q_ge {N Q q t u k : Nat} (hQ : 2 ≤ Q) (hu : u = (N / Q) ||| (if 1 < N % Q then 1 else 0)) : (4 * k ≤ u ↔ 4 * k * Q ≤ N) ∧ (4 * k + 1 ≤ u ↔ 4 * k * Q + 2 ≤ N) ∧ N / Q ≤ u ∧ u ≤ N / Q + 1 ∧ (u = N / Q + 1 → N / Q % 2 = 0) ∧ (u % 2 = 0 → u = N / Q ∧ N % Q ≤ 1) := by
  obtain ⟨q, hq⟩ : ∃ q, q = N / Q := ⟨_, rfl⟩
  obtain ⟨r, hr⟩ : ∃ r, r = N % Q := ⟨_, rfl⟩
  have hN : N = Q * q + r := by rw [hq, hr]; exact (Nat.div_add_mod N Q).symm
  have hrQ : r < Q := by rw [hr]; exact Nat.mod_lt _ (by omega)
  rw [← hq, ← hr] at hu
  rw [← hq, ← hr]
  have A : (4 * k * Q ≤ N ↔ 4 * k ≤ q) := by
    constructor
    · intro h
      rcases Nat.lt_or_ge q (4 * k) with h1 | h1
      · have := Nat.mul_le_mul_right Q (show q + 1 ≤ 4 * k from h1)
        rw [Nat.add_mul, Nat.one_mul, Nat.mul_comm q Q] at this
        omega
      · exact h1
    · intro h
      have := Nat.mul_le_mul_right Q h
      rw [Nat.mul_comm q Q] at this
      omega
  have B : (4 * k * Q + 2 ≤ N ↔ 4 * k + 1 ≤ q ∨ (q = 4 * k ∧ 1 < r)) := by
    constructor
    · intro h
      rcases Nat.lt_trichotomy q (4 * k) with h1 | h1 | h1
      · have := Nat.mul_le_mul_right Q (show q + 1 ≤ 4 * k from h1)
        rw [Nat.add_mul, Nat.one_mul, Nat.mul_comm q Q] at this
        omega
      · subst h1; right; refine ⟨rfl, ?_⟩
        rw [Nat.mul_comm] at h; omega
      · left; exact h1
    · intro h
      rcases h with h | ⟨h, h1⟩
      · have := Nat.mul_le_mul_right Q h
        rw [Nat.add_mul, Nat.one_mul, Nat.mul_comm q Q] at this
        omega
      · rw [← h, Nat.mul_comm]; omega
  rw [A, B]
  by_cases h1 : 1 < r
  · rw [if_pos h1, or_one] at hu
    split at hu
    · refine ⟨by omega, by omega, by omega, by omega, by omega, by omega⟩
    · refine ⟨by omega, by omega, by omega, by omega, by omega, by omega⟩
  · rw [if_neg h1, Nat.or_zero] at hu
    refine ⟨by omega, by omega, by omega, by omega, by omega, by omega⟩
end Go.Proofs.YtnklnenjdffbaaaDoor
