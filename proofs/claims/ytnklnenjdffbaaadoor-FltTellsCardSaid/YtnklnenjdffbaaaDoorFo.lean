/- Floats' bits: which are NaN, and how the order of floats stands to the key. Plain. -/
import Derived.Laws.Cover2
import Derived.Laws.FloatBits
namespace Go.Proofs.YtnklnenjdffbaaaDoor
open Ieee
set_option linter.unusedVariables false

theorem sw : double.signWeight = 9223372036854775808 := by decide
theorem bn : double.binade = 4503599627370496 := by decide
theorem ir : double.infRung = 9218868437227405312 := by decide
/-- the rung, the sign -/
def rung (b : Nat) : Nat := b % 9223372036854775808
def neg (b : Nat) : Bool := b / 9223372036854775808 % 2 == 1
theorem read_sub {b : Nat} (h : rung b < 4503599627370496) : double.read b = .number (neg b) (rung b) double.leastPlace := by
  unfold Format.read rung neg at *
  rw [sw, bn]
  simp only [h, if_true]
theorem read_norm {b : Nat} (h1 : 4503599627370496 ≤ rung b) (h2 : rung b < 9218868437227405312) :
    double.read b = .number (neg b) (4503599627370496 + rung b % 4503599627370496) (double.leastPlace + ((rung b / 4503599627370496 - 1 : Nat) : Int)) := by
  unfold Format.read rung neg at *
  rw [sw, bn, ir]
  have h1' : ¬ b % 9223372036854775808 < 4503599627370496 := by omega
  simp only [h1', h2, if_true, if_false]
theorem read_inf {b : Nat} (h : rung b = 9218868437227405312) : double.read b = .infinity (neg b) := by
  unfold Format.read rung neg at *
  rw [sw, bn, ir]
  have h1' : ¬ b % 9223372036854775808 < 4503599627370496 := by omega
  have h2' : ¬ b % 9223372036854775808 < 9218868437227405312 := by omega
  rw [if_neg h1', if_neg h2', if_pos h]
theorem read_nan {b : Nat} (h : 9218868437227405312 < rung b) : ∃ f, double.read b = .nan (neg b) f := by
  unfold Format.read rung neg at *
  rw [sw, bn, ir]
  have h1' : ¬ b % 9223372036854775808 < 4503599627370496 := by omega
  have h2' : ¬ b % 9223372036854775808 < 9218868437227405312 := by omega
  have h3' : ¬ b % 9223372036854775808 = 9218868437227405312 := by omega
  simp only [h1', h2', h3', if_false]
  exact ⟨_, rfl⟩
/-- the magnitude in units of the least place; an infinity is out of all -/
def magE (r : Nat) : Nat × Nat := if r < 4503599627370496 then (r, 0) else (4503599627370496 + r % 4503599627370496, r / 4503599627370496 - 1)
def mag (r : Nat) : Nat := (magE r).1 * 2 ^ (magE r).2
theorem read_fin {b : Nat} (h : rung b < 9218868437227405312) : double.read b = .number (neg b) (magE (rung b)).1 (double.leastPlace + ((magE (rung b)).2 : Int)) := by
  unfold magE
  by_cases h1 : rung b < 4503599627370496
  · rw [if_pos h1, read_sub h1]; simp
  · rw [if_neg h1, read_norm (by omega) h]
theorem magE_bound (r : Nat) : (magE r).1 < 9007199254740992 := by unfold magE; split <;> simp <;> omega
/-- a greater rung has a greater magnitude -/
theorem mag_succ (r : Nat) : mag r < mag (r + 1) := by
  unfold mag magE
  by_cases h1 : r + 1 < 4503599627370496
  · rw [if_pos h1, if_pos (by omega)]; simp
  · by_cases h2 : r < 4503599627370496
    · have : r = 4503599627370495 := by omega
      subst this; decide
    · rw [if_neg h1, if_neg h2]
      by_cases h3 : (r + 1) % 4503599627370496 = 0
      · have e1 : r % 4503599627370496 = 4503599627370495 := by omega
        have e2 : (r + 1) / 4503599627370496 - 1 = (r / 4503599627370496 - 1) + 1 := by omega
        simp only
        rw [e1, e2, h3, Nat.pow_succ]
        have hp : 0 < 2 ^ (r / 4503599627370496 - 1) := Nat.two_pow_pos _
        generalize 2 ^ (r / 4503599627370496 - 1) = k at *
        omega
      · have e1 : (r + 1) % 4503599627370496 = r % 4503599627370496 + 1 := by omega
        have e2 : (r + 1) / 4503599627370496 = r / 4503599627370496 := by omega
        simp only
        rw [e1, e2]
        have hp : 0 < 2 ^ (r / 4503599627370496 - 1) := Nat.two_pow_pos _
        generalize 2 ^ (r / 4503599627370496 - 1) = k at *
        rw [← Nat.add_assoc, Nat.add_mul (_ + _) 1 k]; omega
theorem mag_mono {r s : Nat} (h : r < s) : mag r < mag s := by
  induction s with
  | zero => omega
  | succ s ih =>
    by_cases e : r = s
    · subst e; exact mag_succ _
    · exact Nat.lt_trans (ih (by omega)) (mag_succ _)
theorem mag_lt_iff {r s : Nat} : mag r < mag s ↔ r < s := by
  constructor
  · intro h
    rcases Nat.lt_or_ge r s with h1 | h1
    · exact h1
    · rcases Nat.eq_or_lt_of_le h1 with e | e
      · subst e; omega
      · have := mag_mono e; omega
  · exact mag_mono
/-- the value, in units of the least place -/
def sval (b : Nat) : Int := if neg b then -(mag (rung b) : Int) else (mag (rung b) : Int)
theorem compare_mul {a b : Int} {k : Int} (h : 0 < k) : compare (a * k) (b * k) = compare a b := by
  rcases Int.lt_trichotomy a b with h1 | h1 | h1
  · rw [Int.compare_eq_lt.2 h1, Int.compare_eq_lt.2 (Int.mul_lt_mul_of_pos_right h1 h)]
  · subst h1; rw [Int.compare_eq_eq.2 rfl, Int.compare_eq_eq.2 rfl]
  · rw [Int.compare_eq_gt.2 h1, Int.compare_eq_gt.2 (Int.mul_lt_mul_of_pos_right h1 h)]
theorem signed_pow (s : Bool) (m k : Nat) : signed s m k = (if s then -(m : Int) else (m : Int)) * (2 ^ k : Nat) := by
  unfold signed
  rw [Nat.shiftLeft_eq]
  split <;> simp [Int.neg_mul]
theorem order_fin {a b : Nat} (ha : rung a < 9218868437227405312) (hb : rung b < 9218868437227405312) : double.order a b = some (compare (sval a) (sval b)) := by
  unfold Format.order
  rw [read_fin ha, read_fin hb]
  simp only [Datum.order]
  rw [signed_pow, signed_pow]
  generalize hma : (magE (rung a)).1 = ma
  generalize hmb : (magE (rung b)).1 = mb
  generalize hka : (magE (rung a)).2 = ka
  generalize hkb : (magE (rung b)).2 = kb
  have e1 : (double.leastPlace + (ka : Int) - min (double.leastPlace + (ka : Int)) (double.leastPlace + (kb : Int))).toNat = ka - min ka kb := by omega
  have e2 : (double.leastPlace + (kb : Int) - min (double.leastPlace + (ka : Int)) (double.leastPlace + (kb : Int))).toNat = kb - min ka kb := by omega
  rw [e1, e2]
  have hk : 0 < ((2 ^ min ka kb : Nat) : Int) := by have := Nat.two_pow_pos (min ka kb); omega
  rw [← compare_mul hk]
  congr 2
  · rw [Int.mul_assoc, ← Int.natCast_mul, ← Nat.pow_add, Nat.sub_add_cancel (Nat.min_le_left _ _)]
    unfold sval mag
    rw [hma, hka]
    split <;> simp [Int.neg_mul]
  · rw [Int.mul_assoc, ← Int.natCast_mul, ← Nat.pow_add, Nat.sub_add_cancel (Nat.min_le_right _ _)]
    unfold sval mag
    rw [hmb, hkb]
    split <;> simp [Int.neg_mul]
end Go.Proofs.YtnklnenjdffbaaaDoor
