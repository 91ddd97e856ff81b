/- The shortest digits of a float lie within what rounds to it: the second part. -/
import Derived.Test.YtnklnenjdffbaaaDoorKa
namespace Go.Proofs.YtnklnenjdffbaaaDoor
set_option linter.unusedVariables false
set_option maxRecDepth 100000
def nX (m : Nat) (e : Int) (x : Nat) : Nat := nN x (row10 (spP m e)).1 (row10 (spP m e)).2
def qX (m : Nat) (e : Int) : Nat := 2 ^ (64 + (spS m e).toNat)
def d1X (m : Nat) (e : Int) : Nat := if m = 9223372036854775808 ∧ -1085 < e then 512 else 2 ^ (spZ e - 1)
def d2X (e : Int) : Nat := 2 ^ (spZ e - 1)
/-- the digits, not shortened -/
def dD (m : Nat) (e : Int) : Nat := if spLo m e ≤ spHi m e / 10 * 10 then spHi m e / 10 * 10 else if spLo m e < spHi m e then spMid m e else spLo m e
theorem dD_short (m : Nat) (e : Int) (h1 : -1137 ≤ e) (h2 : e ≤ 960) : dD m e * 10 ^ (500 - spP m e).toNat = shortD m e * 10 ^ (500 + shortP m e).toNat := by
  have hok := okE_any m e h1 h2
  unfold okE at hok
  rw [decide_eq_true_eq] at hok
  unfold dD shortD shortP
  split
  · rw [show (500 + -(spP m e - 1)).toNat = (500 - spP m e).toNat + 1 by omega, Nat.pow_succ, Nat.mul_assoc, Nat.mul_comm 10]
  · rw [show (500 + -(spP m e)) = 500 - spP m e by omega]
/-- what is looked up for each exponent -/
def chkE (m : Nat) (e : Int) : Bool :=
  let A := nX m e (d1X m e); let B := nX m e (d2X e)
  decide (4 * qX m e + 4 ≤ A + B ∧ B ≤ 2 * A + 2 ∧ A ≤ B + 1) || (decide (m ≠ 9223372036854775808 ∧ e = -11))
theorem chk_all : ∀ k : Nat, k < 2098 → chkE 9223372036854775808 ((k : Int) - 1137) = true ∧ chkE 0 ((k : Int) - 1137) = true := by decide +kernel
end Go.Proofs.YtnklnenjdffbaaaDoor
