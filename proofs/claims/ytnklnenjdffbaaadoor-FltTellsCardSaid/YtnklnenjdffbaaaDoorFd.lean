/- strconv: the shortest digits of a float. -/
import Derived.Test.YtnklnenjdffbaaaDoorFc
namespace Go.Proofs.YtnklnenjdffbaaaDoor
open Go.RowKit
set_option linter.unusedVariables false
set_option maxRecDepth 100000

/-- the power of ten, the least and the greatest of what rounds to the float, whether its last bit is odd: as strconv reckons them -/
def spP (m : Nat) (e : Int) : Int :=
  if m = 9223372036854775808 ∧ -1085 < e then -(((e + 11) * 631305 - 261663) / 2097152) else if -1085 ≤ e then -((e + 11) * 78913 / 262144) else 324
def spZ (e : Int) : Nat := if -1085 ≤ e then 11 else (-1074 - e).toNat
def spMin (m : Nat) (e : Int) : Nat := if m = 9223372036854775808 ∧ -1085 < e then m - 512 else m - 2 ^ (spZ e - 1)
def spMax (m : Nat) (e : Int) : Nat := m + 2 ^ (spZ e - 1)
def spOdd (m : Nat) (e : Int) : Nat := m / 2 ^ spZ e % 2
def spS (m : Nat) (e : Int) : Int := -(e + spP m e * 108853 / 32768 + 3)
def row10 (p : Int) : Nat × Nat := (Pinned.pow10Rows[(p + 348).toNat]?).getD (0, 0)
def scl (m : Nat) (e : Int) (x : Nat) : Nat := usc x (row10 (spP m e)).1 (row10 (spP m e)).2 (spS m e).toNat
def spLo (m : Nat) (e : Int) : Nat := ((((scl m e (spMin m e) : Int) + (spOdd m e : Int)) % 18446744073709551616).toNat + 3) % 18446744073709551616 / 4
def spHi (m : Nat) (e : Int) : Nat := (((scl m e (spMax m e) : Int) - (spOdd m e : Int)) % 18446744073709551616).toNat / 4
def spMid (m : Nat) (e : Int) : Nat := (scl m e m + 1 + scl m e m / 4 % 2) % 18446744073709551616 / 4
/-- digits and power of ten -/
def shortD (m : Nat) (e : Int) : Nat := if spLo m e ≤ spHi m e / 10 * 10 then spHi m e / 10 else if spLo m e < spHi m e then spMid m e else spLo m e
def shortP (m : Nat) (e : Int) : Int := if spLo m e ≤ spHi m e / 10 * 10 then -(spP m e - 1) else -(spP m e)
/-- the scalings that come about -/
def okE (m : Nat) (e : Int) : Bool := decide (-348 ≤ spP m e ∧ spP m e ≤ 347 ∧ 4 ≤ spS m e ∧ spS m e ≤ 60)
theorem okE_all : ∀ k : Nat, k < 2098 → okE 9223372036854775808 ((k : Int) - 1137) = true ∧ okE 0 ((k : Int) - 1137) = true := by decide +kernel
theorem okE_any (m : Nat) (e : Int) (h1 : -1137 ≤ e) (h2 : e ≤ 960) : okE m e = true := by
  have h := okE_all (e + 1137).toNat (by omega)
  rw [show (((e + 1137).toNat : Nat) : Int) - 1137 = e by omega] at h
  by_cases hm : m = 9223372036854775808
  · subst hm; exact h.1
  · have h0 := h.2
    unfold okE spS spP at h0 ⊢
    have a1 : ¬ ((0 : Nat) = 9223372036854775808 ∧ -1085 < e) := by omega
    have a2 : ¬ (m = 9223372036854775808 ∧ -1085 < e) := by omega
    rw [if_neg a1] at h0
    rw [if_neg a2]
    exact h0
end Go.Proofs.YtnklnenjdffbaaaDoor
