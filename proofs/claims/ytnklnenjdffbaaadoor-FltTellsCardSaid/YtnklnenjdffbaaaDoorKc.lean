/- Where the exponent turns, the digits grow: looked up for each exponent. -/
import Derived.Test.YtnklnenjdffbaaaDoorKb
namespace Go.Proofs.YtnklnenjdffbaaaDoor
set_option linter.unusedVariables false
set_option maxRecDepth 100000
def vV (m : Nat) (e : Int) : Nat := dD m e * 10 ^ (500 - spP m e).toNat
theorem k1_all : ∀ k : Nat, k < 2045 → vV 9223372036854775808 ((k : Int) - 1084) < vV 9223372036854777856 ((k : Int) - 1084) := by decide +kernel
theorem k2_all : ∀ k : Nat, k < 2097 → vV (18446744073709551616 - 2 ^ spZ ((k : Int) - 1137)) ((k : Int) - 1137) < vV 9223372036854775808 ((k : Int) - 1136) := by decide +kernel
end Go.Proofs.YtnklnenjdffbaaaDoor
