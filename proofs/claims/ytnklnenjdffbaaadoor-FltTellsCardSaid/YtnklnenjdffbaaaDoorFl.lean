/- strconv.ftoa64 in the form 'g', shortest. -/
import Derived.Test.YtnklnenjdffbaaaDoorFj
import Derived.Test.YtnklnenjdffbaaaDoorFk
import Derived.Lib.AppendIntMem
namespace Go.Proofs.YtnklnenjdffbaaaDoor
open Go.RowKit Go.Sort
open Go.Lib (byteCells)
set_option linter.unusedVariables false
set_option maxRecDepth 100000
theorem run_bits54 (b : Nat) (w : World) : (callFunc 28 #[.float .f64 b]).run Tryd.prog w = .ok (.value (.int .u64 (b : Int))) w := by
  rw [run_callFunc_extern (e := Extern.MathFloatBits.float64bits) Tryd.func28 (by kernel_rfl) (by kernel_rfl) (by kernel_rfl) (by kernel_rfl)]; rfl
theorem Tab.on {w w' : World} (h : Tab w) (hb : Below w.heap.size w w') : Tab w' := Lib.tabBelow_of_tabIs h w' hb
section
variable {B blk : Nat} {l L : List UInt8} {w0 w w' : World} {v : Value}
theorem Dst.drewN (h : Dst B blk l w0 w v L) (n : Nat) : Dst B blk l w0 (w.drewN n) v L :=
  ⟨h.own, h.at_, ⟨h.below.os, h.below.tape, h.below.output, h.below.size, h.below.block⟩, h.hB⟩
theorem Dst.self (h : Dst B blk l w0 w v L) : Dst B blk l w w v L := ⟨h.own, h.at_, Below.refl _ _, h.hB⟩
theorem wpList_appT {ops : Array Oper} {rest : List Oper} {o : Oper} {a : Act} {Q : Exit → Act → World → Prop} (hgd : o.guard = none) (s x : Operand)
    (ho : o.op = .call { callee := .builtin .append, args := #[s, x], argTypes := #[46, 9] }) (D : Dst B blk l w0 w v L) (hs : a.eval s = v) (t : ByteArray) (hx : a.eval x = .string t) (hlen : L.length + t.size ≤ 1000000)
    (h : ∀ v' w', Dst B blk l w0 w' v' (L ++ t.data.toList) → wpList Tryd.prog ops Q rest (a.put o.dst v') w') : wpList Tryd.prog ops Q (o :: rest) a w := by
  obtain ⟨i0, hi, hz0, hz1, hz2⟩ := info_parts byte_info
  refine Lib.wpList_append_own_string w hgd s x 46 9 ho B 5 i0 Tryd.underlying46 Tryd.underlying9 hi hz0 hz1 hz2 v _ _ hs D.own t hx (by unfold maxLen; omega) (by omega) D.hB ?_
  intro v' w' h1 h2 _
  rw [Lib.strCells_eq, ← byteCells_app] at h1
  exact h v' w' (D.grown (by rw [List.length_append, show t.data.toList.length = t.size by simp]; exact h1) h2)
end
theorem and_ex (b : Nat) (hb : b < 18446744073709551616) : bits .and .i64 ((b : Int) / 4503599627370496) 2047 = (exN b : Int) := by
  have := i64_and_nat (b / 4503599627370496) 2047 (by omega) (by omega)
  rw [show ((b : Int) / 4503599627370496) = ((b / 4503599627370496 : Nat) : Int) by omega]
  rw [show (2047 : Int) = ((2047 : Nat) : Int) by rfl, this]
  rw [show (2047 : Nat) = 2 ^ 11 - 1 by rfl, Nat.and_two_pow_sub_one_eq_mod]
  rfl
theorem and_fr (b : Nat) (hb : b < 18446744073709551616) : bits .and .u64 (b : Int) 4503599627370495 = (frN b : Int) := by
  have := u64_and_nat b 4503599627370495 hb (by omega)
  rw [show (4503599627370495 : Int) = ((4503599627370495 : Nat) : Int) by rfl, this]
  rw [show (4503599627370495 : Nat) = 2 ^ 52 - 1 by rfl, Nat.and_two_pow_sub_one_eq_mod]
  rfl
theorem sg_bool (b : Nat) (hb : b < 18446744073709551616) : ((b : Int) / 9223372036854775808 != 0) = sgN b := by
  unfold sgN
  by_cases h : 9223372036854775808 ≤ b
  · rw [decide_eq_true h]; simp; omega
  · rw [decide_eq_false h]; simp; omega
set_option maxHeartbeats 1000000 in
theorem ftoa_nan (B : Nat) (v : Value) (b : Nat) (w : World) (D : Dst B 0 [] w w v []) (hb : b < 18446744073709551616) (h1 : exN b = 2047) (h2 : frN b ≠ 0) (F : List UInt8) (hF : Hid (F = [78, 97, 78])) :
    Calls Tryd.prog 21 #[v, .float .f64 b, .int .u8 103, .int .i64 (-1)] w fun e w' => ∃ v', e = .returned v' ∧ Dst B 0 [] w w' v' F := by
  have hf := run_bits54
  have hA1 := and_ex b hb
  have hA2 := and_fr b hb
  rw [h1] at hA1
  obtain ⟨f, hf2⟩ : ∃ f, f = frN b := ⟨_, rfl⟩
  rw [← hf2] at hA2 h2
  have hfl : f < 4503599627370496 := by rw [hf2]; unfold frN; omega
  have hne : ((f : Int) != 0) = true := by simp; omega
  clear hf2 h1 h2
  go_enter Tryd.func21, Tryd.ntmps21
  go_wp2_with fail
  go_quiet (fail)
  have D1 := D.drewN nq
  go_wp2_with (first
    | (at_builtin; refine wpList_appT rfl (.tmp 70) (.const (.string ⟨#[78, 97, 78]⟩)) rfl D1 rfl _ rfl (by simp [ByteArray.size]) ?_; intro v2 w2 D2))
  go_ret
  exact ⟨_, rfl, by rw [hF.out]; exact D2⟩
set_option maxHeartbeats 1000000 in
theorem ftoa_infn (B : Nat) (v : Value) (b : Nat) (w : World) (D : Dst B 0 [] w w v []) (hb : b < 18446744073709551616) (h1 : exN b = 2047) (h2 : frN b = 0) (h3 : sgN b = true) (F : List UInt8) (hF : Hid (F = [45, 73, 110, 102])) :
    Calls Tryd.prog 21 #[v, .float .f64 b, .int .u8 103, .int .i64 (-1)] w fun e w' => ∃ v', e = .returned v' ∧ Dst B 0 [] w w' v' F := by
  have hf := run_bits54
  have hA1 := and_ex b hb
  have hA2 := and_fr b hb
  have hA3 := sg_bool b hb
  rw [h1] at hA1
  rw [h2] at hA2
  rw [h3] at hA3
  clear h1 h2 h3
  go_enter Tryd.func21, Tryd.ntmps21
  go_wp2_with fail
  go_quiet (fail)
  have D1 := D.drewN nq
  go_wp2_with (first
    | (at_builtin; refine wpList_appT rfl (.tmp 73) (.const (.string ⟨#[45, 73, 110, 102]⟩)) rfl D1 rfl _ rfl (by simp [ByteArray.size]) ?_; intro v2 w2 D2))
  go_ret
  exact ⟨_, rfl, by rw [hF.out]; exact D2⟩
set_option maxHeartbeats 1000000 in
theorem ftoa_infp (B : Nat) (v : Value) (b : Nat) (w : World) (D : Dst B 0 [] w w v []) (hb : b < 18446744073709551616) (h1 : exN b = 2047) (h2 : frN b = 0) (h3 : sgN b = false) (F : List UInt8) (hF : Hid (F = [43, 73, 110, 102])) :
    Calls Tryd.prog 21 #[v, .float .f64 b, .int .u8 103, .int .i64 (-1)] w fun e w' => ∃ v', e = .returned v' ∧ Dst B 0 [] w w' v' F := by
  have hf := run_bits54
  have hA1 := and_ex b hb
  have hA2 := and_fr b hb
  have hA3 := sg_bool b hb
  rw [h1] at hA1
  rw [h2] at hA2
  rw [h3] at hA3
  clear h1 h2 h3
  go_enter Tryd.func21, Tryd.ntmps21
  go_wp2_with fail
  go_quiet (fail)
  have D1 := D.drewN nq
  go_wp2_with (first
    | (at_builtin; refine wpList_appT rfl (.tmp 75) (.const (.string ⟨#[43, 73, 110, 102]⟩)) rfl D1 rfl _ rfl (by simp [ByteArray.size]) ?_; intro v2 w2 D2))
  go_ret
  exact ⟨_, rfl, by rw [hF.out]; exact D2⟩
theorem Dst.rebase {B blk : Nat} {l L : List UInt8} {w0 w1 w : World} {v : Value} (h : Dst B blk l w1 w v L) (hb : Below B w0 w1) : Dst B blk l w0 w v L := ⟨h.own, h.at_, hb.trans h.below, h.hB⟩
set_option maxHeartbeats 1000000 in
theorem ftoa_zero (B : Nat) (v : Value) (b : Nat) (w : World) (D : Dst B 0 [] w w v []) (hb : b < 18446744073709551616) (h1 : exN b = 0) (h2 : frN b = 0) (F : List UInt8) (hF : Hid (F = sgnB (sgN b) ++ [48])) :
    Calls Tryd.prog 21 #[v, .float .f64 b, .int .u8 103, .int .i64 (-1)] w fun e w' => ∃ v', e = .returned v' ∧ Dst B 0 [] w w' v' F := by
  have hf := run_bits54
  have hA1 := and_ex b hb
  have hA2 := and_fr b hb
  have hA3 := sg_bool b hb
  rw [h1] at hA1
  rw [h2] at hA2
  clear h1 h2
  cases hs : sgN b
  · rw [hs] at hA3 hF
    clear hs
    go_enter Tryd.func21, Tryd.ntmps21
    go_wp2_with fail
    go_quiet (fail)
    have D1 := D.drewN nq
    go_wp2_with fail
    refine (efg_zero_p B 0 v _ (D1.self)).mono ?_
    rintro e w2 ⟨v2, rfl, D2⟩
    have D3 := D2.rebase D1.below
    clear D2
    go_wp2_with fail
    go_ret
    exact ⟨_, rfl, by rw [hF.out]; exact D3⟩
  · rw [hs] at hA3 hF
    clear hs
    go_enter Tryd.func21, Tryd.ntmps21
    go_wp2_with fail
    go_quiet (fail)
    have D1 := D.drewN nq
    go_wp2_with fail
    refine (efg_zero_n B 0 v _ (D1.self)).mono ?_
    rintro e w2 ⟨v2, rfl, D2⟩
    have D3 := D2.rebase D1.below
    clear D2
    go_wp2_with fail
    go_ret
    exact ⟨_, rfl, by rw [hF.out]; exact D3⟩
end Go.Proofs.YtnklnenjdffbaaaDoor
