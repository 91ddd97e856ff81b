/- flt: Narrow, Widen; trivetref06's. -/
import Derived.Test.YtnklnenjdffbaaaDoorGd
import Derived.Test.YtnklnenjdffbaaaDoorGk
namespace Go.Proofs.YtnklnenjdffbaaaDoor
open Go.RowKit
set_option linter.unusedVariables false
set_option maxRecDepth 100000
theorem run_bits32 (b : Nat) (w : World) : (callFunc 14 #[.float .f32 b]).run Tryd.prog w = .ok (.value (.int .u32 (b : Int))) w := by
  rw [run_callFunc_extern (e := Extern.MathFloatBits.float32bits) Tryd.func14 (by kernel_rfl) (by kernel_rfl) (by kernel_rfl) (by kernel_rfl)]; rfl
theorem run_up (r v : Nat) (h : floatToFloatBits .f32 r .f64 = some v) (W : World) : (convert 37 24 (.float .f32 r)).run Tryd.prog W = .ok (.float .f64 v) W :=
  run_convert_float_float W 37 24 .f32 .f64 r v (by rw [Tryd.underlying37]; rfl) Tryd.underlying24 h
theorem run_down (r v : Nat) (h : floatToFloatBits .f64 r .f32 = some v) (W : World) : (convert 24 37 (.float .f64 r)).run Tryd.prog W = .ok (.float .f32 v) W :=
  run_convert_float_float W 24 37 .f64 .f32 r v (by rw [Tryd.underlying24]; rfl) Tryd.underlying37 h
theorem nan_self {x : Nat} (h : nanB x = false) : (FloatKind.f64.format.order x x != some Ordering.eq) = false := h
theorem not_nan {x : Nat} (h : nanB x = false) : rung x ≤ 9218868437227405312 := by
  rcases Nat.lt_or_ge 9218868437227405312 (rung x) with h1 | h1
  · rw [(nanB_iff x).2 h1] at h; cases h
  · exact h1
/-- what Narrow answers -/
def narR (x : Nat) : Value := if nanB x then .tuple #[.int .u32 2143289344, .bool true] else match refN x with
  | some r => .tuple #[.int .u32 (r : Int), .bool true]
  | none => .tuple #[.int .u32 0, .bool false]
theorem narrow_nan (x : Nat) (w : World) (h : nanB x = true) : Calls Tryd.prog 8 #[.float .f64 x] w fun e w' => e = .returned (.tuple #[.int .u32 2143289344, .bool true]) ∧ Below w.heap.size w w' := by
  unfold nanB at h
  go_enter Tryd.func8, Tryd.ntmps8
  go_wp2_with fail
  go_ret2
  exact ⟨rfl, Below.refl _ _⟩
theorem narrow_some (x r : Nat) (w : World) (hx : x < 18446744073709551616) (h : nanB x = false) (hr : refN x = some r) :
    Calls Tryd.prog 8 #[.float .f64 x] w fun e w' => e = .returned (.tuple #[.int .u32 (r : Int), .bool true]) ∧ Below w.heap.size w w' := by
  obtain ⟨r1, r2, r3⟩ := refN_some hx (not_nan h) hr
  have hd := run_down x r (by rw [← r3]; exact conv_down r r1 r2)
  have hu := run_up r x (by rw [← r3]; exact conv_up r r2)
  have hf := run_bits32
  have hs := nan_self h
  clear r1 r2 r3 hr h hx
  go_enter Tryd.func8, Tryd.ntmps8
  go_wp2_with fail
  go_ret2
  exact ⟨rfl, Below.refl _ _⟩
theorem word4_le (s : Bool) (g : Nat) (h : g ≤ 2139095040) : rung4 (Ieee.single.word s g) ≤ 2139095040 ∧ Ieee.single.word s g < 4294967296 := by
  obtain ⟨a, b, c⟩ := rung4_word s g (by omega)
  exact ⟨by omega, c⟩
theorem conv_word {x r : Nat} (h : floatToFloatBits .f64 x .f32 = some r) : rung4 r ≤ 2139095040 ∧ r < 4294967296 := by
  have e2 : ∀ d, FloatKind.f32.encode d = Ieee.single.write d := fun _ => rfl
  unfold floatToFloatBits at h
  rw [if_neg (by decide)] at h
  split at h
  · cases h
  · rename_i s he
    cases h
    rw [e2]; simp only [Ieee.Format.write]; rw [sir]; exact word4_le _ _ (by omega)
  · rename_i s m p he
    split at h
    · cases h
    · cases h
      rw [e2]; simp only [Ieee.Format.write, Ieee.Format.nearest]
      split
      · exact word4_le _ _ (by omega)
      · rw [sir]; exact word4_le _ _ (Nat.min_le_right _ _)
theorem none_rung {x : Nat} (h : refN x = none) : rung x ≠ 0 := by
  intro h0; unfold refN at h; rw [h0] at h; simp at h
theorem up_ne {x r : Nat} (hx : x < 18446744073709551616) (hn : refN x = none) (hr : r < 4294967296) (h : rung4 r ≤ 2139095040) : (FloatKind.f64.format.order (wid r) x != some Ordering.eq) = true := by
  have hw : wid r < 18446744073709551616 := (rung_word (neg4 r) (widR (rung4 r)) (widR_lt h)).2.2
  cases hb : (FloatKind.f64.format.order (wid r) x != some Ordering.eq)
  · exfalso
    have he : FloatKind.f64.format.order (wid r) x = some Ordering.eq := by simpa using hb
    have he : Ieee.double.order (wid r) x = some Ordering.eq := he
    have := order_eq hw hx (none_rung hn) he
    have h2 := refN_wid hr h
    rw [this, hn] at h2; cases h2
  · rfl
theorem narrow_none (x r : Nat) (w : World) (hx : x < 18446744073709551616) (h : nanB x = false) (hr : refN x = none) (hc : floatToFloatBits .f64 x .f32 = some r) :
    Calls Tryd.prog 8 #[.float .f64 x] w fun e w' => e = .returned (.tuple #[.int .u32 0, .bool false]) ∧ Below w.heap.size w w' := by
  have hd := run_down x r hc
  obtain ⟨r2, r1⟩ := conv_word hc
  have hu := run_up r _ (conv_up r r2)
  have hne := up_ne hx hr r1 r2
  have hs := nan_self h
  clear r1 r2 hr h hx hc
  go_enter Tryd.func8, Tryd.ntmps8
  go_wp2_with fail
  go_ret2
  exact ⟨rfl, Below.refl _ _⟩
/-- too great for 32 bits: the language leaves open which bits come -/
theorem run_down_none (x : Nat) (hx : nanB x = false) (h : floatToFloatBits .f64 x .f32 = none) (W : World) : (convert 24 37 (.float .f64 x)).run Tryd.prog W = .ok (.float .f32 (W.tape W.drawn (.floatToFloat x) % 2 ^ 32)) W.drew := by
  have hrd : ∃ s m p, FloatKind.f64.decode x = .number s m p ∧ (FloatKind.f32.decode (FloatKind.f32.encode (.number s m p))).isInfinity = true := by
    have hnn := not_nan hx
    unfold floatToFloatBits at h
    rw [if_neg (by decide)] at h
    split at h
    · rename_i s f he
      exfalso
      have he : Ieee.double.read x = .nan s f := he
      by_cases hi : rung x = 9218868437227405312
      · rw [read_inf hi] at he; cases he
      · rw [read_fin (by omega)] at he; cases he
    · cases h
    · rename_i s m p he
      split at h
      · rename_i hinf; exact ⟨s, m, p, he, hinf⟩
      · cases h
  obtain ⟨s, m, p, he, hi⟩ := hrd
  have e1 := Tryd.underlying24
  have e2 := Tryd.underlying37
  simp [convert, run_underlying e1, run_underlying e2, Conv.floatToFloat, he, hi]
  rfl
theorem run_up_nan (r : Nat) (h : 2139095040 < rung4 r) (W : World) : ∃ v, (convert 37 24 (.float .f32 r)).run Tryd.prog W = .ok (.float .f64 v) W.drew ∧ 9218868437227405312 < rung v ∧ v < 18446744073709551616 := by
  obtain ⟨f, hf⟩ := read4_nan h
  have he : FloatKind.f32.decode r = .nan (neg4 r) f := hf
  have e1 := Tryd.underlying24
  have e2 := Tryd.underlying37
  refine ⟨(Question.nanConv .f64 r).cut (W.tape W.drawn (.nanConv .f64 r)), ?_, ?_, ?_⟩
  · simp [convert, run_underlying e1, run_underlying e2, Conv.floatToFloat, he]
    intro hf; simp [Question.forced] at hf
  · simp only [Question.cut, rung]
    generalize W.tape W.drawn (Question.nanConv FloatKind.f64 r) = t
    have h1 : t / 2 % (2 ^ 52 - 1) < 4503599627370495 := Nat.mod_lt _ (by decide)
    generalize t / 2 % (2 ^ 52 - 1) = y at *
    rcases (show t % 2 = 0 ∨ t % 2 = 1 by omega) with h2 | h2 <;> rw [h2] <;> omega
  · simp only [Question.cut]
    generalize W.tape W.drawn (Question.nanConv FloatKind.f64 r) = t
    have h1 : t / 2 % (2 ^ 52 - 1) < 4503599627370495 := Nat.mod_lt _ (by decide)
    generalize t / 2 % (2 ^ 52 - 1) = y at *
    rcases (show t % 2 = 0 ∨ t % 2 = 1 by omega) with h2 | h2 <;> rw [h2] <;> omega
theorem nan_ne {v x : Nat} (h : 9218868437227405312 < rung v) : (FloatKind.f64.format.order v x != some Ordering.eq) = true := by
  obtain ⟨f, hf⟩ := read_nan h
  have : Ieee.double.order v x = none := by unfold Ieee.Format.order; rw [hf]; rfl
  have : FloatKind.f64.format.order v x = none := this
  rw [this]; rfl
theorem narrow_big (x : Nat) (w : World) (hx : x < 18446744073709551616) (h : nanB x = false) (hr : refN x = none) (hc : floatToFloatBits .f64 x .f32 = none) :
    Calls Tryd.prog 8 #[.float .f64 x] w fun e w' => e = .returned (.tuple #[.int .u32 0, .bool false]) ∧ Below w.heap.size w w' := by
  obtain ⟨r, hre⟩ : ∃ r, r = w.tape w.drawn (.floatToFloat x) % 2 ^ 32 := ⟨_, rfl⟩
  have hd := run_down_none x h hc w
  rw [← hre] at hd
  have r1 : r < 4294967296 := by rw [hre]; exact Nat.mod_lt _ (by decide)
  have hs := nan_self h
  by_cases r2 : rung4 r ≤ 2139095040
  · have hu := run_up r _ (conv_up r r2)
    have hne := up_ne hx hr r1 r2
    clear r1 r2 hr h hx hc hre
    go_enter Tryd.func8, Tryd.ntmps8
    go_wp2_with fail
    go_ret2
    exact ⟨rfl, (Below.refl _ _).drew⟩
  · obtain ⟨v, hu, hv, _⟩ := run_up_nan r (by omega) w.drew
    have hne := nan_ne (x := x) hv
    clear r1 r2 hr h hx hc hre hv
    go_enter Tryd.func8, Tryd.ntmps8
    go_wp2_with fail
    go_ret2
    exact ⟨rfl, ((Below.refl _ _).drew).drew⟩
theorem narrow_any (x : Nat) (w : World) (hx : x < 18446744073709551616) : Calls Tryd.prog 8 #[.float .f64 x] w fun e w' => e = .returned (narR x) ∧ Below w.heap.size w w' := by
  unfold narR
  cases hn : nanB x
  · cases hr : refN x with
    | some r => exact narrow_some x r w hx hn hr
    | none =>
      cases hc : floatToFloatBits .f64 x .f32 with
      | some r => exact narrow_none x r w hx hn hr hc
      | none => exact narrow_big x w hx hn hr hc
  · exact narrow_nan x w hn
theorem narR_form (x : Nat) : ∃ (P : Int) (B : Bool), narR x = .tuple #[.int .u32 P, .bool B] := by
  unfold narR
  split
  · exact ⟨_, _, rfl⟩
  · split
    · exact ⟨_, _, rfl⟩
    · exact ⟨_, _, rfl⟩
end Go.Proofs.YtnklnenjdffbaaaDoor
