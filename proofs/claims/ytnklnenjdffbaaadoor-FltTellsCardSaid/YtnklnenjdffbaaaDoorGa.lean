/- strconv.ParseFloat at "0.1". -/
import Derived.Test.YtnklnenjdffbaaaDoorFn
namespace Go.Proofs.YtnklnenjdffbaaaDoor
open Go.RowKit Go.Sort
set_option linter.unusedVariables false
set_option maxRecDepth 100000
def s01 : ByteArray := ⟨#[48, 46, 49]⟩
theorem special_01 (w : World) : Calls Tryd.prog 68 #[.string ⟨#[48, 46, 49]⟩] w fun e w' => e = .returned (.tuple #[.float .f64 0, .int .i64 0, .bool false]) ∧ w = w' := by
  go_enter Tryd.func68, Tryd.ntmps68
  go_wp2
  go_ret3
  exact ⟨rfl, rfl⟩
theorem lower_any (c : Int) (w : World) : Calls Tryd.prog 49 #[.int .u8 c] w fun e w' => e = .returned (.int .u8 (bits .or .u8 c 32)) ∧ w = w' := (Tryd.internal_strconv_lower c w).mono fun _ _ ⟨h1, h2⟩ => ⟨h1, h2.symm⟩
theorem b0 : ∀ h, (⟨#[48, 46, 49]⟩ : ByteArray)[0]'h = 48 := fun _ => rfl
theorem b1 : ∀ h, (⟨#[48, 46, 49]⟩ : ByteArray)[1]'h = 46 := fun _ => rfl
theorem b2 : ∀ h, (⟨#[48, 46, 49]⟩ : ByteArray)[2]'h = 49 := fun _ => rfl
set_option maxHeartbeats 1000000 in
theorem read_01 (w : World) : Calls Tryd.prog 69 #[.string ⟨#[48, 46, 49]⟩] w fun e w' => e = .returned (.tuple #[.int .u64 1, .int .i64 (-1), .bool false, .bool false, .bool false, .int .i64 3, .bool true]) ∧ w = w' := by
  have b0 := b0
  have b1 := b1
  have b2 := b2
  have t1 : (46 : UInt8).toNat = 46 := rfl
  have o1 : bits .or .u8 46 32 = 46 := by decide
  go_enter Tryd.func69, Tryd.ntmps69
  go_wp2_with fail
  go_step3
  go_wp2_with (first | (go_at_call 49; refine (lower_any _ _).mono ?_; rintro e w' ⟨rfl, rfl⟩))
  go_step3
  go_wp2_with fail
  refine wp_loop_rounds 4 ?_
  rw [rounds_succ]
  go_wp2_with fail
  rw [rounds_succ]
  go_wp2_with fail
  rw [rounds_succ]
  go_wp2_with fail
  rw [rounds_succ]
  go_wp2_with (first | (go_at_call 49; refine (lower_any _ _).mono ?_; rintro e w' ⟨rfl, rfl⟩))
  try rw [Exit.noGoto_ret]
  exact bodyPost_ret (v := .tuple #[.int .u64 1, .int .i64 (-1), .bool false, .bool false, .bool false, .int .i64 3, .bool true]) (by simp [results, Tryd.f69, go_sem]) rfl ⟨rfl, rfl⟩
theorem run_from78 (n : Int) (w : World) : (callFunc 78 #[.int .u64 n]).run Tryd.prog w = .ok (.value (.float .f64 n.toNat)) w := by
  rw [run_callFunc_extern (e := Extern.MathFloatBits.float64frombits) Tryd.func78 (by kernel_rfl) (by kernel_rfl) (by kernel_rfl) (by kernel_rfl)]; rfl
/-- what strconv reads of its variables -/
structure Vars (w : World) : Prop where
  size : 14 ≤ w.heap.size
  p10 : P10At w
  tab : Tab w
  opt : w.cell? ⟨1, 0, none⟩ = some (.bool true)
  inf0 : w.cell? ⟨6, 0, none⟩ = some (.int .u64 52)
  pow : ∃ b o c, w.cell? ⟨11, 0, none⟩ = some (.slice (some ⟨b, o, none⟩) 23 c) ∧ b < w.heap.size ∧ w.cell? ⟨b, o + 1, none⟩ = some (.float .f64 4621819117588971520)
theorem block_add (a : Addr) (n : Nat) : (a.add n).block = a.block := by unfold Addr.add; split <;> rfl
theorem Vars.on {w w' : World} (h : Vars w) (hb : Below w.heap.size w w') : Vars w' := by
  have hs := h.size
  obtain ⟨b, o, c, h1, h2, h3⟩ := h.pow
  exact ⟨by have := hb.size; omega, h.p10.below (by omega) hb, h.tab.on hb, (hb.cell (by show 1 < _; omega)).trans h.opt, (hb.cell (by show 6 < _; omega)).trans h.inf0,
    ⟨b, o, c, (hb.cell (by show 11 < _; omega)).trans h1, by have := hb.size; omega, (hb.cell h2).trans h3⟩⟩
set_option maxHeartbeats 1000000 in
theorem exact_01 (w : World) (hV : Vars w) : Calls Tryd.prog 79 #[.int .u64 1, .int .i64 (-1), .bool false] w fun e w' => e = .returned (.tuple #[.float .f64 4591870180066957722, .bool true]) ∧ w = w' := by
  have c0 := hV.inf0
  obtain ⟨b, o, c, c1, _, c2⟩ := hV.pow
  have k1 : floatOfInt FloatKind.f64 1 = 4607182418800017408 := by decide +kernel
  have k2 : ∀ W : World, (binOp .quo 24 (.float .f64 4607182418800017408) (.float .f64 4621819117588971520)).run Tryd.prog W = .ok (.float .f64 4591870180066957722) W := fun W => by kernel_rfl
  go_enter Tryd.func79, Tryd.ntmps79
  go_wp2_with fail
  go_ret2
  exact ⟨rfl, rfl⟩
end Go.Proofs.YtnklnenjdffbaaaDoor
