/- strconv: the scaler's table; the rounding of unrounded values, whatever wraps. -/
import Derived.Test.YtnklnenjdffbaaaDoorFb
import GoSem.PinnedTables
namespace Go.Proofs.YtnklnenjdffbaaaDoor
open Go.RowKit
set_option linter.unusedVariables false
set_option maxRecDepth 100000

theorem floor_m (u : Nat) (w : World) (h1 : u < 18446744073709551616) :
    Calls Tryd.prog 56 #[.int .u64 (u : Int)] w fun e w' => e = .returned (.int .u64 ((u / 4 : Nat) : Int)) ∧ w = w' := by
  have e1 : IntKind.u64.wrap (u : Int) = (u : Int) := by rw [IntKind.wrap_u64]; omega
  go_enter Tryd.func56, Tryd.ntmps56
  go_wp2
  go_ret
  exact ⟨rfl, rfl⟩
theorem ceil_m (u : Nat) (w : World) (h1 : u < 18446744073709551616) :
    Calls Tryd.prog 55 #[.int .u64 (u : Int)] w fun e w' => e = .returned (.int .u64 (((u + 3) % 18446744073709551616 / 4 : Nat) : Int)) ∧ w = w' := by
  go_enter Tryd.func55, Tryd.ntmps55
  go_wp2
  go_ret
  refine ⟨ret_u64 ?_, rfl⟩
  show IntKind.u64.wrap ((u : Int) + 3) / 4 = _
  rw [IntKind.wrap_u64]; omega
theorem round_m (u : Nat) (w : World) (h1 : u < 18446744073709551616) :
    Calls Tryd.prog 57 #[.int .u64 (u : Int)] w fun e w' => e = .returned (.int .u64 (((u + 1 + u / 4 % 2) % 18446744073709551616 / 4 : Nat) : Int)) ∧ w = w' := by
  have e1 : bits .and .u64 ((u : Int) / 4) 1 = ((u / 4 % 2 : Nat) : Int) := by
    have := u64_and_nat (u / 4) 1 (by omega) (by omega)
    rw [nat_mask1] at this
    rw [← this]; congr 1
  go_enter Tryd.func57, Tryd.ntmps57
  go_wp2
  go_ret
  refine ⟨ret_u64 ?_, rfl⟩
  show IntKind.u64.wrap (IntKind.u64.wrap ((u : Int) + 1) + (u : Int) / 4 % 2) / 4 = _
  rw [IntKind.wrap_u64, IntKind.wrap_u64, Int.emod_add_emod]
  have hq : (u : Int) / 4 % 2 = ((u / 4 % 2 : Nat) : Int) := by norm_cast
  rw [hq]
  generalize u / 4 % 2 = q
  omega
theorem nudge_m (u : Nat) (d : Int) (w : World) (h1 : u < 18446744073709551616) (hd : -1 ≤ d) (hd1 : d ≤ 1) :
    Calls Tryd.prog 54 #[.int .u64 (u : Int), .int .i64 d] w fun e w' => e = .returned (.int .u64 (((u : Int) + d) % 18446744073709551616)) ∧ w = w' := by
  go_enter Tryd.func54, Tryd.ntmps54
  go_wp2
  go_ret
  refine ⟨ret_u64 ?_, rfl⟩
  show IntKind.u64.wrap ((u : Int) + IntKind.u64.wrap d) = _
  rw [IntKind.wrap_u64, IntKind.wrap_u64]; omega
/-- the table of the powers of ten lies in its variable -/
def P10At (w : World) : Prop := ∀ (i : Nat) (r : Nat × Nat), Pinned.pow10Rows[i]? = some r → w.cell? ⟨7, i * 2, none⟩ = some (.int .u64 (r.1 : Int)) ∧ w.cell? ⟨7, i * 2 + 1, none⟩ = some (.int .u64 (r.2 : Int))
theorem pow10_len : Pinned.pow10Rows.length = 696 := by decide +kernel
set_option maxHeartbeats 1000000 in
theorem prescale_any (B : Nat) (a b c : Value) (e p lp : Int) (i : Nat) (r : Nat × Nat) (w : World) (hB : 7 < B) (hw : w.heap[B]? = some (.cells #[a, b, c] 85 (0, 0))) (hT : P10At w) (hi : (i : Int) = p + 348) (hr : Pinned.pow10Rows[i]? = some r)
    (he : -100000 ≤ e) (he' : e ≤ 100000) (hl : -100000 ≤ lp) (hl' : lp ≤ 100000) :
    Calls Tryd.prog 51 #[.pointer (some ⟨B, 0, none⟩), .int .i64 e, .int .i64 p, .int .i64 lp] w fun x w' => x = .returned (.tuple #[]) ∧ w' = ((w.setCell ⟨B, 0, none⟩ (.int .u64 (r.1 : Int))).setCell ⟨B, 1, none⟩ (.int .u64 (r.2 : Int))).setCell ⟨B, 2, none⟩ (.int .i64 (-(e + lp + 3))) := by
  have hil : i < 696 := by
    rcases Nat.lt_or_ge i 696 with h | h
    · exact h
    · rw [List.getElem?_eq_none (by rw [pow10_len]; exact h)] at hr; cases hr
  obtain ⟨t0, t1⟩ := hT i r hr
  have c0 : w.cell? ⟨B, 0, none⟩ = some a := by rw [cell_of_row w B 0 _ 85 (0, 0) hw]; rfl
  have c1 : w.cell? ⟨B, 1, none⟩ = some b := by rw [cell_of_row w B 1 _ 85 (0, 0) hw]; rfl
  have c2 : w.cell? ⟨B, 2, none⟩ = some c := by rw [cell_of_row w B 2 _ 85 (0, 0) hw]; rfl
  have hfz : ∀ k, w.frozen? ⟨B, k, none⟩ = false := fun k => frozen_of_row w B k _ 85 hw
  have hp : p = (i : Int) - 348 := by omega
  have hwr : IntKind.i64.wrap (p + 348) = (i : Int) := by rw [IntKind.wrap_i64]; omega
  have hwr' : IntKind.i64.wrap (p - -348) = (i : Int) := by rw [IntKind.wrap_i64]; omega
  have hi0 : (0 : Int) ≤ (i : Int) := by omega
  have hi1 : (i : Int) < 696 := by omega
  have hne : ¬ (B = 7) := by omega
  have hne' : ¬ (7 = B) := by omega
  have hw1 : IntKind.i64.wrap (e + lp) = e + lp := by rw [IntKind.wrap_i64]; omega
  have hw2 : IntKind.i64.wrap (e + lp + 3) = e + lp + 3 := by rw [IntKind.wrap_i64]; omega
  have hw3 : IntKind.i64.wrap (-(e + lp + 3)) = -(e + lp + 3) := by rw [IntKind.wrap_i64]; omega
  have hidx : (p + 348).toNat = i := by omega
  clear hT hr hw hp
  go_enter Tryd.func51, Tryd.ntmps51
  go_wp2_with fail
  refine bodyPost_end (results_none rfl _ _ _) rfl ?_
  exact ⟨rfl, rfl⟩
end Go.Proofs.YtnklnenjdffbaaaDoor
