/- Proved: called with any three values, trivetlaw07.PropOrders returns true and each argument reads afterwards as it read before. Conditions: the package-level variables that the row lists hold what the program's text lays in them (the card ties them to the text); no bound on sizes beyond the form's own. -/
import Derived.Test.YtdajmcgbmdnibaaGreatDoorJ
namespace Go.Proofs.YtdajmcgbmdnibaaGreatDoor
open Go.ChangeShapes Go.WideShapes Go.ChangeAt Go.RowKit
set_option maxRecDepth 100000

abbrev zeroV : Value := .agg #[.int .i64 0, .int .i64 0, .string ⟨#[]⟩, .float .f64 0]
noncomputable abbrev laidW (os : Os) : World := World.laidAll Tryz.prog os Rows.propOrdersRow.laid
theorem witness {H : Type} (enc : TypeId × Value → H) (os : Os) :
    ∃ (w : World) (tape : Tape) (i : Input), w.os = os ∧ (w.forCall tape i).Shaped Tryz.prog ∧ i.vars = [] ∧ Input.okWide Tryz.prog (w.forCall tape i) .any w.heap.size 4 i ∧
      (OpenSpec.ofChange Rows.propOrdersSpec).preRow enc Tryz.prog Tryz.f4 Rows.propOrdersRow.domain false Rows.propOrdersRow.laid (w.forCall tape i).memory i.args ∧ ({} : Assume).holds Tryz.prog (lone (Frame.enter Tryz.prog 4 i.args .normal) [] (w.forCall tape i)) := by
  have hx : ∃ places, DataW.whole enc Tryz.prog ((laidW os).forCall (fun _ _ => 0) ⟨#[], #[zeroV, zeroV, zeroV], []⟩).memory Tryz.f4.params.toList Rows.propOrdersSpec.vars false #[zeroV, zeroV, zeroV].toList 8 =
      some ([.agg [.lit (.int .i64 0), .lit (.int .i64 0), .lit (.string []), .lit (.float .f64 0)], .agg [.lit (.int .i64 0), .lit (.int .i64 0), .lit (.string []), .lit (.float .f64 0)], .agg [.lit (.int .i64 0), .lit (.int .i64 0), .lit (.string []), .lit (.float .f64 0)]], [], places) :=
    ⟨[], by kernel_rfl⟩
  obtain ⟨places, hx⟩ := hx
  refine ⟨laidW os, fun _ _ => 0, ⟨#[], #[zeroV, zeroV, zeroV], []⟩, World.laidAll_os _ _ _, World.shaped_of_ZipB (by kernel_rfl) (by kernel_rfl), rfl, (Input.okWide_of_okWideB (by kernel_rfl)).2, ?_, ?_⟩
  · refine OpenSpec.preRow_of_cond 8 hx (by kernel_rfl) (fun k hk => by cases hk) (by kernel_rfl) ?_
    rw [MakeChecks.laidMetH_plain _ _ _ (by kernel_rfl)]
    exact laidMet_laidAll _ (by kernel_rfl) (by kernel_rfl)
  · simp only [Assume.holds]
    exact ⟨(by intro h; cases h), (by intro h; cases h), (by intro h; cases h), (by intro d h; cases h), (by intro d h; cases h), (by intro h; cases h)⟩

theorem lifted (os : Os) (started : os.Started) (H : Type) (enc : TypeId × Value → H) (F : Stop.Interp) :
    ReturnsInHanded {} Tryz.checked os 4 .any ((OpenSpec.ofChange Rows.propOrdersSpec).preRow enc Tryz.prog Tryz.f4 Rows.propOrdersRow.domain false Rows.propOrdersRow.laid) (((OpenSpec.ofChange Rows.propOrdersSpec).at F).post enc Tryz.prog Tryz.f4 false true false false) := by
  refine returnsInHanded_of_row (C := Tryz.checked) (s := OpenSpec.ofChange Rows.propOrdersSpec) own started (by kernel_rfl) Tryz.func4 (witness enc os) ?_
  intro W base args ds gs before hval hW _ _ _ hL hS _
  exact contract H enc W base args ds gs before hval hW hL hS
theorem said : Rows.PropOrdersSaid :=
  OpenClaim.holds_of_cond 4 Tryz.f4 rfl rfl rfl rfl rfl rfl rfl ⟨rfl, rfl, rfl, rfl, rfl⟩ rfl rfl rfl rfl rfl (by kernel_rfl) Tryz.func4 (by kernel_rfl)
    (of_decide_eq_true (by kernel_rfl)) (by unfold Func.isWrapper; first | (rw [if_pos (by decide +kernel)]; kernel_rfl) | (rw [if_neg (by decide +kernel)]; exact ⟨rfl, rfl⟩))
    (fun os started H enc _ F => by rw [OpenClaim.pre_eq_preRow]; exact lifted os started H enc F)
theorem plain (f : FuncId) (fn : Func) (hf : Tryz.pinned.checked.prog.funcNamed "trivet/trivetlaw07.PropOrders" = some f) (hfn : Tryz.pinned.checked.prog.funcs[f]? = some fn) :
    true = Tryz.pinned.checked.prog.looks [] ∧ ∀ (j : Nat) t, fn.params[j]? = some t → Tryz.pinned.checked.prog.wantsStandIn t = false := by
  obtain rfl : f = 4 := Option.some.inj ((show Tryz.prog.funcNamed "trivet/trivetlaw07.PropOrders" = some 4 by kernel_rfl).symm.trans hf) |>.symm
  obtain rfl : fn = Tryz.f4 := (Option.some.inj (Tryz.func4.symm.trans hfn)).symm
  refine ⟨by kernel_rfl, fun j t ht => ?_⟩
  rw [Tryz.params4] at ht
  have hm : t ∈ [37, 37, 37] := by simpa using Array.mem_of_getElem? ht
  obtain rfl : t = 37 := by simpa using hm
  exact (show Tryz.prog.wantsStandIn 37 = false by kernel_rfl)
theorem orders_holds : Rows.PropOrdersCardSaid :=
  Claim7.holds_tied_plain_at .later [] _ _ _ _ said (fun _ h => by cases h) (by kernel_rfl) (fun _ h => by cases h) propOrders_row_tie rfl ⟨rfl, rfl⟩ (by kernel_rfl) rfl plain (by kernel_rfl)
#print axioms orders_holds
end Go.Proofs.YtdajmcgbmdnibaaGreatDoor
