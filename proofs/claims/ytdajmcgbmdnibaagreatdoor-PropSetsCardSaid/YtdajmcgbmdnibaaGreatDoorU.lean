/- Proved: called with any two lists of properties, trivetlaw07.PropSets returns true and each argument reads afterwards as it read before. Conditions: the package-level variables that the row lists hold what the program's text lays in them (the card ties them to the text); no bound on sizes beyond the form's own. -/
import Derived.Test.YtdajmcgbmdnibaaGreatDoorS
namespace Go.Proofs.YtdajmcgbmdnibaaGreatDoor
open Go.ChangeShapes Go.WideShapes Go.ChangeAt Go.RowKit
set_option maxRecDepth 100000

noncomputable abbrev laidWs (os : Os) : World := World.laidAll Tryz.prog os Rows.propSetsRow.laid
theorem witness_s {H : Type} (enc : TypeId × Value → H) (os : Os) :
    ∃ (w : World) (tape : Tape) (i : Input), w.os = os ∧ (w.forCall tape i).Shaped Tryz.prog ∧ i.vars = [] ∧ Input.okWide Tryz.prog (w.forCall tape i) .any w.heap.size 6 i ∧
      (OpenSpec.ofChange Rows.propSetsSpec).preRow enc Tryz.prog Tryz.f6 Rows.propSetsRow.domain false Rows.propSetsRow.laid (w.forCall tape i).memory i.args ∧ ({} : Assume).holds Tryz.prog (lone (Frame.enter Tryz.prog 6 i.args .normal) [] (w.forCall tape i)) := by
  have hx : ∃ places, DataW.whole enc Tryz.prog ((laidWs os).forCall (fun _ _ => 0) ⟨#[], #[.slice none 0 0, .slice none 0 0], []⟩).memory Tryz.f6.params.toList Rows.propSetsSpec.vars false #[.slice none 0 0, .slice none 0 0].toList 8 =
      some ([.nil, .nil], [], places) :=
    ⟨[], by kernel_rfl⟩
  obtain ⟨places, hx⟩ := hx
  refine ⟨laidWs os, fun _ _ => 0, ⟨#[], #[.slice none 0 0, .slice none 0 0], []⟩, World.laidAll_os _ _ _, World.shaped_of_ZipB (by kernel_rfl) (by kernel_rfl), rfl, (Input.okWide_of_okWideB (by kernel_rfl)).2, ?_, ?_⟩
  · refine OpenSpec.preRow_of_cond 8 hx (by kernel_rfl) (fun k hk => by cases hk) (by kernel_rfl) ?_
    rw [MakeChecks.laidMetH_plain _ _ _ (by kernel_rfl)]
    exact laidMet_laidAll _ (by kernel_rfl) (by kernel_rfl)
  · simp only [Assume.holds]
    exact ⟨(by intro h; cases h), (by intro h; cases h), (by intro h; cases h), (by intro d h; cases h), (by intro d h; cases h), (by intro h; cases h)⟩

theorem lifted_s (os : Os) (started : os.Started) (H : Type) (enc : TypeId × Value → H) (F : Stop.Interp) :
    ReturnsInHanded {} Tryz.checked os 6 .any ((OpenSpec.ofChange Rows.propSetsSpec).preRow enc Tryz.prog Tryz.f6 Rows.propSetsRow.domain false Rows.propSetsRow.laid) (((OpenSpec.ofChange Rows.propSetsSpec).at F).post enc Tryz.prog Tryz.f6 false true false false) := by
  refine returnsInHanded_of_row (C := Tryz.checked) (s := OpenSpec.ofChange Rows.propSetsSpec) own started (by kernel_rfl) Tryz.func6 (witness_s enc os) ?_
  intro W base args ds gs before hval hW _ _ _ hL hS _
  exact sets_contract H enc W base args ds gs before hval hW hL hS
theorem said_s : Rows.PropSetsSaid :=
  OpenClaim.holds_of_cond 6 Tryz.f6 rfl rfl rfl rfl rfl rfl rfl ⟨rfl, rfl, rfl, rfl, rfl⟩ rfl rfl rfl rfl rfl (by kernel_rfl) Tryz.func6 (by kernel_rfl)
    (of_decide_eq_true (by kernel_rfl)) (by unfold Func.isWrapper; first | (rw [if_pos (by decide +kernel)]; kernel_rfl) | (rw [if_neg (by decide +kernel)]; exact ⟨rfl, rfl⟩))
    (fun os started H enc _ F => by rw [OpenClaim.pre_eq_preRow]; exact lifted_s os started H enc F)
theorem plain_s (f : FuncId) (fn : Func) (hf : Tryz.pinned.checked.prog.funcNamed "trivet/trivetlaw07.PropSets" = some f) (hfn : Tryz.pinned.checked.prog.funcs[f]? = some fn) :
    true = Tryz.pinned.checked.prog.looks [] ∧ ∀ (j : Nat) t, fn.params[j]? = some t → Tryz.pinned.checked.prog.wantsStandIn t = false := by
  obtain rfl : f = 6 := Option.some.inj ((show Tryz.prog.funcNamed "trivet/trivetlaw07.PropSets" = some 6 by kernel_rfl).symm.trans hf) |>.symm
  obtain rfl : fn = Tryz.f6 := (Option.some.inj (Tryz.func6.symm.trans hfn)).symm
  refine ⟨by kernel_rfl, fun j t ht => ?_⟩
  rw [Tryz.params6] at ht
  have hm : t ∈ [42, 42] := by simpa using Array.mem_of_getElem? ht
  obtain rfl : t = 42 := by simpa using hm
  exact (show Tryz.prog.wantsStandIn 42 = false by kernel_rfl)
theorem sets_holds : Rows.PropSetsCardSaid :=
  Claim7.holds_tied_plain_at .later [] _ _ _ _ said_s (fun _ h => by cases h) (by kernel_rfl) (fun _ h => by cases h) propSets_row_tie rfl ⟨rfl, rfl⟩ (by kernel_rfl) rfl plain_s (by kernel_rfl)
#print axioms sets_holds
end Go.Proofs.YtdajmcgbmdnibaaGreatDoor
