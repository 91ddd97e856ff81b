/- Proved: called with any two 64-bit words, trivetlaw06.FltTells returns true and each argument reads afterwards as it read before. Conditions: the package-level variables that the row lists hold what the program's text lays in them (the card ties them to the text); no bound on sizes beyond the form's own. -/
import Derived.Test.YtnklnenjdffbaaaDoorGh
import Derived.Test.YtnklnenjdffbaaaDoorKg
namespace Go.Proofs.YtnklnenjdffbaaaDoor
open Go.ChangeShapes Go.WideShapes Go.ChangeAt Go.RowKit
set_option linter.unusedVariables false
set_option maxRecDepth 100000
theorem fltTells_contract (H : Type) (enc : TypeId × Value → H) (W : World) (base : Nat) (args : Array Value) (ds gs : List (DataW H)) (before : List MemPlace)
    (hval : ∀ (j : Nat) t v, Tryd.f3.params[j]? = some t → args[j]? = some v → Value.okWide Tryd.prog W .any base t v)
    (hW : DataW.Whole enc Tryd.prog Tryd.f3.params.toList Rows.fltTellsSpec.vars false W args.toList ds gs before) (hL : laidMetH Tryd.prog Rows.fltTellsRow.laid W) (hS : W.ShapedOpen Tryd.prog) :
    Calls Tryd.prog 3 args W fun e W' => ∃ v, e = .returned v ∧ Rows.fltTellsSpec.post enc Tryd.prog Tryd.f3 false true false false W args v W' := by
  have hW' := hW
  obtain ⟨p, q, hA0, hV, rfl, hfz, hnd⟩ := hW
  have hA : DataW.TrodAll enc Tryd.prog W 0 (fun _ => true) true Tryd.f3.params.toList args.toList ds p := hA0
  rw [Tryd.params3] at hA hval
  obtain ⟨v0, v1, d0, d1, p0, p1, rfl, rfl, rfl, h0, h1⟩ := trodAll_two hA
  obtain ⟨rfl, rfl⟩ := trodVars_none hV
  obtain ⟨x0, rfl, rfl, rfl, w0⟩ := open_int Tryd.underlying22 (hval 0 22 v0 rfl rfl) h0
  obtain ⟨a, rfl, f0⟩ := wf_u64 w0
  obtain ⟨x1, rfl, rfl, rfl, w1⟩ := open_int Tryd.underlying22 (hval 1 22 v1 rfl rfl) h1
  obtain ⟨b, rfl, f1⟩ := wf_u64 w1
  clear hA0
  simp only [List.append_nil] at hW'
  refine (tells_any a b W (vars_of hL hS) f0 f1).mono fun e W' ⟨he, hb⟩ => ?_
  subst he
  exact ⟨_, rfl, post_law rfl (by kernel_rfl) (by kernel_rfl) rfl hW' hA rfl hb⟩
noncomputable abbrev fltTells_laidW (os : Os) : World := World.laidAll Tryd.prog os Rows.fltTellsRow.laid
theorem fltTells_witness {H : Type} (enc : TypeId × Value → H) (os : Os) :
    ∃ (w : World) (tape : Tape) (i : Input), w.os = os ∧ (w.forCall tape i).Shaped Tryd.prog ∧ i.vars = [] ∧ Input.okWide Tryd.prog (w.forCall tape i) .any w.heap.size 3 i ∧
      (OpenSpec.ofChange Rows.fltTellsSpec).preRow enc Tryd.prog Tryd.f3 Rows.fltTellsRow.domain false Rows.fltTellsRow.laid (w.forCall tape i).memory i.args ∧ ({} : Assume).holds Tryd.prog (lone (Frame.enter Tryd.prog 3 i.args .normal) [] (w.forCall tape i)) := by
  have hx : ∃ places, DataW.whole enc Tryd.prog ((fltTells_laidW os).forCall (fun _ _ => 0) ⟨#[], #[.int .u64 0, .int .u64 0], []⟩).memory Tryd.f3.params.toList Rows.fltTellsSpec.vars false #[.int .u64 0, .int .u64 0].toList 8 =
      some ([.lit (.int .u64 0), .lit (.int .u64 0)], [], places) :=
    ⟨[], by kernel_rfl⟩
  obtain ⟨places, hx⟩ := hx
  refine ⟨fltTells_laidW os, fun _ _ => 0, ⟨#[], #[.int .u64 0, .int .u64 0], []⟩, World.laidAll_os _ _ _, World.shaped_of_ZipB (by kernel_rfl) (by kernel_rfl), rfl, (Input.okWide_of_okWideB (by kernel_rfl)).2, ?_, ?_⟩
  · refine OpenSpec.preRow_of_cond 8 hx (by kernel_rfl) (fun k hk => by cases hk) (by kernel_rfl) ?_
    rw [MakeChecks.laidMetH_plain _ _ _ (by kernel_rfl)]
    exact laidMet_laidAll _ (by kernel_rfl) (by kernel_rfl)
  · simp only [Assume.holds]
    exact ⟨(by intro h; cases h), (by intro h; cases h), (by intro h; cases h), (by intro d h; cases h), (by intro d h; cases h), (by intro h; cases h)⟩
theorem fltTells_lifted (os : Os) (started : os.Started) (H : Type) (enc : TypeId × Value → H) (F : Stop.Interp) :
    ReturnsInHanded {} Tryd.checked os 3 .any ((OpenSpec.ofChange Rows.fltTellsSpec).preRow enc Tryd.prog Tryd.f3 Rows.fltTellsRow.domain false Rows.fltTellsRow.laid) (((OpenSpec.ofChange Rows.fltTellsSpec).at F).post enc Tryd.prog Tryd.f3 false true false false) := by
  refine returnsInHanded_of_row (C := Tryd.checked) (s := OpenSpec.ofChange Rows.fltTellsSpec) own started (by kernel_rfl) Tryd.func3 (fltTells_witness enc os) ?_
  intro W base args ds gs before hval hW _ _ _ hL hS _
  exact fltTells_contract H enc W base args ds gs before hval hW hL hS
theorem fltTells_said : Rows.FltTellsSaid :=
  OpenClaim.holds_of_cond 3 Tryd.f3 rfl rfl rfl rfl rfl rfl rfl ⟨rfl, rfl, rfl, rfl, rfl⟩ rfl rfl rfl rfl rfl (by kernel_rfl) Tryd.func3 (by kernel_rfl)
    (of_decide_eq_true (by kernel_rfl)) (by unfold Func.isWrapper; first | (rw [if_pos (by decide +kernel)]; kernel_rfl) | (rw [if_neg (by decide +kernel)]; exact ⟨rfl, rfl⟩))
    (fun os started H enc _ F => by rw [OpenClaim.pre_eq_preRow]; exact fltTells_lifted os started H enc F)
theorem fltTells_plain (f : FuncId) (fn : Func) (hf : Tryd.pinned.checked.prog.funcNamed "trivet/trivetlaw06.FltTells" = some f) (hfn : Tryd.pinned.checked.prog.funcs[f]? = some fn) :
    true = Tryd.pinned.checked.prog.looks [] ∧ ∀ (j : Nat) t, fn.params[j]? = some t → Tryd.pinned.checked.prog.wantsStandIn t = false := by
  obtain rfl : f = 3 := Option.some.inj ((show Tryd.prog.funcNamed "trivet/trivetlaw06.FltTells" = some 3 by kernel_rfl).symm.trans hf) |>.symm
  obtain rfl : fn = Tryd.f3 := (Option.some.inj (Tryd.func3.symm.trans hfn)).symm
  refine ⟨by kernel_rfl, fun j t ht => ?_⟩
  rw [Tryd.params3] at ht
  have hm : t ∈ [22, 22] := by simpa using Array.mem_of_getElem? ht
  simp only [List.mem_cons, List.not_mem_nil, or_false] at hm
  rcases hm with rfl | rfl
  all_goals first | exact (show Tryd.prog.wantsStandIn 22 = false by kernel_rfl) | exact (show Tryd.prog.wantsStandIn 32 = false by kernel_rfl) | exact (show Tryd.prog.wantsStandIn 9 = false by kernel_rfl)
theorem fltTells_holds : Rows.FltTellsCardSaid :=
  Claim7.holds_tied_plain_at .later [] _ _ _ _ fltTells_said (fun _ h => by cases h) (by kernel_rfl) (fun _ h => by cases h) fltTells_row_tie rfl ⟨rfl, rfl⟩ (by kernel_rfl) rfl fltTells_plain (by kernel_rfl)
#print axioms fltTells_holds
end Go.Proofs.YtnklnenjdffbaaaDoor
