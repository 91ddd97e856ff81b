/- Proved: called with any 64-bit word and any 32-bit word, trivetlaw06.FltNarrows returns true and each argument reads afterwards as it read before. Conditions: the package-level variables that the row lists hold what the program's text lays in them (the card ties them to the text); no bound on sizes beyond the form's own. -/
import Derived.Test.YtnklnenjdffbaaaGreatDoorGh
import Derived.Test.YtnklnenjdffbaaaGreatDoorGn
namespace Go.Proofs.YtnklnenjdffbaaaGreatDoor
open Go.ChangeShapes Go.WideShapes Go.ChangeAt Go.RowKit
set_option linter.unusedVariables false
set_option maxRecDepth 100000
theorem fltNarrows_contract (H : Type) (enc : TypeId × Value → H) (W : World) (base : Nat) (args : Array Value) (ds gs : List (DataW H)) (before : List MemPlace)
    (hval : ∀ (j : Nat) t v, Tryz.f4.params[j]? = some t → args[j]? = some v → Value.okWide Tryz.prog W .any base t v)
    (hW : DataW.Whole enc Tryz.prog Tryz.f4.params.toList Rows.fltNarrowsSpec.vars false W args.toList ds gs before) (hL : laidMetH Tryz.prog Rows.fltNarrowsRow.laid W) (hS : W.ShapedOpen Tryz.prog) :
    Calls Tryz.prog 4 args W fun e W' => ∃ v, e = .returned v ∧ Rows.fltNarrowsSpec.post enc Tryz.prog Tryz.f4 false true false false W args v W' := by
  have hW' := hW
  obtain ⟨p, q, hA0, hV, rfl, hfz, hnd⟩ := hW
  have hA : DataW.TrodAll enc Tryz.prog W 0 (fun _ => true) true Tryz.f4.params.toList args.toList ds p := hA0
  rw [Tryz.params4] at hA hval
  obtain ⟨v0, v1, d0, d1, p0, p1, rfl, rfl, rfl, h0, h1⟩ := trodAll_two hA
  obtain ⟨rfl, rfl⟩ := trodVars_none hV
  obtain ⟨x0, rfl, rfl, rfl, w0⟩ := open_int Tryz.underlying22 (hval 0 22 v0 rfl rfl) h0
  obtain ⟨a, rfl, f0⟩ := wf_u64 w0
  obtain ⟨x1, rfl, rfl, rfl, w1⟩ := open_int Tryz.underlying32 (hval 1 32 v1 rfl rfl) h1
  obtain ⟨b, rfl, f1⟩ := wf_u32 w1
  clear hA0
  simp only [List.append_nil] at hW'
  refine (narrows_any a b W (vars_of hL hS) f0 f1).mono fun e W' ⟨he, hb⟩ => ?_
  subst he
  exact ⟨_, rfl, post_law rfl (by kernel_rfl) (by kernel_rfl) rfl hW' hA rfl hb⟩
noncomputable abbrev fltNarrows_laidW (os : Os) : World := World.laidAll Tryz.prog os Rows.fltNarrowsRow.laid
theorem fltNarrows_witness {H : Type} (enc : TypeId × Value → H) (os : Os) :
    ∃ (w : World) (tape : Tape) (i : Input), w.os = os ∧ (w.forCall tape i).Shaped Tryz.prog ∧ i.vars = [] ∧ Input.okWide Tryz.prog (w.forCall tape i) .any w.heap.size 4 i ∧
      (OpenSpec.ofChange Rows.fltNarrowsSpec).preRow enc Tryz.prog Tryz.f4 Rows.fltNarrowsRow.domain false Rows.fltNarrowsRow.laid (w.forCall tape i).memory i.args ∧ ({} : Assume).holds Tryz.prog (lone (Frame.enter Tryz.prog 4 i.args .normal) [] (w.forCall tape i)) := by
  have hx : ∃ places, DataW.whole enc Tryz.prog ((fltNarrows_laidW os).forCall (fun _ _ => 0) ⟨#[], #[.int .u64 0, .int .u32 0], []⟩).memory Tryz.f4.params.toList Rows.fltNarrowsSpec.vars false #[.int .u64 0, .int .u32 0].toList 8 =
      some ([.lit (.int .u64 0), .lit (.int .u32 0)], [], places) :=
    ⟨[], by kernel_rfl⟩
  obtain ⟨places, hx⟩ := hx
  refine ⟨fltNarrows_laidW os, fun _ _ => 0, ⟨#[], #[.int .u64 0, .int .u32 0], []⟩, World.laidAll_os _ _ _, World.shaped_of_ZipB (by kernel_rfl) (by kernel_rfl), rfl, (Input.okWide_of_okWideB (by kernel_rfl)).2, ?_, ?_⟩
  · refine OpenSpec.preRow_of_cond 8 hx (by kernel_rfl) (fun k hk => by cases hk) (by kernel_rfl) ?_
    rw [MakeChecks.laidMetH_plain _ _ _ (by kernel_rfl)]
    exact laidMet_laidAll _ (by kernel_rfl) (by kernel_rfl)
  · simp only [Assume.holds]
    exact ⟨(by intro h; cases h), (by intro h; cases h), (by intro h; cases h), (by intro d h; cases h), (by intro d h; cases h), (by intro h; cases h)⟩
theorem fltNarrows_lifted (os : Os) (started : os.Started) (H : Type) (enc : TypeId × Value → H) (F : Stop.Interp) :
    ReturnsInHanded {} Tryz.checked os 4 .any ((OpenSpec.ofChange Rows.fltNarrowsSpec).preRow enc Tryz.prog Tryz.f4 Rows.fltNarrowsRow.domain false Rows.fltNarrowsRow.laid) (((OpenSpec.ofChange Rows.fltNarrowsSpec).at F).post enc Tryz.prog Tryz.f4 false true false false) := by
  refine returnsInHanded_of_row (C := Tryz.checked) (s := OpenSpec.ofChange Rows.fltNarrowsSpec) own started (by kernel_rfl) Tryz.func4 (fltNarrows_witness enc os) ?_
  intro W base args ds gs before hval hW _ _ _ hL hS _
  exact fltNarrows_contract H enc W base args ds gs before hval hW hL hS
theorem fltNarrows_said : Rows.FltNarrowsSaid :=
  OpenClaim.holds_of_cond 4 Tryz.f4 rfl rfl rfl rfl rfl rfl rfl ⟨rfl, rfl, rfl, rfl, rfl⟩ rfl rfl rfl rfl rfl (by kernel_rfl) Tryz.func4 (by kernel_rfl)
    (of_decide_eq_true (by kernel_rfl)) (by unfold Func.isWrapper; first | (rw [if_pos (by decide +kernel)]; kernel_rfl) | (rw [if_neg (by decide +kernel)]; exact ⟨rfl, rfl⟩))
    (fun os started H enc _ F => by rw [OpenClaim.pre_eq_preRow]; exact fltNarrows_lifted os started H enc F)
theorem fltNarrows_plain (f : FuncId) (fn : Func) (hf : Tryz.pinned.checked.prog.funcNamed "trivet/trivetlaw06.FltNarrows" = some f) (hfn : Tryz.pinned.checked.prog.funcs[f]? = some fn) :
    true = Tryz.pinned.checked.prog.looks [] ∧ ∀ (j : Nat) t, fn.params[j]? = some t → Tryz.pinned.checked.prog.wantsStandIn t = false := by
  obtain rfl : f = 4 := Option.some.inj ((show Tryz.prog.funcNamed "trivet/trivetlaw06.FltNarrows" = some 4 by kernel_rfl).symm.trans hf) |>.symm
  obtain rfl : fn = Tryz.f4 := (Option.some.inj (Tryz.func4.symm.trans hfn)).symm
  refine ⟨by kernel_rfl, fun j t ht => ?_⟩
  rw [Tryz.params4] at ht
  have hm : t ∈ [22, 32] := by simpa using Array.mem_of_getElem? ht
  simp only [List.mem_cons, List.not_mem_nil, or_false] at hm
  rcases hm with rfl | rfl
  all_goals first | exact (show Tryz.prog.wantsStandIn 22 = false by kernel_rfl) | exact (show Tryz.prog.wantsStandIn 32 = false by kernel_rfl) | exact (show Tryz.prog.wantsStandIn 9 = false by kernel_rfl)
theorem fltNarrows_holds : Rows.FltNarrowsCardSaid :=
  Claim7.holds_tied_plain_at .later [] _ _ _ _ fltNarrows_said (fun _ h => by cases h) (by kernel_rfl) (fun _ h => by cases h) fltNarrows_row_tie rfl ⟨rfl, rfl⟩ (by kernel_rfl) rfl fltNarrows_plain (by kernel_rfl)
#print axioms fltNarrows_holds
end Go.Proofs.YtnklnenjdffbaaaGreatDoor
