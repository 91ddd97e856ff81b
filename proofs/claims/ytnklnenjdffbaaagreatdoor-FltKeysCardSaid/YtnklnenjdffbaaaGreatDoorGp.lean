/- Proved: called with any three 64-bit words, trivetlaw06.FltKeys returns true and each argument reads afterwards as it read before. Conditions: the package-level variables that the row lists hold what the program's text lays in them (the card ties them to the text); no bound on sizes beyond the form's own. -/
import Derived.Test.YtnklnenjdffbaaaGreatDoorGh
import Derived.Test.YtnklnenjdffbaaaGreatDoorGn
namespace Go.Proofs.YtnklnenjdffbaaaGreatDoor
open Go.ChangeShapes Go.WideShapes Go.ChangeAt Go.RowKit
set_option linter.unusedVariables false
set_option maxRecDepth 100000
theorem fltKeys_contract (H : Type) (enc : TypeId × Value → H) (W : World) (base : Nat) (args : Array Value) (ds gs : List (DataW H)) (before : List MemPlace)
    (hval : ∀ (j : Nat) t v, Tryz.f7.params[j]? = some t → args[j]? = some v → Value.okWide Tryz.prog W .any base t v)
    (hW : DataW.Whole enc Tryz.prog Tryz.f7.params.toList Rows.fltKeysSpec.vars false W args.toList ds gs before) (hL : laidMetH Tryz.prog Rows.fltKeysRow.laid W) (hS : W.ShapedOpen Tryz.prog) :
    Calls Tryz.prog 7 args W fun e W' => ∃ v, e = .returned v ∧ Rows.fltKeysSpec.post enc Tryz.prog Tryz.f7 false true false false W args v W' := by
  have hW' := hW
  obtain ⟨p, q, hA0, hV, rfl, hfz, hnd⟩ := hW
  have hA : DataW.TrodAll enc Tryz.prog W 0 (fun _ => true) true Tryz.f7.params.toList args.toList ds p := hA0
  rw [Tryz.params7] at hA hval
  obtain ⟨v0, v1, v2, d0, d1, d2, p0, p1, p2, rfl, rfl, rfl, h0, h1, h2⟩ := trodAll_three hA
  obtain ⟨rfl, rfl⟩ := trodVars_none hV
  obtain ⟨x0, rfl, rfl, rfl, w0⟩ := open_int Tryz.underlying22 (hval 0 22 v0 rfl rfl) h0
  obtain ⟨a, rfl, f0⟩ := wf_u64 w0
  obtain ⟨x1, rfl, rfl, rfl, w1⟩ := open_int Tryz.underlying22 (hval 1 22 v1 rfl rfl) h1
  obtain ⟨b, rfl, f1⟩ := wf_u64 w1
  obtain ⟨x2, rfl, rfl, rfl, w2⟩ := open_int Tryz.underlying22 (hval 2 22 v2 rfl rfl) h2
  obtain ⟨c, rfl, f2⟩ := wf_u64 w2
  clear hA0
  simp only [List.append_nil] at hW'
  refine (keys_any a b c W (vars_of hL hS) f0 f1 f2).mono fun e W' ⟨he, hb⟩ => ?_
  subst he
  exact ⟨_, rfl, post_law rfl (by kernel_rfl) (by kernel_rfl) rfl hW' hA rfl hb⟩
noncomputable abbrev fltKeys_laidW (os : Os) : World := World.laidAll Tryz.prog os Rows.fltKeysRow.laid
theorem fltKeys_witness {H : Type} (enc : TypeId × Value → H) (os : Os) :
    ∃ (w : World) (tape : Tape) (i : Input), w.os = os ∧ (w.forCall tape i).Shaped Tryz.prog ∧ i.vars = [] ∧ Input.okWide Tryz.prog (w.forCall tape i) .any w.heap.size 7 i ∧
      (OpenSpec.ofChange Rows.fltKeysSpec).preRow enc Tryz.prog Tryz.f7 Rows.fltKeysRow.domain false Rows.fltKeysRow.laid (w.forCall tape i).memory i.args ∧ ({} : Assume).holds Tryz.prog (lone (Frame.enter Tryz.prog 7 i.args .normal) [] (w.forCall tape i)) := by
  have hx : ∃ places, DataW.whole enc Tryz.prog ((fltKeys_laidW os).forCall (fun _ _ => 0) ⟨#[], #[.int .u64 0, .int .u64 0, .int .u64 0], []⟩).memory Tryz.f7.params.toList Rows.fltKeysSpec.vars false #[.int .u64 0, .int .u64 0, .int .u64 0].toList 8 =
      some ([.lit (.int .u64 0), .lit (.int .u64 0), .lit (.int .u64 0)], [], places) :=
    ⟨[], by kernel_rfl⟩
  obtain ⟨places, hx⟩ := hx
  refine ⟨fltKeys_laidW os, fun _ _ => 0, ⟨#[], #[.int .u64 0, .int .u64 0, .int .u64 0], []⟩, World.laidAll_os _ _ _, World.shaped_of_ZipB (by kernel_rfl) (by kernel_rfl), rfl, (Input.okWide_of_okWideB (by kernel_rfl)).2, ?_, ?_⟩
  · refine OpenSpec.preRow_of_cond 8 hx (by kernel_rfl) (fun k hk => by cases hk) (by kernel_rfl) ?_
    rw [MakeChecks.laidMetH_plain _ _ _ (by kernel_rfl)]
    exact laidMet_laidAll _ (by kernel_rfl) (by kernel_rfl)
  · simp only [Assume.holds]
    exact ⟨(by intro h; cases h), (by intro h; cases h), (by intro h; cases h), (by intro d h; cases h), (by intro d h; cases h), (by intro h; cases h)⟩
theorem fltKeys_lifted (os : Os) (started : os.Started) (H : Type) (enc : TypeId × Value → H) (F : Stop.Interp) :
    ReturnsInHanded {} Tryz.checked os 7 .any ((OpenSpec.ofChange Rows.fltKeysSpec).preRow enc Tryz.prog Tryz.f7 Rows.fltKeysRow.domain false Rows.fltKeysRow.laid) (((OpenSpec.ofChange Rows.fltKeysSpec).at F).post enc Tryz.prog Tryz.f7 false true false false) := by
  refine returnsInHanded_of_row (C := Tryz.checked) (s := OpenSpec.ofChange Rows.fltKeysSpec) own started (by kernel_rfl) Tryz.func7 (fltKeys_witness enc os) ?_
  intro W base args ds gs before hval hW _ _ _ hL hS _
  exact fltKeys_contract H enc W base args ds gs before hval hW hL hS
theorem fltKeys_said : Rows.FltKeysSaid :=
  OpenClaim.holds_of_cond 7 Tryz.f7 rfl rfl rfl rfl rfl rfl rfl ⟨rfl, rfl, rfl, rfl, rfl⟩ rfl rfl rfl rfl rfl (by kernel_rfl) Tryz.func7 (by kernel_rfl)
    (of_decide_eq_true (by kernel_rfl)) (by unfold Func.isWrapper; first | (rw [if_pos (by decide +kernel)]; kernel_rfl) | (rw [if_neg (by decide +kernel)]; exact ⟨rfl, rfl⟩))
    (fun os started H enc _ F => by rw [OpenClaim.pre_eq_preRow]; exact fltKeys_lifted os started H enc F)
theorem fltKeys_plain (f : FuncId) (fn : Func) (hf : Tryz.pinned.checked.prog.funcNamed "trivet/trivetlaw06.FltKeys" = some f) (hfn : Tryz.pinned.checked.prog.funcs[f]? = some fn) :
    true = Tryz.pinned.checked.prog.looks [] ∧ ∀ (j : Nat) t, fn.params[j]? = some t → Tryz.pinned.checked.prog.wantsStandIn t = false := by
  obtain rfl : f = 7 := Option.some.inj ((show Tryz.prog.funcNamed "trivet/trivetlaw06.FltKeys" = some 7 by kernel_rfl).symm.trans hf) |>.symm
  obtain rfl : fn = Tryz.f7 := (Option.some.inj (Tryz.func7.symm.trans hfn)).symm
  refine ⟨by kernel_rfl, fun j t ht => ?_⟩
  rw [Tryz.params7] at ht
  have hm : t ∈ [22, 22, 22] := by simpa using Array.mem_of_getElem? ht
  simp only [List.mem_cons, List.not_mem_nil, or_false] at hm
  rcases hm with rfl | rfl | rfl
  all_goals first | exact (show Tryz.prog.wantsStandIn 22 = false by kernel_rfl) | exact (show Tryz.prog.wantsStandIn 32 = false by kernel_rfl) | exact (show Tryz.prog.wantsStandIn 9 = false by kernel_rfl)
theorem fltKeys_holds : Rows.FltKeysCardSaid :=
  Claim7.holds_tied_plain_at .later [] _ _ _ _ fltKeys_said (fun _ h => by cases h) (by kernel_rfl) (fun _ h => by cases h) fltKeys_row_tie rfl ⟨rfl, rfl⟩ (by kernel_rfl) rfl fltKeys_plain (by kernel_rfl)
#print axioms fltKeys_holds
end Go.Proofs.YtnklnenjdffbaaaGreatDoor
