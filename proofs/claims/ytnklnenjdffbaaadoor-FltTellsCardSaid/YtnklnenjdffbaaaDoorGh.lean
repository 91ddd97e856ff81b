/- Rows: what all rows of this seat share. -/
import Derived.Test.YtnklnenjdffbaaaDoorGg
namespace Go.Proofs.YtnklnenjdffbaaaDoor
open Go.ChangeShapes Go.WideShapes Go.ChangeAt Go.RowKit
set_option linter.unusedVariables false
set_option maxRecDepth 100000
theorem own : ownKnob Tryd.prog.godebug = none := by kernel_rfl
theorem hLaid : laidOutB Tryd.prog = true := by kernel_rfl
theorem trodAll_below {H : Type} {enc : TypeId × Value → H} {W W' : World} (hb : Below W.heap.size W W') (ts : List TypeId) : ∀ (args : List Value) (ds : List (DataW H)) (ps : List MemPlace), (ts.all fun t => Tryd.prog.readableRec t && decide (t < Tryd.prog.types.size)) = true →
    DataW.TrodAll enc Tryd.prog W 0 (fun _ => true) true ts args ds ps → (∀ x ∈ ps, x.block < W.heap.size) → DataW.TrodAll enc Tryd.prog W' 0 (fun b => decide (b < W.heap.size)) true ts args ds ps := by
  induction ts with
  | nil =>
    intro args ds ps _ h _
    obtain ⟨rfl, rfl, rfl⟩ := trodAll_nil h
    exact trodAll_mk0
  | cons t ts ih =>
    intro args ds ps ht h hlt
    rw [List.all_cons, Bool.and_eq_true, Bool.and_eq_true, decide_eq_true_eq] at ht
    obtain ⟨v, vs, d, ds', p, q, rfl, rfl, rfl, h0, r0⟩ := trodAll_cons h
    have h1 := Below.trod hLaid ht.1.1 ht.1.2 h0 hb (fun x hx => hlt x (List.mem_append_left _ hx))
    have h2 := ih vs ds' q ht.2 r0 (fun x hx => hlt x (List.mem_append_right _ hx))
    exact trodAll_cons_mk h1 h2

/-- the row's last step: true, and the arguments read as they did -/
theorem post_law {H : Type} {enc : TypeId × Value → H} {f : Func} {s : ChangeSpec} {W W' : World} {args : Array Value} {ds : List (DataW H)} {p before : List MemPlace} (hv : s.vars = []) (hres : f.resultTypes = #[4])
    (hty : (f.params.toList.all fun t => Tryd.prog.readableRec t && decide (t < Tryd.prog.types.size)) = true) (hfn : s.fn H (ds ++ []) = { results := [.lit (.bool true)], args := ds })
    (hW : DataW.Whole enc Tryd.prog f.params.toList s.vars false W args.toList ds [] before) (hA : DataW.TrodAll enc Tryd.prog W 0 (fun _ => true) true f.params.toList args.toList ds p) (hp : before = p) (hb : Below W.heap.size W W') :
    s.post enc Tryd.prog f false true false false W args (.bool true) W' := by
  subst hp
  refine ⟨ds, [], _, [], before, [], hW, ?_, ?_, ?_, ?_, fun h => by cases h⟩
  · rw [hfn, hres]; exact trodAll_mk1 (shut_bool Tryd.underlying4 true)
  · rw [hfn]; exact trodAll_below hb _ _ _ _ hty hA (fun x hx => hW.lt x hx)
  · rw [hv, hfn]; rfl
  · exact hb.frame _

theorem wf_u64 {n : Int} (h : (Lit.int .u64 n).wf = true) : ∃ a : Nat, n = a ∧ a < 18446744073709551616 := by
  have h' : 0 ≤ n ∧ n ≤ 18446744073709551615 := by
    have e1 : IntKind.u64.min = 0 := by decide
    have e2 : IntKind.u64.max = 18446744073709551615 := by decide
    simpa [Lit.wf, e1, e2] using h
  exact ⟨n.toNat, by omega, by omega⟩
theorem wf_u32 {n : Int} (h : (Lit.int .u32 n).wf = true) : ∃ a : Nat, n = a ∧ a < 4294967296 := by
  have h' : 0 ≤ n ∧ n ≤ 4294967295 := by
    have e1 : IntKind.u32.min = 0 := by decide
    have e2 : IntKind.u32.max = 4294967295 := by decide
    simpa [Lit.wf, e1, e2] using h
  exact ⟨n.toNat, by omega, by omega⟩
end Go.Proofs.YtnklnenjdffbaaaDoor
