/- The row of PropOrders: for whatever input the law returns true. -/
import Derived.Test.YtdajmcgbmdnibaaGreatDoorI
import Derived.Test.YtdajmcgbmdnibaaGreatDoorCards
import Derived.Test.YtdajmcgbmdnibaaGreatDoorTie
import Derived.ProofKit
import Derived.OpenShut
import Derived.LaidMore
import Derived.Lay
import Derived.SevenTiedAt
import Derived.Stop.Joined
import Derived.Lib.SmallJoins
import Derived.Lib.LaidTab
import Derived.Deep.DeepHandedRow
import Derived.Deep.DeepWitnessRef
import Derived.WalkSmall
namespace Go.Proofs.YtdajmcgbmdnibaaGreatDoor
open Go.ChangeShapes Go.WideShapes Go.ChangeAt Go.RowKit
set_option linter.unusedVariables false
set_option maxRecDepth 100000

theorem own : ownKnob Tryz.prog.godebug = none := by kernel_rfl
theorem gTab : Tryz.prog.globalNamed "internal/strconv.uint64pow10" = some 6 := by kernel_rfl
theorem gTabT : (Tryz.prog.globals[6]?).map (·.type) = some 196 := by kernel_rfl
theorem gSize : Tryz.prog.globals.size = 12 := by kernel_rfl
theorem cells5 : Tryz.prog.cellsOf 5 = 1 := by kernel_rfl
theorem cells83 : Tryz.prog.cellsOf 83 = 1 := by kernel_rfl
theorem cells196 : Tryz.prog.cellsOf 196 = 20 := by kernel_rfl
theorem pow10_data {H : Type} : (Rows.laid_internal_strconv_uint64pow10 : DataW H) = Lib.tabData .u64 Lib.pow10Tab := by rfl
theorem laid_tail {P : Program} {w : World} {x : String × DataW Unit} {l : List (String × DataW Unit)} {ps : List MemPlace} (h : DataW.LaidVars P w (x :: l) ps) : ∃ qs, DataW.LaidVars P w l qs := by
  obtain ⟨g, t, cs, fuel, p, q, hg, ht, hv, hd, h1, h2⟩ := h
  first | exact ⟨_, h1⟩ | exact ⟨_, h2⟩
theorem pow10_head {w : World} {l : List (String × DataW Unit)} {ps : List MemPlace} (h : DataW.LaidVars Tryz.prog w (("internal/strconv.uint64pow10", Rows.laid_internal_strconv_uint64pow10) :: l) ps) :
    Lib.TabIs Tryz.prog w "internal/strconv.uint64pow10" .u64 Lib.pow10Tab := by
  obtain ⟨g, t, cs, fuel, p, q, hg, ht, hv, hd, _, _⟩ := h
  obtain rfl := Option.some.inj (gTab.symm.trans hg)
  obtain rfl := Option.some.inj (gTabT.symm.trans ht)
  rw [pow10_data] at hd
  have e := Lib.cells_of_tab Tryz.underlying196 Tryz.underlying83 cells83 cells196 hd
  unfold Lib.TabIs
  rw [hv, ← e]
theorem tab_of {w : World} (h : Lib.TabIs Tryz.prog w "internal/strconv.uint64pow10" .u64 Lib.pow10Tab) : Tab w := fun w' hb => var?_below hb gTab (by omega) h
theorem orders_tab {W : World} (h : laidMetH Tryz.prog Rows.propOrdersRow.laid W) : Tab W := by
  rw [MakeChecks.laidMetH_plain _ _ _ (by kernel_rfl)] at h
  obtain ⟨ps, hl, _⟩ := h
  obtain ⟨_, hl⟩ := laid_tail hl
  obtain ⟨_, hl⟩ := laid_tail hl
  obtain ⟨_, hl⟩ := laid_tail hl
  exact tab_of (pow10_head hl)
theorem heap_ge {W : World} (h : W.ShapedOpen Tryz.prog) : 12 ≤ W.heap.size := by
  have h1 := h.1 11
  obtain ⟨⟨zero, t⟩, hz⟩ := Option.isSome_iff_exists.1 (show (((begin Tryz.prog (fun _ _ => 0) default).world.heap[11]?).bind Obj.row?).isSome = true by kernel_rfl)
  obtain ⟨cs, hc, _⟩ := h1 zero t (by rw [gSize]; omega) hz
  rcases Nat.lt_or_ge 11 W.heap.size with h | h
  · omega
  · rw [Array.getElem?_eq_none h] at hc; cases hc

theorem trod_float64 {H : Type} {enc : TypeId × Value → H} {P : Program} {w : World} {base fuel : Nat} {spare : Nat → Bool} {held : Bool} {t : TypeId} {cs : List Value} {x : DataW H × List MemPlace} (ht : P.underlying t = some (.float .f64))
    (h : DataW.trod enc P w base spare held fuel t cs = some x) : ∃ b, cs = [.float .f64 b] ∧ x = (.lit (.float .f64 b), []) ∧ (Lit.float .f64 b).wf = true := by
  cases fuel with
  | zero => simp [DataW.trod] at h
  | succ n =>
    simp only [DataW.trod, ht] at h
    split at h
    case h_3 k k' b heq =>
      cases heq
      split at h
      · rename_i hc
        obtain ⟨rfl, hw⟩ := hc
        exact ⟨b, rfl, (Option.some.inj h).symm, hw⟩
      · cases h
    all_goals first | (simp at *; done) | (simp_all; done)
/-- a value that comes in -/
theorem open_V {H : Type} {enc : TypeId × Value → H} {w : World} {base b0 : Nat} {spare : Nat → Bool} {held : Bool} {v : Value} {d : DataW H} {p : List MemPlace} (hv : Value.okWide Tryz.prog w .any b0 37 v)
    (h : DataW.Trod enc Tryz.prog w base spare held 37 v d p) : ∃ x : V, v = x.val ∧ x.fits ∧ p = [] := by
  obtain ⟨v0, v1, v2, v3, y0, y1, y2, y3, n, rfl, rfl, rfl, h0, h1, h2, h3⟩ := Joins.open_agg4 Tryz.underlying37 (by kernel_rfl) (by kernel_rfl) hv h
  obtain ⟨a0, e0, rfl, _⟩ := DataW.trod_int Tryz.underlying3 h0
  obtain ⟨a1, e1, rfl, _⟩ := DataW.trod_int Tryz.underlying3 h1
  obtain ⟨a2, e2, rfl, w2⟩ := DataW.trod_string Tryz.underlying9 h2
  obtain ⟨a3, e3, rfl, w3⟩ := trod_float64 Tryz.underlying35 h3
  simp only [List.cons.injEq, and_true] at e0 e1 e2 e3
  subst e0 e1 e2 e3
  exact ⟨⟨a0, a1, a2, a3⟩, rfl, ⟨by unfold maxLen at w2; exact w2, by simpa [Lit.wf] using w3⟩, rfl⟩

theorem hLaid : laidOutB Tryz.prog = true := by kernel_rfl
theorem trodAll_below {H : Type} {enc : TypeId × Value → H} {W W' : World} (hb : Below W.heap.size W W') (ts : List TypeId) : ∀ (args : List Value) (ds : List (DataW H)) (ps : List MemPlace), (ts.all fun t => Tryz.prog.readableRec t && decide (t < Tryz.prog.types.size)) = true →
    DataW.TrodAll enc Tryz.prog W 0 (fun _ => true) true ts args ds ps → (∀ x ∈ ps, x.block < W.heap.size) → DataW.TrodAll enc Tryz.prog W' 0 (fun b => decide (b < W.heap.size)) true ts args ds ps := by
  induction ts with
  | nil =>
    intro args ds ps _ h _
    obtain ⟨rfl, rfl, rfl⟩ := trodAll_nil h
    exact trodAll_mk0
  | cons t ts ih =>
    intro args ds ps ht h hlt
    rw [List.all_cons, Bool.and_eq_true, Bool.and_eq_true, decide_eq_true_eq] at ht
    obtain ⟨v, vs, d, ds', p, q, rfl, rfl, rfl, h0, r0⟩ := trodAll_cons h
    have h1 := Below.trod hLaid ht.1.1 ht.1.2 h0 hb (fun x hx => hlt x (List.mem_append_left _ hx))
    have h2 := ih vs ds' q ht.2 r0 (fun x hx => hlt x (List.mem_append_right _ hx))
    exact trodAll_cons_mk h1 h2

/-- the row's last step: true, and the arguments read as they did -/
theorem post_law {H : Type} {enc : TypeId × Value → H} {f : Func} {s : ChangeSpec} {W W' : World} {args : Array Value} {ds : List (DataW H)} {p before : List MemPlace} (hv : s.vars = []) (hres : f.resultTypes = #[4])
    (hty : (f.params.toList.all fun t => Tryz.prog.readableRec t && decide (t < Tryz.prog.types.size)) = true) (hfn : s.fn H (ds ++ []) = { results := [.lit (.bool true)], args := ds })
    (hW : DataW.Whole enc Tryz.prog f.params.toList s.vars false W args.toList ds [] before) (hA : DataW.TrodAll enc Tryz.prog W 0 (fun _ => true) true f.params.toList args.toList ds p) (hp : before = p) (hb : Below W.heap.size W W') :
    s.post enc Tryz.prog f false true false false W args (.bool true) W' := by
  subst hp
  refine ⟨ds, [], _, [], before, [], hW, ?_, ?_, ?_, ?_, fun h => by cases h⟩
  · rw [hfn, hres]; exact trodAll_mk1 (shut_bool Tryz.underlying4 true)
  · rw [hfn]; exact trodAll_below hb _ _ _ _ hty hA (fun x hx => hW.lt x hx)
  · rw [hv, hfn]; rfl
  · exact hb.frame _
theorem contract (H : Type) (enc : TypeId × Value → H) (W : World) (base : Nat) (args : Array Value) (ds gs : List (DataW H)) (before : List MemPlace)
    (hval : ∀ (j : Nat) t v, Tryz.f4.params[j]? = some t → args[j]? = some v → Value.okWide Tryz.prog W .any base t v)
    (hW : DataW.Whole enc Tryz.prog Tryz.f4.params.toList Rows.propOrdersSpec.vars false W args.toList ds gs before) (hL : laidMetH Tryz.prog Rows.propOrdersRow.laid W) (hS : W.ShapedOpen Tryz.prog) :
    Calls Tryz.prog 4 args W fun e W' => ∃ v, e = .returned v ∧ Rows.propOrdersSpec.post enc Tryz.prog Tryz.f4 false true false false W args v W' := by
  have hW' := hW
  obtain ⟨p, q, hA0, hV, rfl, hfz, hnd⟩ := hW
  have hA : DataW.TrodAll enc Tryz.prog W 0 (fun _ => true) true Tryz.f4.params.toList args.toList ds p := hA0
  rw [Tryz.params4] at hA hval
  obtain ⟨v0, v1, v2, d0, d1, d2, p0, p1, p2, rfl, rfl, rfl, h0, h1, h2⟩ := trodAll_three hA
  obtain ⟨rfl, rfl⟩ := trodVars_none hV
  obtain ⟨a, rfl, fa, rfl⟩ := open_V (hval 0 37 v0 rfl rfl) h0
  obtain ⟨b, rfl, fb, rfl⟩ := open_V (hval 1 37 v1 rfl rfl) h1
  obtain ⟨c, rfl, fc, rfl⟩ := open_V (hval 2 37 v2 rfl rfl) h2
  clear hA0
  simp only [List.append_nil] at hW'
  refine (law_orders a b c W fa fb fc (heap_ge hS) (orders_tab hL)).mono fun e W' ⟨he, hb⟩ => ?_
  subst he
  exact ⟨_, rfl, post_law rfl (by kernel_rfl) (by kernel_rfl) rfl hW' hA rfl hb⟩
end Go.Proofs.YtdajmcgbmdnibaaGreatDoor
