/- The row of FltOrders: its condition opened. -/
import Derived.Test.YtnklnenjdffbaaaDoorGf
import Derived.Test.YtnklnenjdffbaaaDoorCards
import Derived.Test.YtnklnenjdffbaaaDoorTie
import Derived.ProofKit
import Derived.OpenShut
import Derived.LaidMore
import Derived.Lay
import Derived.SevenTiedAt
import Derived.Stop.Joined
import Derived.Lib.SmallJoins
import Derived.Deep.DeepHandedRow
import Derived.Deep.DeepWitnessRef
import Derived.WalkSmall
namespace Go.Proofs.YtnklnenjdffbaaaDoor
open Go.ChangeShapes Go.WideShapes Go.ChangeAt Go.RowKit Go.Lib
set_option linter.unusedVariables false
set_option maxRecDepth 100000
theorem cell_lt {w : World} {a : Addr} {v : Value} (h : w.cell? a = some v) : a.block < w.heap.size ∧ a.spot = none := by
  unfold World.cell? at h
  split at h
  · rename_i c e f hh
    refine ⟨?_, ?_⟩
    · rcases Nat.lt_or_ge a.block w.heap.size with h1 | h1
      · exact h1
      · rw [Array.getElem?_eq_none h1] at hh; cases hh
    · cases hs : a.spot with
      | none => rfl
      | some x => rw [hs] at h; simp at h
  · cases h
theorem trodF {H : Type} {enc : TypeId × Value → H} {P : Program} {w : World} {base fuel : Nat} {spare : Nat → Bool} {held : Bool} {t : TypeId} {k : FloatKind} {cs : List Value} {x : DataW H × List MemPlace} (ht : P.underlying t = some (.float k))
    (h : DataW.trod enc P w base spare held fuel t cs = some x) : ∃ b, cs = [.float k b] ∧ x = (.lit (.float k b), []) ∧ (Lit.float k b).wf = true := by
  cases fuel with
  | zero => simp [DataW.trod] at h
  | succ n =>
    simp only [DataW.trod, ht] at h
    split at h
    case h_3 k k' b heq =>
      cases heq
      split at h
      · rename_i hc
        obtain ⟨rfl, hw⟩ := hc
        exact ⟨b, rfl, (Option.some.inj h).symm, hw⟩
      · cases h
    all_goals first | (simp at *; done) | (simp_all; done)
/-- a variable that is a slice of elements of one cell -/
theorem slice_reads {w : World} {name : String} {g : Nat} {t e : TypeId} {ds : List (DataW Unit)} (hn : Tryd.prog.globalNamed name = some g) (hy : (Tryd.prog.globals[g]?).map (·.type) = some t)
    (ht : Tryd.prog.underlying t = some (.slice e)) (hc : Tryd.prog.cellsOf e = 1) (hl : 0 < ds.length) (h : VarReads Tryd.prog w name (.slice ds [])) :
    ∃ b o c, w.cell? ⟨g, 0, none⟩ = some (.slice (some ⟨b, o, none⟩) ds.length c) ∧ b < w.heap.size ∧
      ∀ i d, ds[i]? = some d → ∃ v f q, w.cell? ⟨b, o + i, none⟩ = some v ∧ DataW.trod (fun _ => ()) Tryd.prog w 0 (fun _ => true) false f e [v] = some (d, q) := by
  obtain ⟨g', t', cs, fuel, p, hg, hty, hvar, hd⟩ := h
  obtain rfl := Option.some.inj (hn.symm.trans hg)
  obtain rfl := Option.some.inj (hy.symm.trans hty)
  rcases DataW.trod_slice ht hd with ⟨_, hx⟩ | ⟨a, len, cap, el, rs, m, rfl, hcs, hx, _, hlc, _, hel, helem, hsp, _⟩
  · cases hx
  have e0 := congrArg Prod.fst hx
  simp only [DataW.slice.injEq] at e0
  obtain ⟨eE, eR⟩ := e0
  have hlen : len = ds.length := by rw [eE, List.length_map, hel]
  have hat : ∀ i d, ds[i]? = some d → ∃ v f q, w.cell? (a.add i) = some v ∧ DataW.trod (fun _ => ()) Tryd.prog w 0 (fun _ => true) false f e [v] = some (d, q) := by
    intro i d hi
    have hil : i < len := by rw [hlen]; exact (List.getElem?_eq_some_iff.1 hi).1
    have h1 := helem i hil
    rw [hc, Nat.mul_one] at h1
    obtain ⟨b, hb⟩ : ∃ b, el[i]? = some b := ⟨el[i]'(by omega), List.getElem?_eq_getElem (by omega)⟩
    rw [hb] at h1
    obtain ⟨ce, hce, hte⟩ := Option.bind_eq_some_iff.1 h1
    have hbd : b.1 = d := by
      rw [eE, List.getElem?_map, hb] at hi
      exact Option.some.inj hi
    obtain ⟨_, hcl, hcc⟩ := World.cells?_some hce
    have h0 := hcc 0 (by omega)
    have ha0 : (a.add i).add 0 = a.add i := by simp [Addr.add]
    rw [ha0] at h0
    obtain ⟨v, rfl⟩ : ∃ v, ce = [v] := by
      match ce, hcl with
      | [v], _ => exact ⟨v, rfl⟩
    exact ⟨v, _, b.2, h0, by rw [hte, ← hbd]⟩
  obtain ⟨bb, oo, ss⟩ := a
  have hs : bb < w.heap.size ∧ ss = none := by
    obtain ⟨d0, hd0⟩ : ∃ d0, ds[0]? = some d0 := ⟨_, List.getElem?_eq_getElem hl⟩
    obtain ⟨v, f, q, h1, _⟩ := hat 0 d0 hd0
    have ha0 : (⟨bb, oo, ss⟩ : Addr).add 0 = ⟨bb, oo, ss⟩ := by simp [Addr.add]
    rw [ha0] at h1
    exact cell_lt h1
  obtain ⟨hs1, rfl⟩ := hs
  refine ⟨bb, oo, cap, ?_, hs1, ?_⟩
  · rw [← hlen]
    exact cell_var hn hvar (by rw [← Array.getElem?_toList, hcs]; rfl)
  · intro i d hi
    obtain ⟨v, f, q, h1, h2⟩ := hat i d hi
    rw [Lib.add_plain] at h1
    exact ⟨v, f, q, h1, h2⟩
theorem gPow : Tryd.prog.globalNamed "internal/strconv.float64pow10" = some 11 := by kernel_rfl
theorem tPow : (Tryd.prog.globals[11]?).map (·.type) = some 142 := by kernel_rfl
theorem c24 : Tryd.prog.cellsOf 24 = 1 := by kernel_rfl
theorem gTab : Tryd.prog.globalNamed "internal/strconv.uint64pow10" = some 4 := by kernel_rfl
theorem tTab : (Tryd.prog.globals[4]?).map (·.type) = some 94 := by kernel_rfl
theorem c128 : Tryd.prog.cellsOf 94 = 20 := by kernel_rfl
theorem gSize : Tryd.prog.globals.size = 14 := by kernel_rfl
theorem heap_ge {W : World} (h : W.ShapedOpen Tryd.prog) : 14 ≤ W.heap.size := by
  have h1 := h.1 13
  obtain ⟨⟨zero, t⟩, hz⟩ := Option.isSome_iff_exists.1 (show (((begin Tryd.prog (fun _ _ => 0) default).world.heap[13]?).bind Obj.row?).isSome = true by kernel_rfl)
  obtain ⟨cs, hc, _⟩ := h1 zero t (by rw [gSize]; omega) hz
  rcases Nat.lt_or_ge 13 W.heap.size with h | h
  · omega
  · rw [Array.getElem?_eq_none h] at hc; cases hc
def powF : List Nat := [4607182418800017408, 4621819117588971520, 4636737291354636288, 4652007308841189376, 4666723172467343360, 4681608360884174848, 4696837146684686336, 4711630319722168320, 4726483295884279808, 4741671816366391296, 4756540486875873280, 4771362005757984768, 4786511204640096256, 4801453603149578240, 4816244402031689728, 4831355200913801216, 4846369599423283200, 4861130398305394688, 4876203697187506176, 4891288408196988160, 4906019910204099648, 4921056587992461136, 4936209963552724370]
theorem tab_of_reads {w : World} (h : VarReads Tryd.prog w "internal/strconv.uint64pow10" Rows.laid_internal_strconv_uint64pow10) : Tab w := by
  obtain ⟨g, t, cs, fuel, p, hg, ht, hv, hd⟩ := h
  obtain rfl := Option.some.inj (gTab.symm.trans hg)
  obtain rfl := Option.some.inj (tTab.symm.trans ht)
  have e1 : (Rows.laid_internal_strconv_uint64pow10 : DataW Unit) = Lib.tabData .u64 Lib.pow10Tab := by rfl
  rw [e1] at hd
  have e := Lib.cells_of_tab Tryd.underlying94 Tryd.underlying22 c22 c128 hd
  show w.var? Tryd.prog _ = _
  rw [hv, ← e]
/-- the list that every row of this seat lists -/
abbrev laidL : List (String × DataW Unit) := Rows.fltTellsRow.laid
theorem vars_of {W : World} (h : laidMetH Tryd.prog laidL W) (hS : W.ShapedOpen Tryd.prog) : Vars W := by
  rw [MakeChecks.laidMetH_plain _ _ _ (by kernel_rfl)] at h
  obtain ⟨ps, hl, _⟩ := h
  have R : ∀ n d, (n, d) ∈ laidL → VarReads Tryd.prog W n d := fun n d hm => reads_of_mem hl hm
  have r1 := p10_of_reads (R "internal/strconv.pow10Tab" Go.Pinned.pow10Tab (by simp [laidL, Rows.fltTellsRow, Rows.laid_internal_strconv_pow10Tab]))
  have r2 := tab_of_reads (R "internal/strconv.uint64pow10" Rows.laid_internal_strconv_uint64pow10 (by simp [laidL, Rows.fltTellsRow]))
  have r3 := opt_of_reads (R "internal/strconv.optimize" (.lit (.bool true)) (by simp [laidL, Rows.fltTellsRow, Rows.laid_internal_strconv_optimize]))
  have r4 := inf_of_reads (R "internal/strconv.float64info" _ (by simp [laidL, Rows.fltTellsRow, Rows.laid_internal_strconv_float64info]))
  have e9 : Rows.laid_internal_strconv_float64pow10 = (DataW.slice (powF.map fun b => .lit (.float .f64 b)) [] : DataW Unit) := by rfl
  have r5' := R "internal/strconv.float64pow10" Rows.laid_internal_strconv_float64pow10 (by simp [laidL, Rows.fltTellsRow])
  rw [e9] at r5'
  obtain ⟨b, o, c, p1, p2, p3⟩ := slice_reads gPow tPow Tryd.underlying142 c24 (by decide) r5'
  refine ⟨heap_ge hS, r1, r2, r3, r4.1, b, o, c, p1, p2, ?_⟩
  obtain ⟨v, f, q, h1, h2⟩ := p3 1 (.lit (.float .f64 4621819117588971520)) rfl
  obtain ⟨x, hx, hx2, _⟩ := trodF Tryd.underlying24 h2
  cases hx
  cases hx2
  exact h1
end Go.Proofs.YtnklnenjdffbaaaDoor
