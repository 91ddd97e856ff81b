/- What the listed variables hold, out of the row's condition. -/
import Derived.Test.YtnklnenjdffbaaaDoorGd
import Derived.Test.YtnklnenjdffbaaaDoorRows
import Derived.Lib.LaidU8
import Derived.Lib.LaidTab
import Derived.Lib.LaidPrint
import Derived.MakeChecks
namespace Go.Proofs.YtnklnenjdffbaaaDoor
open Go.RowKit Go.Lib
set_option linter.unusedVariables false
set_option maxRecDepth 100000
theorem reads_of_mem {P : Program} {w : World} {n : String} {d : DataW Unit} : ∀ {l : List (String × DataW Unit)} {ps : List MemPlace}, DataW.LaidVars P w l ps → (n, d) ∈ l → VarReads P w n d
  | (n', d') :: l, ps, h, hm => by
    obtain ⟨g, t, cs, fuel, p, q, hg, ht, hv, hd, h1, h2⟩ := h
    rcases List.mem_cons.1 hm with e | hm
    · cases e; exact ⟨g, t, cs, fuel, p, hg, ht, hv, hd⟩
    · exact reads_of_mem h1 hm
  | [], _, _, hm => by cases hm
theorem at_of_take1 {cs : List Value} {k : Nat} {v : Value} (h : (cs.drop k).take 1 = [v]) : cs[k]? = some v := by
  have := congrArg (·[0]?) h
  simpa [List.getElem?_take, List.getElem?_drop] using this
theorem cell_var {P : Program} {w : World} {n : String} {g i : Nat} {cs : Array Value} {v : Value} (hg : P.globalNamed n = some g) (hv : w.var? P n = some cs) (h : cs[i]? = some v) : w.cell? ⟨g, i, none⟩ = some v := by
  rw [World.var?_cell hg hv i]; exact h
theorem gP10 : Tryd.prog.globalNamed "internal/strconv.pow10Tab" = some 7 := by kernel_rfl
theorem tP10 : (Tryd.prog.globals[7]?).map (·.type) = some 128 := by kernel_rfl
theorem c145 : Tryd.prog.cellsOf 127 = 2 := by kernel_rfl
theorem c22 : Tryd.prog.cellsOf 22 = 1 := by kernel_rfl
theorem row_cells {w : World} {fuel : Nat} {cs : List Value} {r : Nat × Nat} {p : List MemPlace} (h : DataW.trod (fun _ => ()) Tryd.prog w 0 (fun _ => true) false fuel 127 cs = some (.agg [.lit (.int .u64 r.1), .lit (.int .u64 r.2)], p)) :
    cs[0]? = some (.int .u64 r.1) ∧ cs[1]? = some (.int .u64 r.2) := by
  obtain ⟨xs, n, rfl, hx, hl, hxl, hall⟩ := DataW.trod_struct Tryd.underlying127 h
  have hx3 : xs.map (·.1) = [.lit (.int .u64 r.1), .lit (.int .u64 r.2)] := by
    have := congrArg Prod.fst hx
    simpa using this.symm
  obtain ⟨x0, x1, rfl⟩ : ∃ x0 x1, xs = [x0, x1] := by
    match xs, hx3 with
    | [x0, x1], _ => exact ⟨x0, x1, rfl⟩
  simp only [List.map_cons, List.map_nil, List.cons.injEq, and_true] at hx3
  obtain ⟨e0, e1⟩ := hx3
  have f0 := hall 0 _ rfl
  have f1 := hall 1 _ rfl
  change DataW.trod _ _ _ _ _ _ _ 22 ((cs.drop 0).take (Tryd.prog.cellsOf 22)) = some x0 at f0
  change DataW.trod _ _ _ _ _ _ _ 22 ((cs.drop 1).take (Tryd.prog.cellsOf 22)) = some x1 at f1
  rw [c22] at f0 f1
  constructor
  · obtain ⟨z, hz, hx', _⟩ := DataW.trod_int Tryd.underlying22 f0
    rw [hx'] at e0; cases e0
    exact at_of_take1 hz
  · obtain ⟨z, hz, hx', _⟩ := DataW.trod_int Tryd.underlying22 f1
    rw [hx'] at e1; cases e1
    exact at_of_take1 hz
theorem p10_of_reads {w : World} (h : VarReads Tryd.prog w "internal/strconv.pow10Tab" Go.Pinned.pow10Tab) : P10At w := by
  obtain ⟨g, t, cs, fuel, p, hg, hty, hvar, hd⟩ := h
  obtain rfl := Option.some.inj (gP10.symm.trans hg)
  obtain rfl := Option.some.inj (tP10.symm.trans hty)
  intro i r hr
  have hi : i < 696 := by
    rcases Nat.lt_or_ge i 696 with h | h
    · exact h
    · rw [List.getElem?_eq_none (by rw [pow10_len]; exact h)] at hr; cases hr
  obtain ⟨fuel', d, q, hd', ht⟩ := array_elem Tryd.underlying128 (show DataW.trod _ _ _ _ _ _ _ _ _ = some (.agg (Go.Pinned.pow10Rows.map fun x => .agg [.lit (.int .u64 x.1), .lit (.int .u64 x.2)]), p) from hd) i hi
  rw [List.getElem?_map, hr] at hd'
  cases hd'
  obtain ⟨a0, a1⟩ := row_cells ht
  rw [c145, List.getElem?_take, if_pos (by omega), List.getElem?_drop] at a0 a1
  exact ⟨cell_var gP10 hvar (by rw [← Array.getElem?_toList]; exact a0), cell_var gP10 hvar (by rw [← Array.getElem?_toList]; exact a1)⟩
theorem gOpt : Tryd.prog.globalNamed "internal/strconv.optimize" = some 1 := by kernel_rfl
theorem tOpt : (Tryd.prog.globals[1]?).map (·.type) = some 4 := by kernel_rfl
theorem opt_of_reads {w : World} (h : VarReads Tryd.prog w "internal/strconv.optimize" (.lit (.bool true))) : w.cell? ⟨1, 0, none⟩ = some (.bool true) := by
  obtain ⟨g, t, cs, fuel, p, hg, hty, hvar, hd⟩ := h
  obtain rfl := Option.some.inj (gOpt.symm.trans hg)
  obtain rfl := Option.some.inj (tOpt.symm.trans hty)
  obtain ⟨b, hb, hx⟩ := DataW.trod_bool Tryd.underlying4 hd
  cases hx
  exact cell_var gOpt hvar (by rw [← Array.getElem?_toList, hb]; rfl)
theorem gInf : Tryd.prog.globalNamed "internal/strconv.float64info" = some 6 := by kernel_rfl
theorem tInf : (Tryd.prog.globals[6]?).map (·.type) = some 106 := by kernel_rfl
theorem c52 : Tryd.prog.cellsOf 44 = 1 := by kernel_rfl
theorem c3' : Tryd.prog.cellsOf 3 = 1 := by kernel_rfl
theorem inf_of_reads {w : World} (h : VarReads Tryd.prog w "internal/strconv.float64info" (.agg [.lit (.int .u64 52), .lit (.int .u64 11), .lit (.int .i64 (-1023))])) :
    w.cell? ⟨6, 0, none⟩ = some (.int .u64 52) ∧ w.cell? ⟨6, 1, none⟩ = some (.int .u64 11) ∧ w.cell? ⟨6, 2, none⟩ = some (.int .i64 (-1023)) := by
  obtain ⟨g, t, cs, fuel, p, hg, hty, hvar, hd⟩ := h
  obtain rfl := Option.some.inj (gInf.symm.trans hg)
  obtain rfl := Option.some.inj (tInf.symm.trans hty)
  obtain ⟨xs, n, rfl, hx, hl, hxl, hall⟩ := DataW.trod_struct Tryd.underlying106 hd
  have hx3 : xs.map (·.1) = [.lit (.int .u64 52), .lit (.int .u64 11), .lit (.int .i64 (-1023))] := by
    have := congrArg Prod.fst hx
    simpa using this.symm
  obtain ⟨x0, x1, x2, rfl⟩ : ∃ x0 x1 x2, xs = [x0, x1, x2] := by
    match xs, hx3 with
    | [x0, x1, x2], _ => exact ⟨x0, x1, x2, rfl⟩
  simp only [List.map_cons, List.map_nil, List.cons.injEq, and_true] at hx3
  obtain ⟨e0, e1, e2⟩ := hx3
  have f0 := hall 0 _ rfl
  have f1 := hall 1 _ rfl
  have f2 := hall 2 _ rfl
  change DataW.trod _ _ _ _ _ _ _ 44 ((cs.toList.drop 0).take (Tryd.prog.cellsOf 44)) = some x0 at f0
  change DataW.trod _ _ _ _ _ _ _ 44 ((cs.toList.drop 1).take (Tryd.prog.cellsOf 44)) = some x1 at f1
  change DataW.trod _ _ _ _ _ _ _ 3 ((cs.toList.drop 2).take (Tryd.prog.cellsOf 3)) = some x2 at f2
  rw [c52] at f0 f1
  rw [c3'] at f2
  refine ⟨?_, ?_, ?_⟩
  · obtain ⟨z, hz, hx', _⟩ := DataW.trod_int Tryd.underlying44 f0
    rw [hx'] at e0; cases e0
    exact cell_var gInf hvar (by rw [← Array.getElem?_toList]; exact at_of_take1 hz)
  · obtain ⟨z, hz, hx', _⟩ := DataW.trod_int Tryd.underlying44 f1
    rw [hx'] at e1; cases e1
    exact cell_var gInf hvar (by rw [← Array.getElem?_toList]; exact at_of_take1 hz)
  · obtain ⟨z, hz, hx', _⟩ := DataW.trod_int Tryd.underlying3 f2
    rw [hx'] at e2; cases e2
    exact cell_var gInf hvar (by rw [← Array.getElem?_toList]; exact at_of_take1 hz)
end Go.Proofs.YtnklnenjdffbaaaDoor
