/- slices.Insert over properties, one at a time, into a row that the call owns. -/
import Derived.Test.YtdajmcgbmdnibaaGreatDoorN
import Derived.Lib.Overlaps
import Derived.Lib.AppendZerosOnto
import Derived.Lib.AppendZeros
import Derived.Laws.CopyRow
import Derived.Shelf.Spec.SlicesInsert
namespace Go.Proofs.YtdajmcgbmdnibaaGreatDoor
open Go.RowKit
set_option linter.unusedVariables false
set_option maxRecDepth 100000
attribute [local go_sem] run_store_float

/-- copy(dst, src): all is read before anything is written -/
theorem run_copy5 (w : World) (ty : TypeId) (g o dLen dCap : Nat) (a : Addr) (sLen sCap : Nat) (cur : Array Value) (cs : List Value)
    (hg : w.heap[g]? = some (.cells cur 44 (0, 0))) (hn : cs.length = Nat.min sLen dLen * 5)
    (hsrc : ∀ j v, cs[j]? = some v → w.cell? (a.add j) = some v) (hfit : o + cs.length ≤ cur.size) (h1 : ∀ v ∈ cs, v.oneCell' = true) :
    (Builtin.copy_ #[42, 42] ty #[.slice (some ⟨g, o, none⟩) dLen dCap, .slice (some a) sLen sCap]).run Tryz.prog w =
      .ok (goInt (Nat.min sLen dLen)) (w.setRow g (cur.toList.take o ++ cs ++ cur.toList.drop (o + cs.length)).toArray) := by
  have hl := run_loadCells_list (P := Tryz.prog) w a cs hsrc
  have hst := run_storeCells_at Tryz.prog g o 44 cs 0 cur w hg (by simpa using hfit) h1
  obtain ⟨i0, hi, hz0, hz1, hz2⟩ := info_parts prop_info
  rw [hn] at hl
  simp [Builtin.copy_, run_underlying Tryz.underlying42, Builtin.lenOf, Builtin.firstCells, sizeOf, typeInfo, hi, hz1, hl, hst]
theorem min_one (n : Nat) : Nat.min 1 (n + 1) = 1 := by simp only [Nat.min_def]; split <;> omega
/-- what is put in at a place -/
def insB (l : List Pr) (i : Nat) (p : Pr) : List Pr := l.take i ++ p :: l.drop i
theorem insB_end (l : List Pr) (p : Pr) : insB l l.length p = l ++ [p] := by simp [insB]
theorem insB_length (l : List Pr) (i : Nat) (p : Pr) (h : i ≤ l.length) : (insB l i p).length = l.length + 1 := by simp [insB]; omega
def OneAt (w : World) (vb : Nat) (p : Pr) : Prop := w.heap[vb]? = some (.cells p.cells.toArray 44 (0, 0))
theorem OneAt.lt {w : World} {vb : Nat} {p : Pr} (h : OneAt w vb p) : vb < w.heap.size := by
  rcases Nat.lt_or_ge vb w.heap.size with h' | h'
  · exact h'
  · unfold OneAt at h; rw [Array.getElem?_eq_none h'] at h; cases h
theorem OneAt.cells {w : World} {vb : Nat} {p : Pr} (h : OneAt w vb p) : ∀ j u, (rowCells [p])[j]? = some u → w.cell? ((⟨vb, 0, none⟩ : Addr).add j) = some u := by
  intro j u hu
  rw [show (⟨vb, 0, none⟩ : Addr).add j = ⟨vb, j, none⟩ by unfold Addr.add; split <;> simp_all]
  rw [cell_of_row w vb j _ 44 (0, 0) h]
  have : rowCells [p] = p.cells := by simp [rowCells]
  rw [this] at hu
  simpa using hu
theorem insert_end (v : Value) (l : List Pr) (vb : Nat) (p : Pr) (B : Nat) (w : World) (hl : l.length ≤ 1000) (hown : w.ownsRow B 44 5 v l.length (rowCells l)) (hB : B ≤ w.heap.size) (hv : OneAt w vb p) :
    Calls Tryz.prog 48 #[v, .int .i64 (l.length : Int), .slice (some ⟨vb, 0, none⟩) 1 1] w fun e w' => ∃ v', e = .returned v' ∧ w'.ownsRow B 44 5 v' (l.length + 1) (rowCells (l ++ [p])) ∧ Below B w w' := by
  have HO := Lib.hid hown
  have HV := Lib.hid hv
  clear hv
  rcases hown.2 with ⟨rfl, h0⟩ | ⟨g, cap, cur, rfl, hg, hh, hnc, hcm, r⟩
  · have : l = [] := List.eq_nil_of_length_eq_zero h0
    subst this
    clear hown h0
    go_enter Tryz.func48, Tryz.ntmps48
    go_wp2_with (at_builtin; refine wpList_appP rfl _ _ rfl B _ [] rfl HO.out ⟨vb, 0, none⟩ 1 [p] rfl HV.out.cells (by simp) hB ?_)
    intro v' w' h1 h2 h3 h4
    go_wp2_with fail
    go_ret
    exact ⟨v', rfl, h1, h2⟩
  · unfold maxLen at hcm
    clear hown hh r hg
    go_enter Tryz.func48, Tryz.ntmps48
    go_wp2_with (at_builtin; refine wpList_appP rfl _ _ rfl B _ l rfl HO.out ⟨vb, 0, none⟩ 1 [p] rfl HV.out.cells (by simp; omega) hB ?_)
    all_goals
      intro v' w' h1 h2 h3 h4
      go_wp2_with fail
      go_ret
      exact ⟨v', rfl, h1, h2⟩
theorem rowCells_take (l : List Pr) (i : Nat) (h : i ≤ l.length) : rowCells (l.take i) = (rowCells l).take (i * 5) := by
  have e := rowCells_app (l.take i) (l.drop i)
  rw [List.take_append_drop] at e
  rw [e, List.take_left' (by rw [rowCells_length, List.length_take]; omega)]
theorem rowCells_drop (l : List Pr) (i : Nat) (h : i ≤ l.length) : rowCells (l.drop i) = (rowCells l).drop (i * 5) := by
  have e := rowCells_app (l.take i) (l.drop i)
  rw [List.take_append_drop] at e
  rw [e, List.drop_left' (by rw [rowCells_length, List.length_take]; omega)]
theorem rowCells_ins (l : List Pr) (i : Nat) (p : Pr) : rowCells (insB l i p) = rowCells (l.take i) ++ p.cells ++ rowCells (l.drop i) := by
  unfold insB
  rw [rowCells_app]; simp [rowCells]
theorem list_ins {α : Type} (X D c : List α) (a : Nat) (h : a + 5 + D.length ≤ X.length) (hc : c.length = 5) :
    ((X.take (a + 5) ++ D ++ X.drop (a + 5 + D.length)).take a ++ c ++ (X.take (a + 5) ++ D ++ X.drop (a + 5 + D.length)).drop (a + 5)).take (a + 5 + D.length) = X.take a ++ c ++ D := by
  have h1 : (X.take (a + 5)).length = a + 5 := by rw [List.length_take]; omega
  have t1 : (X.take (a + 5) ++ D ++ X.drop (a + 5 + D.length)).take a = X.take a := by
    rw [List.append_assoc, List.take_append_of_le_length (by omega), List.take_take, Nat.min_eq_left (by omega)]
  have t2 : (X.take (a + 5) ++ D ++ X.drop (a + 5 + D.length)).drop (a + 5) = D ++ X.drop (a + 5 + D.length) := by
    rw [List.append_assoc]; exact List.drop_left' h1
  rw [t1, t2, ← List.append_assoc]
  exact List.take_left' (by simp [hc]; omega)
theorem list_ins2 {α : Type} (X D c : List α) (a : Nat) (h : a + 5 + D.length ≤ X.length) (hc : c.length = 5) :
    ((X.take a ++ c ++ X.drop (a + 5)).take (a + 5) ++ D ++ (X.take a ++ c ++ X.drop (a + 5)).drop (a + 5 + D.length)).take (a + 5 + D.length) = X.take a ++ c ++ D := by
  have h1 : (X.take a ++ c).length = a + 5 := by rw [List.length_append, List.length_take]; omega
  rw [List.take_left' h1]
  exact List.take_left' (by rw [List.length_append, h1])
theorem cur_at {cur : Array Value} {R : List Value} {n j : Nat} (h : cur.toList.take n = R) (hj : j < n) : cur[j]? = R[j]? := by
  rw [← h, List.getElem?_take, if_pos hj]; simp
theorem setRow_heap5 (w : World) (g : Nat) (cur new : Array Value) (h : w.heap[g]? = some (.cells cur 44 (0, 0))) : (w.setRow g new).heap[g]? = some (.cells new 44 (0, 0)) := setRow_heap w g cur new 44 _ h
theorem setRow_below {B g : Nat} {w : World} (new : Array Value) (h : B ≤ g) : Below B w (w.setRow g new) :=
  ⟨rfl, rfl, rfl, by simp [World.setRow], fun k hk => by
    unfold World.setRow
    simp only [Array.getElem?_modify]
    rw [if_neg (by omega)]⟩
theorem addr_add (g o j : Nat) : (⟨g, o, none⟩ : Addr).add j = ⟨g, o + j, none⟩ := by unfold Addr.add; split <;> simp_all
theorem run_ovl (w : World) (g vb o n c : Nat) (p : Pr) (cur : Array Value) (hh : w.heap[g]? = some (.cells cur 44 (0, 0))) (hv : OneAt w vb p) (hne : vb ≠ g) (hc : cur.size ≠ 0) :
    (callFunc 72 #[.slice (some ⟨vb, 0, none⟩) 1 1, .slice (some ⟨g, o, none⟩) n c]).run Tryz.prog w = .ok (.value (.bool false)) w := by
  obtain ⟨i0, hi, hz0, hz1, hz2⟩ := info_parts prop_info
  rw [run_callFunc_extern (e := Extern.SlicesOverlaps.overlaps #[42, 42] #[4]) Tryz.func72 (by kernel_rfl) (by kernel_rfl) (by kernel_rfl) (by kernel_rfl)]
  have := Lib.run_overlaps_apart (P := Tryz.prog) w 42 4 44 Tryz.underlying42 5 (fun w => by simp [sizeOf, typeInfo, hi, hz1]) ⟨vb, 0, none⟩ ⟨g, o, none⟩ 1 1 n c hne 44 44 5 cur.size (by unfold World.shape?; rw [hv]; rfl) (by unfold World.shape?; rw [hh]) hc
    (by unfold World.frozen?; rw [hv]; rfl) (by unfold World.frozen?; rw [hv]; rfl)
  rw [this]; rfl
set_option maxHeartbeats 2000000 in
theorem insert_room (g cap : Nat) (cur : Array Value) (l : List Pr) (i vb : Nat) (p : Pr) (B : Nat) (w : World) (hl : l.length ≤ 1000) (hi : i < l.length) (hcap : l.length + 1 ≤ cap) (hcm : cap ≤ maxLen) (hcs : cur.size = cap * 5)
    (hh : w.heap[g]? = some (.cells cur 44 (0, 0))) (htk : cur.toList.take (l.length * 5) = rowCells l) (hBg : B ≤ g) (hB : B ≤ w.heap.size) (hv : OneAt w vb p) (hne : vb ≠ g) :
    Calls Tryz.prog 48 #[.slice (some ⟨g, 0, none⟩) l.length cap, .int .i64 (i : Int), .slice (some ⟨vb, 0, none⟩) 1 1] w fun e w' => ∃ v', e = .returned v' ∧ w'.ownsRow B 44 5 v' (l.length + 1) (rowCells (insB l i p)) ∧ Below B w w' := by
  have hcm' := hcm
  unfold maxLen at hcm'
  have h1 : ¬ ((i : Int) = (l.length : Int)) := by omega
  have h2 : ¬ ((cap : Int) < (l.length : Int) + 1) := by omega
  have hov := fun o n c => run_ovl w g vb o n c p cur hh hv hne (by omega)
  have hdl : (rowCells (l.drop i)).length = (l.length - i) * 5 := by rw [rowCells_length, List.length_drop]
  obtain ⟨cur1, hc1⟩ : ∃ c1, c1 = (cur.toList.take ((i + 1) * 5) ++ rowCells (l.drop i) ++ cur.toList.drop ((i + 1) * 5 + (rowCells (l.drop i)).length)).toArray := ⟨_, rfl⟩
  obtain ⟨cur2, hc2⟩ : ∃ c2, c2 = (cur1.toList.take (i * 5) ++ p.cells ++ cur1.toList.drop (i * 5 + p.cells.length)).toArray := ⟨_, rfl⟩
  have hs1 : cur1.size = cap * 5 := by
    rw [hc1]; simp only [List.size_toArray, List.length_append, List.length_take, List.length_drop, Array.length_toList, hdl]; omega
  have hs2 : cur2.size = cap * 5 := by
    rw [hc2]; simp only [List.size_toArray, List.length_append, List.length_take, List.length_drop, Array.length_toList, cells_length]; omega
  have hC1 : ∀ W : World, W.heap = w.heap → ∀ ty, (Builtin.copy_ #[42, 42] ty #[.slice (some ⟨g, (i + 1) * 5, none⟩) (l.length - i) (cap - (i + 1)), .slice (some ⟨g, i * 5, none⟩) (l.length + 1 - i) (cap - i)]).run Tryz.prog W = .ok (goInt (l.length - i : Nat)) (W.setRow g cur1) := by
    intro W hW ty
    have hm : Nat.min (l.length + 1 - i) (l.length - i) = l.length - i := Nat.min_eq_right (by omega)
    have hhW : W.heap[g]? = some (.cells cur 44 (0, 0)) := by rw [hW]; exact hh
    have := run_copy5 W ty g ((i + 1) * 5) (l.length - i) (cap - (i + 1)) ⟨g, i * 5, none⟩ (l.length + 1 - i) (cap - i) cur (rowCells (l.drop i)) hhW (by rw [hm, hdl]) (fun j u hj => by
      rw [addr_add, cell_of_row W g _ cur 44 (0, 0) hhW]
      have hjl : j < (l.length - i) * 5 := by
        rcases Nat.lt_or_ge j ((l.length - i) * 5) with h | h
        · exact h
        · rw [← hdl] at h; rw [List.getElem?_eq_none h] at hj; cases hj
      rw [cur_at htk (by omega), ← hj, rowCells_drop l i (by omega), List.getElem?_drop]) (by rw [hdl]; omega) (rowCells_one _)
    rw [hm] at this
    rw [this, hc1]
  have hC2 : ∀ W : World, W.heap = (w.setRow g cur1).heap → ∀ ty, (Builtin.copy_ #[42, 42] ty #[.slice (some ⟨g, i * 5, none⟩) (l.length + 1 - i) (cap - i), .slice (some ⟨vb, 0, none⟩) 1 1]).run Tryz.prog W = .ok (goInt (1 : Nat)) (W.setRow g cur2) := by
    intro W hW ty
    have hm : Nat.min 1 (l.length + 1 - i) = 1 := Nat.min_eq_left (by omega)
    have hhW : W.heap[g]? = some (.cells cur1 44 (0, 0)) := by rw [hW]; exact setRow_heap5 w g cur cur1 hh
    have hvW : OneAt W vb p := by
      unfold OneAt
      rw [hW]
      unfold World.setRow
      simp only [Array.getElem?_modify]
      rw [if_neg (fun h => hne h.symm)]
      exact hv
    have := run_copy5 W ty g (i * 5) (l.length + 1 - i) (cap - i) ⟨vb, 0, none⟩ 1 1 cur1 p.cells hhW (by rw [hm, cells_length]) (fun j u hj => by
      refine hvW.cells j u ?_
      simpa [rowCells] using hj) (by rw [cells_length]; omega) (by
        have := rowCells_one [p]
        simpa [rowCells] using this)
    rw [hm] at this
    rw [this, hc2]
  have HF : Hid (cur2.toList.take ((l.length + 1) * 5) = rowCells (insB l i p)) := by
    rw [hc2, hc1, rowCells_ins, rowCells_take l i (by omega), ← htk]
    have := list_ins cur.toList (rowCells (l.drop i)) p.cells (i * 5) (by have hX : cur.toList.length = cur.size := Array.length_toList; rw [hdl]; omega) rfl
    rw [hdl, show i * 5 + 5 + (l.length - i) * 5 = (l.length + 1) * 5 by omega] at this
    simp only [cells_length, List.toList_toArray]
    rw [hdl, show (i + 1) * 5 = i * 5 + 5 by omega, show i * 5 + 5 + (l.length - i) * 5 = (l.length + 1) * 5 by omega, this, List.take_take, Nat.min_eq_left (by omega)]
    exact rfl
  have HH := Lib.hid hh
  have HS2 := Lib.hid hs2
  have HCM := Lib.hid hcm
  have HBG := Lib.hid hBg
  have mixed : Tryz.prog.follows Departure.mixedOrders = true := by kernel_rfl
  have hw1 : IntKind.i64.wrap ((i : Int) + 1) = (i : Int) + 1 := by rw [IntKind.wrap_i64]; omega
  have hb1 : (0 : Int) ≤ (i : Int) + 1 := by omega
  have hb3 : (i : Int) + 1 ≤ (l.length : Int) + 1 := by omega
  have hb4 : (i : Int) ≤ (l.length : Int) + 1 := by omega
  have htn : ((i : Int) + 1).toNat = i + 1 := by omega
  have hci1 : ¬ (cap = i + 1) := by omega
  have hci : ¬ (cap = i) := by omega
  have hC1d := hC1 w.drew rfl 3
  have hC2d := hC2 (w.drew.setRow g cur1) rfl 3
  clear hh htk hv hdl hc1 hc2 hs1 hs2 hcs hcm hBg hne hC1 hC2
  go_enter Tryz.func48, Tryz.ntmps48
  go_wp2_with fail
  go_region_o
  go_wp2_with fail
  go_ret
  have e1 := setRow_heap5 w.drew g cur cur1 HH.out
  have e2 := setRow_heap5 (w.drew.setRow g cur1) g cur1 cur2 e1
  refine ⟨_, rfl, ⟨by rw [rowCells_length, insB_length _ _ _ (by omega)], .inr ⟨g, cap, cur2, rfl, HBG.out, e2, by omega, HCM.out, HS2.out, HF.out⟩⟩, ?_⟩
  exact (((Below.refl _ _).drew).trans (setRow_below cur1 HBG.out)).trans (setRow_below cur2 HBG.out)
set_option maxHeartbeats 2000000 in
theorem insert_grow (g cap : Nat) (cur : Array Value) (l : List Pr) (i vb : Nat) (p : Pr) (B : Nat) (w : World) (hl : l.length ≤ 1000) (hi : i < l.length) (hcap : cap < l.length + 1) (hcn : l.length ≤ cap) (hcs : cur.size = cap * 5)
    (hh : w.heap[g]? = some (.cells cur 44 (0, 0))) (htk : cur.toList.take (l.length * 5) = rowCells l) (hBg : B ≤ g) (hB : B ≤ w.heap.size) (hv : OneAt w vb p) (hne : vb ≠ g) :
    Calls Tryz.prog 48 #[.slice (some ⟨g, 0, none⟩) l.length cap, .int .i64 (i : Int), .slice (some ⟨vb, 0, none⟩) 1 1] w fun e w' => ∃ v', e = .returned v' ∧ w'.ownsRow B 44 5 v' (l.length + 1) (rowCells (insB l i p)) ∧ Below B w w' := by
  obtain ⟨i0, hi0, hz0, hzs, hzb⟩ := info_parts prop_info
  have h1 : ¬ ((i : Int) = (l.length : Int)) := by omega
  have h2 : ((cap : Int) < (l.length : Int) + 1) := by omega
  have hdl : (rowCells (l.drop i)).length = (l.length - i) * 5 := by rw [rowCells_length, List.length_drop]
  have htl : (rowCells (l.take i)).length = i * 5 := by rw [rowCells_length, List.length_take, Nat.min_eq_left (by omega)]
  have hgw : g < w.heap.size := by
    rcases Nat.lt_or_ge g w.heap.size with h | h
    · exact h
    · rw [Array.getElem?_eq_none h] at hh; cases hh
  have hvw := hv.lt
  obtain ⟨G, hG⟩ : ∃ G, G = grownCap w (l.length + 1) cap 44 := ⟨_, rfl⟩
  have hGn : l.length + 1 ≤ G := by rw [hG]; exact grownCap_ge w _ _ _
  have hGm : G ≤ maxLen := by rw [hG]; exact grownCap_le_maxLen w (l.length + 1) cap 44 (by unfold maxLen; omega)
  have hG63 := hGm
  unfold maxLen at hG63
  obtain ⟨Z, hZ⟩ : ∃ Z : Value, Z = .agg #[.string ⟨#[]⟩, .int .i64 0, .int .i64 0, .string ⟨#[]⟩, .float .f64 0] := ⟨_, rfl⟩
  have hZc : Z.cells.size = 5 := by rw [hZ]; rfl
  obtain ⟨ROW, hROW⟩ : ∃ ROW : Array Value, ROW = (rowCells (l.take i)).toArray ++ Builtin.zeroCells Z.cells (l.length + 1 - i) ++ Builtin.zeroCells Z.cells (G - (l.length + 1)) := ⟨_, rfl⟩
  have hRs : ROW.size = G * 5 := by
    rw [hROW]
    simp only [Array.size_append, List.size_toArray, htl, size_zeroCells, hZc]
    omega
  have hRt : ROW.toList.take (i * 5) = rowCells (l.take i) := by
    rw [hROW, Array.toList_append, Array.toList_append, List.append_assoc]
    exact List.take_left' htl
  have hold : (Builtin.firstCells i0.size i (.slice (some ⟨g, 0, none⟩) i cap)).run Tryz.prog w.drew = .ok (rowCells (l.take i)).toArray w.drew := by
    rw [hzs]
    exact run_firstCells_some w.drew 5 i ⟨g, 0, none⟩ i cap (rowCells (l.take i)) htl (fun j u hj => by
      have hjl : j < i * 5 := by
        rcases Nat.lt_or_ge j (i * 5) with h | h
        · exact h
        · rw [← htl] at h; rw [List.getElem?_eq_none h] at hj; cases hj
      rw [addr_add, cell_of_row w.drew g _ cur 44 (0, 0) hh, Nat.zero_add, cur_at htk (by omega), ← hj, rowCells_take l i (by omega), List.getElem?_take, if_pos hjl])
  have hkk : (l.length : Int) + 1 - (i : Int) = ((l.length + 1 - i : Nat) : Int) := by omega
  have hrz : ∀ ty, (Builtin.append_ #[42, 3] ty #[.slice (some ⟨g, 0, none⟩) i cap, .int .i64 ((l.length : Int) + 1 - (i : Int))]).run Tryz.prog w = .ok (.slice (some ⟨w.heap.size, 0, none⟩) (l.length + 1) G) (w.drew.alloc (.cells ROW 44)) := by
    intro ty
    have h := Lib.run_append_grow_zeros w 42 3 ty 44 i0 Z .i64 .i64 Tryz.underlying42 Tryz.underlying3 hi0 (by rw [hz0, hZ]) (some ⟨g, 0, none⟩) i cap (rowCells (l.take i)) hold (l.length + 1 - i) (by omega) (by omega) (by omega) (by omega) (by rw [hzb]; omega) (by rw [hzb, show i + (l.length + 1 - i) = l.length + 1 by omega]; exact growslice_fits (by omega) (by omega))
    rw [show i + (l.length + 1 - i) = l.length + 1 by omega, ← hG, ← hROW] at h
    rw [hkk]
    exact h
  obtain ⟨N, hN⟩ : ∃ N, N = w.heap.size := ⟨_, rfl⟩
  obtain ⟨W1, hW1⟩ : ∃ W1, W1 = w.drew.alloc (.cells ROW 44) := ⟨_, rfl⟩
  rw [← hN, ← hW1] at hrz
  obtain ⟨cur1, hc1⟩ : ∃ c1, c1 = (ROW.toList.take (i * 5) ++ p.cells ++ ROW.toList.drop (i * 5 + p.cells.length)).toArray := ⟨_, rfl⟩
  obtain ⟨cur2, hc2⟩ : ∃ c2, c2 = (cur1.toList.take ((i + 1) * 5) ++ rowCells (l.drop i) ++ cur1.toList.drop ((i + 1) * 5 + (rowCells (l.drop i)).length)).toArray := ⟨_, rfl⟩
  have hs1 : cur1.size = G * 5 := by
    rw [hc1]; simp only [List.size_toArray, List.length_append, List.length_take, List.length_drop, Array.length_toList, cells_length]; omega
  have hs2 : cur2.size = G * 5 := by
    rw [hc2]; simp only [List.size_toArray, List.length_append, List.length_take, List.length_drop, Array.length_toList, hdl]; omega
  have hNrow : W1.heap[N]? = some (.cells ROW 44 (0, 0)) := by rw [hW1, hN]; exact heap_alloc_new w.drew _
  have hb1 : Below w.heap.size w W1 := by rw [hW1]; exact ((Below.refl _ _).drew).alloc (Nat.le_refl _) _
  have hvN : ∀ W : World, Below w.heap.size w W → OneAt W vb p := fun W h => (h.block vb hvw).trans hv
  have hCA : ∀ W : World, W.heap = W1.heap → ∀ ty, (Builtin.copy_ #[42, 42] ty #[.slice (some ⟨N, i * 5, none⟩) (l.length + 1 - i) (G - i), .slice (some ⟨vb, 0, none⟩) 1 1]).run Tryz.prog W = .ok (goInt (1 : Nat)) (W.setRow N cur1) := by
    intro W hW ty
    have hm : Nat.min 1 (l.length + 1 - i) = 1 := Nat.min_eq_left (by omega)
    have hhW : W.heap[N]? = some (.cells ROW 44 (0, 0)) := by rw [hW]; exact hNrow
    have hvW : OneAt W vb p := by unfold OneAt; rw [hW]; exact hvN W1 hb1
    have := run_copy5 W ty N (i * 5) (l.length + 1 - i) (G - i) ⟨vb, 0, none⟩ 1 1 ROW p.cells hhW (by rw [hm, cells_length]) (fun j u hj => by
      refine hvW.cells j u ?_
      simpa [rowCells] using hj) (by rw [cells_length]; omega) (by
        have := rowCells_one [p]
        simpa [rowCells] using this)
    rw [hm] at this
    rw [this, hc1]
  have hCB : ∀ W : World, W.heap = (W1.setRow N cur1).heap → ∀ ty, (Builtin.copy_ #[42, 42] ty #[.slice (some ⟨N, (i + 1) * 5, none⟩) (l.length - i) (G - (i + 1)), .slice (some ⟨g, i * 5, none⟩) (l.length - i) (cap - i)]).run Tryz.prog W = .ok (goInt (l.length - i : Nat)) (W.setRow N cur2) := by
    intro W hW ty
    have hm : Nat.min (l.length - i) (l.length - i) = l.length - i := Nat.min_self _
    have hhW : W.heap[N]? = some (.cells cur1 44 (0, 0)) := by rw [hW]; exact setRow_heap5 W1 N ROW cur1 hNrow
    have hgW : W.heap[g]? = some (.cells cur 44 (0, 0)) := by
      rw [hW, (setRow_below (B := w.heap.size) cur1 (by omega)).block g hgw, hb1.block g hgw]; exact hh
    have := run_copy5 W ty N ((i + 1) * 5) (l.length - i) (G - (i + 1)) ⟨g, i * 5, none⟩ (l.length - i) (cap - i) cur1 (rowCells (l.drop i)) hhW (by rw [hm, hdl]) (fun j u hj => by
      rw [addr_add, cell_of_row W g _ cur 44 (0, 0) hgW]
      have hjl : j < (l.length - i) * 5 := by
        rcases Nat.lt_or_ge j ((l.length - i) * 5) with h | h
        · exact h
        · rw [← hdl] at h; rw [List.getElem?_eq_none h] at hj; cases hj
      rw [cur_at htk (by omega), ← hj, rowCells_drop l i (by omega), List.getElem?_drop]) (by rw [hdl]; omega) (rowCells_one _)
    rw [hm] at this
    rw [this, hc2]
  have HF : Hid (cur2.toList.take ((l.length + 1) * 5) = rowCells (insB l i p)) := by
    rw [hc2, hc1, rowCells_ins, ← hRt]
    have := list_ins2 ROW.toList (rowCells (l.drop i)) p.cells (i * 5) (by have hX : ROW.toList.length = ROW.size := Array.length_toList; rw [hdl]; omega) rfl
    rw [hdl, show i * 5 + 5 + (l.length - i) * 5 = (l.length + 1) * 5 by omega] at this
    simp only [cells_length, List.toList_toArray]
    rw [hdl, show (i + 1) * 5 = i * 5 + 5 by omega, show i * 5 + 5 + (l.length - i) * 5 = (l.length + 1) * 5 by omega, this]
    exact rfl
  have HS2 := Lib.hid hs2
  have HNR := Lib.hid hNrow
  have HB1 := Lib.hid hb1
  have HGM := Lib.hid hGm
  have mixed : Tryz.prog.follows Departure.mixedOrders = true := by kernel_rfl
  have hw1 : IntKind.i64.wrap ((i : Int) + 1) = (i : Int) + 1 := by rw [IntKind.wrap_i64]; omega
  have hb1 : (0 : Int) ≤ (i : Int) + 1 := by omega
  have hb3 : (i : Int) + 1 ≤ (l.length : Int) + 1 := by omega
  have hb4 : (i : Int) ≤ (l.length : Int) + 1 := by omega
  have htn : ((i : Int) + 1).toNat = i + 1 := by omega
  have hGi1 : ¬ (G = i + 1) := by omega
  have hGi : ¬ (G = i) := by omega
  have hci : ¬ (cap = i) := by omega
  have HNB : Hid (B ≤ N) := by show B ≤ N; omega
  clear hh htk hv hdl hc1 hc2 hs1 hs2 hcs hne hG hROW hRs hRt hold hkk hZ hZc hN hW1 hvN htl hGm
  have hCA1 := hCA W1 rfl 3
  go_enter Tryz.func48, Tryz.ntmps48
  go_wp2_with (at_builtin; refine Lib.wpList_append_run _ rfl _ _ _ _ rfl _ _ rfl rfl _ _ (hrz _) ?_)
  obtain ⟨W2, hW2⟩ : ∃ W2, W2 = W1.setRow N cur1 := ⟨_, rfl⟩
  rw [← hW2]
  have hCB2 := hCB W2.drew (by rw [hW2]; rfl) 3
  have HW2 := Lib.hid hW2
  clear hW2 hCB hCA hCA1 hrz
  go_region_o
  go_wp2_with fail
  go_ret
  have e1 : W2.drew.heap[N]? = some (.cells cur1 44 (0, 0)) := by rw [HW2.out]; exact setRow_heap5 W1 N ROW cur1 HNR.out
  have e2 := setRow_heap5 W2.drew N cur1 cur2 e1
  refine ⟨_, rfl, ⟨by rw [rowCells_length, insB_length _ _ _ (by omega)], .inr ⟨N, G, cur2, rfl, HNB.out, e2, by omega, HGM.out, HS2.out, HF.out⟩⟩, ?_⟩
  refine Below.trans (b := W2) ?_ (((Below.refl _ _).drew).trans (setRow_below cur2 HNB.out))
  rw [HW2.out]
  exact (HB1.out.mono hB).trans (setRow_below cur1 HNB.out)
end Go.Proofs.YtdajmcgbmdnibaaGreatDoor
