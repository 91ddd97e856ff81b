/- prop.Get; trivetlaw07.long; rows of properties that the call owns. -/
import Derived.Test.YtdajmcgbmdnibaaGreatDoorG
import Derived.Test.YtdajmcgbmdnibaaGreatDoorReg
namespace Go.Proofs.YtdajmcgbmdnibaaGreatDoor
open Go.RowKit
set_option linter.unusedVariables false
set_option maxRecDepth 100000
attribute [local go_sem] run_store_float

def rowCells (l : List Pr) : List Value := l.flatMap Pr.cells
theorem cells_length (p : Pr) : p.cells.length = 5 := rfl
theorem rowCells_length : ∀ l : List Pr, (rowCells l).length = l.length * 5
  | [] => rfl
  | p :: l => by
    have := rowCells_length l
    simp only [rowCells, List.flatMap_cons, List.length_append, List.length_cons] at this ⊢
    rw [this]; simp; omega
theorem rowCells_app (a b : List Pr) : rowCells (a ++ b) = rowCells a ++ rowCells b := by simp [rowCells]
theorem rowCells_at : ∀ {l : List Pr} {j : Nat} {p : Pr}, l[j]? = some p → ∀ {i : Nat} {u : Value}, p.cells[i]? = some u → (rowCells l)[j * 5 + i]? = some u
  | [], j, p, h, _, _, _ => by simp at h
  | q :: l, 0, p, h, i, u, hi => by
    obtain rfl : q = p := by simpa using h
    have hlt : i < q.cells.length := by
      rcases Nat.lt_or_ge i q.cells.length with h | h
      · exact h
      · rw [List.getElem?_eq_none h] at hi; cases hi
    show (q.cells ++ rowCells l)[0 * 5 + i]? = some u
    rw [Nat.zero_mul, Nat.zero_add, List.getElem?_append_left hlt, hi]
  | q :: l, j + 1, p, h, i, u, hi => by
    have := rowCells_at (l := l) (j := j) (p := p) (by simpa using h) hi
    show (q.cells ++ rowCells l)[(j + 1) * 5 + i]? = some u
    rw [List.getElem?_append_right (by rw [cells_length]; omega), cells_length, show (j + 1) * 5 + i - 5 = j * 5 + i by omega]
    exact this
theorem rowCells_one (l : List Pr) : ∀ u ∈ rowCells l, u.oneCell' = true := by
  intro u hu
  simp only [rowCells, List.mem_flatMap] at hu
  obtain ⟨p, _, hp⟩ := hu
  simp only [Pr.cells, List.mem_cons, List.not_mem_nil, or_false] at hp
  rcases hp with rfl | rfl | rfl | rfl | rfl <;> rfl
/-- a row of the call's own is a list of properties -/
theorem props_own {w : World} {B : Nat} {v : Value} {l : List Pr} (h : w.ownsRow B 44 5 v l.length (rowCells l)) : ∃ A c, v = .slice A l.length c ∧ PropsAt w A l := by
  rcases h.2 with ⟨hv, h0⟩ | ⟨g, cap, cur, hv, hg, hh, r⟩
  · exact ⟨none, 0, by rw [hv, h0], fun h => by omega⟩
  · refine ⟨_, cap, hv, fun _ => ⟨g, 0, rfl, ?_, ?_⟩⟩
    · rcases Nat.lt_or_ge g w.heap.size with h | h
      · exact h
      · rw [Array.getElem?_eq_none h] at hh; cases hh
    · intro j p hp i u hu
      have := rowCells_at hp hu
      subst hv
      rw [Nat.zero_add, h.cellAt _ ?_, this]
      have hj : j < l.length := by
        rcases Nat.lt_or_ge j l.length with h | h
        · exact h
        · rw [List.getElem?_eq_none h] at hp; cases hp
      have hi : i < p.cells.length := by
        rcases Nat.lt_or_ge i p.cells.length with h | h
        · exact h
        · rw [List.getElem?_eq_none h] at hu; cases hu
      rw [cells_length] at hi
      omega

def hasName (s : ByteArray) (p : Pr) : Bool := p.name.toList == s.toList
def getB (l : List Pr) (s : ByteArray) : Option Pr := l.find? (hasName s)
abbrev V0 : V := ⟨0, 0, ⟨#[]⟩, 0⟩
def getV (l : List Pr) (s : ByteArray) : V := match getB l s with | some p => p.v | none => V0
theorem find_at {α : Type} {f : α → Bool} : ∀ {l : List α} {k : Nat} {p : α}, l[k]? = some p → f p = true → (∀ j q, j < k → l[j]? = some q → f q = false) → l.find? f = some p
  | [], k, p, h, _, _ => by simp at h
  | x :: l, 0, p, h, hp, _ => by
    obtain rfl : x = p := by simpa using h
    simp [List.find?, hp]
  | x :: l, k + 1, p, h, hp, hn => by
    have hx := hn 0 x (by omega) rfl
    rw [List.find?_cons, hx]
    exact find_at (by simpa using h) hp fun j q hj hq => hn (j + 1) q (by omega) (by simpa using hq)
theorem find_none {α : Type} {f : α → Bool} {l : List α} (h : ∀ j q, j < l.length → l[j]? = some q → f q = false) : l.find? f = none := by
  rw [List.find?_eq_none]
  intro x hx
  obtain ⟨j, hj, e⟩ := List.getElem_of_mem hx
  rw [h j x hj (by rw [List.getElem?_eq_getElem hj, e])]; simp
theorem get_any (A : Option Addr) (c : Nat) (l : List Pr) (s : ByteArray) (w : World) (hl : l.length ≤ 1000000000000) (hc : PropsAt w A l) :
    Calls Tryz.prog 21 #[.slice A l.length c, .string s] w fun e w' => e = .returned (.tuple #[(getV l s).val, .bool (getB l s).isSome]) ∧ Below w.heap.size w w' := by
  have HC := Lib.hid hc
  clear hc
  go_enter Tryz.func21, Tryz.ntmps21
  go_wp2_with fail
  generalize hW : w.alloc (.cells #[.int .i64 0, .int .i64 0, .string ⟨#[]⟩, .float .f64 0] 37) = W
  have HW := Lib.hid hW
  clear hW
  go_loopw [10] (fun i wr => ∃ k : Nat, k ≤ l.length ∧ i = .int .i64 k ∧ Hid (Below (w.heap.size + 1) W wr) ∧ Hid (∀ j q, j < k → l[j]? = some q → hasName s q = false)) (fun i wr => l.length - (intOf i).toNat)
  case atStart => exact ⟨0, Nat.zero_le _, rfl, Below.refl _ _, fun j q hj => by omega⟩
  case round =>
    obtain ⟨k, hk, rfl, hb, hno⟩ := hrel
    have hzW : W.heap.size = w.heap.size + 1 := by rw [← HW.out]; simp
    have hz := hb.out.size
    have hBW : Hid (Below w.heap.size w wr) := ((by rw [← HW.out]; exact (Below.refl _ _).alloc (Nat.le_refl _) _ : Below w.heap.size w W)).trans (hb.out.mono (by omega))
    have hc0 : wr.cell? ⟨w.heap.size, 0, none⟩ = some (.int .i64 0) := (hb.out.cell (by simp)).trans (by rw [← HW.out]; go_simp)
    have hc1 : wr.cell? ⟨w.heap.size, 1, none⟩ = some (.int .i64 0) := (hb.out.cell (by simp)).trans (by rw [← HW.out]; go_simp)
    have hc2 : wr.cell? ⟨w.heap.size, 2, none⟩ = some (.string ⟨#[]⟩) := (hb.out.cell (by simp)).trans (by rw [← HW.out]; go_simp)
    have hc3 : wr.cell? ⟨w.heap.size, 3, none⟩ = some (.float .f64 0) := (hb.out.cell (by simp)).trans (by rw [← HW.out]; go_simp)
    have hfz : ∀ i, wr.frozen? ⟨w.heap.size, i, none⟩ = false := fun i => (hb.out.frozen (by simp)).trans (by rw [← HW.out]; go_simp)
    by_cases hlt : k < l.length
    · obtain ⟨p, hp⟩ : ∃ p, l[k]? = some p := ⟨_, List.getElem?_eq_getElem hlt⟩
      obtain ⟨b, o, rfl, hbl, hcell⟩ := (HC.out.below hBW.out) (by omega)
      have hck := hcell k p hp
      clear hcell
      have HP := Lib.hid hp
      clear hp
      have d0 := hck 0 _ rfl
      have d1 := hck 1 _ rfl
      have d2 := hck 2 _ rfl
      have d3 := hck 3 _ rfl
      have d4 := hck 4 _ rfl
      rw [Nat.add_zero] at d0
      clear hck
      by_cases hn : (p.name.toList == s.toList) = true
      · have hlz : w.heap.size < wr.heap.size := by omega
        have a0 : ∀ X, (wr.alloc X).cell? ⟨w.heap.size, 0, none⟩ = some (.int .i64 0) := fun X => (World.cell?_of_block (Below.heap_alloc wr X _ hlz)).trans hc0
        have a1 : ∀ X, (wr.alloc X).cell? ⟨w.heap.size, 1, none⟩ = some (.int .i64 0) := fun X => (World.cell?_of_block (Below.heap_alloc wr X _ hlz)).trans hc1
        have a2 : ∀ X, (wr.alloc X).cell? ⟨w.heap.size, 2, none⟩ = some (.string ⟨#[]⟩) := fun X => (World.cell?_of_block (Below.heap_alloc wr X _ hlz)).trans hc2
        have a3 : ∀ X, (wr.alloc X).cell? ⟨w.heap.size, 3, none⟩ = some (.float .f64 0) := fun X => (World.cell?_of_block (Below.heap_alloc wr X _ hlz)).trans hc3
        have af : ∀ X i, (wr.alloc X).frozen? ⟨w.heap.size, i, none⟩ = false := fun X i => (World.frozen?_of_block (Below.heap_alloc wr X _ hlz)).trans (hfz i)
        have HFN : Hid (getB l s = some p) := find_at HP.out hn hno.out
        go_wp2_with fail
        refine bodyPost_ret_by (v := .tuple #[p.v.val, .bool true]) ?_ rfl ?_
        · simp only [results, Tryz.f21]
          go_simp
        rw [show getV l s = p.v by unfold getV; rw [HFN.out], HFN.out]
        exact ⟨rfl, ((((hBW.out.setCell (Nat.le_refl _) _).setCell (Nat.le_refl _) _).setCell (Nat.le_refl _) _).setCell (Nat.le_refl _) _).alloc (by simp; omega) _⟩
      · have hn : (p.name.toList == s.toList) = false := by simpa using hn
        go_wp2_with fail
        go_roundw
        case rel => exact ⟨k + 1, by omega, by go_num, hb.out.alloc (by omega) _, fun j q hj hq => by
          by_cases hjk : j = k
          · subst hjk
            obtain rfl : p = q := by rw [HP.out] at hq; simpa using hq
            exact hn
          · exact hno.out j q (by omega) hq⟩
        case measure => simp [intOf]; omega
    · obtain rfl : k = l.length := by omega
      have hnone : getB l s = none := find_none hno.out
      have hv0 : getV l s = V0 := by unfold getV; rw [hnone]
      go_wp2_with fail
      refine bodyPost_ret_by (v := .tuple #[V0.val, .bool false]) ?_ rfl ?_
      · simp only [results, Tryz.f21]
        go_simp
      rw [hnone, hv0]
      exact ⟨rfl, (((hBW.out.setCell (Nat.le_refl _) _).setCell (Nat.le_refl _) _).setCell (Nat.le_refl _) _).setCell (Nat.le_refl _) _⟩
theorem place1_any (p : Pr) (s : ByteArray) (w : World) :
    Calls Tryz.prog 71 #[p.val, .string s] w fun e w' => e = .returned (.int .i64 (Lib.compareBytes p.name.data.toList s.data.toList)) ∧ Below w.heap.size w w' := by
  go_enter Tryz.func71, Tryz.ntmps71
  go_wp2_with fail
  refine (cmpS_any _ _ _).mono ?_
  rintro e w1 ⟨rfl, rfl⟩
  go_wp2_with fail
  go_ret
  exact ⟨rfl, (Below.refl _ _).alloc (Nat.le_refl _) _⟩
end Go.Proofs.YtdajmcgbmdnibaaGreatDoor
