/- slices.Clone, slices.BinarySearchFunc over properties; prop.place; trivetlaw07.long. -/
import Derived.Test.YtdajmcgbmdnibaaGreatDoorL
import Derived.Lib.SliceRun
namespace Go.Proofs.YtdajmcgbmdnibaaGreatDoor
open Go.RowKit
set_option linter.unusedVariables false
set_option maxRecDepth 100000
attribute [local go_sem] run_store_float

theorem prop_info : (Tryz.prog.info? 44).map (fun i => (i.zero, i.size, i.bytes)) = some (some (.agg #[.string ⟨#[]⟩, .int .i64 0, .int .i64 0, .string ⟨#[]⟩, .float .f64 0]), 5, 56) := by kernel_rfl

/-- append(s, x...) on properties that the call owns -/
theorem wpList_appP {w : World} {ops : Array Oper} {rest : List Oper} {o : Oper} {a : Act} {Q : Exit → Act → World → Prop} (hgd : o.guard = none) (s x : Operand)
    (ho : o.op = .call { callee := .builtin .append, args := #[s, x], argTypes := #[42, 42] })
    (base : Nat) (v : Value) (l : List Pr) (hs : a.eval s = v) (hown : w.ownsRow base 44 5 v l.length (rowCells l))
    (ad : Addr) (c : Nat) (news : List Pr) (hx : a.eval x = .slice (some ad) news.length c)
    (hnews : ∀ j u, (rowCells news)[j]? = some u → w.cell? (ad.add j) = some u)
    (hb : l.length + news.length ≤ 1000000000000) (hbase : base ≤ w.heap.size)
    (h : ∀ v' w', w'.ownsRow base 44 5 v' (l.length + news.length) (rowCells (l ++ news)) → Below base w w' → w.heap.size ≤ w'.heap.size → w.grownBy w' v.ownBlock → wpList Tryz.prog ops Q rest (a.put o.dst v') w') : wpList Tryz.prog ops Q (o :: rest) a w := by
  obtain ⟨i0, hi, hz0, hz1, hz2⟩ := info_parts prop_info
  refine wpList_append_own w hgd s x 42 ho base 44 i0 _ 5 56 Tryz.underlying42 hi hz0 hz1 hz2 rfl (by decide) v l.length _ hs hown ad news.length c (rowCells news) hx (rowCells_length _) hnews (rowCells_one _)
    (by unfold maxLen; omega) (by omega) hbase ?_
  intro v' w' h1 h2 _
  rw [← rowCells_app] at h1
  exact h v' w' h1 (below_own hown h2 hbase) h2.size h2
/-- the cells of a list, one by one -/
theorem propsAt_cells {w : World} {a : Addr} {l : List Pr} (h : PropsAt w (some a) l) : ∀ j u, (rowCells l)[j]? = some u → a.block < w.heap.size ∧ w.cell? (a.add j) = some u := by
  intro j u hu
  have hj : j < l.length * 5 := by
    rcases Nat.lt_or_ge j (l.length * 5) with h | h
    · exact h
    · rw [← rowCells_length] at h; rw [List.getElem?_eq_none h] at hu; cases hu
  obtain ⟨b, o, hA, hlt, hc⟩ := h (by omega)
  obtain rfl := Option.some.inj hA
  refine ⟨hlt, ?_⟩
  obtain ⟨p, hp⟩ : ∃ p, l[j / 5]? = some p := ⟨_, List.getElem?_eq_getElem (by omega)⟩
  obtain ⟨u', hu'⟩ : ∃ u', p.cells[j % 5]? = some u' := ⟨_, List.getElem?_eq_getElem (by rw [cells_length]; omega)⟩
  have e := rowCells_at hp hu'
  rw [show j / 5 * 5 + j % 5 = j by omega, hu] at e
  obtain rfl := Option.some.inj e
  have := hc _ _ hp _ _ hu'
  rw [show o + j / 5 * 5 + j % 5 = o + j by omega] at this
  rw [show (⟨b, o, none⟩ : Addr).add j = ⟨b, o + j, none⟩ by unfold Addr.add; split <;> simp_all]
  exact this
theorem eql_nil (w : World) (a : Option Addr) (n c n' c' : Nat) : (binOp .eql 42 (.slice a n c) (.slice none n' c')).run Tryz.prog w = .ok (.bool a.isNone) w := Lib.run_eql_slice_nil w _ _ a n c n' c' Tryz.underlying42
theorem clone_any (A : Option Addr) (c : Nat) (l : List Pr) (w : World) (hl : l.length ≤ 1000000) (hc : PropsAt w A l) :
    Calls Tryz.prog 46 #[.slice A l.length c] w fun e w' => ∃ v, e = .returned v ∧ w'.ownsRow w.heap.size 44 5 v l.length (rowCells l) ∧ Below w.heap.size w w' := by
  have q := eql_nil
  cases A with
  | none =>
    have h0 : l.length = 0 := by
      rcases Nat.eq_zero_or_pos l.length with h | h
      · exact h
      · obtain ⟨_, _, h, _⟩ := hc h; cases h
    have : l = [] := List.eq_nil_of_length_eq_zero h0
    subst this
    clear hc
    go_enter Tryz.func46, Tryz.ntmps46
    go_wp2_with fail
    go_ret
    exact ⟨_, rfl, World.ownsRow_nil _ _ _ _, Below.refl _ _⟩
  | some a =>
    have HC := Lib.hid hc
    clear hc
    have ho : Hid ((w.alloc (.cells #[] 44)).ownsRow w.heap.size 44 5 (.slice (some ⟨w.heap.size, 0, none⟩) 0 0) ([] : List Pr).length (rowCells [])) := World.ownsRow_made w #[] 0 (Nat.le_refl _) (Nat.zero_le _) (by simp)
    have hn : Hid (∀ j u, (rowCells l)[j]? = some u → (w.alloc (.cells #[] 44)).cell? (a.add j) = some u) := by
      intro j u hu
      obtain ⟨h1, h2⟩ := propsAt_cells HC.out j u hu
      exact (World.cell?_of_block (Below.heap_alloc w _ _ (by rw [block_add]; exact h1))).trans h2
    go_enter Tryz.func46, Tryz.ntmps46
    go_wp2_with (at_builtin; refine wpList_appP rfl _ _ rfl w.heap.size _ [] rfl ho.out a c l rfl hn.out (by simp; omega) (by simp) ?_)
    intro v' w' h1 h2 h3 h4
    go_wp2_with fail
    go_ret
    exact ⟨v', rfl, by simpa using h1, ((Below.refl _ w).alloc (Nat.le_refl _) _).trans h2⟩
end Go.Proofs.YtdajmcgbmdnibaaGreatDoor
