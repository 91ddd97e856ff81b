/- The rows of PropSets: lists of properties that come in. -/
import Derived.Test.YtdajmcgbmdnibaaGreatDoorJ
import Derived.Test.YtdajmcgbmdnibaaGreatDoorR
import Derived.Deep.Slices
import Derived.ChangeSame
namespace Go.Proofs.YtdajmcgbmdnibaaGreatDoor
open Go.ChangeShapes Go.WideShapes Go.ChangeAt Go.RowKit
set_option linter.unusedVariables false
set_option maxRecDepth 100000

theorem list5 {α : Type} {cs : List α} (h : cs.length = 5) : ∃ c0 c1 c2 c3 c4, cs = [c0, c1, c2, c3, c4] := by
  match cs, h with
  | [c0, c1, c2, c3, c4], _ => exact ⟨c0, c1, c2, c3, c4, rfl⟩
theorem cells44 : Tryz.prog.cellsOf 44 = 5 := by kernel_rfl
theorem cells37 : Tryz.prog.cellsOf 37 = 4 := by kernel_rfl
theorem cells9 : Tryz.prog.cellsOf 9 = 1 := by kernel_rfl
theorem cells3 : Tryz.prog.cellsOf 3 = 1 := by kernel_rfl
theorem cells35 : Tryz.prog.cellsOf 35 = 1 := by kernel_rfl
section
variable {H : Type} {enc : TypeId × Value → H} {w : World} {base : Nat} {spare : Nat → Bool} {held : Bool}
theorem open_Pc {fuel : Nat} {cs : List Value} {x : DataW H × List MemPlace} (h : DataW.trod enc Tryz.prog w base spare held fuel 44 cs = some x) :
    ∃ p : Pr, cs = p.cells ∧ p.name.size ≤ 9223372036854775807 ∧ p.v.text.size ≤ 9223372036854775807 ∧ p.v.real < 18446744073709551616 := by
  obtain ⟨y0, y1, n, hx, hl, h0, h1⟩ := trod_struct2 Tryz.underlying44 h
  obtain ⟨c0, c1, c2, c3, c4, rfl⟩ := list5 (hl.trans cells44)
  simp only [cells9, cells37, List.drop_zero, List.take_succ_cons, List.take_zero, List.drop_succ_cons] at h0 h1
  obtain ⟨z0, z1, z2, z3, n', hx', hl', g0, g1, g2, g3⟩ := Joins.trod_struct4 Tryz.underlying37 h1
  simp only [cells9, cells3, cells35, List.drop_zero, List.take_succ_cons, List.take_zero, List.drop_succ_cons] at g0 g1 g2 g3
  obtain ⟨a0, e0, r0, w0⟩ := DataW.trod_string Tryz.underlying9 h0
  obtain ⟨a1, e1, r1, _⟩ := DataW.trod_int Tryz.underlying3 g0
  obtain ⟨a2, e2, r2, _⟩ := DataW.trod_int Tryz.underlying3 g1
  obtain ⟨a3, e3, r3, w3⟩ := DataW.trod_string Tryz.underlying9 g2
  obtain ⟨a4, e4, r4, w4⟩ := trod_float64 Tryz.underlying35 g3
  simp only [List.cons.injEq, and_true] at e0 e1 e2 e3 e4
  subst e0 e1 e2 e3 e4
  refine ⟨⟨a0, ⟨a1, a2, a3, a4⟩⟩, rfl, by unfold maxLen at w0; exact w0, by unfold maxLen at w3; exact w3, by simpa [Lit.wf] using w4⟩
theorem open_Ps {b0 : Nat} {v : Value} {d : DataW H} {p : List MemPlace} (hv : Value.okWide Tryz.prog w .any b0 42 v) (h : DataW.Trod enc Tryz.prog w base spare held 42 v d p) :
    ∃ A c, ∃ l : List Pr, v = .slice A l.length c ∧ l.length ≤ 9223372036854775807 ∧ PropsAt w A l ∧ Fits l ∧ (∀ p ∈ l, p.v.real < 18446744073709551616) := by
  obtain ⟨a, len, cap, rfl⟩ := okWide_slice Tryz.underlying42 hv
  obtain ⟨fuel, hf⟩ := h
  rcases Deep.open_slice Tryz.underlying42 hf with ⟨hcs, _⟩ | ⟨a', len', cap', m, n, D, Pl, hcs, hb, hl, hm, hmm, hx, hi⟩
  · have e : (Value.slice a len cap) = .slice none 0 0 := by simpa [Value.cells] using hcs
    rw [e]
    exact ⟨none, 0, [], rfl, by simp, fun h => by simp at h, (by intro p h; cases h), (by intro p h; cases h)⟩
  · have e : (Value.slice a len cap) = .slice (some a') len' cap' := by simpa [Value.cells] using hcs
    rw [e]
    have hlm : len' ≤ m := by rw [hmm]; split <;> omega
    unfold maxLen at hm
    have each : ∀ i : Nat, ∃ q : Pr, i < len' → (∀ (j : Nat) (u : Value), q.cells[j]? = some u → w.cell? ((a'.add (i * 5)).add j) = some u) ∧ q.name.size ≤ 9223372036854775807 ∧ q.v.text.size ≤ 9223372036854775807 ∧ q.v.real < 18446744073709551616 := by
      intro i
      by_cases hlt : i < len'
      · obtain ⟨cs', h1, h2⟩ := hi i (by omega)
        rw [cells44] at h1
        obtain ⟨_, hlen, hcell⟩ := World.cells?_some h1
        obtain ⟨q, rfl, b1, b2, b3⟩ := open_Pc h2
        refine ⟨q, fun _ => ⟨fun j u hu => ?_, b1, b2, b3⟩⟩
        have hj : j < 5 := by
          rcases Nat.lt_or_ge j 5 with h | h
          · exact h
          · rw [List.getElem?_eq_none (by rw [cells_length]; omega)] at hu; cases hu
        rw [hcell j hj, hu]
      · exact ⟨⟨⟨#[]⟩, ⟨0, 0, ⟨#[]⟩, 0⟩⟩, fun h => absurd h hlt⟩
    obtain ⟨f, hf'⟩ : ∃ f : Nat → Pr, ∀ i, i < len' → (∀ (j : Nat) (u : Value), (f i).cells[j]? = some u → w.cell? ((a'.add (i * 5)).add j) = some u) ∧ (f i).name.size ≤ 9223372036854775807 ∧ (f i).v.text.size ≤ 9223372036854775807 ∧ (f i).v.real < 18446744073709551616 :=
      ⟨fun i => Classical.choose (each i), fun i => Classical.choose_spec (each i)⟩
    have hll : ((List.range len').map f).length = len' := by simp
    refine ⟨some a', cap', (List.range len').map f, by rw [hll], by rw [hll]; omega, ?_, ?_, ?_⟩
    · intro h0
      rw [hll] at h0
      have hs := (hf' 0 h0).1 0 _ rfl
      have hsp : a'.spot = none := by
        have := World.cell?_spot hs
        unfold Addr.add at this
        simpa using this
      obtain ⟨ab, ao, asp⟩ := a'
      simp only at hsp
      subst hsp
      refine ⟨ab, ao, rfl, ?_, ?_⟩
      · have := World.block_lt_of_cell? w _ hs
        rw [block_add, block_add] at this
        exact this
      · intro j p hj i u hu
        have hjl : j < len' := by
          rcases Nat.lt_or_ge j len' with h | h
          · exact h
          · rw [List.getElem?_eq_none (by rw [hll]; exact h)] at hj; cases hj
        have : p = f j := by
          rw [List.getElem?_map, List.getElem?_range hjl] at hj
          exact (Option.some.inj hj).symm
        subst this
        have := (hf' j hjl).1 i u hu
        rw [addr_add, addr_add] at this
        exact this
    · intro p hp
      obtain ⟨i, hi', rfl⟩ := List.mem_map.1 hp
      exact ⟨(hf' i (List.mem_range.1 hi')).2.1, (hf' i (List.mem_range.1 hi')).2.2.1⟩
    · intro p hp
      obtain ⟨i, hi', rfl⟩ := List.mem_map.1 hp
      exact (hf' i (List.mem_range.1 hi')).2.2.2
end
theorem sets_tab {W : World} (h : laidMetH Tryz.prog Rows.propSetsRow.laid W) : Tab W := by
  rw [MakeChecks.laidMetH_plain _ _ _ (by kernel_rfl)] at h
  obtain ⟨ps, hl, _⟩ := h
  obtain ⟨_, hl⟩ := laid_tail hl
  obtain ⟨_, hl⟩ := laid_tail hl
  obtain ⟨_, hl⟩ := laid_tail hl
  exact tab_of (pow10_head hl)
theorem sets_contract (H : Type) (enc : TypeId × Value → H) (W : World) (base : Nat) (args : Array Value) (ds gs : List (DataW H)) (before : List MemPlace)
    (hval : ∀ (j : Nat) t v, Tryz.f6.params[j]? = some t → args[j]? = some v → Value.okWide Tryz.prog W .any base t v)
    (hW : DataW.Whole enc Tryz.prog Tryz.f6.params.toList Rows.propSetsSpec.vars false W args.toList ds gs before) (hL : laidMetH Tryz.prog Rows.propSetsRow.laid W) (hS : W.ShapedOpen Tryz.prog) :
    Calls Tryz.prog 6 args W fun e W' => ∃ v, e = .returned v ∧ Rows.propSetsSpec.post enc Tryz.prog Tryz.f6 false true false false W args v W' := by
  have hW' := hW
  obtain ⟨p, q, hA0, hV, rfl, hfz, hnd⟩ := hW
  have hA : DataW.TrodAll enc Tryz.prog W 0 (fun _ => true) true Tryz.f6.params.toList args.toList ds p := hA0
  have hA1 := hA
  rw [Tryz.params6] at hA hval
  obtain ⟨v0, v1, d0, d1, p0, p1, rfl, rfl, rfl, h0, h1⟩ := trodAll_two hA
  obtain ⟨rfl, rfl⟩ := trodVars_none hV
  obtain ⟨A, c, l, rfl, hl, hc, hs, _⟩ := open_Ps (hval 0 42 v0 rfl rfl) h0
  obtain ⟨B, d, m, rfl, hm, hc', hs', _⟩ := open_Ps (hval 1 42 v1 rfl rfl) h1
  clear hA0
  simp only [List.append_nil] at hW'
  refine (sets_any A B c d l m W hl hm hc hs hc' hs' (heap_ge hS) (sets_tab hL)).mono fun e W' ⟨he, hb⟩ => ?_
  subst he
  exact ⟨_, rfl, post_law rfl (by kernel_rfl) (by kernel_rfl) rfl hW' hA1 rfl hb⟩
end Go.Proofs.YtdajmcgbmdnibaaGreatDoor
