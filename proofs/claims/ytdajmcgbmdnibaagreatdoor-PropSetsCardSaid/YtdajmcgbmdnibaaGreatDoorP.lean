/- prop.Set. -/
import Derived.Test.YtdajmcgbmdnibaaGreatDoorO
namespace Go.Proofs.YtdajmcgbmdnibaaGreatDoor
open Go.RowKit
set_option linter.unusedVariables false
set_option maxRecDepth 100000
attribute [local go_sem] run_store_float

theorem insert_any (v : Value) (l : List Pr) (i vb : Nat) (p : Pr) (B : Nat) (w : World) (hl : l.length ≤ 1000) (hi : i ≤ l.length) (hown : w.ownsRow B 44 5 v l.length (rowCells l)) (hB : B ≤ w.heap.size) (hv : OneAt w vb p) (hne : v.ownBlock ≠ some vb) :
    Calls Tryz.prog 48 #[v, .int .i64 (i : Int), .slice (some ⟨vb, 0, none⟩) 1 1] w fun e w' => ∃ v', e = .returned v' ∧ w'.ownsRow B 44 5 v' (l.length + 1) (rowCells (insB l i p)) ∧ Below B w w' := by
  by_cases he : i = l.length
  · subst he
    rw [insB_end]
    exact insert_end v l vb p B w hl hown hB hv
  · rcases hown.2 with ⟨rfl, h0⟩ | ⟨g, cap, cur, rfl, hg, hh, hnc, hcm, hcs, htk⟩
    · omega
    · have hne' : vb ≠ g := fun h => hne (by simp [Value.ownBlock, h])
      by_cases hc : l.length + 1 ≤ cap
      · exact insert_room g cap cur l i vb p B w hl (by omega) hc hcm hcs hh htk hg hB hv hne'
      · exact insert_grow g cap cur l i vb p B w hl (by omega) (by omega) hnc hcs hh htk hg hB hv hne'
/-- another one at a place -/
theorem list_put {α : Type} (X c : List α) (a n : Nat) (h : a + 5 ≤ n) (hn : n ≤ X.length) (hc : c.length = 5) : (X.take a ++ c ++ X.drop (a + 5)).take n = (X.take n).take a ++ c ++ (X.take n).drop (a + 5) := by
  have e : (X.take n).take a = X.take a := by rw [List.take_take, Nat.min_eq_left (by omega)]
  rw [e]
  apply List.ext_getElem?
  intro j
  have h1 : (X.take a ++ c).length = a + 5 := by rw [List.length_append, List.length_take]; omega
  rw [List.getElem?_take]
  by_cases hj : j < a + 5
  · rw [if_pos (by omega)]
    exact (List.getElem?_append_left (by omega)).trans (List.getElem?_append_left (by omega)).symm
  · rw [List.getElem?_append_right (l₁ := X.take a ++ c) (l₂ := (X.take n).drop (a + 5)) (by omega), List.getElem?_drop, List.getElem?_take, h1, show a + 5 + (j - (a + 5)) = j by omega]
    by_cases hn' : j < n
    · rw [if_pos hn', if_pos hn', List.getElem?_append_right (by omega), h1, List.getElem?_drop, show a + 5 + (j - (a + 5)) = j by omega]
    · rw [if_neg hn', if_neg hn']
theorem rowCells_set (l : List Pr) (i : Nat) (p : Pr) (h : i < l.length) : rowCells (l.set i p) = (rowCells l).take (i * 5) ++ p.cells ++ (rowCells l).drop (i * 5 + 5) := by
  rw [← rowCells_take l i (by omega), show i * 5 + 5 = (i + 1) * 5 by omega, ← rowCells_drop l (i + 1) (by omega)]
  rw [List.set_eq_take_append_cons_drop, if_pos h, rowCells_app]
  simp [rowCells]
theorem list_set5 {α : Type} (X : List α) (a : Nat) (c0 c1 c2 c3 c4 : α) (h : a + 5 ≤ X.length) :
    ((((X.set a c0).set (a + 1) c1).set (a + 2) c2).set (a + 3) c3).set (a + 4) c4 = X.take a ++ [c0, c1, c2, c3, c4] ++ X.drop (a + 5) := by
  apply List.ext_getElem?
  intro j
  have hl : (X.take a).length = a := by rw [List.length_take]; omega
  by_cases h1 : j < a
  · rw [List.append_assoc, List.getElem?_append_left (by omega), List.getElem?_take, if_pos h1]
    simp only [List.getElem?_set]
    repeat rw [if_neg (by omega)]
  · by_cases h2 : a + 5 ≤ j
    · rw [List.getElem?_append_right (by simp; omega), List.getElem?_drop]
      simp only [List.getElem?_set]
      repeat rw [if_neg (by omega)]
      congr 1
      simp [hl]; omega
    · obtain ⟨k, rfl⟩ : ∃ k, j = a + k := ⟨j - a, by omega⟩
      rw [List.append_assoc, List.getElem?_append_right (by omega), hl, Nat.add_sub_cancel_left]
      have hk : k = 0 ∨ k = 1 ∨ k = 2 ∨ k = 3 ∨ k = 4 := by omega
      rcases hk with rfl | rfl | rfl | rfl | rfl <;> simp [List.getElem?_set] <;> omega
/-- what Set answers -/
def setOK (l : List Pr) (p : Pr) : Bool := validB l && (nameB p.name && p.v.good)
theorem less_cb : ∀ a b : List UInt8, Op.bytesLess a b = true ↔ Lib.compareBytes a b = -1
  | [], [] => by simp [Op.bytesLess, Lib.compareBytes]
  | [], _ :: _ => by simp [Op.bytesLess, Lib.compareBytes]
  | _ :: _, [] => by simp [Op.bytesLess, Lib.compareBytes]
  | x :: a, y :: b => by
    rcases u8_cases x y with h | h | h
    · rw [cb_lt h]; simp [Op.bytesLess, h]
    · subst h
      rw [cb_eq, ← less_cb a b]; simp [Op.bytesLess]
    · rw [cb_gt h]
      have h1 : ¬ x < y := fun h' => by
        have := UInt8.lt_iff_toNat_lt.1 h; have := UInt8.lt_iff_toNat_lt.1 h'; omega
      have h2 : x ≠ y := fun e => by subst e; exact h1 h
      simp [Op.bytesLess, h1, h2]
theorem ok_of {l : List Pr} (h : validB l = true) : l.length ≤ 16 ∧ ∀ k, k < l.length → okAt l k = true := by
  unfold validB at h
  simp only [Bool.and_eq_true, List.all_eq_true, List.mem_range, decide_eq_true_eq] at h
  exact ⟨h.2, fun k hk => h.1 k hk⟩
theorem step_of {l : List Pr} (h : validB l = true) {k : Nat} {p q : Pr} (hp : l[k]? = some p) (hq : l[k + 1]? = some q) : Lib.compareBytes p.name.data.toList q.name.data.toList = -1 := by
  have hk : k + 1 < l.length := by
    rcases Nat.lt_or_ge (k + 1) l.length with h' | h'
    · exact h'
    · rw [List.getElem?_eq_none h'] at hq; cases hq
  have := (ok_of h).2 (k + 1) hk
  unfold okAt at this
  rw [hq, Nat.add_sub_cancel, hp] at this
  simp only [Bool.and_eq_true, Bool.or_eq_true, beq_iff_eq, ltB] at this
  have h2 := this.2.2
  rcases h2 with h2 | h2
  · omega
  · rw [ByteArray.toList_eq, ByteArray.toList_eq, less_cb] at h2; exact h2
theorem cb_step {a b c : List UInt8} (h1 : Lib.compareBytes a b < 0) (h2 : Lib.compareBytes b c ≤ 0) : Lib.compareBytes a c = -1 := by
  have h3 := cb_ord.trans a b c (by omega) h2
  have h4 := cb_ord.strict a b c (by omega) h2
  have h5 := cb_ord.range a c
  omega
/-- the names of a list that can be stand in order -/
theorem sorted_of {l : List Pr} (h : validB l = true) : ∀ (b a : Nat) (p q : Pr), a < b → l[a]? = some p → l[b]? = some q → Lib.compareBytes p.name.data.toList q.name.data.toList = -1
  | 0, a, p, q, hab, _, _ => by omega
  | b + 1, a, p, q, hab, hp, hq => by
    by_cases e : a = b
    · subst e; exact step_of h hp hq
    · have hb : b + 1 < l.length := by
        rcases Nat.lt_or_ge (b + 1) l.length with h' | h'
        · exact h'
        · rw [List.getElem?_eq_none h'] at hq; cases hq
      obtain ⟨r, hr⟩ : ∃ r, l[b]? = some r := ⟨_, List.getElem?_eq_getElem (by omega)⟩
      have h1 := sorted_of h b a p r (by omega) hp hr
      have h2 := step_of h hr hq
      exact cb_step (b := r.name.data.toList) (by omega) (by omega)
theorem mono_of {l : List Pr} (h : validB l = true) (s : ByteArray) : Mono l s := by
  intro a b p q hab hp hq hn
  rcases Nat.eq_or_lt_of_le hab with e | e
  · subst e
    obtain rfl : p = q := by rw [hp] at hq; exact Option.some.inj hq
    exact hn
  · have h1 := sorted_of h b a p q e hp hq
    unfold cbN at hn ⊢
    have := cb_step (a := p.name.data.toList) (b := q.name.data.toList) (c := s.data.toList) (by omega) (by omega)
    omega
/-- what Set lays, where it lays anything -/
def putB (l : List Pr) (i : Nat) (p : Pr) : List Pr := if there l p.name i then l.set i p else insB l i p
set_option maxHeartbeats 2000000 in
theorem set_any (A : Option Addr) (c : Nat) (l : List Pr) (p : Pr) (w : World) (hl : l.length ≤ 1000000) (hc : PropsAt w A l) (hs : Fits l) (hp : p.name.size ≤ 9223372036854775807 ∧ p.v.text.size ≤ 9223372036854775807) :
    Calls Tryz.prog 17 #[.slice A l.length c, p.val] w fun e w' => Below w.heap.size w w' ∧
      ((setOK l p = false ∧ e = .returned (.tuple #[.slice none 0 0, .int .i64 36])) ∨
       (setOK l p = true ∧ ∃ i, IsPlace l p.name i ∧
         ((16 ≤ l.length ∧ there l p.name i = false ∧ e = .returned (.tuple #[.slice none 0 0, .int .i64 34])) ∨
          ((there l p.name i = true ∨ l.length < 16) ∧ ∃ v, e = .returned (.tuple #[v, .int .i64 0]) ∧ w'.ownsRow w.heap.size 44 5 v (putB l i p).length (rowCells (putB l i p)))))) := by
  have HC := Lib.hid hc
  have HS := Lib.hid hs
  have HP := Lib.hid hp
  clear hc hs hp
  go_enter Tryz.func17, Tryz.ntmps17
  go_wp2_with fail
  generalize hW : w.alloc (.cells #[.string p.name, .int .i64 p.v.kind, .int .i64 p.v.num, .string p.v.text, .float .f64 p.v.real] 44) = W
  have hB0 : Below w.heap.size w W := by rw [← hW]; exact (Below.refl _ _).alloc (Nat.le_refl _) _
  have hzW : W.heap.size = w.heap.size + 1 := by rw [← hW]; simp
  have hrow : W.heap[w.heap.size]? = some (.cells p.cells.toArray 44 (0, 0)) := by rw [← hW]; exact heap_alloc_new w _
  have HB0 := Lib.hid hB0
  have HROW := Lib.hid hrow
  clear hW hB0 hrow
  have HCL : Hid (∀ W', Below (w.heap.size + 1) W W' → (W'.cell? ⟨w.heap.size, 0, none⟩ = some (.string p.name) ∧ W'.cell? ⟨w.heap.size, 1, none⟩ = some (.int .i64 p.v.kind) ∧ W'.cell? ⟨w.heap.size, 2, none⟩ = some (.int .i64 p.v.num) ∧ W'.cell? ⟨w.heap.size, 3, none⟩ = some (.string p.v.text) ∧ W'.cell? ⟨w.heap.size, 4, none⟩ = some (.float .f64 p.v.real))) := by
    intro W' h'
    have hr : W'.heap[w.heap.size]? = some (.cells p.cells.toArray 44 (0, 0)) := (h'.block _ (by omega)).trans HROW.out
    refine ⟨?_, ?_, ?_, ?_, ?_⟩ <;> (rw [cell_of_row W' _ _ _ 44 (0, 0) hr]; rfl)
  refine (valid_any A c l W (by omega) (HC.out.below HB0.out) HS.out).mono ?_
  rintro e w1 ⟨rfl, hb1⟩
  have HB1 : Hid (Below (w.heap.size + 1) W w1) := hb1.mono (by omega)
  have hz1 := hb1.size
  clear hb1
  obtain ⟨d0, d1, d2, d3, d4⟩ := HCL.out w1 HB1.out
  by_cases hv : validB l = true
  · have HV := Lib.hid hv
    rw [hv]
    go_wp2_with fail
    refine (name_any p.name w1 HP.out.1).mono ?_
    rintro e w2 ⟨rfl, hb2⟩
    have HB2 : Hid (Below (w.heap.size + 1) W w2) := HB1.out.trans (hb2.mono (by omega))
    have hz2 := hb2.size
    clear hb2 d0 d1 d2 d3 d4
    obtain ⟨d0, d1, d2, d3, d4⟩ := HCL.out w2 HB2.out
    by_cases hn : nameB p.name = true
    · have HN := Lib.hid hn
      rw [hn]
      go_wp2_with fail
      refine (good_any p.v w2 HP.out.2).mono ?_
      rintro e w3 ⟨rfl, hb3⟩
      have HB3 : Hid (Below (w.heap.size + 1) W w3) := HB2.out.trans (hb3.mono (by omega))
      have hz3 := hb3.size
      clear hb3 d0 d1 d2 d3 d4
      obtain ⟨d0, d1, d2, d3, d4⟩ := HCL.out w3 HB3.out
      by_cases hg : p.v.good = true
      · have HOK : Hid (setOK l p = true) := by show setOK l p = true; unfold setOK; rw [HV.out, HN.out, hg]; rfl
        rw [hg]
        go_wp2_with fail
        have hB3w := HB0.out.trans (HB3.out.mono (by omega))
        refine (clone_any A c l w3 (by omega) (HC.out.below hB3w)).mono ?_
        rintro e w4 ⟨v4, rfl, ho4, hb4⟩
        have hB4 : Below (w.heap.size + 1) W w4 := HB3.out.trans (hb4.mono (by omega))
        have HB4 := Lib.hid hB4
        have hz4 := hb4.size
        have HB34 := Lib.hid hb4
        clear hb4 hB4 d0 d1 d2 d3 d4 hB3w
        obtain ⟨d0, d1, d2, d3, d4⟩ := HCL.out w4 HB4.out
        obtain ⟨A4, c4, rfl, hpa⟩ := props_own ho4
        have HPA := Lib.hid hpa
        have HO4 := Lib.hid ho4
        clear hpa ho4
        go_wp2_with fail
        refine (place_any A4 c4 l p.name w4 hl HPA.out (mono_of HV.out p.name)).mono ?_
        rintro e w5 ⟨i, hpl, rfl, hb5⟩
        have hB5 : Below (w.heap.size + 1) W w5 := HB4.out.trans (hb5.mono (by omega))
        have HB5 := Lib.hid hB5
        have hz5 := hb5.size
        have HO5 := Lib.hid (own_below HO4.out hb5)
        have HPL := Lib.hid hpl
        have hil := hpl.1
        clear hb5 hB5 hpl d0 d1 d2 d3 d4 HO4
        obtain ⟨d0, d1, d2, d3, d4⟩ := HCL.out w5 HB5.out
        by_cases ht : there l p.name i = true
        · have HT := Lib.hid ht
          have hilt : i < l.length := by
            rcases Nat.lt_or_ge i l.length with h | h
            · exact h
            · unfold there at ht; rw [List.getElem?_eq_none h] at ht; cases ht
          rw [ht]
          rcases HO5.out.2 with ⟨_, h0⟩ | ⟨g, cap, cur, hv4, hg4, hh, hnc, hcm, hcs, htk⟩
          · omega
          obtain ⟨rfl, -, rfl⟩ := Value.slice.inj hv4
          have hne : g ≠ w.heap.size := by omega
          have hce : ∀ k, k < 5 → ∃ u, w5.cell? ⟨g, i * 5 + k, none⟩ = some u := fun k hk => ⟨_, (cell_of_row w5 g _ cur 44 (0, 0) hh).trans (Array.getElem?_eq_getElem (by omega))⟩
          obtain ⟨u0, e0⟩ := hce 0 (by omega)
          obtain ⟨u1, e1⟩ := hce 1 (by omega)
          obtain ⟨u2, e2⟩ := hce 2 (by omega)
          obtain ⟨u3, e3⟩ := hce 3 (by omega)
          obtain ⟨u4, e4⟩ := hce 4 (by omega)
          rw [Nat.add_zero] at e0
          have hfz : ∀ k, w5.frozen? ⟨g, k, none⟩ = false := fun k => frozen_of_row w5 g k cur 44 hh
          have HG4 := Lib.hid hg4
          clear hv4 hg4 hh htk hce hcs hcm ht
          go_wp2_with fail
          go_ret2
          have o0 := (HO5.out.stored (i * 5) (.string p.name)).1
          have o1 := (o0.stored (i * 5 + 1) (.int .i64 p.v.kind)).1
          have o2 := (o1.stored (i * 5 + 2) (.int .i64 p.v.num)).1
          have o3 := (o2.stored (i * 5 + 3) (.string p.v.text)).1
          have o4 := (o3.stored (i * 5 + 4) (.float .f64 p.v.real)).1
          rw [list_set5 _ _ _ _ _ _ _ (by rw [rowCells_length]; omega), ← rowCells_set l i p hilt] at o4
          have hput : putB l i p = l.set i p := by unfold putB; rw [HT.out]; rfl
          refine ⟨?_, .inr ⟨HOK.out, i, HPL.out, .inr ⟨.inl HT.out, _, rfl, ?_⟩⟩⟩
          · have hgw : w.heap.size ≤ g := by have := HG4.out; omega
            exact (((((HB0.out.trans (HB5.out.mono (by omega))).setCell hgw _).setCell hgw _).setCell hgw _).setCell hgw _).setCell hgw _
          · rw [hput, List.length_set]
            exact own_mono o4 (by omega)
        · have ht : there l p.name i = false := by simpa using ht
          have HT := Lib.hid ht
          rw [ht]
          by_cases h16 : 16 ≤ l.length
          · clear ht
            go_wp2_with fail
            go_ret2
            exact ⟨HB0.out.trans (HB5.out.mono (by omega)), .inr ⟨HOK.out, i, HPL.out, .inl ⟨h16, HT.out, rfl⟩⟩⟩
          · clear ht
            go_wp2_with fail
            generalize hW6 : w5.alloc (.cells #[.string p.name, .int .i64 p.v.kind, .int .i64 p.v.num, .string p.v.text, .float .f64 p.v.real] 44) = w6
            have hb6 : Below w5.heap.size w5 w6 := by rw [← hW6]; exact (Below.refl _ _).alloc (Nat.le_refl _) _
            have hv6 : OneAt w6 w5.heap.size p := by unfold OneAt; rw [← hW6]; exact heap_alloc_new w5 _
            have HO6 := Lib.hid (own_below HO5.out hb6)
            have hz6 := hb6.size
            have hnb : (Value.slice A4 l.length c4).ownBlock ≠ some w5.heap.size := fun h => by
              have := (HO5.out.lt _ h).2; omega
            refine (insert_any _ l i w5.heap.size p w3.heap.size w6 (by omega) hil HO6.out (by omega) hv6 hnb).mono ?_
            rintro e w7 ⟨v7, rfl, ho7, hb7⟩
            have HO7 := Lib.hid ho7
            have hB7 : Below w.heap.size w w7 := (HB0.out.trans (HB5.out.mono (by omega))).trans ((hb6.mono (by omega)).trans (hb7.mono (by omega)))
            have HB7 := Lib.hid hB7
            clear hb6 hv6 hb7 ho7 hB7 hW6 d0 d1 d2 d3 d4
            go_wp2_with fail
            go_ret2
            have hput : putB l i p = insB l i p := by unfold putB; rw [HT.out]; rfl
            refine ⟨HB7.out, .inr ⟨HOK.out, i, HPL.out, .inr ⟨.inr (by omega), _, rfl, ?_⟩⟩⟩
            rw [hput, insB_length _ _ _ hil]
            exact own_mono HO7.out (by omega)
      · have hg : p.v.good = false := by simpa using hg
        have HOK : Hid (setOK l p = false) := by show setOK l p = false; unfold setOK; rw [hg]; simp
        rw [hg]
        go_wp2_with fail
        go_ret2
        exact ⟨HB0.out.trans (HB3.out.mono (by omega)), .inl ⟨HOK.out, rfl⟩⟩
    · have hn : nameB p.name = false := by simpa using hn
      have HOK : Hid (setOK l p = false) := by show setOK l p = false; unfold setOK; rw [hn]; simp
      rw [hn]
      go_wp2_with fail
      go_ret2
      exact ⟨HB0.out.trans (HB2.out.mono (by omega)), .inl ⟨HOK.out, rfl⟩⟩
  · have hv : validB l = false := by simpa using hv
    have HOK : Hid (setOK l p = false) := by show setOK l p = false; unfold setOK; rw [hv]; simp
    rw [hv]
    go_wp2_with fail
    go_ret2
    exact ⟨HB0.out.trans (HB1.out.mono (by omega)), .inl ⟨HOK.out, rfl⟩⟩
end Go.Proofs.YtdajmcgbmdnibaaGreatDoor
