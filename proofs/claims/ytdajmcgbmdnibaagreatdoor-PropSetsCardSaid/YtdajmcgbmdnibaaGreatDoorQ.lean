/- What Set lays: plain. -/
import Derived.Test.YtdajmcgbmdnibaaGreatDoorP
namespace Go.Proofs.YtdajmcgbmdnibaaGreatDoor
open Go.RowKit
set_option linter.unusedVariables false
set_option maxRecDepth 100000

def nm (p : Pr) : List UInt8 := p.name.data.toList
def ltN (a b : List UInt8) : Prop := Lib.compareBytes a b = -1
theorem hasName_iff {s : ByteArray} {p : Pr} : hasName s p = true ↔ nm p = s.data.toList := by
  unfold hasName nm
  rw [ByteArray.toList_eq, ByteArray.toList_eq, beq_iff_eq]
theorem okAt_iff {l : List Pr} {k : Nat} {p : Pr} (hp : l[k]? = some p) : okAt l k = true ↔ nameB p.name = true ∧ p.v.good = true ∧ (k = 0 ∨ ∃ q, l[k - 1]? = some q ∧ ltN (nm q) (nm p)) := by
  unfold okAt
  rw [hp]
  simp only [Bool.and_eq_true, Bool.or_eq_true, beq_iff_eq]
  constructor
  · rintro ⟨h1, h2, h3⟩
    refine ⟨h1, h2, ?_⟩
    rcases h3 with h3 | h3
    · exact .inl h3
    · right
      cases hq : l[k - 1]? with
      | none => rw [hq] at h3; cases h3
      | some q =>
        rw [hq] at h3
        refine ⟨q, rfl, ?_⟩
        have : ltB q.name p.name = true := h3
        unfold ltB at this
        rw [ByteArray.toList_eq, ByteArray.toList_eq, less_cb] at this
        exact this
  · rintro ⟨h1, h2, h3⟩
    refine ⟨h1, h2, ?_⟩
    rcases h3 with h3 | ⟨q, hq, h3⟩
    · exact .inl h3
    · right
      rw [hq]
      show ltB q.name p.name = true
      unfold ltB
      rw [ByteArray.toList_eq, ByteArray.toList_eq, less_cb]
      exact h3
theorem valid_iff {l : List Pr} : validB l = true ↔ l.length ≤ 16 ∧ (∀ p ∈ l, nameB p.name = true ∧ p.v.good = true) ∧ (l.map nm).Pairwise ltN := by
  constructor
  · intro h
    obtain ⟨h1, h2⟩ := ok_of h
    refine ⟨h1, ?_, ?_⟩
    · intro p hp
      obtain ⟨k, hk, e⟩ := List.getElem_of_mem hp
      have := (okAt_iff (l := l) (k := k) (p := p) (by rw [List.getElem?_eq_getElem hk, e])).1 (h2 k hk)
      exact ⟨this.1, this.2.1⟩
    · rw [List.pairwise_iff_getElem]
      intro a b ha hb hab
      rw [List.getElem_map, List.getElem_map]
      rw [List.length_map] at ha hb
      exact sorted_of h b a _ _ hab (List.getElem?_eq_getElem ha) (List.getElem?_eq_getElem hb)
  · rintro ⟨h1, h2, h3⟩
    rw [valid_end]
    · simpa using h1
    · intro k hk
      rw [okAt_iff (List.getElem?_eq_getElem hk)]
      have hm := h2 _ (List.getElem_mem hk)
      refine ⟨hm.1, hm.2, ?_⟩
      by_cases h0 : k = 0
      · exact .inl h0
      · right
        refine ⟨_, List.getElem?_eq_getElem (by omega), ?_⟩
        have := (List.pairwise_iff_getElem.1 h3) (k - 1) k (by rw [List.length_map]; omega) (by rw [List.length_map]; omega) (by omega)
        rw [List.getElem_map, List.getElem_map] at this
        exact this
theorem ltN_ne {a b : List UInt8} (h : ltN a b) : a ≠ b := fun e => by
  have := cb_zero.2 e
  unfold ltN at h; omega
/-- in a list whose names stand in order a name is found where it stands -/
theorem get_mem : ∀ {l : List Pr}, (l.map nm).Pairwise ltN → ∀ {q : Pr}, q ∈ l → getB l q.name = some q
  | [], _, q, h => by cases h
  | x :: l, hs, q, h => by
    rw [List.map_cons, List.pairwise_cons] at hs
    unfold getB
    rw [List.find?_cons]
    rcases List.mem_cons.1 h with e | e
    · subst e
      rw [hasName_iff.2 rfl]
    · have hx : hasName q.name x = false := by
        rw [Bool.eq_false_iff]
        intro hx
        exact ltN_ne (hs.1 _ (List.mem_map_of_mem e)) (hasName_iff.1 hx)
      rw [hx]
      exact get_mem hs.2 e
theorem get_none {l : List Pr} {s : ByteArray} (h : ∀ q ∈ l, nm q ≠ s.data.toList) : getB l s = none := by
  unfold getB
  rw [List.find?_eq_none]
  intro x hx hh
  exact h x hx (hasName_iff.1 hh)
theorem there_at {l : List Pr} {s : ByteArray} {i : Nat} (h : there l s i = true) : ∃ q, l[i]? = some q ∧ nm q = s.data.toList := by
  unfold there at h
  cases hq : l[i]? with
  | none => rw [hq] at h; cases h
  | some q =>
    rw [hq] at h
    refine ⟨q, rfl, ?_⟩
    have : cbN q s = 0 := by simpa using h
    exact cb_zero.1 this
theorem not_there {l : List Pr} {s : ByteArray} {i : Nat} (hs : (l.map nm).Pairwise ltN) (hp : IsPlace l s i) (h : there l s i = false) :
    (∀ q ∈ l.take i, ltN (nm q) s.data.toList) ∧ (∀ q ∈ l.drop i, ltN s.data.toList (nm q)) := by
  obtain ⟨h1, h2, h3⟩ := hp
  constructor
  · intro q hq
    obtain ⟨t, ht, e⟩ := List.getElem_of_mem hq
    rw [List.length_take] at ht
    rw [List.getElem_take] at e
    have := h2 t q (by omega) (by rw [List.getElem?_eq_getElem (by omega), e])
    have hr := cb_ord.range (nm q) s.data.toList
    unfold cbN at this
    unfold ltN; unfold nm at hr ⊢; omega
  · intro q hq
    obtain ⟨t, ht, e⟩ := List.getElem_of_mem hq
    rw [List.length_drop] at ht
    rw [List.getElem_drop] at e
    have hq' : l[i + t]? = some q := by rw [List.getElem?_eq_getElem (by omega), e]
    have h0 := h3 (i + t) q (by omega) hq'
    have hr := cb_ord.range (nm q) s.data.toList
    have ha := cb_ord.anti (nm q) s.data.toList
    have hne : Lib.compareBytes (nm q) s.data.toList ≠ 0 := by
      intro hz
      rcases Nat.eq_zero_or_pos t with e0 | e0
      · subst e0
        unfold there at h
        rw [show i + 0 = i from rfl] at hq'
        rw [hq'] at h
        have h0' : cbN q s = 0 := hz
        have hh : (cbN q s == 0) = false := h
        rw [h0'] at hh
        simp at hh
      · have hi : i < l.length := by omega
        have hlt := (List.pairwise_iff_getElem.1 hs) i (i + t) (by rw [List.length_map]; omega) (by rw [List.length_map]; omega) (by omega)
        rw [List.getElem_map, List.getElem_map, e] at hlt
        have h4 := h3 i l[i] (Nat.le_refl _) (List.getElem?_eq_getElem hi)
        have h5 : nm q = s.data.toList := cb_zero.1 hz
        rw [h5] at hlt
        unfold cbN at h4
        unfold ltN nm at hlt
        omega
    unfold cbN at h0
    unfold ltN; unfold nm at hr ha hne ⊢; omega
structure PutFacts (l : List Pr) (p : Pr) (l' : List Pr) : Prop where
  valid : validB l' = true
  here : getB l' p.name = some p
  rest : ∀ q ∈ l, nm q ≠ nm p → getB l' q.name = some q
  len : l'.length = if (getB l p.name).isSome then l.length else l.length + 1
theorem put_facts {l : List Pr} {p : Pr} {i : Nat} (hok : setOK l p = true) (hp : IsPlace l p.name i) (hr : there l p.name i = true ∨ l.length < 16) : PutFacts l p (putB l i p) := by
  unfold setOK at hok
  simp only [Bool.and_eq_true] at hok
  obtain ⟨hv, hn, hg⟩ := hok
  obtain ⟨hl, hm, hs⟩ := valid_iff.1 hv
  by_cases ht : there l p.name i = true
  · obtain ⟨q, hq, hqn⟩ := there_at ht
    have hi : i < l.length := by
      rcases Nat.lt_or_ge i l.length with h | h
      · exact h
      · rw [List.getElem?_eq_none h] at hq; cases hq
    have he : putB l i p = l.set i p := by unfold putB; rw [ht]; rfl
    rw [he]
    have hmap : (l.set i p).map nm = l.map nm := by
      rw [List.map_set]
      apply List.ext_getElem?
      intro j
      rw [List.getElem?_set]
      by_cases hj : i = j
      · subst hj
        rw [if_pos rfl, List.length_map, if_pos hi, List.getElem?_map, hq]
        show some (nm p) = some (nm q)
        rw [hqn]; rfl
      · rw [if_neg hj]
    have hpw : ((l.set i p).map nm).Pairwise ltN := by rw [hmap]; exact hs
    have hmem : p ∈ l.set i p := List.mem_of_getElem? (i := i) (by rw [List.getElem?_set, if_pos rfl, if_pos hi])
    refine ⟨?_, get_mem hpw hmem, ?_, ?_⟩
    · rw [valid_iff]
      refine ⟨by simpa using hl, ?_, hpw⟩
      intro x hx
      rcases List.mem_or_eq_of_mem_set hx with h | h
      · exact hm x h
      · subst h; exact ⟨hn, hg⟩
    · intro x hx hne
      refine get_mem hpw ?_
      obtain ⟨j, hj, e⟩ := List.getElem_of_mem hx
      have hji : i ≠ j := by
        intro h
        subst h
        rw [List.getElem?_eq_getElem hi, e] at hq
        obtain rfl := Option.some.inj hq
        exact hne hqn
      have : (l.set i p)[j]? = some x := by rw [List.getElem?_set, if_neg hji, List.getElem?_eq_getElem hj, e]
      exact List.mem_of_getElem? this
    · have hg' : getB l p.name = some q := by
        have := get_mem hs (List.mem_of_getElem? hq)
        have e : q.name = p.name := by
          apply Go.WideShapes.bytes_inj
          first | exact hqn | exact Array.toList_inj.1 hqn
        rw [e] at this; exact this
      rw [hg', List.length_set]; rfl
  · have ht : there l p.name i = false := by simpa using ht
    have h16 : l.length < 16 := by
      rcases hr with h | h
      · rw [ht] at h; cases h
      · exact h
    obtain ⟨hlo, hhi⟩ := not_there hs hp ht
    have he : putB l i p = insB l i p := by unfold putB; rw [ht]; rfl
    rw [he]
    have hsplit : l.map nm = (l.take i).map nm ++ (l.drop i).map nm := by rw [← List.map_append, List.take_append_drop]
    rw [hsplit, List.pairwise_append] at hs
    have hpw : ((insB l i p).map nm).Pairwise ltN := by
      unfold insB
      rw [List.map_append, List.map_cons, List.pairwise_append, List.pairwise_cons]
      refine ⟨hs.1, ⟨?_, hs.2.1⟩, ?_⟩
      · intro a ha
        obtain ⟨q, hq, rfl⟩ := List.mem_map.1 ha
        exact hhi q hq
      · intro a ha b hb
        obtain ⟨q, hq, rfl⟩ := List.mem_map.1 ha
        rcases List.mem_cons.1 hb with h | h
        · subst h; exact hlo q hq
        · exact hs.2.2 _ ha _ h
    have hmem : ∀ x, x ∈ insB l i p ↔ x = p ∨ x ∈ l := by
      intro x
      unfold insB
      rw [List.mem_append, List.mem_cons]
      have : x ∈ l ↔ x ∈ l.take i ∨ x ∈ l.drop i := by rw [← List.mem_append, List.take_append_drop]
      rw [this]
      constructor
      · rintro (h | h | h) <;> simp [h]
      · rintro (h | h | h) <;> simp [h]
    refine ⟨?_, get_mem hpw ((hmem p).2 (.inl rfl)), ?_, ?_⟩
    · rw [valid_iff]
      refine ⟨by rw [insB_length _ _ _ hp.1]; omega, ?_, hpw⟩
      intro x hx
      rcases (hmem x).1 hx with h | h
      · subst h; exact ⟨hn, hg⟩
      · exact hm x h
    · intro x hx _
      exact get_mem hpw ((hmem x).2 (.inr hx))
    · have hnone : getB l p.name = none := by
        refine get_none fun q hq hqe => ?_
        have : q ∈ l.take i ∨ q ∈ l.drop i := by rw [← List.mem_append, List.take_append_drop]; exact hq
        rcases this with h | h
        · exact ltN_ne (hlo q h) hqe
        · exact ltN_ne (hhi q h) hqe.symm
      rw [hnone, insB_length _ _ _ hp.1]; rfl
end Go.Proofs.YtdajmcgbmdnibaaGreatDoor
