/- A region whose order is open, each of whose operations answers the same value from every world of a set S and leaves a world of S: walked once, in the order of the text; a forced tail behind it is walked from every world of S. -/
import Derived.Test.YtnklnenjdffbaaaDoorProg
import Derived.WalkKit
import Derived.StillTail
namespace Go.Proofs.YtnklnenjdffbaaaDoor
open Go
section
variable {P : Program} {ops : Array Oper} {md : Region.Mode} {S : World → Prop}

/-- the answer v, and a world of S -/
def Ans (P : Program) (S : World → Prop) (v : Value) : Result Next → Prop
  | .ok (.value u) w' => u = v ∧ S w'
  | .ok .skip w' => v = undef ∧ S w'
  | .ok (.enter f args) w' => Calls P f args w' (fun e w'' => e = .returned v ∧ S w'')
  | _ => False

def Stable (P : Program) (ops : Array Oper) (S : World → Prop) (o : Oper) (v : Value) (a : Act) : Prop :=
  (Region.wanted o (yielded ops a.tmps) = true ∧ ∀ w, S w → Ans P S v ((execOp a.eval o).run P w)) ∨ (Region.wanted o (yielded ops a.tmps) = false ∧ v = undef)

theorem Stable.of_same {o : Oper} {v : Value} {a a' : Act} (hy : Stable P ops S o v a) (he : execOp a'.eval o = execOp a.eval o)
    (hw : Region.wanted o (yielded ops a'.tmps) = Region.wanted o (yielded ops a.tmps)) : Stable P ops S o v a' := by
  unfold Stable at *
  rw [he, hw]
  exact hy

theorem Stable.wpOp {Q : Exit → Act → World → Prop} {i : Nat} {o : Oper} {v : Value} {a : Act} (hi : ops[i]? = some o) (hy : Stable P ops S o v a)
    {K : Act → World → Prop} {w : World} (hS : S w) (h : ∀ w', S w' → K (a.put o.dst v) w') : wpOp P ops Q i K a w := by
  unfold Go.wpOp
  simp only [hi]
  rcases hy with ⟨hw, hv⟩ | ⟨hw, rfl⟩
  · rw [if_pos hw]
    refine .inl ?_
    have h1 := hv w hS
    unfold Oper.wp
    generalize (execOp a.eval o).run P w = r at h1 ⊢
    cases r with
    | ok n w' =>
      cases n <;> simp only [Ans] at h1 <;> simp only [Oper.upon]
      case value u => obtain ⟨rfl, h2⟩ := h1; exact h _ h2
      case skip => obtain ⟨rfl, h2⟩ := h1; exact h _ h2
      case enter f args => exact Calls.mono h1 fun e w'' he => by obtain ⟨rfl, h2⟩ := he; exact h _ h2
    | halt x w' => simp only [Ans] at h1
  · rw [if_neg (by simp [hw])]; exact h _ hS

/-- one operation, in the order of the text -/
def stS (P : Program) (ops : Array Oper) (S : World → Prop) (i : Nat) (K : Act → Prop) (a : Act) : Prop := ∃ o v, ops[i]? = some o ∧ Stable P ops S o v a ∧ K (a.put o.dst v)

theorem stS_mono {i : Nat} {a : Act} {K K' : Act → Prop} (h : ∀ a, K a → K' a) (hh : stS P ops S i K a) : stS P ops S i K' a := by
  obtain ⟨o, v, h1, h2, h3⟩ := hh
  exact ⟨o, v, h1, h2, h _ h3⟩

theorem stS_put {j : Nat} {oi oj : Oper} {v : Value} (hj : ops[j]? = some oj) (hap : oi.apart ops oj = true)
    (hsi : ∀ cs b, oi.op ≠ .select cs b) (hsj : ∀ cs b, oj.op ≠ .select cs b) {K : Act → Prop} {a : Act}
    (hy : Stable P ops S oi v a) (h : stS P ops S j K (a.put oi.dst v)) :
    stS P ops S j (fun a' => Stable P ops S oi v a' ∧ K (a'.put oi.dst v)) a := by
  obtain ⟨h1, h2, h3⟩ := Oper.apart_spec hap
  obtain ⟨o, u, ho, hs, hK⟩ := h
  obtain rfl : o = oj := Option.some.inj (ho.symm.trans hj)
  refine ⟨o, u, hj, hs.of_same (execOp_put o hsj a oi.dst v h1).symm (wanted_put o a oi.dst v h1).symm, hy.of_same (execOp_put oi hsi a o.dst u h3) (wanted_put oi a o.dst u h3), ?_⟩
  rw [← Act.put_comm a v u h2]; exact hK

/-- whatever order is picked, for n operations; then L -/
def anyS (P : Program) (md : Region.Mode) (ops : Array Oper) (S : World → Prop) (n : Nat) (L : Array Bool → Act → Prop) : Nat → Array Bool → Act → Prop
  | 0, listed, a => L listed a
  | f + 1, listed, a => Region.ready md ops listed ≠ [] ∧ ∀ i ∈ Region.ready md ops listed, i < n ∧ stS P ops S i (anyS P md ops S n L f (listed.setIfInBounds i true)) a

theorem wpAny_of_anyS {n g : Nat} {L : Array Bool → Act → Prop} {Q : Exit → Act → World → Prop} (hL : ∀ listed a w, L listed a → S w → wpAny P md ops Q g listed a w) :
    ∀ (f : Nat) (listed : Array Bool) (a : Act) (w : World), anyS P md ops S n L f listed a → S w → wpAny P md ops Q (f + g) listed a w
  | 0, listed, a, w, h, hS => by rw [Nat.zero_add]; exact hL _ _ _ h hS
  | f + 1, listed, a, w, h, hS => by
    rw [show f + 1 + g = (f + g) + 1 by omega]
    refine ⟨fun h0 => absurd h0 h.1, fun i hi => ?_⟩
    obtain ⟨o, v, ho, hs, hK⟩ := (h.2 i hi).2
    exact hs.wpOp ho hS fun w' hS' => wpAny_of_anyS hL f _ _ w' hK hS'

theorem anyS_first {n i : Nat} {oi : Oper} {v : Value} {L : Array Bool → Act → Prop} (hi : ops[i]? = some oi) (hsel : ∀ (j : Nat) (o : Oper) cs b, ops[j]? = some o → o.op ≠ .select cs b)
    (hs : Region.sinkB md ops n = true) (hc : Region.chainB md ops n = true) (hn : n < ops.size) (hin : i < n)
    (hdone : ∀ listed a, L listed a → ∀ j ∈ Region.ready md ops listed, n ≤ j) :
    ∀ (f : Nat) (listed : Array Bool) (a : Act), HeadInv md ops n listed →
      (∀ j oj, ops[j]? = some oj → j ≠ i → listed.getD j true = false → (∀ e ∈ oj.after, Region.binds md e = true → e.on ≠ i) → oi.apart ops oj = true) →
      i ∈ Region.ready md ops listed → Stable P ops S oi v a →
      anyS P md ops S n L f (listed.setIfInBounds i true) (a.put oi.dst v) → anyS P md ops S n L (f + 1) listed a := by
  intro f
  induction f with
  | zero =>
    intro listed a inv _ hr hy H
    have hun := (mem_ready.1 hr).1
    refine ⟨fun h => (by rw [h] at hr; cases hr), fun j hj => ?_⟩
    have hjn : j < n := by
      rcases Nat.lt_or_ge j n with h | h
      · exact h
      · exact absurd hj (tail_waits hs hc hn inv _ i rfl hin hun j h)
    refine ⟨hjn, ?_⟩
    by_cases hji : j = i
    · subst hji; exact ⟨oi, v, hi, hy, H⟩
    · have := hdone _ _ H j (ready_mono hj hji)
      omega
  | succ f ih =>
    intro listed a inv hfree hr hy H
    have hun := (mem_ready.1 hr).1
    refine ⟨fun h => (by rw [h] at hr; cases hr), fun j hj => ?_⟩
    have hjn : j < n := by
      rcases Nat.lt_or_ge j n with h | h
      · exact h
      · exact absurd hj (tail_waits hs hc hn inv _ i rfl hin hun j h)
    refine ⟨hjn, ?_⟩
    by_cases hji : j = i
    · subst hji; exact ⟨oi, v, hi, hy, H⟩
    · have h1 := (H.2 j (ready_mono hj hji)).2
      obtain ⟨hjun, oj, hoj, hall⟩ := mem_ready.1 hj
      have hnot : ∀ e ∈ oj.after, Region.binds md e = true → e.on ≠ i := fun e he hb heq => by
        have h1 := hall e he hb
        rw [heq, getD_both hun] at h1
        cases h1
      have h2 := stS_put hoj (hfree j oj hoj hji hjun hnot) (fun cs b => hsel i oi cs b hi) (fun cs b => hsel j oj cs b hoj) hy h1
      have hfree' : ∀ k ok, ops[k]? = some ok → k ≠ i → (listed.setIfInBounds j true).getD k true = false →
          (∀ e ∈ ok.after, Region.binds md e = true → e.on ≠ i) → oi.apart ops ok = true := fun k ok hk hki hun hno => by
        refine hfree k ok hk hki ?_ hno
        by_cases hjk : j = k
        · subst hjk; exact hjun
        · rw [getD_set_ne true hjk] at hun; exact hun
      refine stS_mono (fun a' h3 => ih (listed.setIfInBounds j true) a' (inv.set hj hjn) hfree' (ready_mono hr (Ne.symm hji)) h3.1 ?_) h2
      rw [Array.setIfInBounds_comm _ _ hji]
      exact h3.2

/-- the operations of the text, one behind the other -/
def wpS (P : Program) (ops : Array Oper) (S : World → Prop) (Q : Act → Prop) : List Oper → Act → Prop
  | [], a => Q a
  | o :: rest, a => ∃ v, Stable P ops S o v a ∧ wpS P ops S Q rest (a.put o.dst v)

theorem wpS_nil {Q : Act → Prop} {a : Act} (h : Q a) : wpS P ops S Q [] a := h
theorem wpS_val {Q : Act → Prop} {a : Act} {o : Oper} {rest : List Oper} (v : Value) (hw : Region.wanted o (yielded ops a.tmps) = true)
    (h : ∀ w, S w → (execOp a.eval o).run P w = .ok (.value v) w) (hr : wpS P ops S Q rest (a.put o.dst v)) : wpS P ops S Q (o :: rest) a :=
  ⟨v, .inl ⟨hw, fun w hS => by rw [h w hS]; exact ⟨rfl, hS⟩⟩, hr⟩
theorem wpS_call {Q : Act → Prop} {a : Act} {o : Oper} {rest : List Oper} (v : Value) (f : FuncId) (args : Array Value) (hw : Region.wanted o (yielded ops a.tmps) = true)
    (h : ∀ w, S w → (execOp a.eval o).run P w = .ok (.enter f args) w) (hc : ∀ w, S w → Calls P f args w (fun e w'' => e = .returned v ∧ S w''))
    (hr : wpS P ops S Q rest (a.put o.dst v)) : wpS P ops S Q (o :: rest) a :=
  ⟨v, .inl ⟨hw, fun w hS => by rw [h w hS]; exact hc w hS⟩, hr⟩
theorem wpS_off {Q : Act → Prop} {a : Act} {o : Oper} {rest : List Oper} (hw : Region.wanted o (yielded ops a.tmps) = false)
    (hr : wpS P ops S Q rest (a.put o.dst undef)) : wpS P ops S Q (o :: rest) a :=
  ⟨undef, .inr ⟨hw, rfl⟩, hr⟩

theorem anyS_lex {n g : Nat} {Lq : Act → Prop} (hsel : Region.noSelect ops = true) (hs : Region.sinkB md ops n = true) (hc : Region.chainB md ops n = true) (hn : n < ops.size) :
    ∀ (l : List Oper) (k : Nat) (listed : Array Bool) (a : Act), (∀ j, j < l.length → l[j]? = ops[k + j]?) → k + l.length = n → HeadInv md ops n listed →
    Region.lexHead md ops g l.length k listed = true → wpS P ops S Lq l a →
    anyS P md ops S n (fun listed' a' => Region.seqB md ops g n listed' = true ∧ Lq a') l.length listed a
  | [], k, listed, a, _, hk, _, hB, h => by
    have : k = n := by simpa using hk
    subst this
    exact ⟨by simpa [Region.lexHead] using hB, h⟩
  | o :: l, k, listed, a, hl, hk, inv, hB, h => by
    have h0 : ops[k]? = some o := by simpa using (hl 0 (by simp)).symm
    simp only [List.length_cons, Region.lexHead, Bool.and_eq_true] at hB
    obtain ⟨⟨hr, hf⟩, hB'⟩ := hB
    have hkn : k < n := by simp only [List.length_cons] at hk; omega
    have hr' : k ∈ Region.ready md ops listed := by simpa using hr
    obtain ⟨v, hy, hK⟩ := h
    exact anyS_first h0 (Region.noSelect_spec hsel) hs hc hn hkn (fun listed' a' hL => seqB_ready hL.1) l.length listed a inv (Region.free_spec h0 hf) hr' hy
      (anyS_lex hsel hs hc hn l (k + 1) _ _ (fun j hj => by have := hl (j + 1) (by simp; omega); simpa [Nat.add_assoc, Nat.add_comm 1 j] using this) (by simp only [List.length_cons] at hk; omega) (inv.set hr' hkn) hB' hK)

/-- THE LAW, with a tail: the first n operations by S; the rest, whose order is forced, from every world of S. -/
theorem wp_region_S {id : Nat} {Q : Exit → Act → World → Prop} {a : Act} {w : World} {l : List Oper} (n : Nat) (S : World → Prop) (hm : P.follows .mixedOrders = true) (hB : Region.lexTailB .any l.toArray n = true)
    (hS : S w.drew) (h : wpS P l.toArray S (fun a' => ∀ w', S w' → wpList P l.toArray Q (l.drop n) a' w') (l.take n) a) : (Code.region id l.toArray true).wp P Q a w := by
  simp only [Region.lexTailB, Bool.and_eq_true, decide_eq_true_eq] at hB
  obtain ⟨⟨⟨⟨hsel, hn⟩, hs⟩, hc⟩, hlex⟩ := hB
  have hn' : n < l.length := by simpa using hn
  have htl : (l.take n).length = n := by simp; omega
  have hdl : (l.drop n).length = l.toArray.size - n := by simp
  have inv0 : HeadInv .any l.toArray n (Array.replicate l.toArray.size false) :=
    ⟨by simp, fun j oj _ hl => (by rw [getD_replicate_false] at hl; cases hl), fun t _ ht => getD_in (by simpa using ht) (getD_replicate_false _ _)⟩
  have H := anyS_lex (md := .any) (g := l.toArray.size - n) hsel hs hc hn (l.take n) 0 _ a (fun j hj => by
    have hj' : j < n := by rw [htl] at hj; exact hj
    simp [hj']) (by simpa using htl) inv0 (by rw [htl]; exact hlex) h
  refine wp_region_any hm ?_
  have := wpAny_of_anyS (Q := Q) (g := l.toArray.size - n) (fun listed a' w' hL hS' => by
    have := wpAny_of_seq (md := .any) (Q' := Q) (l.drop n) n listed a' w' (fun j => by simp [List.getElem?_drop]) (by rw [hdl]; exact hL.1) (hL.2 w' hS')
    rwa [hdl] at this) _ _ _ _ H hS
  rw [htl, show n + (l.toArray.size - n) = l.toArray.size by omega] at this
  exact this
end
end Go.Proofs.YtnklnenjdffbaaaDoor
