/- The order of values: plain laws. -/
import Derived.Test.YtdajmcgbmdnibaaGreatDoorC
namespace Go.Proofs.YtdajmcgbmdnibaaGreatDoor
open Go.RowKit
set_option linter.unusedVariables false

/-- a three-way comparison that is an order -/
structure Ord3 {α : Type} (f : α → α → Int) : Prop where
  anti : ∀ a b, f b a = -f a b
  range : ∀ a b, -1 ≤ f a b ∧ f a b ≤ 1
  trans : ∀ a b c, f a b ≤ 0 → f b c ≤ 0 → f a c ≤ 0
  strict : ∀ a b c, f a b ≤ 0 → f b c ≤ 0 → f a c = 0 → f a b = 0 ∧ f b c = 0
theorem cmpI_ord : Ord3 cmpI := by
  constructor
  · intro a b; unfold cmpI; split <;> split <;> (try split) <;> omega
  · intro a b; unfold cmpI; split <;> (try split) <;> omega
  · intro a b c; unfold cmpI; split <;> split <;> split <;> (try split) <;> (try split) <;> omega
  · intro a b c; unfold cmpI; split <;> split <;> split <;> (try split) <;> (try split) <;> omega
theorem cmpI_zero {a b : Int} : cmpI a b = 0 ↔ a = b := by unfold cmpI; split <;> (try split) <;> omega
theorem cb_range : ∀ a b, -1 ≤ Lib.compareBytes a b ∧ Lib.compareBytes a b ≤ 1
  | [], [] => by simp [Lib.compareBytes]
  | [], _ :: _ => by simp [Lib.compareBytes]
  | _ :: _, [] => by simp [Lib.compareBytes]
  | x :: a, y :: b => by
    have := cb_range a b
    unfold Lib.compareBytes
    split <;> (try split) <;> omega
theorem cb_anti : ∀ a b, Lib.compareBytes b a = -Lib.compareBytes a b
  | [], [] => by simp [Lib.compareBytes]
  | [], _ :: _ => by simp [Lib.compareBytes]
  | _ :: _, [] => by simp [Lib.compareBytes]
  | x :: a, y :: b => by
    have ih := cb_anti a b
    unfold Lib.compareBytes
    by_cases h1 : x < y
    · have h2 : ¬ y < x := UInt8.not_lt.2 (UInt8.le_of_lt h1)
      simp [h1, h2]
    · by_cases h2 : y < x
      · simp [h1, h2]
      · simp [h1, h2, ih]
theorem cb_zero : ∀ {a b}, Lib.compareBytes a b = 0 ↔ a = b
  | [], [] => by simp [Lib.compareBytes]
  | [], _ :: _ => by simp [Lib.compareBytes]
  | _ :: _, [] => by simp [Lib.compareBytes]
  | x :: a, y :: b => by
    have ih := cb_zero (a := a) (b := b)
    unfold Lib.compareBytes
    by_cases h1 : x < y
    · have : x ≠ y := UInt8.ne_of_lt h1
      simp [h1, this]
    · by_cases h2 : y < x
      · have : x ≠ y := (UInt8.ne_of_lt h2).symm
        simp [h1, h2, this]
      · have : x = y := UInt8.le_antisymm (UInt8.not_lt.1 h2) (UInt8.not_lt.1 h1)
        subst this
        simp [h1, ih]
theorem u8_cases (x y : UInt8) : x < y ∨ x = y ∨ y < x := by
  by_cases h1 : x < y
  · exact .inl h1
  · by_cases h2 : y < x
    · exact .inr (.inr h2)
    · exact .inr (.inl (UInt8.le_antisymm (UInt8.not_lt.1 h2) (UInt8.not_lt.1 h1)))
theorem cb_lt {x y : UInt8} {a b : List UInt8} (h : x < y) : Lib.compareBytes (x :: a) (y :: b) = -1 := by simp [Lib.compareBytes, h]
theorem cb_gt {x y : UInt8} {a b : List UInt8} (h : y < x) : Lib.compareBytes (x :: a) (y :: b) = 1 := by
  have h2 : ¬ x < y := UInt8.not_lt.2 (UInt8.le_of_lt h)
  simp [Lib.compareBytes, h, h2]
theorem cb_eq {x : UInt8} {a b : List UInt8} : Lib.compareBytes (x :: a) (x :: b) = Lib.compareBytes a b := by
  simp [Lib.compareBytes, UInt8.lt_irrefl]
theorem cb_both : ∀ a b c, Lib.compareBytes a b ≤ 0 → Lib.compareBytes b c ≤ 0 → Lib.compareBytes a c ≤ 0 ∧ (Lib.compareBytes a c = 0 → Lib.compareBytes a b = 0 ∧ Lib.compareBytes b c = 0)
  | [], b, [], _, h2 => by
    cases b with
    | nil => simp [Lib.compareBytes]
    | cons y b => simp [Lib.compareBytes] at h2
  | [], b, _ :: _, _, _ => by simp [Lib.compareBytes]
  | x :: a, [], _, h1, _ => by simp [Lib.compareBytes] at h1
  | x :: a, y :: b, [], _, h2 => by simp [Lib.compareBytes] at h2
  | x :: a, y :: b, z :: c, h1, h2 => by
    rcases u8_cases x y with h | h | h
    · rcases u8_cases y z with k | k | k
      · rw [cb_lt (UInt8.lt_trans h k)]; simp
      · subst k; rw [cb_lt h]; simp
      · rw [cb_gt k] at h2; omega
    · subst h
      rcases u8_cases x z with k | k | k
      · rw [cb_lt k]; simp
      · subst k
        rw [cb_eq] at h1 h2 ⊢
        rw [cb_eq, cb_eq]
        exact cb_both a b c h1 h2
      · rw [cb_gt k] at h2; omega
    · rw [cb_gt h] at h1; omega
theorem cb_ord : Ord3 Lib.compareBytes :=
  ⟨cb_anti, cb_range, fun a b c h1 h2 => (cb_both a b c h1 h2).1, fun a b c h1 h2 => (cb_both a b c h1 h2).2⟩
/-- one comparison ahead of another -/
theorem Ord3.then {α β γ : Type} {f : α → α → Int} {g : β → β → Int} (hf : Ord3 f) (hg : Ord3 g) (p : γ → α) (q : γ → β) :
    Ord3 (fun x y : γ => if f (p x) (p y) = 0 then g (q x) (q y) else f (p x) (p y)) := by
  constructor
  · intro a b
    have := hf.anti (p a) (p b); have := hg.anti (q a) (q b)
    show (if f (p b) (p a) = 0 then g (q b) (q a) else f (p b) (p a)) = -(if f (p a) (p b) = 0 then g (q a) (q b) else f (p a) (p b))
    split <;> split <;> omega
  · intro a b
    have := hf.range (p a) (p b); have := hg.range (q a) (q b)
    show -1 ≤ (if f (p a) (p b) = 0 then g (q a) (q b) else f (p a) (p b)) ∧ (if f (p a) (p b) = 0 then g (q a) (q b) else f (p a) (p b)) ≤ 1
    split <;> omega
  · intro a b c h1 h2
    replace h1 : (if f (p a) (p b) = 0 then g (q a) (q b) else f (p a) (p b)) ≤ 0 := h1
    replace h2 : (if f (p b) (p c) = 0 then g (q b) (q c) else f (p b) (p c)) ≤ 0 := h2
    show (if f (p a) (p c) = 0 then g (q a) (q c) else f (p a) (p c)) ≤ 0
    have t := hf.trans (p a) (p b) (p c)
    have s := hf.strict (p a) (p b) (p c)
    have u := hg.trans (q a) (q b) (q c)
    split at h1 <;> split at h2 <;> split <;> first | omega | skip
    all_goals (have t' := t (by omega) (by omega); have s' := s (by omega) (by omega); first | omega | (have u' := u (by omega) (by omega); omega))
  · intro a b c h1 h2 h3
    replace h1 : (if f (p a) (p b) = 0 then g (q a) (q b) else f (p a) (p b)) ≤ 0 := h1
    replace h2 : (if f (p b) (p c) = 0 then g (q b) (q c) else f (p b) (p c)) ≤ 0 := h2
    replace h3 : (if f (p a) (p c) = 0 then g (q a) (q c) else f (p a) (p c)) = 0 := h3
    show (if f (p a) (p b) = 0 then g (q a) (q b) else f (p a) (p b)) = 0 ∧ (if f (p b) (p c) = 0 then g (q b) (q c) else f (p b) (p c)) = 0
    have t := hf.trans (p a) (p b) (p c)
    have s := hf.strict (p a) (p b) (p c)
    have u := hg.strict (q a) (q b) (q c)
    split at h1 <;> split at h2 <;> split at h3 <;> first | omega | skip
    all_goals (have t' := t (by omega) (by omega); have s' := s (by omega) (by omega); first | omega | (have u' := u (by omega) (by omega) (by omega); constructor <;> (try split) <;> omega))
theorem orI_one (x y : Int) (l : List Int) : orI (x :: y :: l) = if x = 0 then orI (y :: l) else x := rfl
theorem cmp_eq_nest (a b : V) : a.cmp b = if cmpI a.kind b.kind = 0 then (if cmpI a.num b.num = 0 then (if Lib.compareBytes a.text.data.toList b.text.data.toList = 0 then cmpI (key a.real) (key b.real) else Lib.compareBytes a.text.data.toList b.text.data.toList) else cmpI a.num b.num) else cmpI a.kind b.kind := by
  unfold V.cmp V.cmps
  simp only [orI]
  repeat (first | rfl | split)
  all_goals simp_all
theorem V.cmp_ord : Ord3 V.cmp := by
  have h1 := (cb_ord.then cmpI_ord (fun v : V => v.text.data.toList) (fun v : V => key v.real))
  have h2 := cmpI_ord.then h1 (fun v : V => v.num) (fun v => v)
  have h3 := cmpI_ord.then h2 (fun v : V => v.kind) (fun v => v)
  have e : V.cmp = fun x y : V => if cmpI x.kind y.kind = 0 then (if cmpI x.num y.num = 0 then (if Lib.compareBytes x.text.data.toList y.text.data.toList = 0 then cmpI (key x.real) (key y.real) else Lib.compareBytes x.text.data.toList y.text.data.toList) else cmpI x.num y.num) else cmpI x.kind y.kind := by
    funext x y; exact cmp_eq_nest x y
  rw [e]; exact h3
theorem canon_idem (b : Nat) : canonB (canonB b) = canonB b := by
  have h : canonB 9221120237041090561 = 9221120237041090561 := by
    have : nanB 9221120237041090561 = true := by decide +kernel
    unfold canonB; rw [if_pos this]
  by_cases hb : nanB b = true
  · have e : canonB b = 9221120237041090561 := by unfold canonB; rw [if_pos hb]
    rw [e, h]
  · have e : canonB b = b := by unfold canonB; rw [if_neg hb]
    rw [e, e]
theorem keyN_inj {a b : Nat} (ha : a < 18446744073709551616) (hb : b < 18446744073709551616) (h : keyN a = keyN b) : a = b := by
  unfold keyN at h
  split at h <;> split at h <;> omega
theorem good_canon {v : V} (h : v.good = true) : canonB v.real = v.real := by
  have h0 : canonB 0 = 0 := by
    have : nanB 0 = false := by decide +kernel
    unfold canonB; rw [this]; rfl
  unfold V.good at h
  split at h
  · simp at h; rw [h.2]; exact h0
  · split at h
    · simp at h; rw [h.1.2]; exact h0
    · split at h
      · simp at h; rw [h.1.2]; exact h0
      · split at h
        · simp at h; omega
        · cases h
theorem same_iff {a b : V} (ha : a.good = true) (hb : b.good = true) (h1 : a.real < 18446744073709551616) (h2 : b.real < 18446744073709551616) : a.same b = (a.cmp b == 0) := by
  have ca := good_canon ha
  have cb := good_canon hb
  have hk : key a.real = key b.real ↔ a.real = b.real := by
    constructor
    · intro h; unfold key at h; rw [ca, cb] at h; exact keyN_inj h1 h2 h
    · intro h; rw [h]
  have ht : (a.text.toList = b.text.toList) ↔ (a.text.data.toList = b.text.data.toList) := by rw [ByteArray.toList_eq, ByteArray.toList_eq]
  have key3 : a.cmp b = 0 ↔ (a.kind = b.kind ∧ a.num = b.num ∧ a.text.data.toList = b.text.data.toList ∧ a.real = b.real) := by
    rw [cmp_eq_nest, ← hk, ← cmpI_zero (a := a.kind), ← cmpI_zero (a := a.num), ← cb_zero, ← cmpI_zero (a := key a.real)]
    constructor
    · intro h
      split at h
      · split at h
        · split at h
          · exact ⟨by assumption, by assumption, by assumption, h⟩
          · omega
        · omega
      · omega
    · rintro ⟨e1, e2, e3, e4⟩
      rw [if_pos e1, if_pos e2, if_pos e3]; exact e4
  rw [Bool.eq_iff_iff, beq_iff_eq, key3]
  unfold V.same
  simp only [Bool.and_eq_true, beq_iff_eq, ht]
  constructor
  · rintro ⟨x, y, z, u⟩; exact ⟨x, y, z, by omega⟩
  · rintro ⟨x, y, z, u⟩; exact ⟨x, y, z, by omega⟩
end Go.Proofs.YtdajmcgbmdnibaaGreatDoor
