/- Two floats with one text are one float. -/
import Derived.Test.YtnklnenjdffbaaaDoorKe
namespace Go.Proofs.YtnklnenjdffbaaaDoor
set_option linter.unusedVariables false
set_option maxRecDepth 100000
def dv (l : List UInt8) : Nat := l.foldl (fun a c => a * 10 + (c.toNat - 48)) 0
theorem dv_snoc (l : List UInt8) (c : UInt8) : dv (l ++ [c]) = dv l * 10 + (c.toNat - 48) := by unfold dv; rw [List.foldl_append]; rfl
theorem dv_dec (u : Nat) : dv (Lib.decDigits u) = u := by
  induction u using Nat.strongRecOn with
  | ind u ih =>
    rw [Lib.decDigits]
    split
    · rename_i h
      have h8 : (UInt8.ofNat (48 + u)).toNat = 48 + u := by rw [UInt8.toNat_ofNat']; omega
      show 0 * 10 + ((UInt8.ofNat (48 + u)).toNat - 48) = u
      rw [h8]; omega
    · rename_i h
      have h8 : (UInt8.ofNat (48 + u % 10)).toNat = 48 + u % 10 := by rw [UInt8.toNat_ofNat']; omega
      rw [dv_snoc, ih (u / 10) (by omega), h8]; omega
theorem dv_zeros (l : List UInt8) : ∀ k, dv (l ++ List.replicate k 48) = dv l * 10 ^ k
  | 0 => by simp
  | k + 1 => by
    rw [List.replicate_succ', ← List.append_assoc, dv_snoc, dv_zeros l k, Nat.pow_succ, ← Nat.mul_assoc]; rfl
theorem trimZ_zeros (l : List UInt8) : ∀ k, trimZ (l ++ List.replicate k 48) = trimZ l
  | 0 => by simp
  | k + 1 => by rw [List.replicate_succ', ← List.append_assoc, trimZ_snoc, if_pos rfl, trimZ_zeros l k]
theorem trimZ_split (l : List UInt8) : ∃ k, l = trimZ l ++ List.replicate k 48 := by
  refine ⟨(l.reverse.takeWhile (· == 48)).length, ?_⟩
  have h1 : l.reverse.takeWhile (· == 48) = List.replicate (l.reverse.takeWhile (· == 48)).length 48 :=
    List.eq_replicate_of_mem fun b hb => by
      have := List.all_eq_true.1 (List.all_takeWhile (p := fun x : UInt8 => x == 48) (l := l.reverse)) b hb
      simpa using this
  have h2 := congrArg List.reverse (List.takeWhile_append_dropWhile (p := fun x : UInt8 => x == 48) (l := l.reverse))
  rw [List.reverse_append, List.reverse_reverse, h1, List.reverse_replicate] at h2
  exact h2.symm
theorem trimZ_idem (l : List UInt8) : trimZ (trimZ l) = trimZ l := by
  obtain ⟨k, hk⟩ := trimZ_split l
  have := trimZ_zeros (trimZ l) k
  rw [← hk] at this
  exact this.symm
theorem dec_mem (u : Nat) : ∀ c ∈ Lib.decDigits u, 48 ≤ c.toNat ∧ c.toNat ≤ 57 := by
  induction u using Nat.strongRecOn with
  | ind u ih =>
    intro c hc
    rw [Lib.decDigits] at hc
    split at hc
    · rename_i h
      rw [List.mem_singleton] at hc
      subst hc
      rw [UInt8.toNat_ofNat']; omega
    · rename_i h
      rcases List.mem_append.1 hc with hc | hc
      · exact ih (u / 10) (by omega) c hc
      · rw [List.mem_singleton] at hc
        subst hc
        rw [UInt8.toNat_ofNat']; omega
/-- what the digits of a float are like -/
structure Dig (l : List UInt8) : Prop where
  mem : ∀ c ∈ l, 48 ≤ c.toNat ∧ c.toNat ≤ 57
  hd : ∃ x t, l = x :: t ∧ x ≠ 48
  tr : trimZ l = l
theorem dig_of (u : Nat) (h : 1 ≤ u) : Dig (trimZ (Lib.decDigits u)) := by
  obtain ⟨x, hx0, hx48⟩ := decDigits_head u h
  have hne := trimZ_ne _ x hx0 hx48
  have hp := trimZ_prefix (Lib.decDigits u)
  refine ⟨fun c hc => ?_, ?_, trimZ_idem _⟩
  · rw [hp] at hc; exact dec_mem u c (List.mem_of_mem_take hc)
  · obtain ⟨k, hk⟩ := trimZ_split (Lib.decDigits u)
    cases hT : trimZ (Lib.decDigits u) with
    | nil => exact absurd hT hne
    | cons y t =>
      refine ⟨y, t, rfl, ?_⟩
      rw [hk, hT] at hx0
      have : y = x := by simpa using hx0
      rw [this]; exact hx48
theorem split_at (x : UInt8) : ∀ (A A' B B' : List UInt8), x ∉ A → x ∉ A' → A ++ x :: B = A' ++ x :: B' → A = A' ∧ B = B'
  | [], [], B, B', _, _, h => ⟨rfl, by simpa using h⟩
  | [], a :: A', B, B', _, h2, h => by
    have : x = a := by simpa using (List.cons.inj h).1
    exact absurd (by rw [this]; exact List.mem_cons_self) h2
  | a :: A, [], B, B', h1, _, h => by
    have : a = x := (List.cons.inj h).1
    exact absurd (by rw [this]; exact List.mem_cons_self) h1
  | a :: A, a' :: A', B, B', h1, h2, h => by
    obtain ⟨e1, e2⟩ := List.cons.inj h
    obtain ⟨e3, e4⟩ := split_at x A A' B B' (fun hm => h1 (List.mem_cons_of_mem _ hm)) (fun hm => h2 (List.mem_cons_of_mem _ hm)) e2
    exact ⟨by rw [e1, e3], e4⟩
def nd46 (l : List UInt8) : List UInt8 := l.filter (fun c => !(c == 46))
theorem nd46_app (a b : List UInt8) : nd46 (a ++ b) = nd46 a ++ nd46 b := List.filter_append _ _
theorem nd46_cons (b : List UInt8) : nd46 (46 :: b) = nd46 b := rfl
theorem nd46_id {l : List UInt8} (h : ∀ c ∈ l, 48 ≤ c.toNat ∧ c.toNat ≤ 57) : nd46 l = l := by
  unfold nd46
  rw [List.filter_eq_self]
  intro c hc
  have := h c hc
  have : c ≠ 46 := by intro e; rw [e] at this; exact absurd this.1 (by decide)
  simpa using this
theorem not_mem_dig {l : List UInt8} {x : UInt8} (h : ∀ c ∈ l, 48 ≤ c.toNat ∧ c.toNat ≤ 57) (hx : x.toNat < 48 ∨ 57 < x.toNat) : x ∉ l := fun hm => by have := h x hm; omega
theorem mem_take_drop {l : List UInt8} {k : Nat} {c : UInt8} (h : c ∈ l.take k ∨ c ∈ l.drop k) : c ∈ l := h.elim List.mem_of_mem_take List.mem_of_mem_drop
def mE (l : List UInt8) : List UInt8 := l.take 1 ++ (if 1 < l.length then 46 :: l.drop 1 else [])
theorem mE_101 {l : List UInt8} (D : Dig l) : (101 : UInt8) ∉ mE l := by
  intro h
  have h101 : (101 : UInt8) ∉ l := not_mem_dig D.mem (by decide)
  unfold mE at h
  rcases List.mem_append.1 h with h | h
  · exact h101 (List.mem_of_mem_take h)
  · split at h
    · rcases List.mem_cons.1 h with h | h
      · exact absurd h (by decide)
      · exact h101 (List.mem_of_mem_drop h)
    · cases h
theorem mE_nd {l : List UInt8} (D : Dig l) : nd46 (mE l) = l := by
  unfold mE
  rw [nd46_app, nd46_id (fun c hc => D.mem c (List.mem_of_mem_take hc))]
  split
  · rw [nd46_cons, nd46_id (fun c hc => D.mem c (List.mem_of_mem_drop hc)), List.take_append_drop]
  · rename_i h
    show _ ++ [] = _
    rw [List.append_nil, List.take_of_length_le (by omega)]
theorem expB_val : ∀ a : Nat, a < 400 → dv (expB a) = a := by decide +kernel
theorem fmtE_split (l : List UInt8) (e : Int) : fmtE l e = mE l ++ 101 :: ((if e < 0 then 45 else 43) :: expB e.natAbs) := by
  unfold fmtE mE; simp
theorem fmtE_inj {l l' : List UInt8} {e e' : Int} (D : Dig l) (D' : Dig l') (he : e.natAbs < 400) (he' : e'.natAbs < 400) (h : fmtE l e = fmtE l' e') : l = l' ∧ e = e' := by
  rw [fmtE_split, fmtE_split] at h
  obtain ⟨h1, h2⟩ := split_at 101 _ _ _ _ (mE_101 D) (mE_101 D') h
  have h3 := congrArg nd46 h1
  rw [mE_nd D, mE_nd D'] at h3
  obtain ⟨h4, h5⟩ := List.cons.inj h2
  have h6 := congrArg dv h5
  rw [expB_val _ he, expB_val _ he'] at h6
  refine ⟨h3, ?_⟩
  by_cases a : e < 0 <;> by_cases b : e' < 0
  · omega
  · rw [if_pos a, if_neg b] at h4; exact absurd h4 (by decide)
  · rw [if_neg a, if_pos b] at h4; exact absurd h4 (by decide)
  · omega
theorem fmtE_101 (l : List UInt8) (e : Int) : (101 : UInt8) ∈ fmtE l e := by rw [fmtE_split]; simp
theorem zeros_dig (n : Nat) : ∀ c ∈ List.replicate n (48 : UInt8), 48 ≤ c.toNat ∧ c.toNat ≤ 57 := fun c hc => by
  rw [List.eq_of_mem_replicate hc]; decide
theorem fmtF_101 {l : List UInt8} (D : Dig l) (dp : Int) : (101 : UInt8) ∉ fmtF l dp := by
  have h101 : (101 : UInt8) ∉ l := not_mem_dig D.mem (by decide)
  have hz : ∀ n, (101 : UInt8) ∉ List.replicate n 48 := fun n => not_mem_dig (zeros_dig n) (by decide)
  unfold fmtF
  split
  · intro h
    rcases List.mem_append.1 h with h | h
    · rcases List.mem_append.1 h with h | h
      · exact h101 (List.mem_of_mem_take h)
      · exact hz _ h
    · split at h
      · rcases List.mem_cons.1 h with h | h
        · exact absurd h (by decide)
        · exact h101 (List.mem_of_mem_drop h)
      · cases h
  · intro h
    rcases List.mem_cons.1 h with h | h
    · exact absurd h (by decide)
    · rcases List.mem_cons.1 h with h | h
      · exact absurd h (by decide)
      · rcases List.mem_append.1 h with h | h
        · exact hz _ h
        · exact h101 h
theorem fmtF_nd {l : List UInt8} (D : Dig l) (dp : Int) : nd46 (fmtF l dp) = if 0 < dp then l ++ List.replicate (dp.toNat - l.length) 48 else 48 :: (List.replicate (-dp).toNat 48 ++ l) := by
  unfold fmtF
  split
  · rw [nd46_app, nd46_app, nd46_id (fun c hc => D.mem c (List.mem_of_mem_take hc)), nd46_id (zeros_dig _)]
    split
    · rename_i h
      rw [nd46_cons, nd46_id (fun c hc => D.mem c (List.mem_of_mem_drop hc)), show dp.toNat - l.length = 0 by omega]
      show l.take dp.toNat ++ [] ++ _ = l ++ []
      rw [List.append_nil, List.append_nil, List.take_append_drop]
    · rename_i h
      show _ ++ _ ++ [] = _
      rw [List.append_nil, List.take_of_length_le (by omega)]
  · show nd46 ([48, 46] ++ (List.replicate _ 48 ++ l)) = _
    rw [nd46_app, nd46_app, nd46_id (zeros_dig _), nd46_id D.mem]; rfl
theorem dropZ {l : List UInt8} (D : Dig l) : ∀ n, (List.replicate n 48 ++ l).dropWhile (· == 48) = l
  | 0 => by
    obtain ⟨x, t, rfl, hx⟩ := D.hd
    show List.dropWhile _ (x :: t) = _
    rw [List.dropWhile_cons_of_neg (by simpa using hx)]
  | n + 1 => by
    rw [List.replicate_succ, List.cons_append, List.dropWhile_cons_of_pos (by decide)]; exact dropZ D n
theorem fmtF_inj {l l' : List UInt8} {d d' : Int} (D : Dig l) (D' : Dig l') (h : fmtF l d = fmtF l' d') : l = l' ∧ d = d' := by
  have hn := congrArg nd46 h
  rw [fmtF_nd D, fmtF_nd D'] at hn
  obtain ⟨x, t, hx, hx48⟩ := D.hd
  obtain ⟨x', t', hx', hx48'⟩ := D'.hd
  by_cases a : 0 < d <;> by_cases b : 0 < d'
  · rw [if_pos a, if_pos b] at hn
    have e1 := congrArg trimZ hn
    rw [trimZ_zeros, trimZ_zeros, D.tr, D'.tr] at e1
    refine ⟨e1, ?_⟩
    subst e1
    have h46 : (46 : UInt8) ∉ l := not_mem_dig D.mem (by decide)
    have hz : ∀ n, (46 : UInt8) ∉ List.replicate n 48 := fun n => not_mem_dig (zeros_dig n) (by decide)
    unfold fmtF at h
    rw [if_pos a, if_pos b] at h
    have hno : ∀ k n, (46 : UInt8) ∉ l.take k ++ List.replicate n 48 := fun k n hm => by
      rcases List.mem_append.1 hm with hm | hm
      · exact h46 (List.mem_of_mem_take hm)
      · exact hz _ hm
    by_cases p : d.toNat < l.length <;> by_cases q : d'.toNat < l.length
    · rw [if_pos p, if_pos q] at h
      obtain ⟨h1, _⟩ := split_at 46 _ _ _ _ (hno _ _) (hno _ _) h
      have := congrArg List.length h1
      simp only [List.length_append, List.length_take, List.length_replicate] at this
      omega
    · rw [if_pos p, if_neg q, List.append_nil] at h
      exact absurd (by rw [← h]; simp) (hno d'.toNat (d'.toNat - l.length))
    · rw [if_neg p, if_pos q, List.append_nil] at h
      exact absurd (by rw [h]; simp) (hno d.toNat (d.toNat - l.length))
    · rw [if_neg p, if_neg q, List.append_nil, List.append_nil] at h
      have := congrArg List.length h
      simp only [List.length_append, List.length_take, List.length_replicate] at this
      omega
  · rw [if_pos a, if_neg b, hx] at hn
    exact absurd (List.cons.inj hn).1 hx48
  · rw [if_neg a, if_pos b, hx'] at hn
    exact absurd (List.cons.inj hn).1.symm hx48'
  · rw [if_neg a, if_neg b] at hn
    have hn := (List.cons.inj hn).2
    have e1 := congrArg (List.dropWhile (· == 48)) hn
    rw [dropZ D, dropZ D'] at e1
    refine ⟨e1, ?_⟩
    subst e1
    have := congrArg List.length hn
    simp only [List.length_append, List.length_replicate] at this
    omega
theorem fmtG_inj {l l' : List UInt8} {d d' : Int} (D : Dig l) (D' : Dig l') (he : (d - 1).natAbs < 400) (he' : (d' - 1).natAbs < 400) (h : fmtG l d = fmtG l' d') : l = l' ∧ d = d' := by
  unfold fmtG at h
  split at h <;> split at h
  · obtain ⟨a, b⟩ := fmtE_inj D D' he he' h; exact ⟨a, by omega⟩
  · exact absurd (by rw [← h]; exact fmtE_101 _ _) (fmtF_101 D' d')
  · exact absurd (by rw [h]; exact fmtE_101 _ _) (fmtF_101 D d)
  · exact fmtF_inj D D' h
theorem fmtG_hd {l : List UInt8} (D : Dig l) (d : Int) : ∃ c t, fmtG l d = c :: t ∧ 48 ≤ c.toNat ∧ c.toNat ≤ 57 ∧ (c = 48 → t ≠ []) := by
  obtain ⟨x, t, hx, hx48⟩ := D.hd
  have hm := D.mem x (by rw [hx]; exact List.mem_cons_self)
  unfold fmtG
  split
  · unfold fmtE
    exact ⟨x, _, by rw [hx]; rfl, hm.1, hm.2, fun h => absurd h hx48⟩
  · unfold fmtF
    split
    · obtain ⟨k, hk⟩ : ∃ k, d.toNat = k + 1 := ⟨d.toNat - 1, by omega⟩
      exact ⟨x, _, by rw [hx, hk]; rfl, hm.1, hm.2, fun h => absurd h hx48⟩
    · exact ⟨48, _, rfl, by decide, by decide, fun _ h => by cases h⟩
/-- the value of the digits -/
theorem dig_val (b : Nat) (h : b < 18446744073709551616) (hx : exN b ≠ 2047) (hm : mantN b ≠ 0) : vV (mN b) (eN b) = dv (digN b) * 10 ^ (500 + dpN b - (digN b).length).toNat := by
  obtain ⟨n1, n2, n3, n4, n5, _, _, _, _⟩ := norm_spec b h hx hm
  have p := shortP_le (mN b) (eN b) n4 n5
  obtain ⟨k, hk⟩ := trimZ_split (Lib.decDigits (shortD (mN b) (eN b)))
  have hv := congrArg dv hk
  rw [dv_dec, dv_zeros] at hv
  have hl := congrArg List.length hk
  simp only [List.length_append, List.length_replicate] at hl
  unfold vV
  rw [dD_short _ _ n4 n5]
  unfold digN dpN
  rw [hl]
  rw [show (500 + ((((trimZ (Lib.decDigits (shortD (mN b) (eN b)))).length + k : Nat) : Int) + shortP (mN b) (eN b)) - ((trimZ (Lib.decDigits (shortD (mN b) (eN b)))).length : Nat)).toNat = k + (500 + shortP (mN b) (eN b)).toNat by omega,
    Nat.pow_add, ← Nat.mul_assoc, ← hv]
theorem mag_ex (b : Nat) : exN (b % 9223372036854775808) = exN b ∧ frN (b % 9223372036854775808) = frN b := by unfold exN frN; omega
theorem mag_m (b : Nat) : mN (b % 9223372036854775808) = mN b ∧ eN (b % 9223372036854775808) = eN b ∧ mantN (b % 9223372036854775808) = mantN b := by
  have h1 : mantN (b % 9223372036854775808) = mantN b := by unfold mantN; rw [(mag_ex b).1, (mag_ex b).2]
  have h2 : expN (b % 9223372036854775808) = expN b := by unfold expN; rw [(mag_ex b).1]
  have h3 : shN (b % 9223372036854775808) = shN b := by unfold shN; rw [h1]
  exact ⟨by unfold mN; rw [h1, h3], by unfold eN; rw [h2, h3], h1⟩
theorem fin_inj {a b : Nat} (ha : a < 18446744073709551616) (hb : b < 18446744073709551616) (xa : exN a ≠ 2047) (xb : exN b ≠ 2047) (ma : mantN a ≠ 0) (mb : mantN b ≠ 0)
    (h : fmtG (digN a) (dpN a) = fmtG (digN b) (dpN b)) : a % 9223372036854775808 = b % 9223372036854775808 := by
  obtain ⟨n1, n2, n3, n4, n5, _, _, _, _⟩ := norm_spec a ha xa ma
  obtain ⟨o1, o2, o3, o4, o5, _, _, _, _⟩ := norm_spec b hb xb mb
  have la := dig_len a ha xa ma
  have lb := dig_len b hb xb mb
  obtain ⟨e1, e2⟩ := fmtG_inj (dig_of _ (shortD_pos _ _ n4 n5 n1 n2)) (dig_of _ (shortD_pos _ _ o4 o5 o1 o2)) (by omega) (by omega) h
  have e1 : digN a = digN b := e1
  have v : vV (mN a) (eN a) = vV (mN b) (eN b) := by rw [dig_val a ha xa ma, dig_val b hb xb mb, e1, e2]
  have za : ∀ x, exN x ≠ 2047 → x % 9223372036854775808 < 9218868437227405312 := fun x hx => by unfold exN at hx; omega
  have zb : ∀ x, mantN x ≠ 0 → 1 ≤ x % 9223372036854775808 := fun x hx => by
    rcases Nat.eq_zero_or_pos (x % 9223372036854775808) with h | h
    · exfalso
      apply hx
      rw [← (mag_m x).2.2, h]; decide
    · exact h
  refine word_inj (zb a ma) (zb b mb) (za a xa) (za b xb) ?_
  rw [(mag_m a).1, (mag_m a).2.1, (mag_m b).1, (mag_m b).2.1]; exact v
/-- what stands behind the sign of a finite float -/
def bodyB (b : Nat) : List UInt8 := if mantN b = 0 then [48] else fmtG (digN b) (dpN b)
theorem body_hd (b : Nat) (h : b < 18446744073709551616) (hx : exN b ≠ 2047) : ∃ c t, bodyB b = c :: t ∧ 48 ≤ c.toNat ∧ c.toNat ≤ 57 := by
  unfold bodyB
  split
  · exact ⟨48, [], rfl, by decide, by decide⟩
  · rename_i hm
    obtain ⟨n1, n2, n3, n4, n5, _, _, _, _⟩ := norm_spec b h hx hm
    obtain ⟨c, t, h1, h2, h3, _⟩ := fmtG_hd (dig_of _ (shortD_pos _ _ n4 n5 n1 n2)) (dpN b)
    exact ⟨c, t, h1, h2, h3⟩
theorem body_inj {a b : Nat} (ha : a < 18446744073709551616) (hb : b < 18446744073709551616) (xa : exN a ≠ 2047) (xb : exN b ≠ 2047) (h : bodyB a = bodyB b) : a % 9223372036854775808 = b % 9223372036854775808 := by
  have z : ∀ x, mantN x = 0 → x % 9223372036854775808 = 0 := fun x hx => by
    unfold mantN at hx
    split at hx
    · rename_i h0; unfold exN at h0; unfold frN at hx; omega
    · omega
  have ne : ∀ x, x < 18446744073709551616 → exN x ≠ 2047 → mantN x ≠ 0 → fmtG (digN x) (dpN x) ≠ [48] := fun x hx hx2 hm he => by
    obtain ⟨n1, n2, n3, n4, n5, _, _, _, _⟩ := norm_spec x hx hx2 hm
    obtain ⟨c, t, h1, h2, h3, h4⟩ := fmtG_hd (dig_of _ (shortD_pos _ _ n4 n5 n1 n2)) (dpN x)
    rw [show fmtG (digN x) (dpN x) = c :: t from h1] at he
    obtain ⟨e1, e2⟩ := List.cons.inj he
    exact h4 e1 e2
  unfold bodyB at h
  split at h <;> split at h
  · rename_i p q; rw [z a p, z b q]
  · rename_i p q; exact absurd h.symm (ne b hb xb q)
  · rename_i p q; exact absurd h (ne a ha xa p)
  · rename_i p q; exact fin_inj ha hb xa xb p q h
theorem text_fin (b : Nat) (h : exN b ≠ 2047) : textB b = sgnB (sgN b) ++ bodyB b := by
  unfold textB bodyB
  rw [if_neg h]
  split <;> rfl
theorem text_inj {a b : Nat} (ha : a < 18446744073709551616) (hb : b < 18446744073709551616) (na : exN a = 2047 → frN a ≠ 0 → a = 9221120237041090561) (nb : exN b = 2047 → frN b ≠ 0 → b = 9221120237041090561)
    (h : textB a = textB b) : a = b := by
  have spl : ∀ x, x < 18446744073709551616 → (sgN x = true ∧ x = 9223372036854775808 + x % 9223372036854775808) ∨ (sgN x = false ∧ x = x % 9223372036854775808) := fun x hx => by
    unfold sgN
    by_cases h : 9223372036854775808 ≤ x
    · exact .inl ⟨decide_eq_true h, by omega⟩
    · exact .inr ⟨decide_eq_false h, by omega⟩
  have inff : ∀ x, x < 18446744073709551616 → exN x = 2047 → frN x = 0 → x % 9223372036854775808 = 9218868437227405312 := fun x hx h1 h2 => by unfold exN at h1; unfold frN at h2; omega
  -- the beginning of a text that is of no number
  have odd : ∀ x, exN x = 2047 → (frN x ≠ 0 ∧ textB x = [78, 97, 78]) ∨ (frN x = 0 ∧ sgN x = true ∧ textB x = [45, 73, 110, 102]) ∨ (frN x = 0 ∧ sgN x = false ∧ textB x = [43, 73, 110, 102]) := fun x hx => by
    unfold textB
    rw [if_pos hx]
    by_cases hf : frN x = 0
    · rw [if_neg (by simpa using hf)]
      cases hs : sgN x
      · exact .inr (.inr ⟨hf, rfl, by simp⟩)
      · exact .inr (.inl ⟨hf, rfl, by simp⟩)
    · rw [if_pos hf]; exact .inl ⟨hf, rfl⟩
  have mix : ∀ x y, y < 18446744073709551616 → exN x = 2047 → exN y ≠ 2047 → textB x ≠ textB y := fun x y hy hx hy2 he => by
    obtain ⟨c, t, h1, h2, h3⟩ := body_hd y hy hy2
    rw [text_fin y hy2, h1] at he
    have nb : ∀ k : UInt8, k.toNat < 48 ∨ 57 < k.toNat → k ≠ c := fun k hk e => by rw [← e] at h2 h3; omega
    rcases odd x hx with ⟨_, e⟩ | ⟨_, _, e⟩ | ⟨_, _, e⟩ <;> rw [e] at he <;> cases hs : sgN y <;> rw [hs] at he
    · exact nb 78 (by decide) (List.cons.inj he).1
    · exact absurd (List.cons.inj he).1 (by decide)
    · exact nb 45 (by decide) (List.cons.inj he).1
    · exact nb 73 (by decide) (List.cons.inj (List.cons.inj he).2).1
    · exact nb 43 (by decide) (List.cons.inj he).1
    · exact absurd (List.cons.inj he).1 (by decide)
  by_cases xa : exN a = 2047 <;> by_cases xb : exN b = 2047
  · rcases odd a xa with ⟨f, e⟩ | ⟨f, s, e⟩ | ⟨f, s, e⟩ <;> rcases odd b xb with ⟨f', e'⟩ | ⟨f', s', e'⟩ | ⟨f', s', e'⟩ <;> rw [e, e'] at h
    · rw [na xa f, nb xb f']
    · exact absurd h (by decide)
    · exact absurd h (by decide)
    · exact absurd h (by decide)
    · have := inff a ha xa f; have := inff b hb xb f'
      rcases spl a ha with ⟨p, q⟩ | ⟨p, q⟩ <;> rcases spl b hb with ⟨p', q'⟩ | ⟨p', q'⟩
      · omega
      · rw [s'] at p'; cases p'
      · rw [s] at p; cases p
      · omega
    · exact absurd h (by decide)
    · exact absurd h (by decide)
    · exact absurd h (by decide)
    · have := inff a ha xa f; have := inff b hb xb f'
      rcases spl a ha with ⟨p, q⟩ | ⟨p, q⟩ <;> rcases spl b hb with ⟨p', q'⟩ | ⟨p', q'⟩
      · omega
      · rw [s] at p; cases p
      · rw [s'] at p'; cases p'
      · omega
  · exact absurd h (mix a b hb xa xb)
  · exact absurd h.symm (mix b a ha xb xa)
  · rw [text_fin a xa, text_fin b xb] at h
    obtain ⟨c, t, h1, h2, h3⟩ := body_hd a ha xa
    obtain ⟨c', t', h1', h2', h3'⟩ := body_hd b hb xb
    have nc : (45 : UInt8) ≠ c := fun e => by rw [← e] at h2; exact absurd h2 (by decide)
    have nc' : (45 : UInt8) ≠ c' := fun e => by rw [← e] at h2'; exact absurd h2' (by decide)
    rcases spl a ha with ⟨p, q⟩ | ⟨p, q⟩ <;> rcases spl b hb with ⟨p', q'⟩ | ⟨p', q'⟩ <;> rw [p, p'] at h
    · have := body_inj ha hb xa xb (List.cons.inj h).2; omega
    · rw [h1'] at h; exact absurd (List.cons.inj h).1 nc'
    · rw [h1] at h; exact absurd (List.cons.inj h).1.symm nc
    · have := body_inj ha hb xa xb h; omega
end Go.Proofs.YtnklnenjdffbaaaDoor
