/- strconv.ftoa64: the plain side. -/
import Derived.Test.YtnklnenjdffbaaaDoorFg
namespace Go.Proofs.YtnklnenjdffbaaaDoor
open Go.RowKit Go.Sort
set_option linter.unusedVariables false
set_option maxRecDepth 100000
theorem rows_ge : ∀ r ∈ Pinned.pow10Rows, 9223372036854775808 ≤ r.1 := by decide +kernel
theorem row10_ge {p : Int} (h1 : -348 ≤ p) (h2 : p ≤ 347) : 9223372036854775808 ≤ (row10 p).1 := by
  have := row10_at h1 h2
  exact rows_ge _ (List.mem_of_getElem? this)
theorem usc_ge (x hi lo s k : Nat) (hx : k * 2 ^ s ≤ x * hi / 18446744073709551616 - 1) (h0 : 1 ≤ x * hi / 18446744073709551616) (hh : x * hi / 18446744073709551616 < 18446744073709551616) : k ≤ usc x hi lo s := by
  unfold usc
  have hp : 0 < 2 ^ s := Nat.two_pow_pos s
  split
  · refine Nat.le_trans ?_ Nat.left_le_or
    rw [Nat.le_div_iff_mul_le hp]
    split <;> omega
  · refine Nat.le_trans ?_ Nat.left_le_or
    rw [Nat.le_div_iff_mul_le hp]
    omega
theorem usc_le (x hi lo s : Nat) (hs : 4 ≤ s) (hh : x * hi / 18446744073709551616 < 18446744073709551616) : usc x hi lo s < 2305843009213693952 := by
  have hp : 16 ≤ 2 ^ s := Nat.pow_le_pow_right (n := 2) (by decide) hs
  have h1 : ∀ y, y < 18446744073709551616 → y / 2 ^ s < 2305843009213693952 := fun y hy => by
    have : y / 2 ^ s ≤ y / 16 := Nat.div_le_div_left hp (show 0 < 16 by decide)
    omega
  unfold usc
  split
  · refine Nat.or_lt_two_pow (n := 61) (h1 _ (by omega)) ?_
    split <;> decide
  · exact Nat.or_lt_two_pow (n := 61) (h1 _ hh) (by decide)
theorem mulhi (x hi : Nat) (hx : x < 18446744073709551616) (hh : hi < 18446744073709551616) : x * hi / 18446744073709551616 < 18446744073709551616 := by
  have := Nat.mul_lt_mul'' hx hh
  omega
theorem scl_ge (m : Nat) (e : Int) (x k : Nat) (h1 : -1137 ≤ e) (h2 : e ≤ 960) (hx : x < 18446744073709551616) (hk : k * 1152921504606846976 + 1 ≤ x / 2) : k ≤ scl m e x := by
  have hok := okE_any m e h1 h2
  unfold okE at hok
  rw [decide_eq_true_eq] at hok
  have hr := row10_ge hok.1 hok.2.1
  have hl := (row10_lt (spP m e)).1
  have hm := mulhi x _ hx hl
  have hs : 2 ^ (spS m e).toNat ≤ 1152921504606846976 := Nat.pow_le_pow_right (n := 2) (by decide) (show (spS m e).toNat ≤ 60 by omega)
  have hge : x / 2 ≤ x * (row10 (spP m e)).1 / 18446744073709551616 := by
    have a1 : x * 9223372036854775808 ≤ x * (row10 (spP m e)).1 := Nat.mul_le_mul_left _ hr
    have a2 : x * 9223372036854775808 / 18446744073709551616 = x / 2 := by omega
    rw [← a2]
    exact Nat.div_le_div_right a1
  have hks : k * 2 ^ (spS m e).toNat ≤ k * 1152921504606846976 := Nat.mul_le_mul_left _ hs
  exact usc_ge _ _ _ _ _ (by omega) (by omega) hm
theorem scl_le (m : Nat) (e : Int) (x : Nat) (h1 : -1137 ≤ e) (h2 : e ≤ 960) (hx : x < 18446744073709551616) : scl m e x < 2305843009213693952 := by
  have hok := okE_any m e h1 h2
  unfold okE at hok
  rw [decide_eq_true_eq] at hok
  exact usc_le _ _ _ _ (by omega) (mulhi x _ hx (row10_lt _).1)
theorem spMin_ge (m : Nat) (e : Int) (hm : 9223372036854775808 ≤ m) (hz : spZ e ≤ 63) : 4611686018427387904 ≤ spMin m e := by
  unfold spMin
  split
  · omega
  · have : 2 ^ (spZ e - 1) ≤ 4611686018427387904 := Nat.pow_le_pow_right (n := 2) (by decide) (show spZ e - 1 ≤ 62 by omega)
    omega
theorem spZ_le (e : Int) (h : -1137 ≤ e) : spZ e ≤ 63 ∧ 11 ≤ spZ e := by unfold spZ; split <;> omega
theorem spMin_lt (m : Nat) (e : Int) (hm2 : m < 18446744073709551616) : spMin m e < 18446744073709551616 := by
  have h : spMin m e ≤ m := by unfold spMin; split <;> exact Nat.sub_le _ _
  omega
theorem spLo_pos (m : Nat) (e : Int) (h1 : -1137 ≤ e) (h2 : e ≤ 960) (hm : 9223372036854775808 ≤ m) (hm2 : m < 18446744073709551616) : 1 ≤ spLo m e := by
  have a := spMin_ge m e hm (spZ_le e h1).1
  have b := scl_ge m e (spMin m e) 1 h1 h2 (spMin_lt m e hm2) (by omega)
  have c := scl_le m e (spMin m e) h1 h2 (spMin_lt m e hm2)
  have d : spOdd m e ≤ 1 := by unfold spOdd; omega
  unfold spLo
  omega
theorem mid_pos (u : Nat) (h : 3 ≤ u) (h2 : u < 2305843009213693952) : 1 ≤ (u + 1 + u / 4 % 2) % 18446744073709551616 / 4 := by
  rw [Nat.mod_eq_of_lt (by omega)]; omega
theorem shortD_pos (m : Nat) (e : Int) (h1 : -1137 ≤ e) (h2 : e ≤ 960) (hm : 9223372036854775808 ≤ m) (hm2 : m < 18446744073709551616) : 1 ≤ shortD m e := by
  have a := spLo_pos m e h1 h2 hm hm2
  have b := scl_ge m e m 3 h1 h2 hm2 (by omega)
  have c := scl_le m e m h1 h2 hm2
  unfold shortD
  split
  · omega
  · split
    · exact mid_pos _ b c
    · exact a
theorem shortD_lt (m : Nat) (e : Int) (h1 : -1137 ≤ e) (h2 : e ≤ 960) (hm2 : m < 18446744073709551616) : shortD m e < 18446744073709551616 := by
  unfold shortD spHi spMid spLo
  split
  · omega
  · split
    · omega
    · omega
theorem shortP_le (m : Nat) (e : Int) (h1 : -1137 ≤ e) (h2 : e ≤ 960) : -350 ≤ shortP m e ∧ shortP m e ≤ 350 := by
  have hok := okE_any m e h1 h2
  unfold okE at hok
  rw [decide_eq_true_eq] at hok
  unfold shortP
  split <;> omega

theorem pow_nDigits (u : Nat) (h : 1 ≤ u) : 10 ^ (Lib.nDigits u - 1) ≤ u := by
  induction u using Nat.strongRecOn with
  | _ u ih =>
    by_cases h10 : u < 10
    · rw [Lib.nDigits_small h10]; simpa using h
    · rw [Lib.nDigits_big h10, Nat.add_sub_cancel]
      have := ih (u / 10) (by omega) (by omega)
      have hp := Lib.nDigits_pos (u / 10)
      obtain ⟨k, hk⟩ : ∃ k, Lib.nDigits (u / 10) = k + 1 := ⟨_, (Nat.sub_add_cancel hp).symm⟩
      rw [hk] at this ⊢
      rw [Nat.add_sub_cancel] at this
      rw [Nat.pow_succ]; omega
theorem dw_nil (p : UInt8 → Bool) : ∀ (l : List UInt8), l.dropWhile p = [] → ∀ x ∈ l, p x = true
  | [], _, x, hx => by cases hx
  | y :: l, h, x, hx => by
    rw [List.dropWhile_cons] at h
    by_cases hy : p y = true
    · rw [if_pos hy] at h
      rcases List.mem_cons.1 hx with rfl | hx
      · exact hy
      · exact dw_nil p l h x hx
    · rw [if_neg hy] at h; cases h
theorem trimZ_ne (l : List UInt8) (x : UInt8) (h0 : l[0]? = some x) (hx : x ≠ 48) : trimZ l ≠ [] := by
  intro h
  unfold trimZ at h
  have h' : l.reverse.dropWhile (· == 48) = [] := by simpa using h
  have := dw_nil _ _ h' x (by rw [List.mem_reverse]; exact List.mem_of_getElem? h0)
  exact hx (by simpa using this)
theorem decDigits_head (u : Nat) (h : 1 ≤ u) : ∃ x, (Lib.decDigits u)[0]? = some x ∧ x ≠ 48 := by
  have hp := Lib.nDigits_pos u
  refine ⟨Lib.dg u (Lib.nDigits u - 1), ?_, ?_⟩
  · rw [Lib.decDigits_eq, List.getElem?_map, List.getElem?_range (by omega)]
    simp
  · have h1 := pow_nDigits u h
    have h2 := Lib.lt_pow_nDigits u
    obtain ⟨k, hk⟩ : ∃ k, Lib.nDigits u = k + 1 := ⟨_, (Nat.sub_add_cancel hp).symm⟩
    rw [hk] at h1 h2 ⊢
    rw [Nat.add_sub_cancel] at h1 ⊢
    rw [Nat.pow_succ] at h2
    have hq : 1 ≤ u / 10 ^ k := by rw [Nat.le_div_iff_mul_le (Nat.pow_pos (by decide))]; omega
    have hq2 : u / 10 ^ k < 10 := by rw [Nat.div_lt_iff_lt_mul (Nat.pow_pos (by decide))]; omega
    unfold Lib.dg
    intro he
    have := congrArg UInt8.toNat he
    rw [UInt8.toNat_ofNat'] at this
    have h48 : (48 : UInt8).toNat = 48 := rfl
    omega
theorem trimZ_prefix (l : List UInt8) : trimZ l = l.take (trimZ l).length := by
  have h : trimZ l <+: l := by
    unfold trimZ
    have := List.dropWhile_suffix (l := l.reverse) (fun x : UInt8 => x == 48)
    rw [← List.reverse_prefix] at this
    simpa using this
  exact (List.prefix_iff_eq_take.1 h)
/-- a float's parts -/
def exN (b : Nat) : Nat := b / 4503599627370496 % 2048
def frN (b : Nat) : Nat := b % 4503599627370496
def sgN (b : Nat) : Bool := decide (9223372036854775808 ≤ b)
def mantN (b : Nat) : Nat := if exN b = 0 then frN b else frN b + 4503599627370496
def expN (b : Nat) : Int := if exN b = 0 then -1022 else (exN b : Int) - 1023
def shN (b : Nat) : Nat := 64 - Lib.bitLen (mantN b)
def mN (b : Nat) : Nat := mantN b * 2 ^ shN b
def eN (b : Nat) : Int := expN b - shN b - 52
/-- the digits and the place of the point -/
def digN (b : Nat) : List UInt8 := trimZ (Lib.decDigits (shortD (mN b) (eN b)))
def dpN (b : Nat) : Int := (Lib.decDigits (shortD (mN b) (eN b))).length + shortP (mN b) (eN b)
/-- a float's text -/
def textB (b : Nat) : List UInt8 :=
  if exN b = 2047 then (if frN b ≠ 0 then [78, 97, 78] else if sgN b then [45, 73, 110, 102] else [43, 73, 110, 102])
  else if mantN b = 0 then sgnB (sgN b) ++ [48]
  else sgnB (sgN b) ++ fmtG (digN b) (dpN b)
theorem bitLenAux_spec : ∀ (f x : Nat), x < 2 ^ f → 1 ≤ x → 2 ^ (Lib.bitLenAux f x - 1) ≤ x ∧ x < 2 ^ Lib.bitLenAux f x ∧ 1 ≤ Lib.bitLenAux f x ∧ Lib.bitLenAux f x ≤ f
  | 0, x, h, h1 => by simp at h; omega
  | f + 1, x, h, h1 => by
    rw [Lib.bitLenAux, if_neg (by omega)]
    by_cases hx : x = 1
    · subst hx
      have : Lib.bitLenAux f (1 / 2) = 0 := by cases f <;> simp [Lib.bitLenAux]
      rw [this]; simp
    · obtain ⟨a, b, c, d⟩ := bitLenAux_spec f (x / 2) (by rw [Nat.pow_succ] at h; omega) (by omega)
      obtain ⟨k, hk⟩ : ∃ k, Lib.bitLenAux f (x / 2) = k + 1 := ⟨_, (Nat.sub_add_cancel c).symm⟩
      rw [hk] at a b d ⊢
      rw [Nat.add_sub_cancel] at a
      rw [show 1 + (k + 1) - 1 = k + 1 by omega, show 1 + (k + 1) = (k + 1) + 1 by omega, Nat.pow_succ 2 (k + 1)]
      have e2 := Nat.pow_succ (n := 2) (m := k)
      refine ⟨by omega, by omega, by omega, by omega⟩
theorem bitLen_spec {x : Nat} (h : x < 18446744073709551616) (h1 : 1 ≤ x) : 2 ^ (Lib.bitLen x - 1) ≤ x ∧ x < 2 ^ Lib.bitLen x ∧ 1 ≤ Lib.bitLen x ∧ Lib.bitLen x ≤ 64 := bitLenAux_spec 64 x h h1
theorem mant_lt (b : Nat) : mantN b < 9007199254740992 := by unfold mantN frN; split <;> omega
theorem norm_spec (b : Nat) (h : b < 18446744073709551616) (hx : exN b ≠ 2047) (hm : mantN b ≠ 0) :
    9223372036854775808 ≤ mN b ∧ mN b < 18446744073709551616 ∧ mN b % 2 ^ spZ (eN b) = 0 ∧ -1137 ≤ eN b ∧ eN b ≤ 960 ∧ 11 ≤ shN b ∧ shN b ≤ 63 ∧ -1022 ≤ expN b ∧ expN b ≤ 1023 := by
  obtain ⟨h1, h2, h3, h4⟩ := bitLen_spec (show mantN b < 18446744073709551616 by have := mant_lt b; omega) (by omega)
  have hl := mant_lt b
  have hx2 : exN b < 2048 := by unfold exN; omega
  have h53 : Lib.bitLen (mantN b) ≤ 53 := by
    rcases Nat.lt_or_ge 53 (Lib.bitLen (mantN b)) with h | h
    · have := Nat.pow_le_pow_right (n := 2) (by decide) (show 53 ≤ Lib.bitLen (mantN b) - 1 by omega)
      omega
    · exact h
  have hexp : -1022 ≤ expN b ∧ expN b ≤ 1023 := by unfold expN; split <;> omega
  have hs : shN b = 64 - Lib.bitLen (mantN b) := rfl
  have hs1 : 11 ≤ shN b := by omega
  have hs2 : shN b ≤ 63 := by omega
  have he : eN b = expN b - shN b - 52 := rfl
  have p1 : 2 ^ (Lib.bitLen (mantN b) - 1) * 2 ^ shN b = 9223372036854775808 := by rw [← Nat.pow_add, show Lib.bitLen (mantN b) - 1 + shN b = 63 by omega]
  have p2 : 2 ^ Lib.bitLen (mantN b) * 2 ^ shN b = 18446744073709551616 := by rw [← Nat.pow_add, show Lib.bitLen (mantN b) + shN b = 64 by omega]
  have q1 : 2 ^ (Lib.bitLen (mantN b) - 1) * 2 ^ shN b ≤ mantN b * 2 ^ shN b := Nat.mul_le_mul_right _ h1
  have q2 : mantN b * 2 ^ shN b < 2 ^ Lib.bitLen (mantN b) * 2 ^ shN b := Nat.mul_lt_mul_of_pos_right h2 (Nat.two_pow_pos _)
  refine ⟨by unfold mN; omega, by unfold mN; omega, ?_, by omega, by omega, hs1, hs2, hexp.1, hexp.2⟩
  have hz : spZ (eN b) ≤ shN b := by
    unfold spZ
    split
    · exact hs1
    · omega
  have : mN b = 2 ^ spZ (eN b) * (mantN b * 2 ^ (shN b - spZ (eN b))) := by
    unfold mN
    rw [show 2 ^ spZ (eN b) * (mantN b * 2 ^ (shN b - spZ (eN b))) = mantN b * (2 ^ spZ (eN b) * 2 ^ (shN b - spZ (eN b))) by rw [Nat.mul_left_comm], ← Nat.pow_add, show spZ (eN b) + (shN b - spZ (eN b)) = shN b by omega]
  rw [this]; exact Nat.mul_mod_right _ _
theorem dig_len (b : Nat) (h : b < 18446744073709551616) (hx : exN b ≠ 2047) (hm : mantN b ≠ 0) : 1 ≤ (digN b).length ∧ (digN b).length ≤ 20 ∧ -390 ≤ dpN b ∧ dpN b ≤ 390 := by
  obtain ⟨n1, n2, n3, n4, n5, _, _, _, _⟩ := norm_spec b h hx hm
  have d1 := shortD_pos _ _ n4 n5 n1 n2
  have d2 := shortD_lt (mN b) (eN b) n4 n5 n2
  have p := shortP_le (mN b) (eN b) n4 n5
  have hl := Lib.nDigits_le20 _ d2
  have hl1 := Lib.nDigits_pos (shortD (mN b) (eN b))
  obtain ⟨x, hx0, hx48⟩ := decDigits_head _ d1
  have ht := trimZ_ne _ x hx0 hx48
  have hle := trimZ_len (Lib.decDigits (shortD (mN b) (eN b)))
  rw [Lib.decDigits_length] at hle
  unfold digN dpN
  rw [Lib.decDigits_length]
  exact ⟨List.length_pos_iff.2 ht, by omega, by omega, by omega⟩
end Go.Proofs.YtnklnenjdffbaaaDoor
