/- Floats of 32 bits made 64 and back. Plain. -/
import Derived.Test.YtnklnenjdffbaaaDoorFo
import Derived.Laws.FloatArith
namespace Go.Proofs.YtnklnenjdffbaaaDoor
open Ieee Go.RowKit
set_option linter.unusedVariables false
theorem ssw : single.signWeight = 2147483648 := by decide
theorem sbn : single.binade = 8388608 := by decide
theorem sir : single.infRung = 2139095040 := by decide
theorem slp : single.leastPlace = -149 := by decide
theorem dlp : double.leastPlace = -1074 := by decide
/-- the word of 64 bits of one of 32 (not of a NaN) -/
def rung4 (r : Nat) : Nat := r % 2147483648
def neg4 (r : Nat) : Bool := r / 2147483648 % 2 == 1
def widR (g : Nat) : Nat :=
  if g = 0 then 0 else if g = 2139095040 then 9218868437227405312 else if 8388608 ≤ g then g * 536870912 + 4035225266123964416
  else (874 + g.log2) * 4503599627370496 + (g * 2 ^ (52 - g.log2) - 4503599627370496)
def wid (r : Nat) : Nat := double.word (neg4 r) (widR (rung4 r))
theorem read4_sub {r : Nat} (h : rung4 r < 8388608) : single.read r = .number (neg4 r) (rung4 r) (-149) := by
  unfold Format.read rung4 neg4 at *
  rw [ssw, sbn, slp]
  simp only [h, if_true]
theorem read4_norm {r : Nat} (h1 : 8388608 ≤ rung4 r) (h2 : rung4 r < 2139095040) :
    single.read r = .number (neg4 r) (8388608 + rung4 r % 8388608) (-149 + ((rung4 r / 8388608 - 1 : Nat) : Int)) := by
  unfold Format.read rung4 neg4 at *
  rw [ssw, sbn, sir, slp]
  have h1' : ¬ r % 2147483648 < 8388608 := by omega
  simp only [h1', h2, if_true, if_false]
theorem read4_inf {r : Nat} (h : rung4 r = 2139095040) : single.read r = .infinity (neg4 r) := by
  unfold Format.read rung4 neg4 at *
  rw [ssw, sbn, sir]
  have h1' : ¬ r % 2147483648 < 8388608 := by omega
  have h2' : ¬ r % 2147483648 < 2139095040 := by omega
  rw [if_neg h1', if_neg h2', if_pos h]
theorem read4_nan {r : Nat} (h : 2139095040 < rung4 r) : ∃ f, single.read r = .nan (neg4 r) f := by
  unfold Format.read rung4 neg4 at *
  rw [ssw, sbn, sir]
  have h1' : ¬ r % 2147483648 < 8388608 := by omega
  have h2' : ¬ r % 2147483648 < 2139095040 := by omega
  have h3' : ¬ r % 2147483648 = 2139095040 := by omega
  simp only [h1', h2', h3', if_false]
  exact ⟨_, rfl⟩
theorem cut_exact (s : Bool) (n drop : Nat) (h : n % 2 ^ drop = 0) (hd : drop ≤ n.log2 + 2) : Toward.even.cut s n drop = n / 2 ^ drop := by
  unfold Toward.cut
  rw [Nat.min_eq_left hd, Nat.one_shiftLeft]
  simp only [h]
  have hp : 0 < 2 ^ drop := Nat.two_pow_pos _
  have h1 : decide (2 ^ drop < 2 * 0) = false := by simp
  have h2 : (2 ^ drop == 2 * 0) = false := by simp
  rw [h1, h2]
  simp
/-- to write what is exact -/
theorem nearest_up (f : Format) (s : Bool) (m : Nat) (p : Int) (hm : m ≠ 0) (h : max (p + m.log2 - f.fractionBits) f.leastPlace ≤ p) :
    f.nearest s m p = f.word s (min ((max (p + m.log2 - f.fractionBits) f.leastPlace - f.leastPlace).toNat * f.binade + m * 2 ^ (p - max (p + m.log2 - f.fractionBits) f.leastPlace).toNat) f.infRung) := by
  unfold Format.nearest
  rw [if_neg hm]
  simp only
  rw [show (max (p + m.log2 - f.fractionBits) f.leastPlace - p).toNat = 0 by omega, cut_exact _ _ 0 (by simp [Nat.mod_one]) (by omega), Nat.shiftLeft_eq]
  simp
theorem nearest_down (f : Format) (s : Bool) (m : Nat) (p : Int) (d : Nat) (hm : m ≠ 0) (h : max (p + m.log2 - f.fractionBits) f.leastPlace = p + d) (hx : m % 2 ^ d = 0) (hd : d ≤ m.log2 + 2) :
    f.nearest s m p = f.word s (min ((p + d - f.leastPlace).toNat * f.binade + m / 2 ^ d) f.infRung) := by
  unfold Format.nearest
  rw [if_neg hm]
  simp only
  rw [h, show (p - (p + (d : Int))).toNat = 0 by omega, show (p + (d : Int) - p).toNat = d by omega, Nat.shiftLeft_eq]
  simp only [Nat.pow_zero, Nat.mul_one]
  rw [cut_exact _ _ d hx hd]
theorem log2_of {m k : Nat} (h1 : 2 ^ k ≤ m) (h2 : m < 2 ^ (k + 1)) : m.log2 = k := by
  have hm : m ≠ 0 := by have := Nat.two_pow_pos k; omega
  rw [Nat.log2_eq_iff hm]; exact ⟨h1, h2⟩
theorem log2_spec {m : Nat} (h : m ≠ 0) : 2 ^ m.log2 ≤ m ∧ m < 2 ^ (m.log2 + 1) := (Nat.log2_eq_iff h).1 rfl
theorem rung_word (s : Bool) (x : Nat) (h : x < 9223372036854775808) : rung (double.word s x) = x ∧ neg (double.word s x) = s ∧ double.word s x < 18446744073709551616 := by
  unfold Format.word rung neg
  have : double.signWeight = 9223372036854775808 := sw
  cases s
  · simp only [Bool.false_eq_true, if_false]
    refine ⟨by omega, ?_, by omega⟩
    rw [beq_eq_false_iff_ne]; omega
  · simp only [if_true, this]
    refine ⟨by omega, ?_, by omega⟩
    rw [beq_iff_eq]; omega
theorem rung4_word (s : Bool) (x : Nat) (h : x < 2147483648) : rung4 (single.word s x) = x ∧ neg4 (single.word s x) = s ∧ single.word s x < 4294967296 := by
  unfold Format.word rung4 neg4
  have : single.signWeight = 2147483648 := ssw
  cases s
  · simp only [Bool.false_eq_true, if_false]
    refine ⟨by omega, ?_, by omega⟩
    rw [beq_eq_false_iff_ne]; omega
  · simp only [if_true, this]
    refine ⟨by omega, ?_, by omega⟩
    rw [beq_iff_eq]; omega
theorem word4_of (r : Nat) (h : r < 4294967296) : single.word (neg4 r) (rung4 r) = r := by
  unfold Format.word rung4 neg4
  rw [ssw]
  by_cases h1 : r / 2147483648 % 2 = 1
  · rw [if_pos (by simpa using h1)]; omega
  · rw [if_neg (by simpa using h1)]; omega
theorem word_of (x : Nat) (h : x < 18446744073709551616) : double.word (neg x) (rung x) = x := by
  unfold Format.word rung neg
  rw [sw]
  by_cases h1 : x / 9223372036854775808 % 2 = 1
  · rw [if_pos (by simpa using h1)]; omega
  · rw [if_neg (by simpa using h1)]; omega
theorem notInf (s : Bool) (x : Nat) (h : x < 9218868437227405312) : (double.read (double.word s x)).isInfinity = false := by
  obtain ⟨h1, h2, _⟩ := rung_word s x (by omega)
  rw [read_fin (by rw [h1]; exact h)]; rfl
theorem notInf4 (s : Bool) (x : Nat) (h : x < 2139095040) : (single.read (single.word s x)).isInfinity = false := by
  obtain ⟨h1, h2, _⟩ := rung4_word s x (by omega)
  by_cases h8 : x < 8388608
  · rw [read4_sub (by rw [h1]; exact h8)]; rfl
  · rw [read4_norm (by rw [h1]; omega) (by rw [h1]; exact h)]; rfl
/-- what a subnormal one of 32 bits becomes -/
theorem sub_facts {g : Nat} (h0 : g ≠ 0) (h : g < 8388608) : ∃ k t, g.log2 = k ∧ k ≤ 22 ∧ g * 2 ^ (52 - k) = 4503599627370496 + t ∧ t < 4503599627370496 ∧ widR g = (874 + k) * 4503599627370496 + t ∧ widR g < 9218868437227405312 := by
  obtain ⟨h1, h2⟩ := log2_spec h0
  obtain ⟨k, hk⟩ : ∃ k, g.log2 = k := ⟨_, rfl⟩
  rw [hk] at h1 h2
  have hk22 : k ≤ 22 := by
    rcases Nat.lt_or_ge 22 k with h' | h'
    · have := Nat.pow_le_pow_right (n := 2) (by decide) (show 23 ≤ k from h')
      omega
    · exact h'
  have p1 : 2 ^ k * 2 ^ (52 - k) = 4503599627370496 := by rw [← Nat.pow_add, show k + (52 - k) = 52 by omega]
  have p2 : 2 ^ (k + 1) * 2 ^ (52 - k) = 9007199254740992 := by rw [← Nat.pow_add, show k + 1 + (52 - k) = 53 by omega]
  have q1 : 2 ^ k * 2 ^ (52 - k) ≤ g * 2 ^ (52 - k) := Nat.mul_le_mul_right _ h1
  have q2 : g * 2 ^ (52 - k) < 2 ^ (k + 1) * 2 ^ (52 - k) := Nat.mul_lt_mul_of_pos_right h2 (Nat.two_pow_pos _)
  have hw : widR g = (874 + k) * 4503599627370496 + (g * 2 ^ (52 - k) - 4503599627370496) := by
    unfold widR
    rw [if_neg h0, if_neg (by omega), if_neg (by omega), hk]
  refine ⟨k, g * 2 ^ (52 - k) - 4503599627370496, hk, hk22, by omega, by omega, hw, by rw [hw]; omega⟩
theorem widR_norm {g : Nat} (h1 : 8388608 ≤ g) (h2 : g < 2139095040) : widR g = g * 536870912 + 4035225266123964416 := by
  unfold widR; rw [if_neg (by omega), if_neg (by omega), if_pos h1]
theorem widR_lt {g : Nat} (h : g ≤ 2139095040) : widR g < 9223372036854775808 := by
  by_cases h0 : g = 0
  · subst h0; decide
  · by_cases h8 : g < 8388608
    · obtain ⟨_, _, _, _, _, _, _, h⟩ := sub_facts h0 h8; omega
    · by_cases hi : g = 2139095040
      · subst hi; decide
      · rw [widR_norm (by omega) (by omega)]; omega
/-- 32 bits made 64 -/
theorem conv_up (r : Nat) (h : rung4 r ≤ 2139095040) : floatToFloatBits .f32 r .f64 = some (wid r) := by
  have e1 : FloatKind.f32.decode r = single.read r := rfl
  have e2 : ∀ d, FloatKind.f64.encode d = double.write d := fun _ => rfl
  have e3 : ∀ d, FloatKind.f64.decode d = double.read d := fun _ => rfl
  unfold floatToFloatBits
  rw [if_neg (by decide), e1]
  unfold wid
  obtain ⟨g, hg⟩ : ∃ g, g = rung4 r := ⟨_, rfl⟩
  by_cases hi : rung4 r = 2139095040
  · rw [read4_inf hi]
    simp only [e2, Format.write]
    rw [hi]; rfl
  · by_cases h0 : rung4 r = 0
    · rw [read4_sub (by omega), h0]
      simp only [e2, e3, Format.write]
      have hn : double.nearest (neg4 r) 0 (-149) = double.word (neg4 r) 0 := by unfold Format.nearest; rw [if_pos rfl]
      rw [hn, notInf _ _ (by decide)]
      rfl
    · by_cases h8 : rung4 r < 8388608
      · obtain ⟨k, t, hk, hk2, hm, ht, hw, hlt⟩ := sub_facts h0 h8
        rw [read4_sub h8]
        simp only [e2, e3, Format.write]
        have hl : max (-149 + ((rung4 r).log2 : Int) - (double.fractionBits : Nat)) double.leastPlace = (k : Int) - 201 := by
          rw [hk, dlp, show double.fractionBits = 52 from rfl]; omega
        have hn : double.nearest (neg4 r) (rung4 r) (-149) = double.word (neg4 r) (widR (rung4 r)) := by
          rw [nearest_up double _ _ _ h0 (by rw [hl]; omega), hl, dlp, bn, ir]
          rw [show (-149 - ((k : Int) - 201)).toNat = 52 - k by omega, hm, show ((k : Int) - 201 - -1074).toNat = 873 + k by omega]
          rw [show (873 + k) * 4503599627370496 + (4503599627370496 + t) = widR (rung4 r) by omega, Nat.min_eq_left (by omega)]
        rw [hn, notInf _ _ hlt]
        rfl
      · have hw := widR_norm (show 8388608 ≤ rung4 r by omega) (by omega)
        rw [read4_norm (by omega) (by omega)]
        simp only [e2, e3, Format.write]
        have hlg : (8388608 + rung4 r % 8388608).log2 = 23 := log2_of (by omega) (by omega)
        have hl : max (-149 + ((rung4 r / 8388608 - 1 : Nat) : Int) + ((8388608 + rung4 r % 8388608).log2 : Int) - (double.fractionBits : Nat)) double.leastPlace = ((rung4 r / 8388608 : Nat) : Int) - 179 := by
          rw [hlg, dlp, show double.fractionBits = 52 from rfl]; omega
        have hn : double.nearest (neg4 r) (8388608 + rung4 r % 8388608) (-149 + ((rung4 r / 8388608 - 1 : Nat) : Int)) = double.word (neg4 r) (widR (rung4 r)) := by
          rw [nearest_up double _ _ _ (by omega) (by rw [hl]; omega), hl, dlp, bn, ir]
          rw [show (-149 + ((rung4 r / 8388608 - 1 : Nat) : Int) - (((rung4 r / 8388608 : Nat) : Int) - 179)).toNat = 29 by omega, show (((rung4 r / 8388608 : Nat) : Int) - 179 - -1074).toNat = rung4 r / 8388608 + 895 by omega]
          rw [show (2 : Nat) ^ 29 = 536870912 from rfl]
          rw [show (rung4 r / 8388608 + 895) * 4503599627370496 + (8388608 + rung4 r % 8388608) * 536870912 = widR (rung4 r) by rw [hw]; omega, Nat.min_eq_left (by rw [hw]; omega)]
        rw [hn, notInf _ _ (by rw [hw]; omega)]
        rfl
/-- and back -/
theorem conv_down (r : Nat) (hr : r < 4294967296) (h : rung4 r ≤ 2139095040) : floatToFloatBits .f64 (wid r) .f32 = some r := by
  have e1 : FloatKind.f64.decode (wid r) = double.read (wid r) := rfl
  have e2 : ∀ d, FloatKind.f32.encode d = single.write d := fun _ => rfl
  have e3 : ∀ d, FloatKind.f32.decode d = single.read d := fun _ => rfl
  obtain ⟨w1, w2, w3⟩ := rung_word (neg4 r) (widR (rung4 r)) (widR_lt h)
  have w1 : rung (wid r) = widR (rung4 r) := w1
  have w2 : neg (wid r) = neg4 r := w2
  have hwr := word4_of r hr
  unfold floatToFloatBits
  rw [if_neg (by decide), e1]
  by_cases hi : rung4 r = 2139095040
  · rw [read_inf (by rw [w1, hi]; rfl), w2]
    simp only [e2, Format.write]
    rw [sir, ← hi, hwr]
  · by_cases h0 : rung4 r = 0
    · rw [read_sub (by rw [w1, h0]; decide), w1, w2, h0]
      simp only [e2, e3, Format.write]
      have hn : single.nearest (neg4 r) (widR 0) double.leastPlace = single.word (neg4 r) 0 := by unfold Format.nearest; rw [if_pos (show widR 0 = 0 by decide)]
      rw [hn, notInf4 _ _ (by decide)]
      simp only [Bool.false_eq_true, if_false]
      rw [← h0, hwr]
    · by_cases h8 : rung4 r < 8388608
      · obtain ⟨k, t, hk, hk2, hm, ht, hw, hlt⟩ := sub_facts h0 h8
        have m1 : (magE (rung (wid r))).1 = rung4 r * 2 ^ (52 - k) := by
          unfold magE; rw [w1, if_neg (by omega)]; simp only; omega
        have m2 : (magE (rung (wid r))).2 = 873 + k := by
          unfold magE; rw [w1, if_neg (by omega)]; simp only; omega
        rw [read_fin (by rw [w1]; exact hlt), m1, m2, w2]
        simp only [e2, e3, Format.write]
        have hlg : (rung4 r * 2 ^ (52 - k)).log2 = 52 := log2_of (by omega) (by omega)
        have hmod : rung4 r * 2 ^ (52 - k) % 2 ^ (52 - k) = 0 := Nat.mul_mod_left _ _
        have hn : single.nearest (neg4 r) (rung4 r * 2 ^ (52 - k)) (double.leastPlace + ((873 + k : Nat) : Int)) = r := by
          rw [nearest_down single _ _ _ (52 - k) (by omega) (by rw [hlg, dlp, slp, show single.fractionBits = 23 from rfl]; omega) hmod (by rw [hlg]; omega)]
          rw [dlp, slp, sbn, sir, Nat.mul_div_cancel _ (Nat.two_pow_pos _), show (-1074 + ((873 + k : Nat) : Int) + ((52 - k : Nat) : Int) - -149).toNat = 0 by omega]
          rw [Nat.zero_mul, Nat.zero_add, Nat.min_eq_left (by omega), hwr]
        rw [hn, ← hwr, notInf4 _ _ (by omega)]
        rfl
      · have hw := widR_norm (show 8388608 ≤ rung4 r by omega) (by omega)
        have m1 : (magE (rung (wid r))).1 = (8388608 + rung4 r % 8388608) * 536870912 := by
          unfold magE; rw [w1, hw, if_neg (by omega)]; simp only; omega
        have m2 : (magE (rung (wid r))).2 = rung4 r / 8388608 + 895 := by
          unfold magE; rw [w1, hw, if_neg (by omega)]; simp only; omega
        rw [read_fin (by rw [w1, hw]; omega), m1, m2, w2]
        simp only [e2, e3, Format.write]
        have hlg : ((8388608 + rung4 r % 8388608) * 536870912).log2 = 52 := log2_of (by omega) (by omega)
        have hn : single.nearest (neg4 r) ((8388608 + rung4 r % 8388608) * 536870912) (double.leastPlace + ((rung4 r / 8388608 + 895 : Nat) : Int)) = r := by
          rw [nearest_down single _ _ _ 29 (by omega) (by rw [hlg, dlp, slp, show single.fractionBits = 23 from rfl]; omega) (by rw [show (2 : Nat) ^ 29 = 536870912 from rfl]; omega) (by rw [hlg]; omega)]
          rw [dlp, slp, sbn, sir, show (2 : Nat) ^ 29 = 536870912 from rfl, Nat.mul_div_cancel _ (by decide), show (-1074 + ((rung4 r / 8388608 + 895 : Nat) : Int) + ((29 : Nat) : Int) - -149).toNat = rung4 r / 8388608 - 1 by omega]
          rw [show (rung4 r / 8388608 - 1) * 8388608 + (8388608 + rung4 r % 8388608) = rung4 r by omega, Nat.min_eq_left (by omega), hwr]
        rw [hn, ← hwr, notInf4 _ _ (by omega)]
        rfl
/-- as the document says it -/
def refN (x : Nat) : Option Nat :=
  if rung x = 9218868437227405312 then some (single.word (neg x) 2139095040)
  else if rung x = 0 then some (single.word (neg x) 0)
  else if 897 ≤ rung x / 4503599627370496 ∧ rung x / 4503599627370496 ≤ 1150 ∧ rung x % 536870912 = 0 then some (single.word (neg x) ((rung x / 4503599627370496 - 896) * 8388608 + rung x % 4503599627370496 / 536870912))
  else if 874 ≤ rung x / 4503599627370496 ∧ rung x / 4503599627370496 < 897 ∧ (rung x % 4503599627370496 + 4503599627370496) % 2 ^ (926 - rung x / 4503599627370496) = 0 then some (single.word (neg x) ((rung x % 4503599627370496 + 4503599627370496) / 2 ^ (926 - rung x / 4503599627370496)))
  else none
theorem refN_some {x r : Nat} (hx : x < 18446744073709551616) (hn : rung x ≤ 9218868437227405312) (h : refN x = some r) : r < 4294967296 ∧ rung4 r ≤ 2139095040 ∧ wid r = x := by
  have hwx := word_of x hx
  unfold refN at h
  by_cases hi : rung x = 9218868437227405312
  · rw [if_pos hi] at h
    cases h
    obtain ⟨a, b, c⟩ := rung4_word (neg x) 2139095040 (by omega)
    refine ⟨c, by omega, ?_⟩
    unfold wid; rw [a, b, ← hwx, hi]; rw [(rung_word (neg x) 9218868437227405312 (by omega)).2.1]; rfl
  rw [if_neg hi] at h
  by_cases h0 : rung x = 0
  · rw [if_pos h0] at h
    cases h
    obtain ⟨a, b, c⟩ := rung4_word (neg x) 0 (by omega)
    refine ⟨c, by omega, ?_⟩
    unfold wid; rw [a, b, show widR 0 = rung x by rw [h0]; rfl, hwx]
  rw [if_neg h0] at h
  by_cases h1 : 897 ≤ rung x / 4503599627370496 ∧ rung x / 4503599627370496 ≤ 1150 ∧ rung x % 536870912 = 0
  · rw [if_pos h1] at h
    cases h
    obtain ⟨a, b, c⟩ := rung4_word (neg x) ((rung x / 4503599627370496 - 896) * 8388608 + rung x % 4503599627370496 / 536870912) (by omega)
    refine ⟨c, by omega, ?_⟩
    unfold wid; rw [a, b, widR_norm (by omega) (by omega)]
    rw [show ((rung x / 4503599627370496 - 896) * 8388608 + rung x % 4503599627370496 / 536870912) * 536870912 + 4035225266123964416 = rung x by omega, hwx]
  rw [if_neg h1] at h
  by_cases h2 : 874 ≤ rung x / 4503599627370496 ∧ rung x / 4503599627370496 < 897 ∧ (rung x % 4503599627370496 + 4503599627370496) % 2 ^ (926 - rung x / 4503599627370496) = 0
  · rw [if_pos h2] at h
    cases h
    obtain ⟨k, hk⟩ : ∃ k, rung x / 4503599627370496 = 874 + k := ⟨rung x / 4503599627370496 - 874, by omega⟩
    have hk2 : k ≤ 22 := by omega
    rw [hk, show 926 - (874 + k) = 52 - k by omega] at h2 ⊢
    obtain ⟨g, hg⟩ : ∃ g, rung x % 4503599627370496 + 4503599627370496 = 2 ^ (52 - k) * g := Nat.dvd_of_mod_eq_zero h2.2.2
    have hp := Nat.two_pow_pos (52 - k)
    rw [hg, Nat.mul_div_cancel_left _ hp]
    have p1 : 2 ^ (52 - k) * 2 ^ k = 4503599627370496 := by rw [← Nat.pow_add, show 52 - k + k = 52 by omega]
    have p2 : 2 ^ (52 - k) * 2 ^ (k + 1) = 9007199254740992 := by rw [← Nat.pow_add, show 52 - k + (k + 1) = 53 by omega]
    have g1 : 2 ^ k ≤ g := Nat.le_of_mul_le_mul_left (by omega) hp
    have g2 : g < 2 ^ (k + 1) := Nat.lt_of_mul_lt_mul_left (a := 2 ^ (52 - k)) (by omega)
    have g3 : 2 ^ (k + 1) ≤ 8388608 := Nat.pow_le_pow_right (n := 2) (by decide) (show k + 1 ≤ 23 by omega)
    have g4 := Nat.two_pow_pos k
    have hlg := log2_of g1 g2
    obtain ⟨k', t, hk', _, hm, ht, hw, hlt⟩ := sub_facts (show g ≠ 0 by omega) (by omega)
    have : k' = k := by omega
    subst this
    rw [Nat.mul_comm] at hm
    obtain ⟨a, b, c⟩ := rung4_word (neg x) g (by omega)
    refine ⟨c, by omega, ?_⟩
    unfold wid; rw [a, b, hw, show (874 + k') * 4503599627370496 + t = rung x by omega, hwx]
  · rw [if_neg h2] at h; cases h
theorem refN_wid {r : Nat} (hr : r < 4294967296) (h : rung4 r ≤ 2139095040) : refN (wid r) = some r := by
  obtain ⟨w1, w2, w3⟩ := rung_word (neg4 r) (widR (rung4 r)) (widR_lt h)
  have w1 : rung (wid r) = widR (rung4 r) := w1
  have w2 : neg (wid r) = neg4 r := w2
  have hwr := word4_of r hr
  unfold refN
  rw [w1, w2]
  by_cases hi : rung4 r = 2139095040
  · rw [if_pos (by rw [hi]; rfl), ← hi, hwr]
  by_cases h0 : rung4 r = 0
  · rw [h0, if_neg (by decide), if_pos (show widR 0 = 0 by decide), ← h0, hwr]
  by_cases h8 : rung4 r < 8388608
  · obtain ⟨k, t, hk, hk2, hm, ht, hw, hlt⟩ := sub_facts h0 h8
    rw [if_neg (by omega), if_neg (by omega), if_neg (by omega)]
    have e1 : widR (rung4 r) / 4503599627370496 = 874 + k := by omega
    have e2 : widR (rung4 r) % 4503599627370496 = t := by omega
    rw [e1, e2, show 926 - (874 + k) = 52 - k by omega, show t + 4503599627370496 = rung4 r * 2 ^ (52 - k) by omega]
    rw [if_pos ⟨by omega, by omega, Nat.mul_mod_left _ _⟩, Nat.mul_div_cancel _ (Nat.two_pow_pos _), hwr]
  · have hw := widR_norm (show 8388608 ≤ rung4 r by omega) (by omega)
    rw [if_neg (by omega), if_neg (by omega), if_pos (by omega)]
    rw [show (widR (rung4 r) / 4503599627370496 - 896) * 8388608 + widR (rung4 r) % 4503599627370496 / 536870912 = rung4 r by omega, hwr]
/-- two words that stand at one place of the order, neither of them a zero, are one -/
theorem order_eq {a b : Nat} (ha : a < 18446744073709551616) (hb : b < 18446744073709551616) (h0 : rung b ≠ 0) (h : double.order a b = some .eq) : a = b := by
  have e1 := word_of a ha
  have e2 := word_of b hb
  have na : ¬ 9218868437227405312 < rung a := by
    intro hn
    obtain ⟨f, hf⟩ := read_nan hn
    unfold Format.order at h
    rw [hf] at h
    simp [Datum.order] at h
  have nb : ¬ 9218868437227405312 < rung b := by
    intro hn
    obtain ⟨f, hf⟩ := read_nan hn
    unfold Format.order at h
    rw [hf] at h
    cases hr : double.read a <;> rw [hr] at h <;> simp [Datum.order] at h
  by_cases ia : rung a = 9218868437227405312
  · by_cases ib : rung b = 9218868437227405312
    · unfold Format.order at h
      rw [read_inf ia, read_inf ib] at h
      have : neg a = neg b := by cases sa : neg a <;> cases sb : neg b <;> simp only [sa, sb] at h <;> first | rfl | (exfalso; revert h; decide)
      rw [← e1, ← e2, ia, ib, this]
    · exfalso
      unfold Format.order at h
      rw [read_inf ia, read_fin (by omega)] at h
      cases sa : neg a <;> simp only [Datum.order, sa] at h <;> revert h <;> decide
  · by_cases ib : rung b = 9218868437227405312
    · exfalso
      unfold Format.order at h
      rw [read_inf ib, read_fin (by omega)] at h
      cases sb : neg b <;> simp only [Datum.order, sb] at h <;> revert h <;> decide
    · rw [order_fin (by omega) (by omega)] at h
      have h := Int.compare_eq_eq.1 (Option.some.inj h)
      have hmb : 0 < mag (rung b) := by have := mag_mono (show 0 < rung b by omega); omega
      unfold sval at h
      cases sa : neg a <;> cases sb : neg b <;> simp only [sa, sb] at h <;> simp at h
      · have : rung a = rung b := by
          rcases Nat.lt_trichotomy (rung a) (rung b) with h1 | h1 | h1
          · have := mag_mono h1; omega
          · exact h1
          · have := mag_mono h1; omega
        rw [← e1, ← e2, this, sa, sb]
      · omega
      · omega
      · have : rung a = rung b := by
          rcases Nat.lt_trichotomy (rung a) (rung b) with h1 | h1 | h1
          · have := mag_mono h1; omega
          · exact h1
          · have := mag_mono h1; omega
        rw [← e1, ← e2, this, sa, sb]
end Go.Proofs.YtnklnenjdffbaaaDoor
