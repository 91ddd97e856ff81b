/- The order of floats and their keys. Plain but for the words. -/
import Derived.Test.YtnklnenjdffbaaaDoorGc
import Derived.Test.YtnklnenjdffbaaaDoorFo
namespace Go.Proofs.YtnklnenjdffbaaaDoor
open Ieee Go.RowKit
set_option linter.unusedVariables false
theorem neg_iff {b : Nat} (h : b < 18446744073709551616) : neg b = true ↔ 9223372036854775808 ≤ b := by
  unfold neg; rw [beq_iff_eq]; omega
theorem neg_not {b : Nat} (h : b < 18446744073709551616) : neg b = false ↔ b < 9223372036854775808 := by
  have := neg_iff h
  cases hn : neg b
  · rw [hn] at this; simp at this; simpa using this
  · rw [hn] at this; simp at this; simp; omega
theorem nanB_iff (b : Nat) : nanB b = true ↔ 9218868437227405312 < rung b := by
  have hfmt : FloatKind.f64.format = double := rfl
  unfold nanB
  rw [hfmt]
  constructor
  · intro h
    rcases Nat.lt_or_ge 9218868437227405312 (rung b) with h1 | h1
    · exact h1
    · exfalso
      rcases Nat.eq_or_lt_of_le h1 with e | e
      · have : double.order b b = some .eq := by
          unfold Format.order
          rw [read_inf e]
          simp [Datum.order]
        rw [this] at h; simp at h
      · rw [order_fin e e, Int.compare_eq_eq.2 rfl] at h; simp at h
  · intro h
    obtain ⟨f, hf⟩ := read_nan h
    have : double.order b b = none := by
      unfold Format.order
      rw [hf]; rfl
    rw [this]; rfl
theorem canon_num {b : Nat} (h : nanB b = false) : canonB b = b := by unfold canonB; rw [h]; rfl
theorem order_key {a b : Nat} (ha : a < 18446744073709551616) (hb : b < 18446744073709551616) {c : Ordering} (h : double.order a b = some c) :
    (c = .lt → key a < key b) ∧ (c = .gt → key b < key a) := by
  have nb : ∀ {x : Nat}, x < 18446744073709551616 → rung x = x % 9223372036854775808 := fun _ => rfl
  by_cases na : 9218868437227405312 < rung a
  · obtain ⟨f, hf⟩ := read_nan na
    unfold Format.order at h
    rw [hf] at h
    simp [Datum.order] at h
  by_cases nb : 9218868437227405312 < rung b
  · obtain ⟨f, hf⟩ := read_nan nb
    unfold Format.order at h
    rw [hf] at h
    cases hr : double.read a <;> rw [hr] at h <;> simp [Datum.order] at h
  have ca : canonB a = a := canon_num (by cases hh : nanB a; rfl; exact absurd ((nanB_iff a).1 hh) na)
  have cb : canonB b = b := canon_num (by cases hh : nanB b; rfl; exact absurd ((nanB_iff b).1 hh) nb)
  unfold key
  rw [ca, cb]
  have hra : rung a = a % 9223372036854775808 := rfl
  have hrb : rung b = b % 9223372036854775808 := rfl
  have nga := neg_iff ha
  have ngb := neg_iff hb
  have nna := neg_not ha
  have nnb := neg_not hb
  unfold keyN
  by_cases ia : rung a = 9218868437227405312
  · by_cases ib : rung b = 9218868437227405312
    · unfold Format.order at h
      rw [read_inf ia, read_inf ib] at h
      simp only [Datum.order, Option.some.injEq] at h
      cases sa : neg a <;> cases sb : neg b <;> simp only [sa, sb] at h nga ngb nna nnb <;> simp at h nga ngb nna nnb
      · subst h; simp [compare, compareOfLessAndEq]
      · have h' : c = .gt := by rw [← h]; rfl
        subst h'
        refine ⟨(fun h => by cases h), fun _ => ?_⟩
        (split <;> first | omega | (split <;> omega))
      · have h' : c = .lt := by rw [← h]; rfl
        subst h'
        refine ⟨fun _ => ?_, (fun h => by cases h)⟩
        (split <;> first | omega | (split <;> omega))
      · subst h; simp [compare, compareOfLessAndEq]
    · unfold Format.order at h
      rw [read_inf ia, read_fin (by omega)] at h
      simp only [Datum.order, Option.some.injEq] at h
      cases sa : neg a <;> simp only [sa] at h nga nna <;> simp at h nga nna <;> subst h
      · refine ⟨(fun h => by cases h), fun _ => ?_⟩
        (split <;> first | omega | (split <;> omega))
      · refine ⟨fun _ => ?_, (fun h => by cases h)⟩
        (split <;> first | omega | (split <;> omega))
  · by_cases ib : rung b = 9218868437227405312
    · unfold Format.order at h
      rw [read_inf ib, read_fin (by omega)] at h
      simp only [Datum.order, Option.some.injEq] at h
      cases sb : neg b <;> simp only [sb] at h ngb nnb <;> simp at h ngb nnb <;> subst h
      · refine ⟨fun _ => ?_, (fun h => by cases h)⟩
        (split <;> first | omega | (split <;> omega))
      · refine ⟨(fun h => by cases h), fun _ => ?_⟩
        (split <;> first | omega | (split <;> omega))
    · rw [order_fin (by omega) (by omega)] at h
      have h := Option.some.inj h
      unfold sval at h
      constructor
      · intro hc
        rw [hc, Int.compare_eq_lt] at h
        cases sa : neg a <;> cases sb : neg b <;> simp only [sa, sb] at h nga ngb nna nnb <;> simp at h nga ngb nna nnb
        · have := mag_lt_iff.1 h
          (split <;> first | omega | (split <;> omega))
        · omega
        · (split <;> first | omega | (split <;> omega))
        · have := mag_lt_iff.1 (show mag (rung b) < mag (rung a) by omega)
          (split <;> first | omega | (split <;> omega))
      · intro hc
        rw [hc, Int.compare_eq_gt] at h
        cases sa : neg a <;> cases sb : neg b <;> simp only [sa, sb] at h nga ngb nna nnb <;> simp at h nga ngb nna nnb
        · have := mag_lt_iff.1 h
          (split <;> first | omega | (split <;> omega))
        · (split <;> first | omega | (split <;> omega))
        · omega
        · have := mag_lt_iff.1 (show mag (rung a) < mag (rung b) by omega)
          (split <;> first | omega | (split <;> omega))
theorem key_inj {a b : Nat} (ha : a < 18446744073709551616) (hb : b < 18446744073709551616) (h : key a = key b) : canonB a = canonB b := by
  have h1 := canon_lt ha
  have h2 := canon_lt hb
  unfold key keyN at h
  split at h <;> split at h <;> omega
end Go.Proofs.YtnklnenjdffbaaaDoor
