/- Same and Good. -/
import Derived.Test.YtdajmcgbmdnibaaGreatDoorB
namespace Go.Proofs.YtdajmcgbmdnibaaGreatDoor
open Go.RowKit
set_option linter.unusedVariables false
set_option maxRecDepth 100000

theorem sameF_any (a b : Nat) (w : World) : Calls Tryz.prog 45 #[.float .f64 a, .float .f64 b] w fun e w' => e = .returned (.bool ((a : Int) == (b : Int))) ∧ w = w' := by
  have hf := run_bits
  go_enter Tryz.func45, Tryz.ntmps45
  go_wp2
  go_ret
  exact ⟨rfl, rfl⟩

def V.same (a b : V) : Bool := a.kind == b.kind && (a.num == b.num && (a.text.toList == b.text.toList && ((a.real : Int) == (b.real : Int))))
theorem same_any (a b : V) (w : World) :
    Calls Tryz.prog 15 #[a.val, b.val] w fun e w' => e = .returned (.bool (a.same b)) ∧ Below w.heap.size w w' := by
  obtain ⟨ak, an, at', ar⟩ := a
  obtain ⟨bk, bn, bt, br⟩ := b
  obtain ⟨r, hr⟩ : ∃ r, r = V.same ⟨ak, an, at', ar⟩ ⟨bk, bn, bt, br⟩ := ⟨_, rfl⟩
  rw [← hr]
  unfold V.same at hr
  simp only at hr
  have HR := Lib.hid hr
  clear hr
  by_cases h1 : ak == bk
  · by_cases h2 : an == bn
    · by_cases h3 : at'.toList = bt.toList
      · go_enter Tryz.func15, Tryz.ntmps15
        go_wp2_with (first | (go_at_call 45; refine (sameF_any _ _ _).mono ?_; rintro e w' ⟨rfl, rfl⟩))
        go_ret
        exact ⟨ret_bool (by rw [HR.out]; simp [h1, h2, h3]), ((Below.refl _ _).alloc (Nat.le_refl _) _).alloc (by simp) _⟩
      · go_enter Tryz.func15, Tryz.ntmps15
        go_wp2_with (first | (go_at_call 45; refine (sameF_any _ _ _).mono ?_; rintro e w' ⟨rfl, rfl⟩))
        go_ret
        exact ⟨ret_bool (by rw [HR.out]; simp [h1, h2, h3]), ((Below.refl _ _).alloc (Nat.le_refl _) _).alloc (by simp) _⟩
    · have h2' : (an == bn) = false := by simpa using h2
      go_enter Tryz.func15, Tryz.ntmps15
      go_wp2_with (first | (go_at_call 45; refine (sameF_any _ _ _).mono ?_; rintro e w' ⟨rfl, rfl⟩))
      go_ret
      exact ⟨ret_bool (by rw [HR.out]; simp [h1, h2']), ((Below.refl _ _).alloc (Nat.le_refl _) _).alloc (by simp) _⟩
  · have h1' : (ak == bk) = false := by simpa using h1
    go_enter Tryz.func15, Tryz.ntmps15
    go_wp2_with (first | (go_at_call 45; refine (sameF_any _ _ _).mono ?_; rintro e w' ⟨rfl, rfl⟩))
    go_ret
    exact ⟨ret_bool (by rw [HR.out]; simp [h1']), ((Below.refl _ _).alloc (Nat.le_refl _) _).alloc (by simp) _⟩

def V.good (v : V) : Bool :=
  if v.kind = 1 then v.text.toList.isEmpty && (v.real : Int) == 0
  else if v.kind = 2 then (v.text.toList.isEmpty && (v.real : Int) == 0) && (v.num == 0 || v.num == 1)
  else if v.kind = 3 then (v.num == 0 && (v.real : Int) == 0) && decide (v.text.size ≤ 256)
  else if v.kind = 4 then (v.num == 0 && v.text.toList.isEmpty) && (v.real : Int) == (canonB v.real : Nat)
  else false
theorem good_any (v : V) (w : World) (ht : v.text.size ≤ 9223372036854775807) :
    Calls Tryz.prog 14 #[v.val] w fun e w' => e = .returned (.bool v.good) ∧ Below w.heap.size w w' := by
  obtain ⟨k, n, t, r⟩ := v
  obtain ⟨b, hr⟩ : ∃ b, b = V.good ⟨k, n, t, r⟩ := ⟨_, rfl⟩
  rw [← hr]
  unfold V.good at hr
  simp only at hr
  have HR := Lib.hid hr
  clear hr
  have hf := run_bits
  by_cases k1 : k = 1
  · subst k1
    by_cases h1 : t.toList = []
    · have h1' : t.toList.isEmpty = true := by simp [h1]
      go_enter Tryz.func14, Tryz.ntmps14
      go_wp2_with (first | (go_at_call 44; refine (canon_any _ _).mono ?_; rintro e w' ⟨rfl, rfl⟩))
      go_ret
      exact ⟨ret_bool (by rw [HR.out]; simp [h1]), (Below.refl _ _).alloc (Nat.le_refl _) _⟩
    · have h1' : t.toList.isEmpty = false := by simp [h1]
      go_enter Tryz.func14, Tryz.ntmps14
      go_wp2_with (first | (go_at_call 44; refine (canon_any _ _).mono ?_; rintro e w' ⟨rfl, rfl⟩))
      go_ret
      exact ⟨ret_bool (by rw [HR.out]; simp [h1']), (Below.refl _ _).alloc (Nat.le_refl _) _⟩
  by_cases k2 : k = 2
  · subst k2
    by_cases h1 : t.toList = []
    · have h1' : t.toList.isEmpty = true := by simp [h1]
      by_cases h2 : ((r : Int) == 0) = true
      · by_cases h3 : (n == 0) = true
        · go_enter Tryz.func14, Tryz.ntmps14
          go_wp2_with (first | (go_at_call 44; refine (canon_any _ _).mono ?_; rintro e w' ⟨rfl, rfl⟩))
          go_ret
          exact ⟨ret_bool (by rw [HR.out]; simp [h1', h2, h3]), (Below.refl _ _).alloc (Nat.le_refl _) _⟩
        · have h3' : (n == 0) = false := by simpa using h3
          go_enter Tryz.func14, Tryz.ntmps14
          go_wp2_with (first | (go_at_call 44; refine (canon_any _ _).mono ?_; rintro e w' ⟨rfl, rfl⟩))
          go_ret
          exact ⟨ret_bool (by rw [HR.out]; simp [h1', h2, h3']), (Below.refl _ _).alloc (Nat.le_refl _) _⟩
      · have h2' : ((r : Int) == 0) = false := by simpa using h2
        go_enter Tryz.func14, Tryz.ntmps14
        go_wp2_with (first | (go_at_call 44; refine (canon_any _ _).mono ?_; rintro e w' ⟨rfl, rfl⟩))
        go_ret
        exact ⟨ret_bool (by rw [HR.out]; simp [h1', h2']), (Below.refl _ _).alloc (Nat.le_refl _) _⟩
    · have h1' : t.toList.isEmpty = false := by simp [h1]
      go_enter Tryz.func14, Tryz.ntmps14
      go_wp2_with (first | (go_at_call 44; refine (canon_any _ _).mono ?_; rintro e w' ⟨rfl, rfl⟩))
      go_ret
      exact ⟨ret_bool (by rw [HR.out]; simp [h1']), (Below.refl _ _).alloc (Nat.le_refl _) _⟩
  by_cases k3 : k = 3
  · subst k3
    by_cases h1 : (n == 0) = true
    · by_cases h2 : ((r : Int) == 0) = true
      · go_enter Tryz.func14, Tryz.ntmps14
        go_wp2_with (first | (go_at_call 44; refine (canon_any _ _).mono ?_; rintro e w' ⟨rfl, rfl⟩))
        go_ret
        exact ⟨ret_bool (by rw [HR.out]; simp [h1, h2]; omega), (Below.refl _ _).alloc (Nat.le_refl _) _⟩
      · have h2' : ((r : Int) == 0) = false := by simpa using h2
        go_enter Tryz.func14, Tryz.ntmps14
        go_wp2_with (first | (go_at_call 44; refine (canon_any _ _).mono ?_; rintro e w' ⟨rfl, rfl⟩))
        go_ret
        exact ⟨ret_bool (by rw [HR.out]; simp [h1, h2']), (Below.refl _ _).alloc (Nat.le_refl _) _⟩
    · have h1' : (n == 0) = false := by simpa using h1
      go_enter Tryz.func14, Tryz.ntmps14
      go_wp2_with (first | (go_at_call 44; refine (canon_any _ _).mono ?_; rintro e w' ⟨rfl, rfl⟩))
      go_ret
      exact ⟨ret_bool (by rw [HR.out]; simp [h1']), (Below.refl _ _).alloc (Nat.le_refl _) _⟩
  by_cases k4 : k = 4
  · subst k4
    by_cases h1 : (n == 0) = true
    · by_cases h2 : t.toList = []
      · have h2' : t.toList.isEmpty = true := by simp [h2]
        go_enter Tryz.func14, Tryz.ntmps14
        go_wp2_with (first | (go_at_call 44; refine (canon_any _ _).mono ?_; rintro e w' ⟨rfl, rfl⟩))
        go_ret
        exact ⟨ret_bool (by rw [HR.out]; simp [h1, h2']), (Below.refl _ _).alloc (Nat.le_refl _) _⟩
      · have h2' : t.toList.isEmpty = false := by simp [h2]
        go_enter Tryz.func14, Tryz.ntmps14
        go_wp2_with (first | (go_at_call 44; refine (canon_any _ _).mono ?_; rintro e w' ⟨rfl, rfl⟩))
        go_ret
        exact ⟨ret_bool (by rw [HR.out]; simp [h1, h2']), (Below.refl _ _).alloc (Nat.le_refl _) _⟩
    · have h1' : (n == 0) = false := by simpa using h1
      go_enter Tryz.func14, Tryz.ntmps14
      go_wp2_with (first | (go_at_call 44; refine (canon_any _ _).mono ?_; rintro e w' ⟨rfl, rfl⟩))
      go_ret
      exact ⟨ret_bool (by rw [HR.out]; simp [h1']), (Below.refl _ _).alloc (Nat.le_refl _) _⟩
  have e1 : (k == 1) = false := by simpa using k1
  have e2 : (k == 2) = false := by simpa using k2
  have e3 : (k == 3) = false := by simpa using k3
  have e4 : (k == 4) = false := by simpa using k4
  have HK := Lib.hid (And.intro k1 (And.intro k2 (And.intro k3 k4)))
  clear k1 k2 k3 k4
  go_enter Tryz.func14, Tryz.ntmps14
  go_wp2_with (first | (go_at_call 44; refine (canon_any _ _).mono ?_; rintro e w' ⟨rfl, rfl⟩))
  go_ret
  exact ⟨ret_bool (by rw [HR.out]; simp [HK.out.1, HK.out.2.1, HK.out.2.2.1, HK.out.2.2.2]), (Below.refl _ _).alloc (Nat.le_refl _) _⟩
end Go.Proofs.YtdajmcgbmdnibaaGreatDoor
