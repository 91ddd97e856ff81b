/- The law FltTells walked: texts and the words of 32 bits tell floats apart. -/
import Derived.Test.YtnklnenjdffbaaaDoorGl
import Derived.Test.YtnklnenjdffbaaaDoorKf
namespace Go.Proofs.YtnklnenjdffbaaaDoor
open Go.RowKit
set_option linter.unusedVariables false
set_option maxRecDepth 100000
theorem nanB_parts (b : Nat) : nanB b = true ↔ exN b = 2047 ∧ frN b ≠ 0 := by
  rw [nanB_iff]
  unfold rung exN frN
  omega
theorem canon_c (a : Nat) : exN (canonB a) = 2047 → frN (canonB a) ≠ 0 → canonB a = 9221120237041090561 := by
  intro h1 h2
  by_cases h : nanB a = true
  · unfold canonB; rw [if_pos h]
  · exfalso
    have e : canonB a = a := by unfold canonB; rw [if_neg h]
    rw [e] at h1 h2
    exact h ((nanB_parts a).2 ⟨h1, h2⟩)
theorem canon_nan (a : Nat) (h : nanB (canonB a) = true) : canonB a = 9221120237041090561 := by
  have := (nanB_parts _).1 h
  exact canon_c a this.1 this.2
theorem ts_eq (a b : Nat) (ha : a < 18446744073709551616) (hb : b < 18446744073709551616) :
    ((textS (canonB a)).toList == (textS (canonB b)).toList) = (((canonB a : Nat) : Int) == ((canonB b : Nat) : Int)) := by
  have e : ∀ x, (textS x).toList = textB x := fun x => by unfold textS; rw [ByteArray.toList_mk]
  rw [e, e, Bool.eq_iff_iff, beq_iff_eq, beq_iff_eq]
  constructor
  · intro h
    have := text_inj (canon_lt ha) (canon_lt hb) (canon_c a) (canon_c b) h
    rw [this]
  · intro h
    have : canonB a = canonB b := by omega
    rw [this]
theorem nar_eq (a b : Nat) (ha : a < 18446744073709551616) (hb : b < 18446744073709551616) {P Q : Int} (h1 : narR (canonB a) = .tuple #[.int .u32 P, .bool true]) (h2 : narR (canonB b) = .tuple #[.int .u32 Q, .bool true]) :
    (P == Q) = (((canonB a : Nat) : Int) == ((canonB b : Nat) : Int)) := by
  have num : ∀ x : Nat, x < 18446744073709551616 → ∀ R : Int, nanB x = false → narR x = .tuple #[.int .u32 R, .bool true] → ∃ r : Nat, R = r ∧ r < 4294967296 ∧ rung4 r ≤ 2139095040 ∧ wid r = x := fun x hx R hn hr => by
    unfold narR at hr
    rw [hn] at hr
    cases hc : refN x with
    | none => rw [hc] at hr; simp at hr
    | some r =>
      rw [hc] at hr
      have hR : (r : Int) = R := by simpa using hr
      obtain ⟨a1, a2, a3⟩ := refN_some hx (not_nan hn) hc
      exact ⟨r, hR.symm, a1, a2, a3⟩
  have nan : ∀ (x : Nat) (R : Int), nanB x = true → narR x = .tuple #[.int .u32 R, .bool true] → R = 2143289344 := fun x R hn hr => by
    unfold narR at hr
    rw [hn] at hr
    have : (2143289344 : Int) = R := by simpa using hr
    exact this.symm
  rw [Bool.eq_iff_iff, beq_iff_eq, beq_iff_eq]
  constructor
  · intro h
    cases na : nanB (canonB a) <;> cases nb : nanB (canonB b)
    · obtain ⟨r, e1, _, _, e2⟩ := num _ (canon_lt ha) P na h1
      obtain ⟨s, f1, _, _, f2⟩ := num _ (canon_lt hb) Q nb h2
      have : r = s := by omega
      rw [← e2, ← f2, this]
    · obtain ⟨r, e1, e3, e4, e2⟩ := num _ (canon_lt ha) P na h1
      have f1 := nan _ Q nb h2
      exfalso
      have : r = 2143289344 := by omega
      rw [this] at e4; exact absurd e4 (by decide)
    · obtain ⟨r, e1, e3, e4, e2⟩ := num _ (canon_lt hb) Q nb h2
      have f1 := nan _ P na h1
      exfalso
      have : r = 2143289344 := by omega
      rw [this] at e4; exact absurd e4 (by decide)
    · rw [canon_nan a na, canon_nan b nb]
  · intro h
    have : canonB a = canonB b := by omega
    rw [this, h2] at h1
    have : Q = P := by simpa using h1
    exact this.symm
def Rq (B B2 : Bool) (P P2 : Int) (S : Bool) : Prop := B = true → B2 = true → ((P == P2) == S) = true
set_option maxHeartbeats 1000000 in
theorem tells_any (a b : Nat) (w : World) (hV : Vars w) (ha : a < 18446744073709551616) (hb : b < 18446744073709551616) :
    Calls Tryd.prog 3 #[.int .u64 (a : Int), .int .u64 (b : Int)] w fun e w' => e = .returned (.bool true) ∧ Below w.heap.size w w' := by
  obtain ⟨x, hx⟩ : ∃ x, x = canonB a := ⟨_, rfl⟩
  obtain ⟨y, hy⟩ : ∃ y, y = canonB b := ⟨_, rfl⟩
  have hxl : x < 18446744073709551616 := by rw [hx]; exact canon_lt ha
  have hyl : y < 18446744073709551616 := by rw [hy]; exact canon_lt hb
  obtain ⟨P, B, hPB⟩ := narR_form x
  obtain ⟨P2, B2, hPB2⟩ := narR_form y
  obtain ⟨S, hS⟩ : ∃ S, S = ((x : Int) == (y : Int)) := ⟨_, rfl⟩
  have hT := ts_eq a b ha hb
  rw [← hx, ← hy, ← hS] at hT
  have hN : B = true → B2 = true → (P == P2) = S := fun h1 h2 => by
    subst h1; subst h2
    rw [hx] at hPB; rw [hy] at hPB2
    have := nar_eq a b ha hb hPB hPB2
    rwa [← hx, ← hy, ← hS] at this
  have hcx : ∀ W, Calls Tryd.prog 5 #[.float .f64 a] W fun e w' => e = .returned (.float .f64 x) ∧ W = w' := fun W => by rw [hx]; exact canon_any a W
  have hcy : ∀ W, Calls Tryd.prog 5 #[.float .f64 b] W fun e w' => e = .returned (.float .f64 y) ∧ W = w' := fun W => by rw [hy]; exact canon_any b W
  have hsa : ∀ W, Calls Tryd.prog 7 #[.float .f64 x, .float .f64 y] W fun e w' => e = .returned (.bool S) ∧ W = w' := fun W => by rw [hS]; exact same_any x y W
  have HV := Lib.hid hV
  have hs0 := hV.size
  have HX := Lib.hid hxl
  have HY := Lib.hid hyl
  have HP := Lib.hid hPB
  have HP2 := Lib.hid hPB2
  have HCX := Lib.hid hcx
  have HCY := Lib.hid hcy
  have HSA := Lib.hid hsa
  have HTX : Hid (∀ W, Vars W → Calls Tryd.prog 9 #[.float .f64 x] W fun e w' => e = .returned (.string (textS x)) ∧ Below W.heap.size W w') := fun W hW => by
    have hs := hW.size
    exact text_any x W hW.p10 (by omega) hW.tab hxl
  have HTY : Hid (∀ W, Vars W → Calls Tryd.prog 9 #[.float .f64 y] W fun e w' => e = .returned (.string (textS y)) ∧ Below W.heap.size W w') := fun W hW => by
    have hs := hW.size
    exact text_any y W hW.p10 (by omega) hW.tab hyl
  obtain ⟨sx, hsx⟩ : ∃ sx, sx = textS x := ⟨_, rfl⟩
  obtain ⟨sy, hsy⟩ : ∃ sy, sy = textS y := ⟨_, rfl⟩
  rw [← hsx] at HTX hT
  rw [← hsy] at HTY hT
  have hTW : ∀ W : World, (binOp .eql 9 (.string sx) (.string sy)).run Tryd.prog W = .ok (.bool S) W := fun W => by
    rw [binOp_string_eql, hT]; rfl
  have hSS : (S == S) = true := by cases S <;> rfl
  have HPP : Rq B B2 P P2 S := fun h1 h2 => by rw [hN h1 h2]; exact hSS
  clear hV ha hb hPB hPB2 hx hy hxl hyl hcx hcy hsa hsx hsy hN hS hTW
  cases B <;> cases B2
  all_goals
    go_enter Tryd.func3, Tryd.ntmps3
    go_wp2_with fail
    refine (wakes_any _ HV.out).mono ?_
    rintro e w1 ⟨rfl, hb1⟩
    have HB1 := Lib.hid hb1
    have hz1 := hb1.size
    clear hb1
    go_wp2_with fail
    refine (from_any _ _).mono ?_
    rintro e w' ⟨rfl, rfl⟩
    go_wp2_with fail
    refine (HCX.out _).mono ?_
    rintro e w' ⟨rfl, rfl⟩
    go_wp2_with fail
    refine (from_any _ _).mono ?_
    rintro e w' ⟨rfl, rfl⟩
    go_wp2_with fail
    refine (HCY.out _).mono ?_
    rintro e w' ⟨rfl, rfl⟩
    go_wp2_with fail
    refine (HSA.out _).mono ?_
    rintro e w' ⟨rfl, rfl⟩
    go_wp2_with fail
    refine (narrow_any x _ HX.out).mono ?_
    rw [HP.out]
    rintro e w2 ⟨rfl, hb2⟩
    have HB2 : Hid (Below w.heap.size w w2) := HB1.out.trans (hb2.mono hz1)
    have hz2 := HB2.out.size
    clear hb2
    go_wp2_with fail
    refine (narrow_any y _ HY.out).mono ?_
    rw [HP2.out]
    rintro e w3 ⟨rfl, hb3⟩
    have HB3 : Hid (Below w.heap.size w w3) := HB2.out.trans (hb3.mono hz2)
    have hz3 := HB3.out.size
    clear hb3
    go_wp2_with fail
    refine (HTX.out _ (HV.out.on HB3.out)).mono ?_
    rintro e w4 ⟨rfl, hb4⟩
    have HB4 : Hid (Below w.heap.size w w4) := HB3.out.trans (hb4.mono hz3)
    have hz4 := HB4.out.size
    clear hb4
    go_wp2_with fail
    refine (HTY.out _ (HV.out.on HB4.out)).mono ?_
    rintro e w5 ⟨rfl, hb5⟩
    have HB5 : Hid (Below w.heap.size w w5) := HB4.out.trans (hb5.mono hz4)
    have hz5 := HB5.out.size
    clear hb5
    go_wp2_with fail
    go_ret
    first | exact ⟨rfl, HB5.out⟩ | exact ⟨congrArg (fun v => Ending.returned (.bool v)) (HPP rfl rfl), HB5.out⟩
end Go.Proofs.YtnklnenjdffbaaaDoor
