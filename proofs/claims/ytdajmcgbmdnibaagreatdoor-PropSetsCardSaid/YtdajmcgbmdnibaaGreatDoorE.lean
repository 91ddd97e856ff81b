/- prop.Name, prop.Text of numbers. -/
import Derived.Test.YtdajmcgbmdnibaaGreatDoorD
import Derived.Test.YtdajmcgbmdnibaaGreatDoorReg
import Derived.Shelf.Strings.SlTrimAscii
namespace Go.Proofs.YtdajmcgbmdnibaaGreatDoor
open Go.RowKit
open Go.Lib (byteCells)
set_option linter.unusedVariables false
set_option maxRecDepth 100000

def letters : List UInt8 := [97, 98, 99, 100, 101, 102, 103, 104, 105, 106, 107, 108, 109, 110, 111, 112, 113, 114, 115, 116, 117, 118, 119, 120, 121, 122, 48, 49, 50, 51, 52, 53, 54, 55, 56, 57, 45, 95]
def isLetter (c : UInt8) : Bool := letters.contains c
def nameB (s : ByteArray) : Bool := !s.toList.isEmpty && (decide (s.size ≤ 16) && s.data.toList.all isLetter)

theorem dropWhile_nil {p : UInt8 → Bool} : ∀ {l : List UInt8}, l.dropWhile p = [] ↔ l.all p = true
  | [] => by simp
  | x :: r => by
    cases h : p x
    · simp [h]
    · simp [h, dropWhile_nil (l := r)]
theorem trim_nil (l : List UInt8) : (Lib.trimS l letters).isEmpty = l.all isLetter := by
  have h : Lib.trimS l letters = [] ↔ l.all isLetter = true := by
    have e : ∀ l : List UInt8, l.dropWhile (letters.contains ·) = [] ↔ l.all isLetter = true := fun l => dropWhile_nil
    unfold Lib.trimS Lib.trimLeftS Lib.trimRightS
    rw [e, List.all_reverse]
    constructor
    · intro h0
      cases hd : (l.reverse.dropWhile (letters.contains ·)) with
      | nil => rw [e, List.all_reverse] at hd; exact hd
      | cons x r =>
        have hx : ¬ (letters.contains x = true) := by
          have h9 := List.head_dropWhile_not (letters.contains ·) (l := l.reverse) (by rw [hd]; simp)
          simp only [hd, List.head_cons] at h9; simpa using h9
        rw [hd] at h0
        simp only [List.all_cons, Bool.and_eq_true] at h0
        exact absurd h0.1 hx
    · intro h0
      rw [(e l.reverse).2 (by rw [List.all_reverse]; exact h0)]; rfl
  cases hb : l.all isLetter
  · rw [List.isEmpty_eq_false_iff]; intro h0; rw [h.1 h0] at hb; cases hb
  · rw [h.2 hb]; rfl

set_option maxHeartbeats 1000000 in
theorem trim_any (s : ByteArray) (w : World) (hs : s.size ≤ 9223372036854775807) :
    Calls Tryz.prog 52 #[.string s, .string ⟨letters.toArray⟩] w fun e w' => e = .returned (.string ⟨(Lib.trimS s.data.toList letters).toArray⟩) ∧ Below w.heap.size w w' :=
  Any.strings_Trim_laid Tryz.lays160 (by kernel_rfl) s ⟨letters.toArray⟩ w hs (by decide) (ascii_of_all (by decide))
theorem name_any (s : ByteArray) (w : World) (hs : s.size ≤ 9223372036854775807) :
    Calls Tryz.prog 22 #[.string s] w fun e w' => e = .returned (.bool (nameB s)) ∧ Below w.heap.size w w' := by
  obtain ⟨b, hb⟩ : ∃ b, b = nameB s := ⟨_, rfl⟩
  rw [← hb]
  have HB := Lib.hid hb
  clear hb
  have HT := Lib.hid (trim_any s w hs)
  by_cases h1 : s.toList = []
  · have h1' : s.toList.isEmpty = true := by simp [h1]
    go_enter Tryz.func22, Tryz.ntmps22
    go_wp2_with fail
    go_ret
    exact ⟨ret_bool (by rw [HB.out]; simp [nameB, h1]), Below.refl _ _⟩
  · have h1' : s.toList.isEmpty = false := by simp [h1]
    by_cases h2 : s.size ≤ 16
    · have h3 : ((s.size : Nat) : Int) ≤ 16 := by omega
      go_enter Tryz.func22, Tryz.ntmps22
      go_wp2_with fail
      refine HT.out.mono ?_
      rintro e w1 ⟨rfl, hb1⟩
      generalize hr : (⟨(Lib.trimS s.data.toList letters).toArray⟩ : ByteArray) = r
      go_wp2_with fail
      go_ret
      exact ⟨ret_bool (by rw [HB.out, ← hr, nameB, ← trim_nil, h1']; simp [h2, ByteArray.toList_eq]), hb1⟩
    · have h3 : ¬ ((s.size : Nat) : Int) ≤ 16 := by omega
      go_enter Tryz.func22, Tryz.ntmps22
      go_wp2_with fail
      go_ret
      exact ⟨ret_bool (by rw [HB.out]; simp [nameB, h2]), Below.refl _ _⟩
end Go.Proofs.YtdajmcgbmdnibaaGreatDoor
