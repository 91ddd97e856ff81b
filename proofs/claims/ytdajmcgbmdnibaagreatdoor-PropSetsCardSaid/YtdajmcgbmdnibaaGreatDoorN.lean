/- slices.BinarySearchFunc over properties; prop.place. -/
import Derived.Test.YtdajmcgbmdnibaaGreatDoorM
import Derived.Test.YtdajmcgbmdnibaaGreatDoorH
namespace Go.Proofs.YtdajmcgbmdnibaaGreatDoor
open Go.RowKit
set_option linter.unusedVariables false
set_option maxRecDepth 100000
attribute [local go_sem] run_store_float

def cbN (p : Pr) (s : ByteArray) : Int := Lib.compareBytes p.name.data.toList s.data.toList
/-- where a name stands, or would -/
def IsPlace (l : List Pr) (s : ByteArray) (i : Nat) : Prop := i ≤ l.length ∧ (∀ t q, t < i → l[t]? = some q → cbN q s < 0) ∧ (∀ t q, i ≤ t → l[t]? = some q → 0 ≤ cbN q s)
def Mono (l : List Pr) (s : ByteArray) : Prop := ∀ (a b : Nat) (p q : Pr), a ≤ b → l[a]? = some p → l[b]? = some q → cbN q s < 0 → cbN p s < 0
def there (l : List Pr) (s : ByteArray) (i : Nat) : Bool := match l[i]? with | some q => cbN q s == 0 | none => false

set_option maxHeartbeats 1000000 in
theorem search_any (A : Option Addr) (c : Nat) (l : List Pr) (s : ByteArray) (w : World) (hl : l.length ≤ 1000000) (hc : PropsAt w A l) (hm : Mono l s) :
    Calls Tryz.prog 70 #[.slice A l.length c, .string s, .func (.func 71) #[] #[]] w fun e w' => ∃ i, IsPlace l s i ∧ e = .returned (.tuple #[.int .i64 i, .bool (there l s i)]) ∧ Below w.heap.size w w' := by
  have HC := Lib.hid hc
  have HM := Lib.hid hm
  clear hc hm
  go_enter Tryz.func70, Tryz.ntmps70
  go_wp2_with fail
  go_loopw [9, 10] (fun x y wr => ∃ lo hi : Nat, x = .int .i64 lo ∧ y = .int .i64 hi ∧ lo ≤ hi ∧ hi ≤ l.length ∧ Hid (Below w.heap.size w wr) ∧ Hid (∀ t q, t < lo → l[t]? = some q → cbN q s < 0) ∧ Hid (∀ t q, hi ≤ t → l[t]? = some q → 0 ≤ cbN q s)) (fun x y wr => (intOf y).toNat - (intOf x).toNat)
  case atStart => exact ⟨0, l.length, rfl, rfl, Nat.zero_le _, Nat.le_refl _, Below.refl _ _, fun t q ht => by omega, fun t q ht hq => by rw [List.getElem?_eq_none ht] at hq; cases hq⟩
  case round =>
    obtain ⟨lo, hi, rfl, rfl, hlh, hhn, hb, hlo, hhi⟩ := hrel
    have hz := hb.out.size
    by_cases hlt : lo < hi
    · obtain ⟨k, hk⟩ : ∃ k, k = (lo + hi) / 2 := ⟨_, rfl⟩
      have hkl : lo ≤ k := by omega
      have hkh : k < hi := by omega
      have HK : Hid (k = (lo + hi) / 2) := hk
      have hmid : ((lo : Int) + (hi : Int)) / 2 = (k : Int) := by omega
      obtain ⟨p, hp⟩ : ∃ p, l[k]? = some p := ⟨_, List.getElem?_eq_getElem (by omega)⟩
      obtain ⟨b, o, rfl, hbl, hcell⟩ := (HC.out.below hb.out) (by omega)
      have hck := hcell k p hp
      clear hcell
      have HP := Lib.hid hp
      clear hp hk
      have c0 := hck 0 _ rfl
      have c1 := hck 1 _ rfl
      have c2 := hck 2 _ rfl
      have c3 := hck 3 _ rfl
      have c4 := hck 4 _ rfl
      rw [Nat.add_zero] at c0
      clear hck
      by_cases hneg : cbN p s < 0
      · have hN := Lib.hid hneg
        unfold cbN at hneg
        go_wp2_with fail
        refine (place1_any p s wr).mono ?_
        rintro e w1 ⟨rfl, hb1⟩
        have HB1 := Lib.hid (hb.out.trans (hb1.mono hz))
        clear hb1 c0 c1 c2 c3 c4
        go_wp2_with fail
        go_roundw
        case rel => exact ⟨k + 1, hi, by go_num, rfl, by omega, hhn, HB1.out, fun t q ht hq => HM.out t k q p (by omega) hq HP.out hN.out, hhi.out⟩
        case measure => simp [intOf]; omega
      · have hN := Lib.hid hneg
        have hneg : decide (cbN p s < 0) = false := by simp [hneg]
        unfold cbN at hneg
        go_wp2_with fail
        refine (place1_any p s wr).mono ?_
        rintro e w1 ⟨rfl, hb1⟩
        have HB1 := Lib.hid (hb.out.trans (hb1.mono hz))
        clear hb1 c0 c1 c2 c3 c4
        go_wp2_with fail
        go_roundw
        case rel => exact ⟨lo, k, rfl, by go_num, by omega, by omega, HB1.out, hlo.out, fun t q ht hq => by
          rcases Int.lt_or_le (cbN q s) 0 with h | h
          · exact absurd (HM.out k t p q ht HP.out hq h) (by have := hN.out; omega)
          · exact h⟩
        case measure => simp [intOf]; omega
    · obtain rfl : lo = hi := by omega
      by_cases hn : lo < l.length
      · obtain ⟨p, hp⟩ : ∃ p, l[lo]? = some p := ⟨_, List.getElem?_eq_getElem (by omega)⟩
        obtain ⟨b, o, rfl, hbl, hcell⟩ := (HC.out.below hb.out) (by omega)
        have hck := hcell lo p hp
        clear hcell
        have HP := Lib.hid hp
        clear hp
        have c0 := hck 0 _ rfl
        have c1 := hck 1 _ rfl
        have c2 := hck 2 _ rfl
        have c3 := hck 3 _ rfl
        have c4 := hck 4 _ rfl
        rw [Nat.add_zero] at c0
        clear hck
        go_wp2_with fail
        refine (place1_any p s wr).mono ?_
        rintro e w1 ⟨rfl, hb1⟩
        have HB1 := Lib.hid (hb.out.trans (hb1.mono hz))
        clear hb1 c0 c1 c2 c3 c4
        go_wp2_with fail
        go_ret2
        refine ⟨lo, ⟨hhn, hlo.out, hhi.out⟩, ?_, HB1.out⟩
        unfold there
        rw [HP.out]
        rfl
      · go_wp2_with fail
        go_ret2
        refine ⟨lo, ⟨hhn, hlo.out, hhi.out⟩, ?_, hb.out⟩
        unfold there
        rw [List.getElem?_eq_none (by omega)]
        rfl
set_option maxHeartbeats 1000000 in
theorem place_any (A : Option Addr) (c : Nat) (l : List Pr) (s : ByteArray) (w : World) (hl : l.length ≤ 1000000) (hc : PropsAt w A l) (hm : Mono l s) :
    Calls Tryz.prog 47 #[.slice A l.length c, .string s] w fun e w' => ∃ i, IsPlace l s i ∧ e = .returned (.tuple #[.int .i64 i, .bool (there l s i)]) ∧ Below w.heap.size w w' := by
  have HC := Lib.hid hc
  have HM := Lib.hid hm
  clear hc hm
  go_enter Tryz.func47, Tryz.ntmps47
  go_wp2_with fail
  refine (search_any A c l s w hl HC.out HM.out).mono ?_
  rintro e w1 ⟨i, hi, rfl, hb⟩
  have HI := Lib.hid hi
  have HB := Lib.hid hb
  clear hi hb
  go_wp2_with fail
  go_ret2
  exact ⟨i, HI.out, rfl, HB.out⟩
end Go.Proofs.YtdajmcgbmdnibaaGreatDoor
