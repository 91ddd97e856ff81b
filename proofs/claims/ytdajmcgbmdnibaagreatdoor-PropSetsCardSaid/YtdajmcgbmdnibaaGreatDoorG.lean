/- prop.Encode, over whatever texts the values have. -/
import Derived.Test.YtdajmcgbmdnibaaGreatDoorF
namespace Go.Proofs.YtdajmcgbmdnibaaGreatDoor
open Go.RowKit
open Go.Lib (byteCells)
set_option linter.unusedVariables false
set_option maxRecDepth 100000
attribute [local go_sem] run_store_float

theorem own_mono {w : World} {B B' e size n : Nat} {v : Value} {xs : List Value} (h : w.ownsRow B e size v n xs) (hB : B' ≤ B) : w.ownsRow B' e size v n xs := by
  obtain ⟨h1, h2⟩ := h
  refine ⟨h1, ?_⟩
  rcases h2 with h2 | ⟨g, cap, cur, hv, hg, r⟩
  · exact .inl h2
  · exact .inr ⟨g, cap, cur, hv, by omega, r⟩
/-- a value's text is t -/
def TextIs (v : V) (t : ByteArray) : Prop := ∀ w : World, 12 ≤ w.heap.size → Tab w → Calls Tryz.prog 38 #[v.val] w fun e w' => e = .returned (.tuple #[.string t, .int .i64 0]) ∧ Below w.heap.size w w'
def encP (tx : V → ByteArray) (p : Pr) : List UInt8 := strB p.name.data.toList ++ strB (tx p.v).data.toList
def encB (tx : V → ByteArray) (l : List Pr) : List UInt8 := numB [(l.length : Int)] ++ l.flatMap (encP tx)
theorem enc_snoc (tx : V → ByteArray) (l : List Pr) (k : Nat) (p : Pr) (hp : l[k]? = some p) : (l.take (k + 1)).flatMap (encP tx) = (l.take k).flatMap (encP tx) ++ encP tx p := by
  rw [List.take_add_one, hp]; simp
theorem strB_len {l : List UInt8} (h : l.length ≤ 1000000) : (strB l).length ≤ l.length + 30 := by
  have := Lib.itoa_length_le (l.length : Int) (by omega) (by omega)
  simp only [strB, List.length_append, List.length_cons, List.length_nil]; omega
theorem encP_len {tx : V → ByteArray} {p : Pr} (h1 : p.name.size ≤ 16) (h2 : (tx p.v).size ≤ 1000) : (encP tx p).length ≤ 1100 := by
  have a := strB_len (l := p.name.data.toList) (by simp; omega)
  have b := strB_len (l := (tx p.v).data.toList) (by simp; omega)
  simp only [encP, List.length_append]; simp at a b; omega
theorem enc_len {tx : V → ByteArray} : ∀ {l : List Pr}, (∀ p ∈ l, p.name.size ≤ 16 ∧ (tx p.v).size ≤ 1000) → (l.flatMap (encP tx)).length ≤ 1100 * l.length
  | [], _ => by simp
  | p :: l, h => by
    have a := h p (by simp)
    have b := enc_len (l := l) fun q hq => h q (by simp [hq])
    have c := encP_len a.1 a.2
    simp only [List.flatMap_cons, List.length_append, List.length_cons]; omega
theorem enc_ok (tx : V → ByteArray) (A : Option Addr) (c : Nat) (l : List Pr) (w : World) (hv : validB l = true) (hc : PropsAt w A l) (hs : Fits l) (hl : l.length ≤ 16)
    (hn : ∀ p ∈ l, p.name.size ≤ 16 ∧ (tx p.v).size ≤ 1000) (ht : ∀ p ∈ l, TextIs p.v (tx p.v)) (hG : 12 ≤ w.heap.size) (hT : Tab w) :
    Calls Tryz.prog 37 #[.slice A l.length c] w fun e w' => ∃ v, e = .returned (.tuple #[v, .int .i64 0]) ∧ w'.ownsRow w.heap.size 5 1 v (encB tx l).length (byteCells (encB tx l)) ∧ Below w.heap.size w w' := by
  have HC := Lib.hid hc
  have HS := Lib.hid hs
  have HN := Lib.hid hn
  have HT := Lib.hid ht
  have HTab := Lib.hid hT
  have HV := Lib.hid hv
  clear hc hs hn ht hT hv
  go_enter Tryz.func37, Tryz.ntmps37
  go_wp2_with fail
  refine (valid_any A c l w (by omega) HC.out HS.out).mono ?_
  rintro e w1 ⟨rfl, hb1⟩
  rw [HV.out]
  have hz1 := hb1.size
  have HB1 := Lib.hid hb1
  have HT1 := Lib.hid (HTab.out.on hG hb1)
  clear hb1
  go_wp2_with fail
  have hi1 : IntsAt (w1.alloc (.cells #[.int .i64 l.length] 3)) ⟨w1.heap.size, 0, none⟩ [(l.length : Int)] := by
    intro j hj
    obtain rfl : j = 0 := by simpa using hj
    go_simp
  refine (num_any ⟨w1.heap.size, 0, none⟩ 1 [(l.length : Int)] _ (by simp) (by simp; omega) hi1 (by simp) (by simp; omega) (HT1.out.on (B := w1.heap.size) (by omega) ((Below.refl _ _).alloc (Nat.le_refl _) _))).mono ?_
  clear hi1
  rintro e w2 ⟨v2, rfl, ho2, hb2⟩
  have hz2 := hb2.size
  simp only [World.size_alloc] at hz2 ho2
  have HB2 := Lib.hid (((HB1.out.alloc hz1 _).trans (hb2.mono (by simp; omega))))
  have ho2 := own_mono ho2 (show w.heap.size ≤ w1.heap.size + 1 by omega)
  clear hb2
  go_wp2_with fail
  go_loopw [4, 18] (fun v i wr => ∃ k : Nat, k ≤ l.length ∧ i = .int .i64 k ∧ wr.ownsRow w.heap.size 5 1 v (numB [(l.length : Int)] ++ (l.take k).flatMap (encP tx)).length (byteCells (numB [(l.length : Int)] ++ (l.take k).flatMap (encP tx))) ∧ Hid (Below w.heap.size w wr)) (fun v i wr => l.length - (intOf i).toNat)
  case atStart => exact ⟨0, Nat.zero_le _, rfl, by simpa using ho2, HB2.out⟩
  case round =>
    obtain ⟨k, hk, rfl, ho, hb⟩ := hrel
    have hz := hb.out.size
    by_cases hlt : k < l.length
    · obtain ⟨p, hp⟩ : ∃ p, l[k]? = some p := ⟨_, List.getElem?_eq_getElem hlt⟩
      obtain ⟨b, o, rfl, hbl, hcell⟩ := (HC.out.below hb.out) (by omega)
      have hck := hcell k p hp
      clear hcell
      have hpm := List.mem_of_getElem? hp
      have hfit := HN.out p hpm
      have HTX := Lib.hid (HT.out p hpm)
      have HP := Lib.hid hp
      clear hp hpm
      have c0 := hck 0 _ rfl
      have c1 := hck 1 _ rfl
      have c2 := hck 2 _ rfl
      have c3 := hck 3 _ rfl
      have c4 := hck 4 _ rfl
      rw [Nat.add_zero] at c0
      clear hck
      have hsz : Hid ((numB [(l.length : Int)] ++ (l.take k).flatMap (encP tx)).length ≤ 20000) := by
        have a := enc_len (tx := tx) (l := l.take k) (fun q hq => HN.out q (List.mem_of_mem_take hq))
        have b := numB_len [(l.length : Int)] (by simp; omega)
        rw [List.length_take] at a
        simp only [List.length_cons, List.length_nil] at b
        show _ ≤ _
        rw [List.length_append]; omega
      go_wp2_with fail
      refine (HTX.out _ (by simp; omega) (HTab.out.on hG (((hb.out.alloc hz _))))).mono ?_
      rintro e w3 ⟨rfl, hb3⟩
      have hz3 := hb3.size
      simp only [World.size_alloc] at hz3
      have d0 : w3.cell? ⟨wr.heap.size, 0, none⟩ = some (.string p.name) := (hb3.cell (by simp)).trans (by go_simp)
      have ho3 := own_below (ho.alloc _) hb3
      have HB3 := Lib.hid ((hb.out.alloc hz _).trans (hb3.mono (by simp; omega)))
      clear hb3 c0 c1 c2 c3 c4 ho
      go_wp2_with fail
      refine (run_any _ _ _ p.name w.heap.size w3 ho3 hG (by omega) (by have := hsz.out; omega) (by omega) (HTab.out.on hG HB3.out)).mono ?_
      rintro e w4 ⟨v4, rfl, ho4, hb4⟩
      have hz4 := hb4.size
      have HB4 := Lib.hid (HB3.out.trans hb4)
      clear hb4 ho3 d0
      have hp4 : Hid ((strB p.name.data.toList).length ≤ 100) := by have := strB_len (l := p.name.data.toList) (by simp; omega); simp at this; show _ ≤ _; omega
      go_wp2_with fail
      refine (run_any _ _ _ (tx p.v) w.heap.size w4 ho4 hG (by omega) (by have := hsz.out; have := hp4.out; omega) (by omega) (HTab.out.on hG HB4.out)).mono ?_
      rintro e w5 ⟨v5, rfl, ho5, hb5⟩
      have HB5 := Lib.hid (HB4.out.trans hb5)
      clear hb5 ho4
      go_wp2_with fail
      go_roundw
      case rel =>
        refine ⟨k + 1, by omega, by go_num, ?_, HB5.out⟩
        have e := enc_snoc tx l k p HP.out
        rw [e, ← List.append_assoc]
        simp only [encP, ← List.append_assoc, List.length_append] at ho5 ⊢
        exact ho5
      case measure => simp [intOf]; omega
    · obtain rfl : k = l.length := by omega
      rw [List.take_length] at ho
      go_wp2_with fail
      go_ret2
      exact ⟨u4, rfl, ho, hb.out⟩

def onlyA : Pr := ⟨⟨#[97]⟩, ⟨1, 7, ⟨#[]⟩, 0⟩⟩
def txA (v : V) : ByteArray := ⟨(105 :: Lib.itoa v.num).toArray⟩
theorem enc_A : encB txA [onlyA] = [49, 59, 49, 58, 97, 44, 50, 58, 105, 55, 44] := by
  have h1 : Lib.itoa 1 = [49] := by simp [Lib.itoa, Lib.decDigits]
  have h2 : Lib.itoa 2 = [50] := by simp [Lib.itoa, Lib.decDigits]
  have h7 : Lib.itoa 7 = [55] := by simp [Lib.itoa, Lib.decDigits]
  simp [encB, encP, numB, strB, onlyA, txA, h1, h2, h7]
theorem itoa_5 : Lib.itoa (-5) = [45, 53] := by simp [Lib.itoa, Lib.decDigits]
theorem valid_A : validB [onlyA] = true := by
  simp [validB, okAt, onlyA, nameB, V.good, isLetter, letters, ByteArray.toList_eq]
  decide

theorem conv_own {w : World} {B n : Nat} {v : Value} {l : List UInt8} (h : w.ownsRow B 5 1 v n (byteCells l)) : (convert 27 9 v).run Tryz.prog w = .ok (.string ⟨l.toArray⟩) w := by
  have hl : l.length = n := by have := h.1; rw [Lib.byteCells_length] at this; omega
  rcases h.2 with ⟨rfl, h0⟩ | ⟨g, cap, cur, hv, _, _⟩
  · have : l = [] := List.eq_nil_of_length_eq_zero (by omega)
    subst this
    exact run_convert_bytes_nil w 27 5 Tryz.underlying27 Tryz.underlying5 0 0 9 Tryz.underlying9
  · subst hv
    have hc := h.cells (g := g) rfl
    have := run_convert_bytes_arg w 27 5 Tryz.underlying27 Tryz.underlying5 g 0 n cap (l.map fun b => (b.toNat : Int)) (by simpa using hl) (fun i hi => by
      have hb : (byteCells l)[i]? = some (.int .u8 (l[i]'(by omega)).toNat) := by simp [byteCells, List.getElem?_eq_getElem (show i < l.length by omega)]
      have := hc i _ hb
      rw [show (⟨g, 0, none⟩ : Addr).add i = ⟨g, 0 + i, none⟩ by unfold Addr.add; split <;> simp_all] at this
      rw [this, List.getD, List.getElem?_map, List.getElem?_eq_getElem (show i < l.length by omega)]; rfl) 9 Tryz.underlying9
    rw [this]
    congr 2
    apply Go.WideShapes.bytes_inj
    rw [strOfNums_data, List.map_map]
    simp only []
    apply List.ext_getElem
    · simp
    · intro i h1 h2; simp
theorem wakes_any (w : World) (hG : 12 ≤ w.heap.size) (hT : Tab w) :
    Calls Tryz.prog 12 #[] w fun e w' => e = .returned (.bool true) ∧ Below w.heap.size w w' := by
  have HTab := Lib.hid hT
  clear hT
  go_enter Tryz.func12, Tryz.ntmps12
  go_wp2_with fail
  generalize hW : w.alloc (.cells #[.string ⟨#[97]⟩, .int .i64 1, .int .i64 7, .string ⟨#[]⟩, .float .f64 0] 44) = W
  have hb1 : Below w.heap.size w W := by rw [← hW]; exact (Below.refl _ _).alloc (Nat.le_refl _) _
  have hp : PropsAt W (some ⟨w.heap.size, 0, none⟩) [onlyA] := by
    intro _
    refine ⟨w.heap.size, 0, rfl, by subst hW; simp, ?_⟩
    intro j p hj i u hi
    subst hW
    cases j with
    | succ j => simp at hj
    | zero =>
      have hp : onlyA = p := by simpa using hj
      subst hp
      rcases i with _ | _ | _ | _ | _ | i
      all_goals first | (obtain rfl := Option.some.inj hi; simp only [Nat.zero_add, Nat.zero_mul, Nat.reduceAdd]; go_simp; done) | (simp [onlyA] at hi; done) | (simp [onlyA] at hi; subst hi; go_simp)
  have hz := hb1.size
  have HB1 := Lib.hid hb1
  clear hW hb1
  refine (enc_ok txA (some ⟨w.heap.size, 0, none⟩) 1 [onlyA] W valid_A hp ?_ (by simp) ?_ ?_ (by omega) (HTab.out.on hG HB1.out)).mono ?_
  · intro p hp; obtain rfl : p = onlyA := by simpa using hp
    exact ⟨by show (1 : Nat) ≤ _; omega, by show (0 : Nat) ≤ _; omega⟩
  · intro p hp; obtain rfl : p = onlyA := by simpa using hp
    have := Lib.itoa_length_le 7 (by omega) (by omega)
    exact ⟨by show (1 : Nat) ≤ _; omega, by simp [txA, onlyA, ByteArray.size] ; omega⟩
  · intro p hp; obtain rfl : p = onlyA := by simpa using hp
    intro w' h1 h2
    exact text_int 7 w' (by omega) (by omega) h1 h2
  rintro e w1 ⟨v1, rfl, ho1, hb1⟩
  rw [enc_A] at ho1
  have hz1 := hb1.size
  have HB2 := Lib.hid (HB1.out.trans (hb1.mono hz))
  clear hb1 hp
  go_wp2_with fail
  refine (text_int (-5) w1 (by omega) (by omega) (by omega) (HTab.out.on hG HB2.out)).mono ?_
  rintro e w2 ⟨rfl, hb2⟩
  have ho2 := own_below ho1 hb2
  have hconv := conv_own ho2
  rw [itoa_5]
  have HB3 := Lib.hid (HB2.out.trans (hb2.mono (by omega)))
  clear hb2 ho1 ho2
  go_wp2_with fail
  go_ret
  exact ⟨rfl, HB3.out⟩
end Go.Proofs.YtdajmcgbmdnibaaGreatDoor
