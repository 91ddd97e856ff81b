/- strconv.FormatFloat(x, 'g', -1, 64); flt.Text, trivetref06.Text. -/
import Derived.Test.YtnklnenjdffbaaaDoorFm
import Derived.Laws.BytesArg
import Derived.Laws.MakeOwn
import Derived.WideShapes
namespace Go.Proofs.YtnklnenjdffbaaaDoor
open Go.RowKit Go.Sort
open Go.Lib (byteCells)
set_option linter.unusedVariables false
set_option maxRecDepth 100000
theorem ftoa_any (B : Nat) (v : Value) (b : Nat) (w : World) (ho : w.ownsRow B 5 1 v 0 []) (hB : B ≤ w.heap.size) (hP : P10At w) (hG : 7 < w.heap.size) (hT : Tab w) (hb : b < 18446744073709551616) :
    Calls Tryd.prog 21 #[v, .float .f64 b, .int .u8 103, .int .i64 (-1)] w fun e w' => ∃ v', e = .returned v' ∧ Below B w w' ∧ w'.ownsRow B 5 1 v' (textB b).length (byteCells (textB b)) := by
  have D : Dst B 0 [] w w v [] := ⟨ho, .inr rfl, Below.refl _ _, hB⟩
  have fin : ∀ {F : List UInt8} {e : Ending} {w' : World}, (∃ v', e = .returned v' ∧ Dst B 0 [] w w' v' F) → ∃ v', e = .returned v' ∧ Below B w w' ∧ w'.ownsRow B 5 1 v' F.length (byteCells F) := fun ⟨v', h1, h2⟩ => ⟨v', h1, h2.below, h2.own⟩
  unfold textB
  by_cases h1 : exN b = 2047
  · rw [if_pos h1]
    by_cases h2 : frN b = 0
    · rw [if_neg (by simp [h2])]
      cases h3 : sgN b
      · exact (ftoa_infp B v b w D hb h1 h2 h3 _ rfl).mono fun _ _ h => fin h
      · exact (ftoa_infn B v b w D hb h1 h2 h3 _ rfl).mono fun _ _ h => fin h
    · rw [if_pos h2]
      exact (ftoa_nan B v b w D hb h1 h2 _ rfl).mono fun _ _ h => fin h
  · rw [if_neg h1]
    by_cases h2 : exN b = 0
    · by_cases h3 : frN b = 0
      · rw [if_pos (by unfold mantN; rw [if_pos h2]; exact h3)]
        exact (ftoa_zero B v b w D hb h2 h3 _ rfl).mono fun _ _ h => fin h
      · rw [if_neg (by unfold mantN; rw [if_pos h2]; exact h3)]
        exact ftoa_sub B v b w D hP hG hT hb h2 h3 _ rfl
    · rw [if_neg (by unfold mantN; rw [if_neg h2]; omega)]
      exact ftoa_norm B v b w D hP hG hT hb h1 h2 _ rfl
theorem conv_own {w : World} {B n : Nat} {v : Value} {l : List UInt8} (h : w.ownsRow B 5 1 v n (byteCells l)) : (convert 46 9 v).run Tryd.prog w = .ok (.string ⟨l.toArray⟩) w := by
  have hl : l.length = n := by have := h.1; rw [Lib.byteCells_length] at this; omega
  rcases h.2 with ⟨rfl, h0⟩ | ⟨g, cap, cur, hv, _, _⟩
  · have : l = [] := List.eq_nil_of_length_eq_zero (by omega)
    subst this
    exact run_convert_bytes_nil w 46 5 Tryd.underlying46 Tryd.underlying5 0 0 9 Tryd.underlying9
  · subst hv
    have hc := h.cells (g := g) rfl
    have := run_convert_bytes_arg w 46 5 Tryd.underlying46 Tryd.underlying5 g 0 n cap (l.map fun b => (b.toNat : Int)) (by simpa using hl) (fun i hi => by
      have hb : (byteCells l)[i]? = some (.int .u8 (l[i]'(by omega)).toNat) := by simp [byteCells, List.getElem?_eq_getElem (show i < l.length by omega)]
      have := hc i _ hb
      rw [show (⟨g, 0, none⟩ : Addr).add i = ⟨g, 0 + i, none⟩ by unfold Addr.add; split <;> simp_all] at this
      rw [this, List.getD, List.getElem?_map, List.getElem?_eq_getElem (show i < l.length by omega)]; rfl) 9 Tryd.underlying9
    rw [this]
    congr 2
    apply Go.WideShapes.bytes_inj
    rw [strOfNums_data, List.map_map]
    simp only []
    apply List.ext_getElem
    · simp
    · intro i h1 h2; simp
theorem make24 (w : World) : (Instr.makeSlice 46 (.int .i64 0) (.int .i64 24)).run Tryd.prog w = .ok (.slice (some ⟨w.heap.size, 0, none⟩) 0 24) (w.alloc (.cells (madeCells (Value.int .u8 0).cells 24) 5)) := by
  obtain ⟨i0, hi, hz0, hz1, hz2⟩ := info_parts byte_info
  have := run_make (P := Tryd.prog) w 46 5 i0 _ Tryd.underlying46 hi hz0 .i64 .i64 0 24 (by omega) (by omega) (by rw [hz2]; decide) (by omega)
  rw [hz1] at this
  exact this
theorem own_made (w : World) : (w.alloc (.cells (madeCells (Value.int .u8 0).cells 24) 5)).ownsRow w.heap.size 5 1 (.slice (some ⟨w.heap.size, 0, none⟩) 0 24) 0 [] :=
  ⟨rfl, .inr ⟨w.heap.size, 24, _, rfl, Nat.le_refl _, heap_alloc_new w _, by omega, by unfold maxLen; omega, by simp [madeCells], by simp⟩⟩
def textS (b : Nat) : ByteArray := ⟨(textB b).toArray⟩
set_option maxHeartbeats 1000000 in
theorem formatI_any (b : Nat) (w : World) (hP : P10At w) (hG : 7 < w.heap.size) (hT : Tab w) (hb : b < 18446744073709551616) :
    Calls Tryd.prog 17 #[.float .f64 b, .int .u8 103, .int .i64 (-1), .int .i64 64] w fun e w' => e = .returned (.string (textS b)) ∧ Below w.heap.size w w' := by
  have hmk := make24
  have hmx : max (3 : Int) 24 = 24 := by decide
  have HF := Lib.hid (ftoa_any w.heap.size (.slice (some ⟨w.heap.size, 0, none⟩) 0 24) b _ (own_made w) (by simp) (hP.below hG ((Below.refl _ _).alloc (Nat.le_refl _) _)) (by simp; omega) (hT.on ((Below.refl _ _).alloc (Nat.le_refl _) _)) hb)
  clear hP hT
  go_enter Tryd.func17, Tryd.ntmps17
  go_wp2_with fail
  refine HF.out.mono ?_
  rintro e w2 ⟨v2, rfl, hb2, ho2⟩
  have hcv := conv_own ho2
  have HB2 : Hid (Below w.heap.size w w2) := ((Below.refl _ _).alloc (Nat.le_refl _) _).trans hb2
  clear hb2 ho2
  go_wp2_with fail
  go_ret
  exact ⟨rfl, HB2.out⟩
theorem format_any (b : Nat) (w : World) (hP : P10At w) (hG : 7 < w.heap.size) (hT : Tab w) (hb : b < 18446744073709551616) :
    Calls Tryd.prog 15 #[.float .f64 b, .int .u8 103, .int .i64 (-1), .int .i64 64] w fun e w' => e = .returned (.string (textS b)) ∧ Below w.heap.size w w' := by
  have HF := Lib.hid (formatI_any b w hP hG hT hb)
  clear hP hT
  go_enter Tryd.func15, Tryd.ntmps15
  go_wp2_with fail
  refine HF.out.mono ?_
  rintro e w2 ⟨rfl, hb2⟩
  have HB2 := Lib.hid hb2
  clear hb2
  go_wp2_with fail
  go_ret
  exact ⟨rfl, HB2.out⟩
theorem text_any (b : Nat) (w : World) (hP : P10At w) (hG : 7 < w.heap.size) (hT : Tab w) (hb : b < 18446744073709551616) :
    Calls Tryd.prog 9 #[.float .f64 b] w fun e w' => e = .returned (.string (textS b)) ∧ Below w.heap.size w w' := by
  have HF := Lib.hid (format_any b w hP hG hT hb)
  clear hP hT
  go_enter Tryd.func9, Tryd.ntmps9
  go_wp2_with fail
  refine HF.out.mono ?_
  rintro e w2 ⟨rfl, hb2⟩
  have HB2 := Lib.hid hb2
  clear hb2
  go_wp2_with fail
  go_ret
  exact ⟨rfl, HB2.out⟩
end Go.Proofs.YtnklnenjdffbaaaDoor
