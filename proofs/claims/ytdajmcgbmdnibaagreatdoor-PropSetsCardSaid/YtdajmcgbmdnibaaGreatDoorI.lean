/- The law PropOrders, walked. -/
import Derived.Test.YtdajmcgbmdnibaaGreatDoorG
import Derived.Test.YtdajmcgbmdnibaaGreatDoorH
namespace Go.Proofs.YtdajmcgbmdnibaaGreatDoor
open Go.RowKit
set_option linter.unusedVariables false
set_option maxRecDepth 100000
abbrev V.box (v : V) : Array Value := #[.int .i64 v.kind, .int .i64 v.num, .string v.text, .float .f64 v.real]
def V.fits (v : V) : Prop := v.text.size ≤ 9223372036854775807 ∧ v.real < 18446744073709551616
/-- three boxes lie there -/
def Boxes (w : World) (B : Nat) (a b c : V) : Prop := B + 2 < w.heap.size ∧ (∀ i u, a.box[i]? = some u → w.cell? ⟨B, i, none⟩ = some u) ∧ (∀ i u, b.box[i]? = some u → w.cell? ⟨B + 1, i, none⟩ = some u) ∧ (∀ i u, c.box[i]? = some u → w.cell? ⟨B + 2, i, none⟩ = some u)
theorem Boxes.below {w w' : World} {B : Nat} {a b c : V} (h : Boxes w B a b c) (hb : Below w.heap.size w w') : Boxes w' B a b c := by
  obtain ⟨h0, h1, h2, h3⟩ := h
  have := hb.size
  exact ⟨by omega, fun i u hu => (hb.cell (p := ⟨B, i, none⟩) (by simp; omega)).trans (h1 i u hu), fun i u hu => (hb.cell (p := ⟨B + 1, i, none⟩) (by simp; omega)).trans (h2 i u hu), fun i u hu => (hb.cell (p := ⟨B + 2, i, none⟩) (by simp; omega)).trans (h3 i u hu)⟩
theorem Boxes.facts {w : World} {B : Nat} {a b c : V} (h : Boxes w B a b c) :
    w.cell? ⟨B, 0, none⟩ = some (.int .i64 a.kind) ∧ w.cell? ⟨B, 1, none⟩ = some (.int .i64 a.num) ∧ w.cell? ⟨B, 2, none⟩ = some (.string a.text) ∧ w.cell? ⟨B, 3, none⟩ = some (.float .f64 a.real) ∧
    w.cell? ⟨B + 1, 0, none⟩ = some (.int .i64 b.kind) ∧ w.cell? ⟨B + 1, 1, none⟩ = some (.int .i64 b.num) ∧ w.cell? ⟨B + 1, 2, none⟩ = some (.string b.text) ∧ w.cell? ⟨B + 1, 3, none⟩ = some (.float .f64 b.real) ∧
    w.cell? ⟨B + 2, 0, none⟩ = some (.int .i64 c.kind) ∧ w.cell? ⟨B + 2, 1, none⟩ = some (.int .i64 c.num) ∧ w.cell? ⟨B + 2, 2, none⟩ = some (.string c.text) ∧ w.cell? ⟨B + 2, 3, none⟩ = some (.float .f64 c.real) :=
  ⟨h.2.1 0 _ rfl, h.2.1 1 _ rfl, h.2.1 2 _ rfl, h.2.1 3 _ rfl, h.2.2.1 0 _ rfl, h.2.2.1 1 _ rfl, h.2.2.1 2 _ rfl, h.2.2.1 3 _ rfl, h.2.2.2 0 _ rfl, h.2.2.2 1 _ rfl, h.2.2.2 2 _ rfl, h.2.2.2 3 _ rfl⟩
theorem cell_new (w : World) (cs : Array Value) (t : TypeId) (i : Nat) (u : Value) (h : cs[i]? = some u) : (w.alloc (.cells cs t)).cell? ⟨w.heap.size, i, none⟩ = some u := by
  have e : (w.alloc (.cells cs t)).heap[w.heap.size]? = some (.cells cs t) := by show (w.heap.push _)[w.heap.size]? = _; simp
  unfold World.cell?
  rw [e]; exact h
theorem cell_old (w : World) (o : Obj) (b i : Nat) (u : Value) (h : w.cell? ⟨b, i, none⟩ = some u) (hb : b < w.heap.size) : (w.alloc o).cell? ⟨b, i, none⟩ = some u :=
  (World.cell?_of_block (w := w) (w' := w.alloc o) (a := ⟨b, i, none⟩) (Below.heap_alloc w o b hb)).trans h
theorem Boxes.start (w : World) (a b c : V) : Boxes (((w.alloc (.cells a.box 37)).alloc (.cells b.box 37)).alloc (.cells c.box 37)) w.heap.size a b c := by
  refine ⟨by simp, fun i u hu => ?_, fun i u hu => ?_, fun i u hu => ?_⟩
  · exact cell_old _ _ _ _ _ (cell_old _ _ _ _ _ (cell_new _ _ _ _ _ hu) (by simp)) (by simp; omega)
  · have := cell_old _ (.cells c.box 37) _ _ _ (cell_new (w.alloc (.cells a.box 37)) b.box 37 i u hu) (by simp)
    simpa using this
  · have := cell_new ((w.alloc (.cells a.box 37)).alloc (.cells b.box 37)) c.box 37 i u hu
    simpa [Nat.add_assoc] using this
set_option maxHeartbeats 1000000 in
theorem law_0000 (a b c : V) (n : Int) (w : World) (fa : a.fits) (fb : b.fits) (fc : c.fits) (hG : 12 ≤ w.heap.size) (hT : Tab w) (h1 : -1 ≤ n) (h2 : n ≤ 1) (e1 : Hid (a.cmp b = n)) (e2 : Hid (b.cmp a = -n)) (hga : a.good = false) (hn : ¬ n ≤ 0) :
    Calls Tryz.prog 4 #[a.val, b.val, c.val] w fun e w' => e = .returned (.bool true) ∧ Below w.heap.size w w' := by
  replace hga := Lib.hid hga
  replace hT := Lib.hid hT
  replace fa := Lib.hid fa
  replace fb := Lib.hid fb
  replace fc := Lib.hid fc
  go_enter Tryz.func4, Tryz.ntmps4
  go_wp2_with fail
  have HB0 := Lib.hid ((((Below.refl w.heap.size w).alloc (Nat.le_refl _) (.cells a.box 37)).alloc (by simp) (.cells b.box 37)).alloc (by simp; omega) (.cells c.box 37))
  have HX := Boxes.start w a b c
  refine (wakes_any _ (by simp; omega) (hT.out.on hG HB0.out)).mono ?_
  rintro e w1 ⟨rfl, hb1⟩
  replace HX := HX.below hb1
  obtain ⟨a0, a1, a2, a3, b0, b1, b2, b3, c0, c1, c2, c3⟩ := HX.facts
  have HB1 := Lib.hid (HB0.out.trans (hb1.mono HB0.out.size))
  clear hb1
  go_wp2_with fail
  refine (compare_any a b _ fa.out.2 fb.out.2).mono ?_
  clear a0 a1 a2 a3 b0 b1 b2 b3 c0 c1 c2 c3
  rintro e w2 ⟨rfl, hb2⟩
  replace HX := HX.below hb2
  obtain ⟨a0, a1, a2, a3, b0, b1, b2, b3, c0, c1, c2, c3⟩ := HX.facts
  have HB2 := Lib.hid (HB1.out.trans (hb2.mono HB1.out.size))
  clear hb2
  rw [e1.out]
  go_wp2_with fail
  refine (compare_any b a _ fb.out.2 fa.out.2).mono ?_
  clear a0 a1 a2 a3 b0 b1 b2 b3 c0 c1 c2 c3
  rintro e w3 ⟨rfl, hb3⟩
  replace HX := HX.below hb3
  obtain ⟨a0, a1, a2, a3, b0, b1, b2, b3, c0, c1, c2, c3⟩ := HX.facts
  have HB3 := Lib.hid (HB2.out.trans (hb3.mono HB2.out.size))
  clear hb3
  rw [e2.out]
  go_wp2_with fail
  refine (good_any a _ fa.out.1).mono ?_
  clear a0 a1 a2 a3 b0 b1 b2 b3 c0 c1 c2 c3
  rintro e w4 ⟨rfl, hb4⟩
  replace HX := HX.below hb4
  obtain ⟨a0, a1, a2, a3, b0, b1, b2, b3, c0, c1, c2, c3⟩ := HX.facts
  have HB4 := Lib.hid (HB3.out.trans (hb4.mono HB3.out.size))
  clear hb4
  rw [hga.out]
  go_wp2_with fail
  go_ret
  exact ⟨rfl, HB4.out⟩
set_option maxHeartbeats 1000000 in
theorem law_0010 (a b c : V) (n : Int) (w : World) (fa : a.fits) (fb : b.fits) (fc : c.fits) (hG : 12 ≤ w.heap.size) (hT : Tab w) (h1 : -1 ≤ n) (h2 : n ≤ 1) (e1 : Hid (a.cmp b = n)) (e2 : Hid (b.cmp a = -n)) (hga : a.good = false) (hn : n ≤ 0) (hm : ¬ b.cmp c ≤ 0) :
    Calls Tryz.prog 4 #[a.val, b.val, c.val] w fun e w' => e = .returned (.bool true) ∧ Below w.heap.size w w' := by
  replace hga := Lib.hid hga
  replace hT := Lib.hid hT
  replace fa := Lib.hid fa
  replace fb := Lib.hid fb
  replace fc := Lib.hid fc
  go_enter Tryz.func4, Tryz.ntmps4
  go_wp2_with fail
  have HB0 := Lib.hid ((((Below.refl w.heap.size w).alloc (Nat.le_refl _) (.cells a.box 37)).alloc (by simp) (.cells b.box 37)).alloc (by simp; omega) (.cells c.box 37))
  have HX := Boxes.start w a b c
  refine (wakes_any _ (by simp; omega) (hT.out.on hG HB0.out)).mono ?_
  rintro e w1 ⟨rfl, hb1⟩
  replace HX := HX.below hb1
  obtain ⟨a0, a1, a2, a3, b0, b1, b2, b3, c0, c1, c2, c3⟩ := HX.facts
  have HB1 := Lib.hid (HB0.out.trans (hb1.mono HB0.out.size))
  clear hb1
  go_wp2_with fail
  refine (compare_any a b _ fa.out.2 fb.out.2).mono ?_
  clear a0 a1 a2 a3 b0 b1 b2 b3 c0 c1 c2 c3
  rintro e w2 ⟨rfl, hb2⟩
  replace HX := HX.below hb2
  obtain ⟨a0, a1, a2, a3, b0, b1, b2, b3, c0, c1, c2, c3⟩ := HX.facts
  have HB2 := Lib.hid (HB1.out.trans (hb2.mono HB1.out.size))
  clear hb2
  rw [e1.out]
  go_wp2_with fail
  refine (compare_any b a _ fb.out.2 fa.out.2).mono ?_
  clear a0 a1 a2 a3 b0 b1 b2 b3 c0 c1 c2 c3
  rintro e w3 ⟨rfl, hb3⟩
  replace HX := HX.below hb3
  obtain ⟨a0, a1, a2, a3, b0, b1, b2, b3, c0, c1, c2, c3⟩ := HX.facts
  have HB3 := Lib.hid (HB2.out.trans (hb3.mono HB2.out.size))
  clear hb3
  rw [e2.out]
  go_wp2_with fail
  refine (good_any a _ fa.out.1).mono ?_
  clear a0 a1 a2 a3 b0 b1 b2 b3 c0 c1 c2 c3
  rintro e w4 ⟨rfl, hb4⟩
  replace HX := HX.below hb4
  obtain ⟨a0, a1, a2, a3, b0, b1, b2, b3, c0, c1, c2, c3⟩ := HX.facts
  have HB4 := Lib.hid (HB3.out.trans (hb4.mono HB3.out.size))
  clear hb4
  rw [hga.out]
  go_wp2_with fail
  refine (compare_any b c _ fb.out.2 fc.out.2).mono ?_
  clear a0 a1 a2 a3 b0 b1 b2 b3 c0 c1 c2 c3
  rintro e w5 ⟨rfl, hb5⟩
  replace HX := HX.below hb5
  obtain ⟨a0, a1, a2, a3, b0, b1, b2, b3, c0, c1, c2, c3⟩ := HX.facts
  have HB5 := Lib.hid (HB4.out.trans (hb5.mono HB4.out.size))
  clear hb5
  go_wp2_with fail
  go_ret
  exact ⟨rfl, HB5.out⟩
set_option maxHeartbeats 1000000 in
theorem law_0011 (a b c : V) (n : Int) (w : World) (fa : a.fits) (fb : b.fits) (fc : c.fits) (hG : 12 ≤ w.heap.size) (hT : Tab w) (h1 : -1 ≤ n) (h2 : n ≤ 1) (e1 : Hid (a.cmp b = n)) (e2 : Hid (b.cmp a = -n)) (hga : a.good = false) (hn : n ≤ 0) (hm : b.cmp c ≤ 0) (hk : a.cmp c ≤ 0) :
    Calls Tryz.prog 4 #[a.val, b.val, c.val] w fun e w' => e = .returned (.bool true) ∧ Below w.heap.size w w' := by
  replace hga := Lib.hid hga
  replace hT := Lib.hid hT
  replace fa := Lib.hid fa
  replace fb := Lib.hid fb
  replace fc := Lib.hid fc
  go_enter Tryz.func4, Tryz.ntmps4
  go_wp2_with fail
  have HB0 := Lib.hid ((((Below.refl w.heap.size w).alloc (Nat.le_refl _) (.cells a.box 37)).alloc (by simp) (.cells b.box 37)).alloc (by simp; omega) (.cells c.box 37))
  have HX := Boxes.start w a b c
  refine (wakes_any _ (by simp; omega) (hT.out.on hG HB0.out)).mono ?_
  rintro e w1 ⟨rfl, hb1⟩
  replace HX := HX.below hb1
  obtain ⟨a0, a1, a2, a3, b0, b1, b2, b3, c0, c1, c2, c3⟩ := HX.facts
  have HB1 := Lib.hid (HB0.out.trans (hb1.mono HB0.out.size))
  clear hb1
  go_wp2_with fail
  refine (compare_any a b _ fa.out.2 fb.out.2).mono ?_
  clear a0 a1 a2 a3 b0 b1 b2 b3 c0 c1 c2 c3
  rintro e w2 ⟨rfl, hb2⟩
  replace HX := HX.below hb2
  obtain ⟨a0, a1, a2, a3, b0, b1, b2, b3, c0, c1, c2, c3⟩ := HX.facts
  have HB2 := Lib.hid (HB1.out.trans (hb2.mono HB1.out.size))
  clear hb2
  rw [e1.out]
  go_wp2_with fail
  refine (compare_any b a _ fb.out.2 fa.out.2).mono ?_
  clear a0 a1 a2 a3 b0 b1 b2 b3 c0 c1 c2 c3
  rintro e w3 ⟨rfl, hb3⟩
  replace HX := HX.below hb3
  obtain ⟨a0, a1, a2, a3, b0, b1, b2, b3, c0, c1, c2, c3⟩ := HX.facts
  have HB3 := Lib.hid (HB2.out.trans (hb3.mono HB2.out.size))
  clear hb3
  rw [e2.out]
  go_wp2_with fail
  refine (good_any a _ fa.out.1).mono ?_
  clear a0 a1 a2 a3 b0 b1 b2 b3 c0 c1 c2 c3
  rintro e w4 ⟨rfl, hb4⟩
  replace HX := HX.below hb4
  obtain ⟨a0, a1, a2, a3, b0, b1, b2, b3, c0, c1, c2, c3⟩ := HX.facts
  have HB4 := Lib.hid (HB3.out.trans (hb4.mono HB3.out.size))
  clear hb4
  rw [hga.out]
  go_wp2_with fail
  refine (compare_any b c _ fb.out.2 fc.out.2).mono ?_
  clear a0 a1 a2 a3 b0 b1 b2 b3 c0 c1 c2 c3
  rintro e w5 ⟨rfl, hb5⟩
  replace HX := HX.below hb5
  obtain ⟨a0, a1, a2, a3, b0, b1, b2, b3, c0, c1, c2, c3⟩ := HX.facts
  have HB5 := Lib.hid (HB4.out.trans (hb5.mono HB4.out.size))
  clear hb5
  go_wp2_with fail
  refine (compare_any a c _ fa.out.2 fc.out.2).mono ?_
  clear a0 a1 a2 a3 b0 b1 b2 b3 c0 c1 c2 c3
  rintro e w6 ⟨rfl, hb6⟩
  replace HX := HX.below hb6
  obtain ⟨a0, a1, a2, a3, b0, b1, b2, b3, c0, c1, c2, c3⟩ := HX.facts
  have HB6 := Lib.hid (HB5.out.trans (hb6.mono HB5.out.size))
  clear hb6
  go_wp2_with fail
  go_ret
  exact ⟨rfl, HB6.out⟩
set_option maxHeartbeats 1000000 in
theorem law_1000 (a b c : V) (n : Int) (w : World) (fa : a.fits) (fb : b.fits) (fc : c.fits) (hG : 12 ≤ w.heap.size) (hT : Tab w) (h1 : -1 ≤ n) (h2 : n ≤ 1) (e1 : Hid (a.cmp b = n)) (e2 : Hid (b.cmp a = -n)) (hga : a.good = true) (hgb : b.good = false) (hn : ¬ n ≤ 0) :
    Calls Tryz.prog 4 #[a.val, b.val, c.val] w fun e w' => e = .returned (.bool true) ∧ Below w.heap.size w w' := by
  replace hga := Lib.hid hga
  replace hgb := Lib.hid hgb
  replace hT := Lib.hid hT
  replace fa := Lib.hid fa
  replace fb := Lib.hid fb
  replace fc := Lib.hid fc
  go_enter Tryz.func4, Tryz.ntmps4
  go_wp2_with fail
  have HB0 := Lib.hid ((((Below.refl w.heap.size w).alloc (Nat.le_refl _) (.cells a.box 37)).alloc (by simp) (.cells b.box 37)).alloc (by simp; omega) (.cells c.box 37))
  have HX := Boxes.start w a b c
  refine (wakes_any _ (by simp; omega) (hT.out.on hG HB0.out)).mono ?_
  rintro e w1 ⟨rfl, hb1⟩
  replace HX := HX.below hb1
  obtain ⟨a0, a1, a2, a3, b0, b1, b2, b3, c0, c1, c2, c3⟩ := HX.facts
  have HB1 := Lib.hid (HB0.out.trans (hb1.mono HB0.out.size))
  clear hb1
  go_wp2_with fail
  refine (compare_any a b _ fa.out.2 fb.out.2).mono ?_
  clear a0 a1 a2 a3 b0 b1 b2 b3 c0 c1 c2 c3
  rintro e w2 ⟨rfl, hb2⟩
  replace HX := HX.below hb2
  obtain ⟨a0, a1, a2, a3, b0, b1, b2, b3, c0, c1, c2, c3⟩ := HX.facts
  have HB2 := Lib.hid (HB1.out.trans (hb2.mono HB1.out.size))
  clear hb2
  rw [e1.out]
  go_wp2_with fail
  refine (compare_any b a _ fb.out.2 fa.out.2).mono ?_
  clear a0 a1 a2 a3 b0 b1 b2 b3 c0 c1 c2 c3
  rintro e w3 ⟨rfl, hb3⟩
  replace HX := HX.below hb3
  obtain ⟨a0, a1, a2, a3, b0, b1, b2, b3, c0, c1, c2, c3⟩ := HX.facts
  have HB3 := Lib.hid (HB2.out.trans (hb3.mono HB2.out.size))
  clear hb3
  rw [e2.out]
  go_wp2_with fail
  refine (good_any a _ fa.out.1).mono ?_
  clear a0 a1 a2 a3 b0 b1 b2 b3 c0 c1 c2 c3
  rintro e w4 ⟨rfl, hb4⟩
  replace HX := HX.below hb4
  obtain ⟨a0, a1, a2, a3, b0, b1, b2, b3, c0, c1, c2, c3⟩ := HX.facts
  have HB4 := Lib.hid (HB3.out.trans (hb4.mono HB3.out.size))
  clear hb4
  rw [hga.out]
  go_wp2_with fail
  refine (good_any b _ fb.out.1).mono ?_
  clear a0 a1 a2 a3 b0 b1 b2 b3 c0 c1 c2 c3
  rintro e w5 ⟨rfl, hb5⟩
  replace HX := HX.below hb5
  obtain ⟨a0, a1, a2, a3, b0, b1, b2, b3, c0, c1, c2, c3⟩ := HX.facts
  have HB5 := Lib.hid (HB4.out.trans (hb5.mono HB4.out.size))
  clear hb5
  rw [hgb.out]
  go_wp2_with fail
  go_ret
  exact ⟨rfl, HB5.out⟩
set_option maxHeartbeats 1000000 in
theorem law_1010 (a b c : V) (n : Int) (w : World) (fa : a.fits) (fb : b.fits) (fc : c.fits) (hG : 12 ≤ w.heap.size) (hT : Tab w) (h1 : -1 ≤ n) (h2 : n ≤ 1) (e1 : Hid (a.cmp b = n)) (e2 : Hid (b.cmp a = -n)) (hga : a.good = true) (hgb : b.good = false) (hn : n ≤ 0) (hm : ¬ b.cmp c ≤ 0) :
    Calls Tryz.prog 4 #[a.val, b.val, c.val] w fun e w' => e = .returned (.bool true) ∧ Below w.heap.size w w' := by
  replace hga := Lib.hid hga
  replace hgb := Lib.hid hgb
  replace hT := Lib.hid hT
  replace fa := Lib.hid fa
  replace fb := Lib.hid fb
  replace fc := Lib.hid fc
  go_enter Tryz.func4, Tryz.ntmps4
  go_wp2_with fail
  have HB0 := Lib.hid ((((Below.refl w.heap.size w).alloc (Nat.le_refl _) (.cells a.box 37)).alloc (by simp) (.cells b.box 37)).alloc (by simp; omega) (.cells c.box 37))
  have HX := Boxes.start w a b c
  refine (wakes_any _ (by simp; omega) (hT.out.on hG HB0.out)).mono ?_
  rintro e w1 ⟨rfl, hb1⟩
  replace HX := HX.below hb1
  obtain ⟨a0, a1, a2, a3, b0, b1, b2, b3, c0, c1, c2, c3⟩ := HX.facts
  have HB1 := Lib.hid (HB0.out.trans (hb1.mono HB0.out.size))
  clear hb1
  go_wp2_with fail
  refine (compare_any a b _ fa.out.2 fb.out.2).mono ?_
  clear a0 a1 a2 a3 b0 b1 b2 b3 c0 c1 c2 c3
  rintro e w2 ⟨rfl, hb2⟩
  replace HX := HX.below hb2
  obtain ⟨a0, a1, a2, a3, b0, b1, b2, b3, c0, c1, c2, c3⟩ := HX.facts
  have HB2 := Lib.hid (HB1.out.trans (hb2.mono HB1.out.size))
  clear hb2
  rw [e1.out]
  go_wp2_with fail
  refine (compare_any b a _ fb.out.2 fa.out.2).mono ?_
  clear a0 a1 a2 a3 b0 b1 b2 b3 c0 c1 c2 c3
  rintro e w3 ⟨rfl, hb3⟩
  replace HX := HX.below hb3
  obtain ⟨a0, a1, a2, a3, b0, b1, b2, b3, c0, c1, c2, c3⟩ := HX.facts
  have HB3 := Lib.hid (HB2.out.trans (hb3.mono HB2.out.size))
  clear hb3
  rw [e2.out]
  go_wp2_with fail
  refine (good_any a _ fa.out.1).mono ?_
  clear a0 a1 a2 a3 b0 b1 b2 b3 c0 c1 c2 c3
  rintro e w4 ⟨rfl, hb4⟩
  replace HX := HX.below hb4
  obtain ⟨a0, a1, a2, a3, b0, b1, b2, b3, c0, c1, c2, c3⟩ := HX.facts
  have HB4 := Lib.hid (HB3.out.trans (hb4.mono HB3.out.size))
  clear hb4
  rw [hga.out]
  go_wp2_with fail
  refine (good_any b _ fb.out.1).mono ?_
  clear a0 a1 a2 a3 b0 b1 b2 b3 c0 c1 c2 c3
  rintro e w5 ⟨rfl, hb5⟩
  replace HX := HX.below hb5
  obtain ⟨a0, a1, a2, a3, b0, b1, b2, b3, c0, c1, c2, c3⟩ := HX.facts
  have HB5 := Lib.hid (HB4.out.trans (hb5.mono HB4.out.size))
  clear hb5
  rw [hgb.out]
  go_wp2_with fail
  refine (compare_any b c _ fb.out.2 fc.out.2).mono ?_
  clear a0 a1 a2 a3 b0 b1 b2 b3 c0 c1 c2 c3
  rintro e w6 ⟨rfl, hb6⟩
  replace HX := HX.below hb6
  obtain ⟨a0, a1, a2, a3, b0, b1, b2, b3, c0, c1, c2, c3⟩ := HX.facts
  have HB6 := Lib.hid (HB5.out.trans (hb6.mono HB5.out.size))
  clear hb6
  go_wp2_with fail
  go_ret
  exact ⟨rfl, HB6.out⟩
set_option maxHeartbeats 1000000 in
theorem law_1011 (a b c : V) (n : Int) (w : World) (fa : a.fits) (fb : b.fits) (fc : c.fits) (hG : 12 ≤ w.heap.size) (hT : Tab w) (h1 : -1 ≤ n) (h2 : n ≤ 1) (e1 : Hid (a.cmp b = n)) (e2 : Hid (b.cmp a = -n)) (hga : a.good = true) (hgb : b.good = false) (hn : n ≤ 0) (hm : b.cmp c ≤ 0) (hk : a.cmp c ≤ 0) :
    Calls Tryz.prog 4 #[a.val, b.val, c.val] w fun e w' => e = .returned (.bool true) ∧ Below w.heap.size w w' := by
  replace hga := Lib.hid hga
  replace hgb := Lib.hid hgb
  replace hT := Lib.hid hT
  replace fa := Lib.hid fa
  replace fb := Lib.hid fb
  replace fc := Lib.hid fc
  go_enter Tryz.func4, Tryz.ntmps4
  go_wp2_with fail
  have HB0 := Lib.hid ((((Below.refl w.heap.size w).alloc (Nat.le_refl _) (.cells a.box 37)).alloc (by simp) (.cells b.box 37)).alloc (by simp; omega) (.cells c.box 37))
  have HX := Boxes.start w a b c
  refine (wakes_any _ (by simp; omega) (hT.out.on hG HB0.out)).mono ?_
  rintro e w1 ⟨rfl, hb1⟩
  replace HX := HX.below hb1
  obtain ⟨a0, a1, a2, a3, b0, b1, b2, b3, c0, c1, c2, c3⟩ := HX.facts
  have HB1 := Lib.hid (HB0.out.trans (hb1.mono HB0.out.size))
  clear hb1
  go_wp2_with fail
  refine (compare_any a b _ fa.out.2 fb.out.2).mono ?_
  clear a0 a1 a2 a3 b0 b1 b2 b3 c0 c1 c2 c3
  rintro e w2 ⟨rfl, hb2⟩
  replace HX := HX.below hb2
  obtain ⟨a0, a1, a2, a3, b0, b1, b2, b3, c0, c1, c2, c3⟩ := HX.facts
  have HB2 := Lib.hid (HB1.out.trans (hb2.mono HB1.out.size))
  clear hb2
  rw [e1.out]
  go_wp2_with fail
  refine (compare_any b a _ fb.out.2 fa.out.2).mono ?_
  clear a0 a1 a2 a3 b0 b1 b2 b3 c0 c1 c2 c3
  rintro e w3 ⟨rfl, hb3⟩
  replace HX := HX.below hb3
  obtain ⟨a0, a1, a2, a3, b0, b1, b2, b3, c0, c1, c2, c3⟩ := HX.facts
  have HB3 := Lib.hid (HB2.out.trans (hb3.mono HB2.out.size))
  clear hb3
  rw [e2.out]
  go_wp2_with fail
  refine (good_any a _ fa.out.1).mono ?_
  clear a0 a1 a2 a3 b0 b1 b2 b3 c0 c1 c2 c3
  rintro e w4 ⟨rfl, hb4⟩
  replace HX := HX.below hb4
  obtain ⟨a0, a1, a2, a3, b0, b1, b2, b3, c0, c1, c2, c3⟩ := HX.facts
  have HB4 := Lib.hid (HB3.out.trans (hb4.mono HB3.out.size))
  clear hb4
  rw [hga.out]
  go_wp2_with fail
  refine (good_any b _ fb.out.1).mono ?_
  clear a0 a1 a2 a3 b0 b1 b2 b3 c0 c1 c2 c3
  rintro e w5 ⟨rfl, hb5⟩
  replace HX := HX.below hb5
  obtain ⟨a0, a1, a2, a3, b0, b1, b2, b3, c0, c1, c2, c3⟩ := HX.facts
  have HB5 := Lib.hid (HB4.out.trans (hb5.mono HB4.out.size))
  clear hb5
  rw [hgb.out]
  go_wp2_with fail
  refine (compare_any b c _ fb.out.2 fc.out.2).mono ?_
  clear a0 a1 a2 a3 b0 b1 b2 b3 c0 c1 c2 c3
  rintro e w6 ⟨rfl, hb6⟩
  replace HX := HX.below hb6
  obtain ⟨a0, a1, a2, a3, b0, b1, b2, b3, c0, c1, c2, c3⟩ := HX.facts
  have HB6 := Lib.hid (HB5.out.trans (hb6.mono HB5.out.size))
  clear hb6
  go_wp2_with fail
  refine (compare_any a c _ fa.out.2 fc.out.2).mono ?_
  clear a0 a1 a2 a3 b0 b1 b2 b3 c0 c1 c2 c3
  rintro e w7 ⟨rfl, hb7⟩
  replace HX := HX.below hb7
  obtain ⟨a0, a1, a2, a3, b0, b1, b2, b3, c0, c1, c2, c3⟩ := HX.facts
  have HB7 := Lib.hid (HB6.out.trans (hb7.mono HB6.out.size))
  clear hb7
  go_wp2_with fail
  go_ret
  exact ⟨rfl, HB7.out⟩
set_option maxHeartbeats 1000000 in
theorem law_1100 (a b c : V) (n : Int) (w : World) (fa : a.fits) (fb : b.fits) (fc : c.fits) (hG : 12 ≤ w.heap.size) (hT : Tab w) (h1 : -1 ≤ n) (h2 : n ≤ 1) (e1 : Hid (a.cmp b = n)) (e2 : Hid (b.cmp a = -n)) (hga : a.good = true) (hgb : b.good = true) (hsm : a.same b = (n == 0)) (hn : ¬ n ≤ 0) :
    Calls Tryz.prog 4 #[a.val, b.val, c.val] w fun e w' => e = .returned (.bool true) ∧ Below w.heap.size w w' := by
  replace hga := Lib.hid hga
  replace hgb := Lib.hid hgb
  replace hsm := Lib.hid hsm
  replace hT := Lib.hid hT
  replace fa := Lib.hid fa
  replace fb := Lib.hid fb
  replace fc := Lib.hid fc
  go_enter Tryz.func4, Tryz.ntmps4
  go_wp2_with fail
  have HB0 := Lib.hid ((((Below.refl w.heap.size w).alloc (Nat.le_refl _) (.cells a.box 37)).alloc (by simp) (.cells b.box 37)).alloc (by simp; omega) (.cells c.box 37))
  have HX := Boxes.start w a b c
  refine (wakes_any _ (by simp; omega) (hT.out.on hG HB0.out)).mono ?_
  rintro e w1 ⟨rfl, hb1⟩
  replace HX := HX.below hb1
  obtain ⟨a0, a1, a2, a3, b0, b1, b2, b3, c0, c1, c2, c3⟩ := HX.facts
  have HB1 := Lib.hid (HB0.out.trans (hb1.mono HB0.out.size))
  clear hb1
  go_wp2_with fail
  refine (compare_any a b _ fa.out.2 fb.out.2).mono ?_
  clear a0 a1 a2 a3 b0 b1 b2 b3 c0 c1 c2 c3
  rintro e w2 ⟨rfl, hb2⟩
  replace HX := HX.below hb2
  obtain ⟨a0, a1, a2, a3, b0, b1, b2, b3, c0, c1, c2, c3⟩ := HX.facts
  have HB2 := Lib.hid (HB1.out.trans (hb2.mono HB1.out.size))
  clear hb2
  rw [e1.out]
  go_wp2_with fail
  refine (compare_any b a _ fb.out.2 fa.out.2).mono ?_
  clear a0 a1 a2 a3 b0 b1 b2 b3 c0 c1 c2 c3
  rintro e w3 ⟨rfl, hb3⟩
  replace HX := HX.below hb3
  obtain ⟨a0, a1, a2, a3, b0, b1, b2, b3, c0, c1, c2, c3⟩ := HX.facts
  have HB3 := Lib.hid (HB2.out.trans (hb3.mono HB2.out.size))
  clear hb3
  rw [e2.out]
  go_wp2_with fail
  refine (good_any a _ fa.out.1).mono ?_
  clear a0 a1 a2 a3 b0 b1 b2 b3 c0 c1 c2 c3
  rintro e w4 ⟨rfl, hb4⟩
  replace HX := HX.below hb4
  obtain ⟨a0, a1, a2, a3, b0, b1, b2, b3, c0, c1, c2, c3⟩ := HX.facts
  have HB4 := Lib.hid (HB3.out.trans (hb4.mono HB3.out.size))
  clear hb4
  rw [hga.out]
  go_wp2_with fail
  refine (good_any b _ fb.out.1).mono ?_
  clear a0 a1 a2 a3 b0 b1 b2 b3 c0 c1 c2 c3
  rintro e w5 ⟨rfl, hb5⟩
  replace HX := HX.below hb5
  obtain ⟨a0, a1, a2, a3, b0, b1, b2, b3, c0, c1, c2, c3⟩ := HX.facts
  have HB5 := Lib.hid (HB4.out.trans (hb5.mono HB4.out.size))
  clear hb5
  rw [hgb.out]
  go_wp2_with fail
  refine (same_any a b _).mono ?_
  clear a0 a1 a2 a3 b0 b1 b2 b3 c0 c1 c2 c3
  rintro e w6 ⟨rfl, hb6⟩
  replace HX := HX.below hb6
  obtain ⟨a0, a1, a2, a3, b0, b1, b2, b3, c0, c1, c2, c3⟩ := HX.facts
  have HB6 := Lib.hid (HB5.out.trans (hb6.mono HB5.out.size))
  clear hb6
  rw [hsm.out]
  go_wp2_with fail
  go_ret
  exact ⟨rfl, HB6.out⟩
set_option maxHeartbeats 1000000 in
theorem law_1110 (a b c : V) (n : Int) (w : World) (fa : a.fits) (fb : b.fits) (fc : c.fits) (hG : 12 ≤ w.heap.size) (hT : Tab w) (h1 : -1 ≤ n) (h2 : n ≤ 1) (e1 : Hid (a.cmp b = n)) (e2 : Hid (b.cmp a = -n)) (hga : a.good = true) (hgb : b.good = true) (hsm : a.same b = (n == 0)) (hn : n ≤ 0) (hm : ¬ b.cmp c ≤ 0) :
    Calls Tryz.prog 4 #[a.val, b.val, c.val] w fun e w' => e = .returned (.bool true) ∧ Below w.heap.size w w' := by
  replace hga := Lib.hid hga
  replace hgb := Lib.hid hgb
  replace hsm := Lib.hid hsm
  replace hT := Lib.hid hT
  replace fa := Lib.hid fa
  replace fb := Lib.hid fb
  replace fc := Lib.hid fc
  go_enter Tryz.func4, Tryz.ntmps4
  go_wp2_with fail
  have HB0 := Lib.hid ((((Below.refl w.heap.size w).alloc (Nat.le_refl _) (.cells a.box 37)).alloc (by simp) (.cells b.box 37)).alloc (by simp; omega) (.cells c.box 37))
  have HX := Boxes.start w a b c
  refine (wakes_any _ (by simp; omega) (hT.out.on hG HB0.out)).mono ?_
  rintro e w1 ⟨rfl, hb1⟩
  replace HX := HX.below hb1
  obtain ⟨a0, a1, a2, a3, b0, b1, b2, b3, c0, c1, c2, c3⟩ := HX.facts
  have HB1 := Lib.hid (HB0.out.trans (hb1.mono HB0.out.size))
  clear hb1
  go_wp2_with fail
  refine (compare_any a b _ fa.out.2 fb.out.2).mono ?_
  clear a0 a1 a2 a3 b0 b1 b2 b3 c0 c1 c2 c3
  rintro e w2 ⟨rfl, hb2⟩
  replace HX := HX.below hb2
  obtain ⟨a0, a1, a2, a3, b0, b1, b2, b3, c0, c1, c2, c3⟩ := HX.facts
  have HB2 := Lib.hid (HB1.out.trans (hb2.mono HB1.out.size))
  clear hb2
  rw [e1.out]
  go_wp2_with fail
  refine (compare_any b a _ fb.out.2 fa.out.2).mono ?_
  clear a0 a1 a2 a3 b0 b1 b2 b3 c0 c1 c2 c3
  rintro e w3 ⟨rfl, hb3⟩
  replace HX := HX.below hb3
  obtain ⟨a0, a1, a2, a3, b0, b1, b2, b3, c0, c1, c2, c3⟩ := HX.facts
  have HB3 := Lib.hid (HB2.out.trans (hb3.mono HB2.out.size))
  clear hb3
  rw [e2.out]
  go_wp2_with fail
  refine (good_any a _ fa.out.1).mono ?_
  clear a0 a1 a2 a3 b0 b1 b2 b3 c0 c1 c2 c3
  rintro e w4 ⟨rfl, hb4⟩
  replace HX := HX.below hb4
  obtain ⟨a0, a1, a2, a3, b0, b1, b2, b3, c0, c1, c2, c3⟩ := HX.facts
  have HB4 := Lib.hid (HB3.out.trans (hb4.mono HB3.out.size))
  clear hb4
  rw [hga.out]
  go_wp2_with fail
  refine (good_any b _ fb.out.1).mono ?_
  clear a0 a1 a2 a3 b0 b1 b2 b3 c0 c1 c2 c3
  rintro e w5 ⟨rfl, hb5⟩
  replace HX := HX.below hb5
  obtain ⟨a0, a1, a2, a3, b0, b1, b2, b3, c0, c1, c2, c3⟩ := HX.facts
  have HB5 := Lib.hid (HB4.out.trans (hb5.mono HB4.out.size))
  clear hb5
  rw [hgb.out]
  go_wp2_with fail
  refine (same_any a b _).mono ?_
  clear a0 a1 a2 a3 b0 b1 b2 b3 c0 c1 c2 c3
  rintro e w6 ⟨rfl, hb6⟩
  replace HX := HX.below hb6
  obtain ⟨a0, a1, a2, a3, b0, b1, b2, b3, c0, c1, c2, c3⟩ := HX.facts
  have HB6 := Lib.hid (HB5.out.trans (hb6.mono HB5.out.size))
  clear hb6
  rw [hsm.out]
  go_wp2_with fail
  refine (compare_any b c _ fb.out.2 fc.out.2).mono ?_
  clear a0 a1 a2 a3 b0 b1 b2 b3 c0 c1 c2 c3
  rintro e w7 ⟨rfl, hb7⟩
  replace HX := HX.below hb7
  obtain ⟨a0, a1, a2, a3, b0, b1, b2, b3, c0, c1, c2, c3⟩ := HX.facts
  have HB7 := Lib.hid (HB6.out.trans (hb7.mono HB6.out.size))
  clear hb7
  go_wp2_with fail
  go_ret
  exact ⟨rfl, HB7.out⟩
set_option maxHeartbeats 1000000 in
theorem law_1111 (a b c : V) (n : Int) (w : World) (fa : a.fits) (fb : b.fits) (fc : c.fits) (hG : 12 ≤ w.heap.size) (hT : Tab w) (h1 : -1 ≤ n) (h2 : n ≤ 1) (e1 : Hid (a.cmp b = n)) (e2 : Hid (b.cmp a = -n)) (hga : a.good = true) (hgb : b.good = true) (hsm : a.same b = (n == 0)) (hn : n ≤ 0) (hm : b.cmp c ≤ 0) (hk : a.cmp c ≤ 0) :
    Calls Tryz.prog 4 #[a.val, b.val, c.val] w fun e w' => e = .returned (.bool true) ∧ Below w.heap.size w w' := by
  replace hga := Lib.hid hga
  replace hgb := Lib.hid hgb
  replace hsm := Lib.hid hsm
  replace hT := Lib.hid hT
  replace fa := Lib.hid fa
  replace fb := Lib.hid fb
  replace fc := Lib.hid fc
  go_enter Tryz.func4, Tryz.ntmps4
  go_wp2_with fail
  have HB0 := Lib.hid ((((Below.refl w.heap.size w).alloc (Nat.le_refl _) (.cells a.box 37)).alloc (by simp) (.cells b.box 37)).alloc (by simp; omega) (.cells c.box 37))
  have HX := Boxes.start w a b c
  refine (wakes_any _ (by simp; omega) (hT.out.on hG HB0.out)).mono ?_
  rintro e w1 ⟨rfl, hb1⟩
  replace HX := HX.below hb1
  obtain ⟨a0, a1, a2, a3, b0, b1, b2, b3, c0, c1, c2, c3⟩ := HX.facts
  have HB1 := Lib.hid (HB0.out.trans (hb1.mono HB0.out.size))
  clear hb1
  go_wp2_with fail
  refine (compare_any a b _ fa.out.2 fb.out.2).mono ?_
  clear a0 a1 a2 a3 b0 b1 b2 b3 c0 c1 c2 c3
  rintro e w2 ⟨rfl, hb2⟩
  replace HX := HX.below hb2
  obtain ⟨a0, a1, a2, a3, b0, b1, b2, b3, c0, c1, c2, c3⟩ := HX.facts
  have HB2 := Lib.hid (HB1.out.trans (hb2.mono HB1.out.size))
  clear hb2
  rw [e1.out]
  go_wp2_with fail
  refine (compare_any b a _ fb.out.2 fa.out.2).mono ?_
  clear a0 a1 a2 a3 b0 b1 b2 b3 c0 c1 c2 c3
  rintro e w3 ⟨rfl, hb3⟩
  replace HX := HX.below hb3
  obtain ⟨a0, a1, a2, a3, b0, b1, b2, b3, c0, c1, c2, c3⟩ := HX.facts
  have HB3 := Lib.hid (HB2.out.trans (hb3.mono HB2.out.size))
  clear hb3
  rw [e2.out]
  go_wp2_with fail
  refine (good_any a _ fa.out.1).mono ?_
  clear a0 a1 a2 a3 b0 b1 b2 b3 c0 c1 c2 c3
  rintro e w4 ⟨rfl, hb4⟩
  replace HX := HX.below hb4
  obtain ⟨a0, a1, a2, a3, b0, b1, b2, b3, c0, c1, c2, c3⟩ := HX.facts
  have HB4 := Lib.hid (HB3.out.trans (hb4.mono HB3.out.size))
  clear hb4
  rw [hga.out]
  go_wp2_with fail
  refine (good_any b _ fb.out.1).mono ?_
  clear a0 a1 a2 a3 b0 b1 b2 b3 c0 c1 c2 c3
  rintro e w5 ⟨rfl, hb5⟩
  replace HX := HX.below hb5
  obtain ⟨a0, a1, a2, a3, b0, b1, b2, b3, c0, c1, c2, c3⟩ := HX.facts
  have HB5 := Lib.hid (HB4.out.trans (hb5.mono HB4.out.size))
  clear hb5
  rw [hgb.out]
  go_wp2_with fail
  refine (same_any a b _).mono ?_
  clear a0 a1 a2 a3 b0 b1 b2 b3 c0 c1 c2 c3
  rintro e w6 ⟨rfl, hb6⟩
  replace HX := HX.below hb6
  obtain ⟨a0, a1, a2, a3, b0, b1, b2, b3, c0, c1, c2, c3⟩ := HX.facts
  have HB6 := Lib.hid (HB5.out.trans (hb6.mono HB5.out.size))
  clear hb6
  rw [hsm.out]
  go_wp2_with fail
  refine (compare_any b c _ fb.out.2 fc.out.2).mono ?_
  clear a0 a1 a2 a3 b0 b1 b2 b3 c0 c1 c2 c3
  rintro e w7 ⟨rfl, hb7⟩
  replace HX := HX.below hb7
  obtain ⟨a0, a1, a2, a3, b0, b1, b2, b3, c0, c1, c2, c3⟩ := HX.facts
  have HB7 := Lib.hid (HB6.out.trans (hb7.mono HB6.out.size))
  clear hb7
  go_wp2_with fail
  refine (compare_any a c _ fa.out.2 fc.out.2).mono ?_
  clear a0 a1 a2 a3 b0 b1 b2 b3 c0 c1 c2 c3
  rintro e w8 ⟨rfl, hb8⟩
  replace HX := HX.below hb8
  obtain ⟨a0, a1, a2, a3, b0, b1, b2, b3, c0, c1, c2, c3⟩ := HX.facts
  have HB8 := Lib.hid (HB7.out.trans (hb8.mono HB7.out.size))
  clear hb8
  go_wp2_with fail
  go_ret
  exact ⟨rfl, HB8.out⟩
theorem law_orders (a b c : V) (w : World) (fa : a.fits) (fb : b.fits) (fc : c.fits) (hG : 12 ≤ w.heap.size) (hT : Tab w) :
    Calls Tryz.prog 4 #[a.val, b.val, c.val] w fun e w' => e = .returned (.bool true) ∧ Below w.heap.size w w' := by
  have hr := V.cmp_ord.range a b
  have e2 : Hid (b.cmp a = -(a.cmp b)) := V.cmp_ord.anti a b
  have e1 : Hid (a.cmp b = a.cmp b) := rfl
  have htr := V.cmp_ord.trans a b c
  by_cases hn : a.cmp b ≤ 0
  · by_cases hm : b.cmp c ≤ 0
    · have hk := htr hn hm
      cases hga : a.good
      · exact law_0011 a b c _ w fa fb fc hG hT hr.1 hr.2 e1 e2 hga hn hm hk
      · cases hgb : b.good
        · exact law_1011 a b c _ w fa fb fc hG hT hr.1 hr.2 e1 e2 hga hgb hn hm hk
        · exact law_1111 a b c _ w fa fb fc hG hT hr.1 hr.2 e1 e2 hga hgb (same_iff hga hgb fa.2 fb.2) hn hm hk
    · cases hga : a.good
      · exact law_0010 a b c _ w fa fb fc hG hT hr.1 hr.2 e1 e2 hga hn hm
      · cases hgb : b.good
        · exact law_1010 a b c _ w fa fb fc hG hT hr.1 hr.2 e1 e2 hga hgb hn hm
        · exact law_1110 a b c _ w fa fb fc hG hT hr.1 hr.2 e1 e2 hga hgb (same_iff hga hgb fa.2 fb.2) hn hm
  · cases hga : a.good
    · exact law_0000 a b c _ w fa fb fc hG hT hr.1 hr.2 e1 e2 hga hn
    · cases hgb : b.good
      · exact law_1000 a b c _ w fa fb fc hG hT hr.1 hr.2 e1 e2 hga hgb hn
      · exact law_1100 a b c _ w fa fb fc hG hT hr.1 hr.2 e1 e2 hga hgb (same_iff hga hgb fa.2 fb.2) hn
end Go.Proofs.YtdajmcgbmdnibaaGreatDoor

