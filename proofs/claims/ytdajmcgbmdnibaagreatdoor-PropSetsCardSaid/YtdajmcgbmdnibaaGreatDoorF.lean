/- prop.Text of numbers; prop.Valid. -/
import Derived.Test.YtdajmcgbmdnibaaGreatDoorE
import Derived.OwnWalk
namespace Go.Proofs.YtdajmcgbmdnibaaGreatDoor
open Go.RowKit
open Go.Lib (byteCells)
set_option linter.unusedVariables false
set_option maxRecDepth 100000

theorem itoa_any (n : Int) (w : World) (h0 : -9223372036854775808 ≤ n) (h1 : n ≤ 9223372036854775807) (ht : Tab w) :
    Calls Tryz.prog 54 #[.int .i64 n] w fun e w' => e = .returned (.string ⟨(Lib.itoa n).toArray⟩) ∧ Below w.heap.size w w' := by
  refine (Tryz.strconv_Itoa n h0 h1 w ht.here).mono ?_
  rintro e w' ⟨rfl, k, os, rfl⟩
  exact ⟨rfl, Lib.below_grow _ _ (Nat.le_refl _) _ _⟩

theorem str_cons (x : UInt8) (l : List UInt8) : (⟨#[x]⟩ : ByteArray) ++ ⟨l.toArray⟩ = ⟨(x :: l).toArray⟩ := by
  apply Go.WideShapes.bytes_inj; simp
theorem text_int (n : Int) (w : World) (h0 : -9223372036854775808 ≤ n) (h1 : n ≤ 9223372036854775807) (hG : 12 ≤ w.heap.size) (ht : Tab w) :
    Calls Tryz.prog 38 #[(V.mk 1 n ⟨#[]⟩ 0).val] w fun e w' => e = .returned (.tuple #[.string ⟨(105 :: Lib.itoa n).toArray⟩, .int .i64 0]) ∧ Below w.heap.size w w' := by
  have HT := Lib.hid ht
  clear ht
  go_enter Tryz.func38, Tryz.ntmps38
  go_wp2_with fail
  refine (good_any (V.mk 1 n ⟨#[]⟩ 0) _ (by show (0 : Nat) ≤ _; omega)).mono ?_
  rintro e w1 ⟨rfl, hb1⟩
  have hg : (V.mk 1 n ⟨#[]⟩ 0).good = true := by simp [V.good, ByteArray.toList_eq]
  have hc : w1.cell? ⟨w.heap.size, 0, none⟩ = some (.int .i64 1) := (hb1.cell (by simp)).trans (by go_simp)
  have hc1 : w1.cell? ⟨w.heap.size, 1, none⟩ = some (.int .i64 n) := (hb1.cell (by simp)).trans (by go_simp)
  have hB1 := Lib.hid (((Below.refl w.heap.size w).alloc (Nat.le_refl _) _).trans (hb1.mono (by simp)))
  have hz := hB1.out.size
  have HT1 := Lib.hid (HT.out.on hG hB1.out)
  clear hb1
  rw [hg]
  clear hg
  go_wp2_with fail
  refine (itoa_any n _ h0 h1 HT1.out).mono ?_
  rintro e w2 ⟨rfl, hb2⟩
  have hB2 := Lib.hid (hb2.mono hz)
  have hl := Lib.itoa_length_le n h0 h1
  clear hb2 h0 h1
  generalize hL : Lib.itoa n = L at *
  have HL := Lib.hid hL
  clear hL
  go_wp2_with fail
  go_ret2
  rw [HL.out]
  exact ⟨congrArg (fun s => Ending.returned (.tuple #[.string s, .int .i64 0])) (str_cons _ _), hB1.out.trans hB2.out⟩

theorem run_store_float (P : Program) (w : World) (a : Addr) (m : Mode) (k : FloatKind) (b : Nat) : (store a (.float k b) m).run P w = stored P w a (.float k b) m := run_store P w a _ m rfl
attribute [local go_sem] run_store_float
/-- a property -/
structure Pr where
  name : ByteArray
  v : V
abbrev Pr.cells (p : Pr) : List Value := [.string p.name, .int .i64 p.v.kind, .int .i64 p.v.num, .string p.v.text, .float .f64 p.v.real]
abbrev Pr.val (p : Pr) : Value := .agg #[.string p.name, .int .i64 p.v.kind, .int .i64 p.v.num, .string p.v.text, .float .f64 p.v.real]
/-- the slice's cells -/
def PropsAt (w : World) (A : Option Addr) (l : List Pr) : Prop :=
  0 < l.length → ∃ b o, A = some ⟨b, o, none⟩ ∧ b < w.heap.size ∧ ∀ (j : Nat) (p : Pr), l[j]? = some p → ∀ (i : Nat) (u : Value), p.cells[i]? = some u → w.cell? ⟨b, o + j * 5 + i, none⟩ = some u
theorem PropsAt.below {w w' : World} {A : Option Addr} {l : List Pr} (h : PropsAt w A l) (hb : Below w.heap.size w w') : PropsAt w' A l := by
  intro h0
  obtain ⟨b, o, e, hlt, hc⟩ := h h0
  have := hb.size
  exact ⟨b, o, e, by omega, fun j p hp i u hu => (hb.cell (p := ⟨b, o + j * 5 + i, none⟩) hlt).trans (hc j p hp i u hu)⟩
def Fits (l : List Pr) : Prop := ∀ p ∈ l, p.name.size ≤ 9223372036854775807 ∧ p.v.text.size ≤ 9223372036854775807
def ltB (a b : ByteArray) : Bool := Op.bytesLess a.toList b.toList
/-- is the k-th of them all right -/
def okAt (l : List Pr) (k : Nat) : Bool :=
  match l[k]? with
  | some p => nameB p.name && (p.v.good && (k == 0 || (match l[k - 1]? with | some q => ltB q.name p.name | none => false)))
  | none => false
def validB (l : List Pr) : Bool := (List.range l.length).all (okAt l) && decide (l.length ≤ 16)
theorem valid_bad {l : List Pr} {k : Nat} (hk : k < l.length) (h : okAt l k = false) : validB l = false := by
  unfold validB
  have : (List.range l.length).all (okAt l) = false := by
    rw [List.all_eq_false]; exact ⟨k, List.mem_range.2 hk, by simp [h]⟩
  rw [this]; rfl
theorem valid_end {l : List Pr} (h : ∀ j, j < l.length → okAt l j = true) : validB l = decide (l.length ≤ 16) := by
  unfold validB
  have : (List.range l.length).all (okAt l) = true := by
    rw [List.all_eq_true]; exact fun j hj => h j (List.mem_range.1 hj)
  rw [this]; rfl
set_option maxHeartbeats 1000000 in
theorem valid_any (A : Option Addr) (c : Nat) (l : List Pr) (w : World) (hl : l.length ≤ 9223372036854775807) (hc : PropsAt w A l) (hs : Fits l) :
    Calls Tryz.prog 20 #[.slice A l.length c] w fun e w' => e = .returned (.bool (validB l)) ∧ Below w.heap.size w w' := by
  have HC := Lib.hid hc
  have HS := Lib.hid hs
  clear hc hs
  go_enter Tryz.func20, Tryz.ntmps20
  go_wp2_with fail
  go_loopw [7] (fun i wr => ∃ k : Nat, k ≤ l.length ∧ i = .int .i64 k ∧ Hid (Below w.heap.size w wr) ∧ Hid (∀ j, j < k → okAt l j = true)) (fun i wr => l.length - (intOf i).toNat)
  case atStart => exact ⟨0, Nat.zero_le _, rfl, Below.refl _ _, fun j hj => by omega⟩
  case round =>
    obtain ⟨k, hk, rfl, hb, hok⟩ := hrel
    have hz := hb.out.size
    by_cases hlt : k < l.length
    · obtain ⟨p, hp⟩ : ∃ p, l[k]? = some p := ⟨_, List.getElem?_eq_getElem hlt⟩
      obtain ⟨b, o, rfl, hbl, hcell⟩ := (HC.out.below hb.out) (by omega)
      have hck := hcell k p hp
      have HCE := Lib.hid hcell
      clear hcell
      have hfit := HS.out p (List.mem_of_getElem? hp)
      have HP := Lib.hid hp
      clear hp
      have c0 := hck 0 _ rfl
      have c1 := hck 1 _ rfl
      have c2 := hck 2 _ rfl
      have c3 := hck 3 _ rfl
      have c4 := hck 4 _ rfl
      rw [Nat.add_zero] at c0
      clear hck
      by_cases hn : nameB p.name = true
      · by_cases hg : p.v.good = true
        · by_cases h0 : k = 0
          · have hokk := Lib.hid (show okAt l k = true by unfold okAt; rw [HP.out]; simp [hn, hg, h0])
            have hd : decide (0 < k) = false := by simp [h0]
            have H0 := Lib.hid h0
            clear h0
            go_wp2_with fail
            generalize hW : wr.alloc (.cells #[.string p.name, .int .i64 p.v.kind, .int .i64 p.v.num, .string p.v.text, .float .f64 p.v.real] 44) = W
            have hbW : Below wr.heap.size wr W := by rw [← hW]; exact (Below.refl _ _).alloc (Nat.le_refl _) _
            have FS : ∀ W', Below W.heap.size W W' → (W'.cell? ⟨wr.heap.size, 0, none⟩ = some (.string p.name) ∧ W'.cell? ⟨wr.heap.size, 1, none⟩ = some (.int .i64 p.v.kind) ∧ W'.cell? ⟨wr.heap.size, 2, none⟩ = some (.int .i64 p.v.num) ∧ W'.cell? ⟨wr.heap.size, 3, none⟩ = some (.string p.v.text) ∧ W'.cell? ⟨wr.heap.size, 4, none⟩ = some (.float .f64 p.v.real)) := by
              intro W' h'
              subst hW
              have hz' := h'.size
              refine ⟨?_, ?_, ?_, ?_, ?_⟩
              all_goals (refine (h'.cell (by simp; try omega)).trans ?_)
              all_goals go_simp
            replace FS := Lib.hid FS
            have HBW := Lib.hid hbW
            clear hbW hW c0 c1 c2 c3 c4
            have CN : ∀ W', Below W.heap.size W W' → Calls Tryz.prog 22 #[.string p.name] W' (fun e w'' => e = .returned (.bool true) ∧ Below W.heap.size W w'') := by
              intro W' h'
              have := name_any p.name W' hfit.1
              rw [hn] at this
              exact this.mono fun e w'' ⟨he, hb'⟩ => ⟨he, h'.trans (hb'.mono h'.size)⟩
            replace CN := Lib.hid CN
            have CG : ∀ W', Below W.heap.size W W' → Calls Tryz.prog 14 #[p.v.val] W' (fun e w'' => e = .returned (.bool true) ∧ Below W.heap.size W w'') := by
              intro W' h'
              have := good_any p.v W' hfit.2
              rw [hg] at this
              exact this.mono fun e w'' ⟨he, hb'⟩ => ⟨he, h'.trans (hb'.mono h'.size)⟩
            replace CG := Lib.hid CG
            refine wp_region_S 24 (fun W' => Below W.heap.size W W') (by kernel_rfl) (by kernel_rfl) ((Below.refl _ _).drew) ?_
            simp only [List.take_succ_cons, List.take_zero, List.drop_succ_cons, List.drop_zero]
            iterate 2 (first | (refine wpS_off (by rfl) ?_; try simp only [Act.put, List.setIfInBounds_toArray, List.set_cons_zero, List.set_cons_succ]) | (refine wpS_val ?_ ?_ ?_ ?_; rotate_left; (focus rfl); (focus intro W' hS'; obtain ⟨e0, e1, e2, e3, e4⟩ := FS.out W' hS'; clear hS'; go_simp; all_goals (with_reducible rfl)); try simp only [Act.put, List.setIfInBounds_toArray, List.set_cons_zero, List.set_cons_succ]))
            (refine wpS_call (.bool true) 22 #[.string p.name] (by rfl) ?_ CN.out ?_; (focus intro W' hS'; clear hS'; go_simp); try simp only [Act.put, List.setIfInBounds_toArray, List.set_cons_zero, List.set_cons_succ])
            iterate 4 (first | (refine wpS_off (by rfl) ?_; try simp only [Act.put, List.setIfInBounds_toArray, List.set_cons_zero, List.set_cons_succ]) | (refine wpS_val ?_ ?_ ?_ ?_; rotate_left; (focus rfl); (focus intro W' hS'; obtain ⟨e0, e1, e2, e3, e4⟩ := FS.out W' hS'; clear hS'; go_simp; all_goals (with_reducible rfl)); try simp only [Act.put, List.setIfInBounds_toArray, List.set_cons_zero, List.set_cons_succ]))
            (refine wpS_call (.bool true) 14 #[p.v.val] (by rfl) ?_ CG.out ?_; (focus intro W' hS'; clear hS'; go_simp); try simp only [Act.put, List.setIfInBounds_toArray, List.set_cons_zero, List.set_cons_succ])
            iterate 16 (first | (refine wpS_off (by rfl) ?_; try simp only [Act.put, List.setIfInBounds_toArray, List.set_cons_zero, List.set_cons_succ]) | (refine wpS_val ?_ ?_ ?_ ?_; rotate_left; (focus rfl); (focus intro W' hS'; obtain ⟨e0, e1, e2, e3, e4⟩ := FS.out W' hS'; clear hS'; go_simp; all_goals (with_reducible rfl)); try simp only [Act.put, List.setIfInBounds_toArray, List.set_cons_zero, List.set_cons_succ]))
            refine wpS_nil ?_
            intro w2 hb2
            have HB2 := Lib.hid ((HBW.out.trans (hb2.mono HBW.out.size)).mono hz)
            clear hb2 FS CN
            go_wp2_with fail
            go_roundw
            case rel => exact ⟨k + 1, by omega, by go_num, hb.out.trans HB2.out, fun j hj => by
              by_cases hjk : j = k
              · subst hjk; exact hokk.out
              · exact hok.out j (by omega)⟩
            case measure => simp [intOf]; omega
          · obtain ⟨q, hq⟩ : ∃ q, l[k - 1]? = some q := ⟨_, List.getElem?_eq_getElem (by omega)⟩
            have hqk := HCE.out (k - 1) q hq 0 _ rfl
            rw [Nat.add_zero] at hqk
            have HQ := Lib.hid hq
            clear hq
            have hk0 : 0 < k := by omega
            have hk1 : ((k : Int) - 1) < (l.length : Int) := by omega
            have hk2 : (1 : Int) ≤ (k : Int) := by omega
            have hwr : IntKind.i64.wrap ((k : Int) - 1) = (k : Int) - 1 := IntWalk.i64_in _ (by omega)
            have hidx : (((k : Int) - 1)).toNat = k - 1 := by omega
            by_cases hlo : Op.bytesLess q.name.toList p.name.toList = true
            · have hokk := Lib.hid (show okAt l k = true by unfold okAt; rw [HP.out, HQ.out]; simp [hn, hg, ltB, hlo])
              go_wp2_with fail
              generalize hW : wr.alloc (.cells #[.string p.name, .int .i64 p.v.kind, .int .i64 p.v.num, .string p.v.text, .float .f64 p.v.real] 44) = W
              have hbW : Below wr.heap.size wr W := by rw [← hW]; exact (Below.refl _ _).alloc (Nat.le_refl _) _
              have FS : ∀ W', Below W.heap.size W W' → (W'.cell? ⟨wr.heap.size, 0, none⟩ = some (.string p.name) ∧ W'.cell? ⟨wr.heap.size, 1, none⟩ = some (.int .i64 p.v.kind) ∧ W'.cell? ⟨wr.heap.size, 2, none⟩ = some (.int .i64 p.v.num) ∧ W'.cell? ⟨wr.heap.size, 3, none⟩ = some (.string p.v.text) ∧ W'.cell? ⟨wr.heap.size, 4, none⟩ = some (.float .f64 p.v.real) ∧ W'.cell? ⟨b, o + (k - 1) * 5, none⟩ = some (.string q.name)) := by
                intro W' h'
                subst hW
                have hz' := h'.size
                refine ⟨?_, ?_, ?_, ?_, ?_, ?_⟩
                all_goals (refine (h'.cell (by simp; try omega)).trans ?_)
                all_goals go_simp
              replace FS := Lib.hid FS
              have HBW := Lib.hid hbW
              clear hbW hW c0 c1 c2 c3 c4
              clear hqk
              have CN : ∀ W', Below W.heap.size W W' → Calls Tryz.prog 22 #[.string p.name] W' (fun e w'' => e = .returned (.bool true) ∧ Below W.heap.size W w'') := by
                intro W' h'
                have := name_any p.name W' hfit.1
                rw [hn] at this
                exact this.mono fun e w'' ⟨he, hb'⟩ => ⟨he, h'.trans (hb'.mono h'.size)⟩
              replace CN := Lib.hid CN
              have CG : ∀ W', Below W.heap.size W W' → Calls Tryz.prog 14 #[p.v.val] W' (fun e w'' => e = .returned (.bool true) ∧ Below W.heap.size W w'') := by
                intro W' h'
                have := good_any p.v W' hfit.2
                rw [hg] at this
                exact this.mono fun e w'' ⟨he, hb'⟩ => ⟨he, h'.trans (hb'.mono h'.size)⟩
              replace CG := Lib.hid CG
              refine wp_region_S 24 (fun W' => Below W.heap.size W W') (by kernel_rfl) (by kernel_rfl) ((Below.refl _ _).drew) ?_
              simp only [List.take_succ_cons, List.take_zero, List.drop_succ_cons, List.drop_zero]
              iterate 2 (first | (refine wpS_off (by rfl) ?_; try simp only [Act.put, List.setIfInBounds_toArray, List.set_cons_zero, List.set_cons_succ]) | (refine wpS_val ?_ ?_ ?_ ?_; rotate_left; (focus rfl); (focus intro W' hS'; obtain ⟨e0, e1, e2, e3, e4, e5⟩ := FS.out W' hS'; clear hS'; go_simp; all_goals (with_reducible rfl)); try simp only [Act.put, List.setIfInBounds_toArray, List.set_cons_zero, List.set_cons_succ]))
              (refine wpS_call (.bool true) 22 #[.string p.name] (by rfl) ?_ CN.out ?_; (focus intro W' hS'; clear hS'; go_simp); try simp only [Act.put, List.setIfInBounds_toArray, List.set_cons_zero, List.set_cons_succ])
              iterate 4 (first | (refine wpS_off (by rfl) ?_; try simp only [Act.put, List.setIfInBounds_toArray, List.set_cons_zero, List.set_cons_succ]) | (refine wpS_val ?_ ?_ ?_ ?_; rotate_left; (focus rfl); (focus intro W' hS'; obtain ⟨e0, e1, e2, e3, e4, e5⟩ := FS.out W' hS'; clear hS'; go_simp; all_goals (with_reducible rfl)); try simp only [Act.put, List.setIfInBounds_toArray, List.set_cons_zero, List.set_cons_succ]))
              (refine wpS_call (.bool true) 14 #[p.v.val] (by rfl) ?_ CG.out ?_; (focus intro W' hS'; clear hS'; go_simp); try simp only [Act.put, List.setIfInBounds_toArray, List.set_cons_zero, List.set_cons_succ])
              iterate 16 (first | (refine wpS_off (by rfl) ?_; try simp only [Act.put, List.setIfInBounds_toArray, List.set_cons_zero, List.set_cons_succ]) | (refine wpS_val ?_ ?_ ?_ ?_; rotate_left; (focus rfl); (focus intro W' hS'; obtain ⟨e0, e1, e2, e3, e4, e5⟩ := FS.out W' hS'; clear hS'; go_simp; all_goals (with_reducible rfl)); try simp only [Act.put, List.setIfInBounds_toArray, List.set_cons_zero, List.set_cons_succ]))
              refine wpS_nil ?_
              intro w2 hb2
              have HB2 := Lib.hid ((HBW.out.trans (hb2.mono HBW.out.size)).mono hz)
              clear hb2 FS CN
              go_wp2_with fail
              go_roundw
              case rel => exact ⟨k + 1, by omega, by go_num, hb.out.trans HB2.out, fun j hj => by
                by_cases hjk : j = k
                · subst hjk; exact hokk.out
                · exact hok.out j (by omega)⟩
              case measure => simp [intOf]; omega
            · have hlo : Op.bytesLess q.name.toList p.name.toList = false := by simpa using hlo
              have hokk := Lib.hid (show okAt l k = false by unfold okAt; rw [HP.out, HQ.out]; simp [h0, ltB, hlo])
              go_wp2_with fail
              generalize hW : wr.alloc (.cells #[.string p.name, .int .i64 p.v.kind, .int .i64 p.v.num, .string p.v.text, .float .f64 p.v.real] 44) = W
              have hbW : Below wr.heap.size wr W := by rw [← hW]; exact (Below.refl _ _).alloc (Nat.le_refl _) _
              have FS : ∀ W', Below W.heap.size W W' → (W'.cell? ⟨wr.heap.size, 0, none⟩ = some (.string p.name) ∧ W'.cell? ⟨wr.heap.size, 1, none⟩ = some (.int .i64 p.v.kind) ∧ W'.cell? ⟨wr.heap.size, 2, none⟩ = some (.int .i64 p.v.num) ∧ W'.cell? ⟨wr.heap.size, 3, none⟩ = some (.string p.v.text) ∧ W'.cell? ⟨wr.heap.size, 4, none⟩ = some (.float .f64 p.v.real) ∧ W'.cell? ⟨b, o + (k - 1) * 5, none⟩ = some (.string q.name)) := by
                intro W' h'
                subst hW
                have hz' := h'.size
                refine ⟨?_, ?_, ?_, ?_, ?_, ?_⟩
                all_goals (refine (h'.cell (by simp; try omega)).trans ?_)
                all_goals go_simp
              replace FS := Lib.hid FS
              have HBW := Lib.hid hbW
              clear hbW hW c0 c1 c2 c3 c4
              clear hqk
              have CN : ∀ W', Below W.heap.size W W' → Calls Tryz.prog 22 #[.string p.name] W' (fun e w'' => e = .returned (.bool true) ∧ Below W.heap.size W w'') := by
                intro W' h'
                have := name_any p.name W' hfit.1
                rw [hn] at this
                exact this.mono fun e w'' ⟨he, hb'⟩ => ⟨he, h'.trans (hb'.mono h'.size)⟩
              replace CN := Lib.hid CN
              have CG : ∀ W', Below W.heap.size W W' → Calls Tryz.prog 14 #[p.v.val] W' (fun e w'' => e = .returned (.bool true) ∧ Below W.heap.size W w'') := by
                intro W' h'
                have := good_any p.v W' hfit.2
                rw [hg] at this
                exact this.mono fun e w'' ⟨he, hb'⟩ => ⟨he, h'.trans (hb'.mono h'.size)⟩
              replace CG := Lib.hid CG
              refine wp_region_S 24 (fun W' => Below W.heap.size W W') (by kernel_rfl) (by kernel_rfl) ((Below.refl _ _).drew) ?_
              simp only [List.take_succ_cons, List.take_zero, List.drop_succ_cons, List.drop_zero]
              iterate 2 (first | (refine wpS_off (by rfl) ?_; try simp only [Act.put, List.setIfInBounds_toArray, List.set_cons_zero, List.set_cons_succ]) | (refine wpS_val ?_ ?_ ?_ ?_; rotate_left; (focus rfl); (focus intro W' hS'; obtain ⟨e0, e1, e2, e3, e4, e5⟩ := FS.out W' hS'; clear hS'; go_simp; all_goals (with_reducible rfl)); try simp only [Act.put, List.setIfInBounds_toArray, List.set_cons_zero, List.set_cons_succ]))
              (refine wpS_call (.bool true) 22 #[.string p.name] (by rfl) ?_ CN.out ?_; (focus intro W' hS'; clear hS'; go_simp); try simp only [Act.put, List.setIfInBounds_toArray, List.set_cons_zero, List.set_cons_succ])
              iterate 4 (first | (refine wpS_off (by rfl) ?_; try simp only [Act.put, List.setIfInBounds_toArray, List.set_cons_zero, List.set_cons_succ]) | (refine wpS_val ?_ ?_ ?_ ?_; rotate_left; (focus rfl); (focus intro W' hS'; obtain ⟨e0, e1, e2, e3, e4, e5⟩ := FS.out W' hS'; clear hS'; go_simp; all_goals (with_reducible rfl)); try simp only [Act.put, List.setIfInBounds_toArray, List.set_cons_zero, List.set_cons_succ]))
              (refine wpS_call (.bool true) 14 #[p.v.val] (by rfl) ?_ CG.out ?_; (focus intro W' hS'; clear hS'; go_simp); try simp only [Act.put, List.setIfInBounds_toArray, List.set_cons_zero, List.set_cons_succ])
              iterate 16 (first | (refine wpS_off (by rfl) ?_; try simp only [Act.put, List.setIfInBounds_toArray, List.set_cons_zero, List.set_cons_succ]) | (refine wpS_val ?_ ?_ ?_ ?_; rotate_left; (focus rfl); (focus intro W' hS'; obtain ⟨e0, e1, e2, e3, e4, e5⟩ := FS.out W' hS'; clear hS'; go_simp; all_goals (with_reducible rfl)); try simp only [Act.put, List.setIfInBounds_toArray, List.set_cons_zero, List.set_cons_succ]))
              refine wpS_nil ?_
              intro w2 hb2
              have HB2 := Lib.hid ((HBW.out.trans (hb2.mono HBW.out.size)).mono hz)
              clear hb2 FS CN
              go_wp2_with fail
              go_ret
              exact ⟨ret_bool (valid_bad hlt hokk.out).symm, hb.out.trans HB2.out⟩
        · have hg : p.v.good = false := by simpa using hg
          have hokk := Lib.hid (show okAt l k = false by unfold okAt; rw [HP.out]; simp [hg])
          go_wp2_with fail
          generalize hW : wr.alloc (.cells #[.string p.name, .int .i64 p.v.kind, .int .i64 p.v.num, .string p.v.text, .float .f64 p.v.real] 44) = W
          have hbW : Below wr.heap.size wr W := by rw [← hW]; exact (Below.refl _ _).alloc (Nat.le_refl _) _
          have FS : ∀ W', Below W.heap.size W W' → (W'.cell? ⟨wr.heap.size, 0, none⟩ = some (.string p.name) ∧ W'.cell? ⟨wr.heap.size, 1, none⟩ = some (.int .i64 p.v.kind) ∧ W'.cell? ⟨wr.heap.size, 2, none⟩ = some (.int .i64 p.v.num) ∧ W'.cell? ⟨wr.heap.size, 3, none⟩ = some (.string p.v.text) ∧ W'.cell? ⟨wr.heap.size, 4, none⟩ = some (.float .f64 p.v.real)) := by
            intro W' h'
            subst hW
            have hz' := h'.size
            refine ⟨?_, ?_, ?_, ?_, ?_⟩
            all_goals (refine (h'.cell (by simp; try omega)).trans ?_)
            all_goals go_simp
          replace FS := Lib.hid FS
          have HBW := Lib.hid hbW
          clear hbW hW c0 c1 c2 c3 c4
          have CN : ∀ W', Below W.heap.size W W' → Calls Tryz.prog 22 #[.string p.name] W' (fun e w'' => e = .returned (.bool true) ∧ Below W.heap.size W w'') := by
            intro W' h'
            have := name_any p.name W' hfit.1
            rw [hn] at this
            exact this.mono fun e w'' ⟨he, hb'⟩ => ⟨he, h'.trans (hb'.mono h'.size)⟩
          replace CN := Lib.hid CN
          have CG : ∀ W', Below W.heap.size W W' → Calls Tryz.prog 14 #[p.v.val] W' (fun e w'' => e = .returned (.bool false) ∧ Below W.heap.size W w'') := by
            intro W' h'
            have := good_any p.v W' hfit.2
            rw [hg] at this
            exact this.mono fun e w'' ⟨he, hb'⟩ => ⟨he, h'.trans (hb'.mono h'.size)⟩
          replace CG := Lib.hid CG
          refine wp_region_S 24 (fun W' => Below W.heap.size W W') (by kernel_rfl) (by kernel_rfl) ((Below.refl _ _).drew) ?_
          simp only [List.take_succ_cons, List.take_zero, List.drop_succ_cons, List.drop_zero]
          iterate 2 (first | (refine wpS_off (by rfl) ?_; try simp only [Act.put, List.setIfInBounds_toArray, List.set_cons_zero, List.set_cons_succ]) | (refine wpS_val ?_ ?_ ?_ ?_; rotate_left; (focus rfl); (focus intro W' hS'; obtain ⟨e0, e1, e2, e3, e4⟩ := FS.out W' hS'; clear hS'; go_simp; all_goals (with_reducible rfl)); try simp only [Act.put, List.setIfInBounds_toArray, List.set_cons_zero, List.set_cons_succ]))
          (refine wpS_call (.bool true) 22 #[.string p.name] (by rfl) ?_ CN.out ?_; (focus intro W' hS'; clear hS'; go_simp); try simp only [Act.put, List.setIfInBounds_toArray, List.set_cons_zero, List.set_cons_succ])
          iterate 4 (first | (refine wpS_off (by rfl) ?_; try simp only [Act.put, List.setIfInBounds_toArray, List.set_cons_zero, List.set_cons_succ]) | (refine wpS_val ?_ ?_ ?_ ?_; rotate_left; (focus rfl); (focus intro W' hS'; obtain ⟨e0, e1, e2, e3, e4⟩ := FS.out W' hS'; clear hS'; go_simp; all_goals (with_reducible rfl)); try simp only [Act.put, List.setIfInBounds_toArray, List.set_cons_zero, List.set_cons_succ]))
          (refine wpS_call (.bool false) 14 #[p.v.val] (by rfl) ?_ CG.out ?_; (focus intro W' hS'; clear hS'; go_simp); try simp only [Act.put, List.setIfInBounds_toArray, List.set_cons_zero, List.set_cons_succ])
          iterate 16 (first | (refine wpS_off (by rfl) ?_; try simp only [Act.put, List.setIfInBounds_toArray, List.set_cons_zero, List.set_cons_succ]) | (refine wpS_val ?_ ?_ ?_ ?_; rotate_left; (focus rfl); (focus intro W' hS'; obtain ⟨e0, e1, e2, e3, e4⟩ := FS.out W' hS'; clear hS'; go_simp; all_goals (with_reducible rfl)); try simp only [Act.put, List.setIfInBounds_toArray, List.set_cons_zero, List.set_cons_succ]))
          refine wpS_nil ?_
          intro w2 hb2
          have HB2 := Lib.hid ((HBW.out.trans (hb2.mono HBW.out.size)).mono hz)
          clear hb2 FS CN
          go_wp2_with fail
          go_ret
          exact ⟨ret_bool (valid_bad hlt hokk.out).symm, hb.out.trans HB2.out⟩
      · have hn : nameB p.name = false := by simpa using hn
        have hokk := Lib.hid (show okAt l k = false by unfold okAt; rw [HP.out]; simp [hn])
        go_wp2_with fail
        generalize hW : wr.alloc (.cells #[.string p.name, .int .i64 p.v.kind, .int .i64 p.v.num, .string p.v.text, .float .f64 p.v.real] 44) = W
        have hbW : Below wr.heap.size wr W := by rw [← hW]; exact (Below.refl _ _).alloc (Nat.le_refl _) _
        have FS : ∀ W', Below W.heap.size W W' → (W'.cell? ⟨wr.heap.size, 0, none⟩ = some (.string p.name) ∧ W'.cell? ⟨wr.heap.size, 1, none⟩ = some (.int .i64 p.v.kind) ∧ W'.cell? ⟨wr.heap.size, 2, none⟩ = some (.int .i64 p.v.num) ∧ W'.cell? ⟨wr.heap.size, 3, none⟩ = some (.string p.v.text) ∧ W'.cell? ⟨wr.heap.size, 4, none⟩ = some (.float .f64 p.v.real)) := by
          intro W' h'
          subst hW
          have hz' := h'.size
          refine ⟨?_, ?_, ?_, ?_, ?_⟩
          all_goals (refine (h'.cell (by simp; try omega)).trans ?_)
          all_goals go_simp
        replace FS := Lib.hid FS
        have HBW := Lib.hid hbW
        clear hbW hW c0 c1 c2 c3 c4
        have CN : ∀ W', Below W.heap.size W W' → Calls Tryz.prog 22 #[.string p.name] W' (fun e w'' => e = .returned (.bool false) ∧ Below W.heap.size W w'') := by
          intro W' h'
          have := name_any p.name W' hfit.1
          rw [hn] at this
          exact this.mono fun e w'' ⟨he, hb'⟩ => ⟨he, h'.trans (hb'.mono h'.size)⟩
        replace CN := Lib.hid CN
        refine wp_region_S 24 (fun W' => Below W.heap.size W W') (by kernel_rfl) (by kernel_rfl) ((Below.refl _ _).drew) ?_
        simp only [List.take_succ_cons, List.take_zero, List.drop_succ_cons, List.drop_zero]
        iterate 2 (first | (refine wpS_off (by rfl) ?_; try simp only [Act.put, List.setIfInBounds_toArray, List.set_cons_zero, List.set_cons_succ]) | (refine wpS_val ?_ ?_ ?_ ?_; rotate_left; (focus rfl); (focus intro W' hS'; obtain ⟨e0, e1, e2, e3, e4⟩ := FS.out W' hS'; clear hS'; go_simp; all_goals (with_reducible rfl)); try simp only [Act.put, List.setIfInBounds_toArray, List.set_cons_zero, List.set_cons_succ]))
        (refine wpS_call (.bool false) 22 #[.string p.name] (by rfl) ?_ CN.out ?_; (focus intro W' hS'; clear hS'; go_simp); try simp only [Act.put, List.setIfInBounds_toArray, List.set_cons_zero, List.set_cons_succ])
        iterate 21 (first | (refine wpS_off (by rfl) ?_; try simp only [Act.put, List.setIfInBounds_toArray, List.set_cons_zero, List.set_cons_succ]) | (refine wpS_val ?_ ?_ ?_ ?_; rotate_left; (focus rfl); (focus intro W' hS'; obtain ⟨e0, e1, e2, e3, e4⟩ := FS.out W' hS'; clear hS'; go_simp; all_goals (with_reducible rfl)); try simp only [Act.put, List.setIfInBounds_toArray, List.set_cons_zero, List.set_cons_succ]))
        refine wpS_nil ?_
        intro w2 hb2
        have HB2 := Lib.hid ((HBW.out.trans (hb2.mono HBW.out.size)).mono hz)
        clear hb2 FS CN
        go_wp2_with fail
        go_ret
        exact ⟨ret_bool (valid_bad hlt hokk.out).symm, hb.out.trans HB2.out⟩
    · obtain rfl : k = l.length := by omega
      go_wp2_with fail
      go_ret
      exact ⟨ret_bool (by rw [valid_end hok.out]; simp; omega), hb.out⟩

end Go.Proofs.YtdajmcgbmdnibaaGreatDoor
