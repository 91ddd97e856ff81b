/- cmp.Or and prop.Compare. -/
import Derived.Test.YtdajmcgbmdnibaaGreatDoorA
import Derived.LoopTactic
namespace Go.Proofs.YtdajmcgbmdnibaaGreatDoor
open Go.RowKit
set_option linter.unusedVariables false
set_option maxRecDepth 100000

/-- the first that is not 0 -/
def orI : List Int → Int
  | [] => 0
  | x :: r => if x = 0 then orI r else x
theorem orI_skip : ∀ (l : List Int) (k : Nat), (∀ j, j < k → l[j]?.getD 0 = 0) → orI (l.drop k) = orI l
  | _, 0, _ => rfl
  | [], k + 1, _ => by simp
  | x :: r, k + 1, h => by
    have h0 : x = 0 := by simpa using h 0 (by omega)
    have := orI_skip r k (fun j hj => by simpa using h (j + 1) (by omega))
    simp [orI, h0, this]
theorem orI_at (l : List Int) (k : Nat) (hk : k < l.length) (h : ∀ j, j < k → l[j]?.getD 0 = 0) (hn : l[k]?.getD 0 ≠ 0) : orI l = l[k]?.getD 0 := by
  rw [← orI_skip l k h, List.drop_eq_getElem_cons hk]
  rw [List.getElem?_eq_getElem hk] at hn ⊢
  simp only [Option.getD_some] at hn ⊢
  simp [orI, hn]
theorem orI_none (l : List Int) (h : ∀ j, j < l.length → l[j]?.getD 0 = 0) : orI l = 0 := by
  have := orI_skip l l.length h; rw [List.drop_length] at this; exact this.symm

theorem or_any (B : Nat) (l : List Int) (w : World) (hl : l.length ≤ 1000) (hc : ∀ j, j < l.length → w.cell? ⟨B, j, none⟩ = some (.int .i64 (l[j]?.getD 0))) :
    Calls Tryz.prog 39 #[.slice (some ⟨B, 0, none⟩) l.length l.length] w fun e w' => e = .returned (.int .i64 (orI l)) ∧ w = w' := by
  have HC := Lib.hid hc
  clear hc
  go_enter Tryz.func39, Tryz.ntmps39
  go_wp2
  go_loop [8] (fun i => ∃ k : Nat, k ≤ l.length ∧ i = .int .i64 k ∧ Hid (∀ j, j < k → l[j]?.getD 0 = 0)) (fun i => l.length - (intOf i).toNat)
  case atStart => exact ⟨0, Nat.zero_le _, rfl, fun j hj => by omega⟩
  case round =>
    obtain ⟨k, hk, rfl, hz⟩ := hrel
    by_cases hlt : k < l.length
    · have hck := HC.out k hlt
      obtain ⟨x, hx⟩ : ∃ x, x = l[k]?.getD 0 := ⟨_, rfl⟩
      rw [← hx] at hck
      have HX := Lib.hid hx
      clear hx
      by_cases h0 : x = 0
      · have hb : (x != 0) = false := by simp [h0]
        have H0 := Lib.hid h0
        clear h0
        go_wp2
        go_round
        case rel => exact ⟨k + 1, by omega, by go_num, fun j hj => by
          by_cases hjk : j = k
          · subst hjk; rw [← HX.out]; exact H0.out
          · exact hz.out j (by omega)⟩
        case measure => simp [intOf]; omega
      · have hb : (x != 0) = true := by simp [h0]
        go_wp2
        go_ret
        exact ⟨ret_i64 (by rw [HX.out] at h0 ⊢; exact (orI_at l k hlt hz.out h0).symm), rfl⟩
    · go_wp2
      go_ret
      exact ⟨ret_i64 (orI_none l (fun j hj => hz.out j (by omega))).symm, rfl⟩

/-- A value, as the program holds it. -/
structure V where
  kind : Int
  num : Int
  text : ByteArray
  real : Nat
abbrev V.val (v : V) : Value := .agg #[.int .i64 v.kind, .int .i64 v.num, .string v.text, .float .f64 v.real]
def V.cmps (a b : V) : List Int := [cmpI a.kind b.kind, cmpI a.num b.num, Lib.compareBytes a.text.data.toList b.text.data.toList, cmpI (key a.real) (key b.real)]
def V.cmp (a b : V) : Int := orI (a.cmps b)

theorem compare_any (a b : V) (w : World) (ha : a.real < 18446744073709551616) (hb : b.real < 18446744073709551616) :
    Calls Tryz.prog 13 #[a.val, b.val] w fun e w' => e = .returned (.int .i64 (a.cmp b)) ∧ Below w.heap.size w w' := by
  obtain ⟨ak, an, at', ar⟩ := a
  obtain ⟨bk, bn, bt, br⟩ := b
  have h1 := Lib.hid ha
  have h2 := Lib.hid hb
  clear ha hb
  go_enter Tryz.func13, Tryz.ntmps13
  go_wp2_with fail
  generalize hW : (w.alloc (.cells #[.int .i64 ak, .int .i64 an, .string at', .float .f64 ar] 37)).alloc (.cells #[.int .i64 bk, .int .i64 bn, .string bt, .float .f64 br] 37) = W
  have hb : Below w.heap.size w W := by rw [← hW]; exact ((Below.refl _ _).alloc (Nat.le_refl _) _).alloc (by simp) _
  have a0 : W.cell? ⟨w.heap.size, 0, none⟩ = some (.int .i64 ak) := by subst hW; go_simp
  have a1 : W.cell? ⟨w.heap.size, 1, none⟩ = some (.int .i64 an) := by subst hW; go_simp
  have a2 : W.cell? ⟨w.heap.size, 2, none⟩ = some (.string at') := by subst hW; go_simp
  have a3 : W.cell? ⟨w.heap.size, 3, none⟩ = some (.float .f64 ar) := by subst hW; go_simp
  have b0 : W.cell? ⟨w.heap.size + 1, 0, none⟩ = some (.int .i64 bk) := by subst hW; go_simp
  have b1 : W.cell? ⟨w.heap.size + 1, 1, none⟩ = some (.int .i64 bn) := by subst hW; go_simp
  have b2 : W.cell? ⟨w.heap.size + 1, 2, none⟩ = some (.string bt) := by subst hW; go_simp
  have b3 : W.cell? ⟨w.heap.size + 1, 3, none⟩ = some (.float .f64 br) := by subst hW; go_simp
  have HB := Lib.hid hb
  clear hb hW
  refine wp_region_still_tail 20 (by kernel_rfl) (by kernel_rfl) ?_
  simp only [List.take_succ_cons, List.take_zero, List.drop_succ_cons, List.drop_zero]
  change wpStill _ _ W.drew _ _ _
  iterate 4 still_step
  still_call (cmp_i64 _ _ _)
  iterate 4 still_step
  still_call (cmp_i64 _ _ _)
  iterate 4 still_step
  still_call (cmpS_any _ _ _)
  iterate 4 still_step
  still_call (cmpF_any _ _ _ h1.out h2.out)
  refine wpStill_nil ?_
  change wpList _ _ _ _ _ W.drew
  go_wp2_with fail
  refine (or_any _ (V.cmps ⟨ak, an, at', ar⟩ ⟨bk, bn, bt, br⟩) _ (by simp [V.cmps]) ?_).mono ?_
  · intro j hj
    simp only [V.cmps, List.length_cons, List.length_nil] at hj ⊢
    obtain rfl | rfl | rfl | rfl : j = 0 ∨ j = 1 ∨ j = 2 ∨ j = 3 := by omega
    all_goals go_simp
  rintro e w' ⟨rfl, rfl⟩
  go_wp2_with fail
  go_ret
  exact ⟨rfl, (HB.out.alloc HB.out.size _).drew⟩
end Go.Proofs.YtdajmcgbmdnibaaGreatDoor
