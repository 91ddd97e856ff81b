/- strconv.setDigits. -/
import Derived.Test.YtnklnenjdffbaaaDoorFe
import Derived.Lib.ItoaMem
import Derived.Lib.ItoaLen
import Derived.Lib.LaidTab
import Derived.LoopTactic
namespace Go.Proofs.YtnklnenjdffbaaaDoor
open Go.RowKit Go.Sort
set_option linter.unusedVariables false
set_option maxRecDepth 100000

def trimZ (l : List UInt8) : List UInt8 := (l.reverse.dropWhile (· == 48)).reverse
theorem trimZ_snoc (l : List UInt8) (x : UInt8) : trimZ (l ++ [x]) = if x = 48 then trimZ l else l ++ [x] := by
  unfold trimZ
  rw [List.reverse_append]
  simp only [List.reverse_cons, List.reverse_nil, List.nil_append, List.cons_append, List.dropWhile_cons]
  by_cases h : x = 48
  · simp [h]
  · simp [h]
theorem trimZ_take (l : List UInt8) (k : Nat) (hk : k < l.length) : trimZ (l.take (k + 1)) = if l[k] = 48 then trimZ (l.take k) else l.take (k + 1) := by
  rw [List.take_succ_eq_append_getElem hk, trimZ_snoc]
theorem trimZ_len (l : List UInt8) : (trimZ l).length ≤ l.length := by
  unfold trimZ
  have := (List.dropWhile_suffix (l := l.reverse) (fun x : UInt8 => x == 48)).length_le
  simpa using this

abbrev enc8 : UInt8 → Value := fun (b : UInt8) => Value.int .u8 (b.toNat : Int)
theorem below_putRow (w : World) (B blk off : Nat) (d : Array UInt8) (hB : B ≤ blk) : Below B w (putRow enc8 w blk off d) := by
  refine ⟨rfl, rfl, rfl, by simp, ?_⟩
  intro i hi
  simp only [putRow, mapBlock, Array.getElem?_modify]
  rw [if_neg (by omega)]
abbrev Tab (w : World) : Prop := Lib.TabIs Tryd.prog w "internal/strconv.uint64pow10" .u64 Lib.pow10Tab
/-- bytes in the cells of a block, from its beginning on -/
def BytesAt (w : World) (b : Nat) (T : TypeId) (l : List UInt8) : Prop := ∃ c : Array Value, w.heap[b]? = some (.cells c T (0, 0)) ∧ ∀ (j : Nat) (u : UInt8), l[j]? = some u → c[j]? = some (.int .u8 (u.toNat : Int))
theorem BytesAt.cell {w : World} {b : Nat} {T : TypeId} {l : List UInt8} (h : BytesAt w b T l) (j : Nat) (u : UInt8) (hj : l[j]? = some u) : w.cell? ⟨b, j, none⟩ = some (.int .u8 (u.toNat : Int)) := by
  obtain ⟨c, h1, h2⟩ := h
  rw [cell_of_row w b j c T (0, 0) h1, h2 j u hj]

set_option maxHeartbeats 1000000 in
theorem setDigits_any (blk : Nat) (c : Array Value) (T : TypeId) (u : Nat) (p : Int) (w : World) (h1 : 1 ≤ u) (hu : u < 18446744073709551616) (hc : w.heap[blk]? = some (.cells c T (0, 0))) (hz : c = Array.replicate 32 (.int .u8 0))
    (hp1 : -100000 ≤ p) (hp2 : p ≤ 100000) :
    Calls Tryd.prog 34 #[.slice (some ⟨blk, 0, none⟩) 32 32, .int .u64 (u : Int), .int .i64 p, .int .i64 ((Lib.nDigits u : Nat) : Int)] w fun e w' =>
      e = .returned (.tuple #[.int .i64 (((Lib.decDigits u).length : Nat) + p), .int .i64 (((trimZ (Lib.decDigits u)).length : Nat) : Int)]) ∧ Below blk w w' ∧ w'.heap.size = w.heap.size ∧ BytesAt w' blk T (Lib.decDigits u) := by
  obtain ⟨l, hl⟩ : ∃ l, l = Lib.decDigits u := ⟨_, rfl⟩
  obtain ⟨nd, hnd⟩ : ∃ nd, nd = Lib.nDigits u := ⟨_, rfl⟩
  have hlen : l.length = nd := by rw [hl, hnd, Lib.decDigits_length]
  have hn1 : 1 ≤ nd := by rw [hnd]; exact Lib.nDigits_pos u
  have hn20 : nd ≤ 20 := by rw [hnd]; exact Lib.nDigits_le20 u hu
  have hH0 : Holds enc8 w blk 0 (Array.replicate nd (0 : UInt8)) := fun j hj => by
    have hj' : j < nd := by simpa using hj
    refine ⟨?_, by simp [World.frozen?, hc]⟩
    rw [cell_of_row w blk (0 + j) c T (0, 0) hc, hz, Array.getElem?_replicate, if_pos (by omega), getElem!_pos _ j hj]
    simp
  have hfmt := Tryd.internal_strconv_formatBase10 blk 0 32 u (Array.replicate nd 0) w hH0 (by rw [Array.size_replicate, hnd]; exact Lib.lt_pow_nDigits u) hu (by rw [Array.size_replicate]; omega)
  rw [Array.size_replicate] at hfmt
  rw [← hl, ← hnd]
  have HF := Lib.hid hfmt
  have HL := Lib.hid hl
  have HND := Lib.hid hnd
  have HH0 := Lib.hid hH0
  have HCC := Lib.hid hc
  clear hfmt hl hnd hH0 hc hz
  have hle : decide ((nd : Int) ≤ 32) = true := by simp; omega
  go_enter Tryd.func34, Tryd.ntmps34
  go_wp2_with fail
  refine HF.out.mono ?_
  rintro e w1 ⟨rfl, k, v', dk, hw1, hF⟩
  have hcells : BytesAt w1 blk T l := by
    have hmod : w1.heap[blk]? = some (.cells (putCells enc8 0 dk c) T (0, 0)) := by
      rw [hw1]
      show (putRow enc8 w blk 0 dk).heap[blk]? = _
      simp only [putRow, mapBlock, Array.getElem?_modify, HCC.out]
      rfl
    refine ⟨_, hmod, ?_⟩
    intro j x hj
    rw [← cell_of_row w1 blk j _ T (0, 0) hmod]
    have hjl : j < (Lib.decDigits u).length := by rw [← HL.out]; exact (List.getElem?_eq_some_iff.1 hj).1
    have e5 : x = (Lib.decDigits u)[j] := by
      have : (Lib.decDigits u)[j]? = some x := by rw [← HL.out]; exact hj
      rw [List.getElem?_eq_getElem hjl] at this; exact (Option.some.inj this).symm
    rw [hw1, e5, Lib.row_is_numeral (by rw [← HND.out]; exact hF) j hjl, World.cell?_drewN]
    have := cell?_putRow enc8 w blk 0 _ dk HH0.out (by rw [hF.size, Array.size_replicate]) j (by rw [hF.size]; rw [← HL.out, hlen] at hjl; exact hjl)
    rw [Nat.zero_add] at this
    exact this
  have hb : Below blk w w1 := by
    rw [hw1]
    have := below_putRow w blk blk 0 dk (Nat.le_refl _)
    exact ⟨this.os, this.tape, this.output, this.size, this.block⟩
  have hs : w1.heap.size = w.heap.size := by rw [hw1]; simp
  have HC := Lib.hid hcells
  have HB := Lib.hid hb
  have HS := Lib.hid hs
  clear hw1 hF hcells hb hs
  go_wp2_with fail
  go_loop [3] (fun n => ∃ k : Nat, k ≤ nd ∧ n = .int .i64 k ∧ Hid (trimZ (l.take k) = trimZ l)) (fun n => (intOf n).toNat)
  case atStart => exact ⟨nd, Nat.le_refl _, rfl, by show _ = _; rw [List.take_of_length_le (by omega)]⟩
  case round =>
    obtain ⟨k, hk, rfl, hrel⟩ := hrel
    cases k with
    | zero =>
      go_wp2_with fail
      go_ret2
      refine ⟨?_, HB.out, HS.out, HC.out⟩
      have e0 : trimZ l = [] := by rw [← hrel.out]; rfl
      rw [e0]; rfl
    | succ k =>
      have hkl : k < l.length := by omega
      obtain ⟨x, hx⟩ : ∃ x, x = l[k] := ⟨_, rfl⟩
      have hcell := HC.out.cell k x (by rw [List.getElem?_eq_getElem hkl, hx])
      have ht := trimZ_take l k hkl
      rw [← hx] at ht
      have HT := Lib.hid ht
      have HX := Lib.hid hx
      clear ht hx
      have hk1 : ((k + 1 : Nat) : Int) - 1 = (k : Int) := by omega
      by_cases hx : x = 48
      · have hxb : (((x.toNat : Nat) : Int) == 48) = true := by rw [hx]; rfl
        have HXX := Lib.hid hx
        clear hx
        go_wp2_with fail
        go_round
        case rel => exact ⟨k, by omega, by go_num, by show _ = _; rw [← hrel.out, HT.out, if_pos HXX.out]⟩
        case measure => simp [intOf]
      · have hxb : (((x.toNat : Nat) : Int) == 48) = false := by
          simp only [beq_eq_false_iff_ne, ne_eq]
          intro h
          exact hx (UInt8.toNat_inj.1 (by have : x.toNat = 48 := by omega
                                          rw [this]; rfl))
        have HXX := Lib.hid hx
        clear hx
        go_wp2_with fail
        go_ret2
        refine ⟨?_, HB.out, HS.out, HC.out⟩
        have e0 : trimZ l = l.take (k + 1) := by rw [← hrel.out, HT.out, if_neg HXX.out]
        rw [e0, List.length_take, Nat.min_eq_left (by omega)]; rfl
end Go.Proofs.YtnklnenjdffbaaaDoor
