/- strconv.ftoa64 of a number. -/
import Derived.Test.YtnklnenjdffbaaaDoorFl
import Derived.Deep.RegionHeld3
namespace Go.Proofs.YtnklnenjdffbaaaDoor
open Go.RowKit Go.Sort
open Go.Lib (byteCells)
set_option linter.unusedVariables false
set_option maxRecDepth 100000
theorem or_fr (f : Nat) (h : f < 4503599627370496) : bits .or .u64 (f : Int) 4503599627370496 = ((f + 4503599627370496 : Nat) : Int) := by
  have e : (4503599627370496 : Int) = ((4503599627370496 : Nat) : Int) := rfl
  rw [e, u64_or_nat _ _ (by omega) (by omega), Nat.or_comm, nat_join 52 _ _ (by decide) (by omega)]; omega
def zeros32 : Array Value := #[.int .u8 0, .int .u8 0, .int .u8 0, .int .u8 0, .int .u8 0, .int .u8 0, .int .u8 0, .int .u8 0, .int .u8 0, .int .u8 0, .int .u8 0, .int .u8 0, .int .u8 0, .int .u8 0, .int .u8 0, .int .u8 0, .int .u8 0, .int .u8 0, .int .u8 0, .int .u8 0, .int .u8 0, .int .u8 0, .int .u8 0, .int .u8 0, .int .u8 0, .int .u8 0, .int .u8 0, .int .u8 0, .int .u8 0, .int .u8 0, .int .u8 0, .int .u8 0]
theorem zeros32_eq : zeros32 = Array.replicate 32 (.int .u8 0) := rfl
theorem below_drewN {B : Nat} {a w : World} (h : Below B a w) (n : Nat) : Below B a (w.drewN n) := ⟨h.os, h.tape, h.output, h.size, h.block⟩
theorem below_drew {B : Nat} {a w : World} (h : Below B a.drew w) : Below B a w := ⟨h.os, h.tape, h.output, h.size, h.block⟩
set_option maxHeartbeats 2000000 in
theorem ftoa_norm (B : Nat) (v : Value) (b : Nat) (w : World) (D : Dst B 0 [] w w v []) (hP : P10At w) (hG : 7 < w.heap.size) (hT : Tab w) (hb : b < 18446744073709551616) (h1 : exN b ≠ 2047) (h2 : exN b ≠ 0) (F : List UInt8) (hF : Hid (F = sgnB (sgN b) ++ fmtG (digN b) (dpN b))) :
    Calls Tryd.prog 21 #[v, .float .f64 b, .int .u8 103, .int .i64 (-1)] w fun e w' => ∃ v', e = .returned v' ∧ Below B w w' ∧ w'.ownsRow B 5 1 v' F.length (byteCells F) := by
  have hf := run_bits54
  have hA1 := and_ex b hb
  have hA2 := and_fr b hb
  have hA3 := sg_bool b hb
  have hM0 : mantN b ≠ 0 := by unfold mantN; rw [if_neg h2]; omega
  have hN := Lib.hid (norm_spec b hb h1 hM0)
  have hfl : frN b < 4503599627370496 := by unfold frN; omega
  have hA4 := or_fr (frN b) hfl
  have hME : mantN b = frN b + 4503599627370496 := by unfold mantN; rw [if_neg h2]
  have hEE : expN b = (exN b : Int) - 1023 := by unfold expN; rw [if_neg h2]
  rw [← hME] at hA4
  have hxl : exN b < 2048 := by unfold exN; omega
  obtain ⟨M, hM⟩ : ∃ M, M = mantN b := ⟨_, rfl⟩
  obtain ⟨x, hx⟩ : ∃ x, x = exN b := ⟨_, rfl⟩
  have hMl := mant_lt b
  rw [← hM] at hA4 hM0 hMl
  rw [← hx] at hA1 h1 h2 hxl hEE
  have hxb : ((x : Int) == 2047) = false := by simp; omega
  have hx0 : ((x : Int) == 0) = false := by simp; omega
  have hMb : ((M : Int) == 0) = false := by simp; omega
  have hl : Lib.bitLen M ≤ 64 := by have := bitLen_spec (x := M) (by omega) (by omega); exact this.2.2.2
  have hs : 64 - (Lib.bitLen M : Int) = (shN b : Int) := by unfold shN; rw [← hM]; omega
  have HX := Lib.hid hx
  have HM := Lib.hid hM
  have HEE := Lib.hid hEE
  obtain ⟨s, hs'⟩ : ∃ s, s = shN b := ⟨_, rfl⟩
  rw [← hs'] at hs
  have hs63 : s ≤ 63 := by rw [hs']; exact hN.out.2.2.2.2.2.2.1
  have hmn : IntKind.u64.wrap ((M : Int) * 2 ^ s) = (mN b : Int) := by
    have h5 := hN.out.2.1
    rw [show ((M : Int) * 2 ^ s) = ((mN b : Nat) : Int) by unfold mN; rw [← hM, ← hs']; push_cast; rfl, IntKind.wrap_u64]
    omega
  have HS := Lib.hid hs'
  clear hM hx hME hEE hs' h1 h2
  go_enter Tryd.func21, Tryd.ntmps21
  go_wp2_with fail
  go_quiet (fail)
  have D1 := D.drewN nq
  go_wp2_with fail
  refine (Tryd.bits_Len64 _ _ (by omega) (by omega)).mono ?_
  rintro e w2 ⟨rfl, rfl⟩
  go_wp2_with fail
  have hE : (x : Int) + -1023 - (s : Int) - 52 = eN b := by unfold eN; rw [HEE.out, ← HS.out]; omega
  rw [hE]
  clear hE
  generalize hW1 : (w.drewN nq).alloc (.cells _ 58) = W1
  have hz1 : W1.heap.size = w.heap.size + 1 := by rw [← hW1]; simp
  have hbuf : W1.heap[w.heap.size]? = some (.cells zeros32 58 (0, 0)) := by rw [← hW1]; exact heap_alloc_new (w.drewN nq) _
  have hb0 : Below w.heap.size w (w.drewN nq) := below_drewN (Below.refl _ _) nq
  have hb1 : Below w.heap.size w W1 := by rw [← hW1]; exact hb0.alloc (by simp) _
  have HBUF := Lib.hid hbuf
  have HB1 := Lib.hid hb1
  clear hW1 hbuf hb0 hb1 D1
  have n1 := hN.out
  refine (short_any (mN b) (eN b) W1 n1.1 n1.2.1 n1.2.2.1 n1.2.2.2.1 n1.2.2.2.2.1 (hP.below hG HB1.out) (by omega)).mono ?_
  clear n1
  rintro e w3 ⟨rfl, hb3⟩
  have hz3 := hb3.size
  have HBUF3 : Hid (w3.heap[w.heap.size]? = some (.cells zeros32 58 (0, 0))) := (hb3.block _ (by omega)).trans HBUF.out
  have HB3 : Hid (Below w.heap.size w w3) := HB1.out.trans (hb3.mono (by omega))
  clear hb3
  obtain ⟨d, hd⟩ : ∃ d, d = shortD (mN b) (eN b) := ⟨_, rfl⟩
  obtain ⟨p, hp⟩ : ∃ p, p = shortP (mN b) (eN b) := ⟨_, rfl⟩
  have n1 := hN.out
  have hd1 : 1 ≤ d := by rw [hd]; exact shortD_pos _ _ n1.2.2.2.1 n1.2.2.2.2.1 n1.1 n1.2.1
  have hd2 : d < 18446744073709551616 := by rw [hd]; exact shortD_lt _ _ n1.2.2.2.1 n1.2.2.2.2.1 n1.2.1
  have hp1 : -350 ≤ p ∧ p ≤ 350 := by rw [hp]; exact shortP_le _ _ n1.2.2.2.1 n1.2.2.2.2.1
  clear n1
  rw [← hd, ← hp]
  have HD := Lib.hid hd
  have HP := Lib.hid hp
  have hp2 := hp1.1
  have hp3 := hp1.2
  clear hd hp hp1
  have hTn : Tab w3.drew := hT.on (HB3.out.drew)
  have hbz : w3.drew.heap[w.heap.size]? = some (.cells zeros32 58 (0, 0)) := HBUF3.out
  have HTn := Lib.hid hTn
  have HBZ := Lib.hid hbz
  clear hTn hbz
  go_wp2_with fail
  go_region_held3 (fun w' => True) (trivial)
    (first
      | (go_at_call 35; refine (Tryd.internal_strconv_numDigits d hd1 hd2 _ HTn.out).mono ?_; rintro e w' ⟨rfl, rfl⟩)
      | (go_at_call 34; refine (setDigits_any w.heap.size zeros32 58 d p _ hd1 hd2 HBZ.out zeros32_eq (by omega) (by omega)).mono ?_; rintro e w5 ⟨rfl, hb5, hz5, hB5⟩))
  have hlen := dig_len b hb (by rw [← HX.out]; intro h; rw [h] at hxb; simp at hxb) (by rw [← HM.out]; exact hM0)
  have hdig : digN b = trimZ (Lib.decDigits d) := by unfold digN; rw [← HD.out]
  have hdp : dpN b = ((Lib.decDigits d).length : Int) + p := by unfold dpN; rw [← HD.out, ← HP.out]
  rw [← hdig, ← hdp]
  have D2 : Dst B w.heap.size (digN b) w5 w5 v [] := by
    refine ⟨?_, .inl ?_, Below.refl _ _, ?_⟩
    · exact own_below D.own (HB3.out.trans (below_drew hb5))
    · obtain ⟨c, c1, c2⟩ := hB5
      refine ⟨c, c1, fun j u hj => c2 j u ?_⟩
      rw [hdig, trimZ_prefix] at hj
      have hjl := (List.getElem?_eq_some_iff.1 hj).1
      rw [List.length_take] at hjl
      rw [List.getElem?_take_of_lt (by omega)] at hj
      exact hj
    · have := D.hB; have : w3.drew.heap.size = w3.heap.size := rfl; omega
  have HB5 : Hid (Below B w w5) := (HB3.out.trans (below_drew hb5)).mono D.hB
  clear hb5 hB5 hz5
  obtain ⟨dp, hdpe⟩ : ∃ dp, dp = dpN b := ⟨_, rfl⟩
  obtain ⟨l, hl'⟩ : ∃ l, l = digN b := ⟨_, rfl⟩
  rw [← hdpe, ← hl'] at hlen
  rw [← hdpe, ← hl']
  rw [← hl'] at D2
  have HDP := Lib.hid hdpe
  have HLL := Lib.hid hl'
  have HLEN := Lib.hid hlen
  clear hdig hdp hdpe hl' hlen
  go_wp2_with fail
  have hlen := HLEN.out
  refine (efg_any (sgN b) B w.heap.size v l dp w5 D2 hlen.1 hlen.2.1 hlen.2.2.1 hlen.2.2.2).mono ?_
  clear hlen
  rintro e w6 ⟨v6, rfl, D6⟩
  have hfin : w6.ownsRow B 5 1 v6 F.length (byteCells F) ∧ Below B w w6 := by
    refine ⟨?_, HB5.out.trans D6.below⟩
    have := D6.own
    rw [HLL.out, HDP.out] at this
    rw [hF.out]; exact this
  have HFIN := Lib.hid hfin
  clear hfin D6
  go_wp2_with fail
  go_ret
  exact ⟨_, rfl, HFIN.out.2, HFIN.out.1⟩
set_option maxHeartbeats 2000000 in
theorem ftoa_sub (B : Nat) (v : Value) (b : Nat) (w : World) (D : Dst B 0 [] w w v []) (hP : P10At w) (hG : 7 < w.heap.size) (hT : Tab w) (hb : b < 18446744073709551616) (h2 : exN b = 0) (h3 : frN b ≠ 0) (F : List UInt8) (hF : Hid (F = sgnB (sgN b) ++ fmtG (digN b) (dpN b))) :
    Calls Tryd.prog 21 #[v, .float .f64 b, .int .u8 103, .int .i64 (-1)] w fun e w' => ∃ v', e = .returned v' ∧ Below B w w' ∧ w'.ownsRow B 5 1 v' F.length (byteCells F) := by
  have hf := run_bits54
  have hA1 := and_ex b hb
  have hA2 := and_fr b hb
  have hA3 := sg_bool b hb
  have h1 : exN b ≠ 2047 := by omega
  have hME : mantN b = frN b := by unfold mantN; rw [if_pos h2]
  have hM0 : mantN b ≠ 0 := by rw [hME]; exact h3
  have hN := Lib.hid (norm_spec b hb h1 hM0)
  have hfl : frN b < 4503599627370496 := by unfold frN; omega
  have hEE : expN b = -1022 := by unfold expN; rw [if_pos h2]
  obtain ⟨M, hM⟩ : ∃ M, M = mantN b := ⟨_, rfl⟩
  have hMl := mant_lt b
  have hMf : M = frN b := by rw [hM, hME]
  rw [← hM] at hM0 hMl
  rw [← hMf] at hA2 hfl
  rw [h2] at hA1
  have HX := Lib.hid h2
  have hMb : ((M : Int) == 0) = false := by simp; omega
  have hl : Lib.bitLen M ≤ 64 := by have := bitLen_spec (x := M) (by omega) (by omega); exact this.2.2.2
  have hs : 64 - (Lib.bitLen M : Int) = (shN b : Int) := by unfold shN; rw [← hM]; omega
  have HM := Lib.hid hM
  have HEE := Lib.hid hEE
  obtain ⟨s, hs'⟩ : ∃ s, s = shN b := ⟨_, rfl⟩
  rw [← hs'] at hs
  have hs63 : s ≤ 63 := by rw [hs']; exact hN.out.2.2.2.2.2.2.1
  have hmn : IntKind.u64.wrap ((M : Int) * 2 ^ s) = (mN b : Int) := by
    have h5 := hN.out.2.1
    rw [show ((M : Int) * 2 ^ s) = ((mN b : Nat) : Int) by unfold mN; rw [← hM, ← hs']; push_cast; rfl, IntKind.wrap_u64]
    omega
  have HS := Lib.hid hs'
  clear hM hMf hME hEE hs' h1 h2 h3
  go_enter Tryd.func21, Tryd.ntmps21
  go_wp2_with fail
  go_quiet (fail)
  have D1 := D.drewN nq
  go_wp2_with fail
  refine (Tryd.bits_Len64 _ _ (by omega) (by omega)).mono ?_
  rintro e w2 ⟨rfl, rfl⟩
  go_wp2_with fail
  have hE : -1022 - (s : Int) - 52 = eN b := by unfold eN; rw [HEE.out, ← HS.out]
  rw [hE]
  clear hE
  generalize hW1 : (w.drewN nq).alloc (.cells _ 58) = W1
  have hz1 : W1.heap.size = w.heap.size + 1 := by rw [← hW1]; simp
  have hbuf : W1.heap[w.heap.size]? = some (.cells zeros32 58 (0, 0)) := by rw [← hW1]; exact heap_alloc_new (w.drewN nq) _
  have hb0 : Below w.heap.size w (w.drewN nq) := below_drewN (Below.refl _ _) nq
  have hb1 : Below w.heap.size w W1 := by rw [← hW1]; exact hb0.alloc (by simp) _
  have HBUF := Lib.hid hbuf
  have HB1 := Lib.hid hb1
  clear hW1 hbuf hb0 hb1 D1
  have n1 := hN.out
  refine (short_any (mN b) (eN b) W1 n1.1 n1.2.1 n1.2.2.1 n1.2.2.2.1 n1.2.2.2.2.1 (hP.below hG HB1.out) (by omega)).mono ?_
  clear n1
  rintro e w3 ⟨rfl, hb3⟩
  have hz3 := hb3.size
  have HBUF3 : Hid (w3.heap[w.heap.size]? = some (.cells zeros32 58 (0, 0))) := (hb3.block _ (by omega)).trans HBUF.out
  have HB3 : Hid (Below w.heap.size w w3) := HB1.out.trans (hb3.mono (by omega))
  clear hb3
  obtain ⟨d, hd⟩ : ∃ d, d = shortD (mN b) (eN b) := ⟨_, rfl⟩
  obtain ⟨p, hp⟩ : ∃ p, p = shortP (mN b) (eN b) := ⟨_, rfl⟩
  have n1 := hN.out
  have hd1 : 1 ≤ d := by rw [hd]; exact shortD_pos _ _ n1.2.2.2.1 n1.2.2.2.2.1 n1.1 n1.2.1
  have hd2 : d < 18446744073709551616 := by rw [hd]; exact shortD_lt _ _ n1.2.2.2.1 n1.2.2.2.2.1 n1.2.1
  have hp1 : -350 ≤ p ∧ p ≤ 350 := by rw [hp]; exact shortP_le _ _ n1.2.2.2.1 n1.2.2.2.2.1
  clear n1
  rw [← hd, ← hp]
  have HD := Lib.hid hd
  have HP := Lib.hid hp
  have hp2 := hp1.1
  have hp3 := hp1.2
  clear hd hp hp1
  have hTn : Tab w3.drew := hT.on (HB3.out.drew)
  have hbz : w3.drew.heap[w.heap.size]? = some (.cells zeros32 58 (0, 0)) := HBUF3.out
  have HTn := Lib.hid hTn
  have HBZ := Lib.hid hbz
  clear hTn hbz
  go_wp2_with fail
  go_region_held3 (fun w' => True) (trivial)
    (first
      | (go_at_call 35; refine (Tryd.internal_strconv_numDigits d hd1 hd2 _ HTn.out).mono ?_; rintro e w' ⟨rfl, rfl⟩)
      | (go_at_call 34; refine (setDigits_any w.heap.size zeros32 58 d p _ hd1 hd2 HBZ.out zeros32_eq (by omega) (by omega)).mono ?_; rintro e w5 ⟨rfl, hb5, hz5, hB5⟩))
  have hlen := dig_len b hb (by rw [HX.out]; decide) (by rw [← HM.out]; exact hM0)
  have hdig : digN b = trimZ (Lib.decDigits d) := by unfold digN; rw [← HD.out]
  have hdp : dpN b = ((Lib.decDigits d).length : Int) + p := by unfold dpN; rw [← HD.out, ← HP.out]
  rw [← hdig, ← hdp]
  have D2 : Dst B w.heap.size (digN b) w5 w5 v [] := by
    refine ⟨?_, .inl ?_, Below.refl _ _, ?_⟩
    · exact own_below D.own (HB3.out.trans (below_drew hb5))
    · obtain ⟨c, c1, c2⟩ := hB5
      refine ⟨c, c1, fun j u hj => c2 j u ?_⟩
      rw [hdig, trimZ_prefix] at hj
      have hjl := (List.getElem?_eq_some_iff.1 hj).1
      rw [List.length_take] at hjl
      rw [List.getElem?_take_of_lt (by omega)] at hj
      exact hj
    · have := D.hB; have : w3.drew.heap.size = w3.heap.size := rfl; omega
  have HB5 : Hid (Below B w w5) := (HB3.out.trans (below_drew hb5)).mono D.hB
  clear hb5 hB5 hz5
  obtain ⟨dp, hdpe⟩ : ∃ dp, dp = dpN b := ⟨_, rfl⟩
  obtain ⟨l, hl'⟩ : ∃ l, l = digN b := ⟨_, rfl⟩
  rw [← hdpe, ← hl'] at hlen
  rw [← hdpe, ← hl']
  rw [← hl'] at D2
  have HDP := Lib.hid hdpe
  have HLL := Lib.hid hl'
  have HLEN := Lib.hid hlen
  clear hdig hdp hdpe hl' hlen
  go_wp2_with fail
  have hlen := HLEN.out
  refine (efg_any (sgN b) B w.heap.size v l dp w5 D2 hlen.1 hlen.2.1 hlen.2.2.1 hlen.2.2.2).mono ?_
  clear hlen
  rintro e w6 ⟨v6, rfl, D6⟩
  have hfin : w6.ownsRow B 5 1 v6 F.length (byteCells F) ∧ Below B w w6 := by
    refine ⟨?_, HB5.out.trans D6.below⟩
    have := D6.own
    rw [HLL.out, HDP.out] at this
    rw [hF.out]; exact this
  have HFIN := Lib.hid hfin
  clear hfin D6
  go_wp2_with fail
  go_ret
  exact ⟨_, rfl, HFIN.out.2, HFIN.out.1⟩
end Go.Proofs.YtnklnenjdffbaaaDoor
