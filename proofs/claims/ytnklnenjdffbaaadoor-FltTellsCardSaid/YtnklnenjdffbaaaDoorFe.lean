/- strconv.shortFloat[float64], walked. -/
import Derived.Test.YtnklnenjdffbaaaDoorFd
namespace Go.Proofs.YtnklnenjdffbaaaDoor
open Go.RowKit
set_option linter.unusedVariables false
set_option maxRecDepth 100000

theorem l10_m (x : Int) (w : World) (h1 : -100000 ≤ x) (h2 : x ≤ 100000) :
    Calls Tryd.prog 36 #[.int .i64 x] w fun e w' => e = .returned (.int .i64 (x * 78913 / 262144)) ∧ w = w' := l10_any x w h1 h2
theorem P10At.below {w w' : World} (h : P10At w) (hG : 7 < w.heap.size) (hb : Below w.heap.size w w') : P10At w' := fun i r hr => ⟨(hb.cell hG).trans (h i r hr).1, (hb.cell hG).trans (h i r hr).2⟩
theorem row10_at {p : Int} (h1 : -348 ≤ p) (h2 : p ≤ 347) : Pinned.pow10Rows[(p + 348).toNat]? = some (row10 p) := by
  have hl : (p + 348).toNat < Pinned.pow10Rows.length := by rw [pow10_len]; omega
  unfold row10
  rw [List.getElem?_eq_getElem hl]; rfl
theorem i64_and_nat (a b : Nat) (ha : a < 9223372036854775808) (hb : b < 9223372036854775808) : bits .and .i64 (a : Int) (b : Int) = ((a &&& b : Nat) : Int) := by
  have hx : a &&& b < 2 ^ 63 := Nat.and_lt_two_pow _ (by omega)
  show IntKind.i64.wrap ((BitVec.ofInt 64 (a : Int) &&& BitVec.ofInt 64 (b : Int)).toNat : Int) = _
  rw [BitVec.toNat_and, ofInt_u64 a (by omega), ofInt_u64 b (by omega), IntKind.wrap_i64]
  omega
theorem rows_lt : ∀ r ∈ Pinned.pow10Rows, r.1 < 18446744073709551616 ∧ r.2 < 18446744073709551616 := by decide +kernel
theorem row10_lt (p : Int) : (row10 p).1 < 18446744073709551616 ∧ (row10 p).2 < 18446744073709551616 := by
  unfold row10
  cases h : Pinned.pow10Rows[(p + 348).toNat]? with
  | none => exact ⟨by decide, by decide⟩
  | some r => exact rows_lt r (List.mem_of_getElem? h)
theorem usc_lt (x hi lo s : Nat) (hx : x < 18446744073709551616) (hhi : hi < 18446744073709551616) : usc x hi lo s < 18446744073709551616 := by
  have hxh : x * hi / 18446744073709551616 < 18446744073709551616 := by
    have := Nat.mul_lt_mul'' hx hhi
    omega
  unfold usc
  split
  · refine Nat.or_lt_two_pow (n := 64) ?_ ?_
    · have := Nat.div_le_self ((x * hi / 18446744073709551616 + 18446744073709551616 - (if x * hi % 18446744073709551616 < x * lo / 18446744073709551616 then 1 else 0)) % 18446744073709551616) (2 ^ s)
      omega
    · split <;> decide
  · refine Nat.or_lt_two_pow (n := 64) ?_ (by decide)
    have := Nat.div_le_self (x * hi / 18446744073709551616) (2 ^ s)
    omega
theorem scl_lt (m : Nat) (e : Int) (x : Nat) (hx : x < 18446744073709551616) : scl m e x < 18446744073709551616 := usc_lt _ _ _ _ hx (row10_lt _).1
theorem scl_any (m : Nat) (e : Int) (x b : Nat) (w : World) (hx : x < 18446744073709551616) (hs : (spS m e).toNat < 64) (hc : ScalerAt w b (row10 (spP m e)).1 (row10 (spP m e)).2 (spS m e).toNat) :
    Calls Tryd.prog 53 #[.int .u64 (x : Int), .pointer (some ⟨b, 0, none⟩)] w fun e' w' => e' = .returned (.int .u64 (scl m e x : Nat)) ∧ Below w.heap.size w w' :=
  uscale_any x _ _ _ b w hx (row10_lt _).1 (row10_lt _).2 hs hc
theorem ScalerAt.below {w w' : World} {b hi lo s B : Nat} (h : ScalerAt w b hi lo s) (hB : b < B) (hb : Below B w w') : ScalerAt w' b hi lo s :=
  ⟨(hb.cell hB).trans h.1, (hb.cell hB).trans h.2.1, (hb.cell hB).trans h.2.2⟩
set_option maxHeartbeats 4000000 in
theorem short_C (m : Nat) (e : Int) (w : World) (hm : 9223372036854775808 ≤ m) (hm2 : m < 18446744073709551616) (hz : m % 2 ^ spZ e = 0) (he1 : -1137 ≤ e) (he2 : e ≤ -1086) (hT : P10At w) (hG : 7 < w.heap.size) :
    Calls Tryd.prog 41 #[.int .u64 (m : Int), .int .i64 e] w fun x w' => x = .returned (.tuple #[.int .u64 (shortD m e : Int), .int .i64 (shortP m e)]) ∧ Below w.heap.size w w' := by
  have HT := Lib.hid hT
  clear hT
  have hok := okE_any m e he1 (by omega)
  unfold okE at hok
  rw [decide_eq_true_eq] at hok
  have hA : ¬ (m = 9223372036854775808 ∧ -1085 < e) := by omega
  have hB : ¬ (-1085 ≤ e) := by omega
  have hpE : Hid (spP m e = 324) := by show _ = _; unfold spP; rw [if_neg hA, if_neg hB]
  have HTA : Hid (P10At (w.alloc (.cells #[.int .u64 0, .int .u64 0, .int .i64 0] 85))) := HT.out.below hG ((Below.refl _ _).alloc (Nat.le_refl _) _)
  have HROW : Hid (Pinned.pow10Rows[(spP m e + 348).toNat]? = some (row10 (spP m e))) := row10_at hok.1 hok.2.1
  have HK := Lib.hid hok
  clear hok
  obtain ⟨z, hz11⟩ : ∃ z, z = spZ e := ⟨_, rfl⟩
  rw [← hz11] at hz
  have hzz : (z : Int) = -1074 - e := by rw [hz11]; unfold spZ; rw [if_neg hB]; omega
  have hzr1 : 12 ≤ z := by omega
  have hzr2 : z ≤ 63 := by omega
  have hp1 : 2 ^ z = 2 * 2 ^ (z - 1) := by rw [← Nat.pow_succ']; congr 1; omega
  have hp2 : 2 ^ (z - 1) ≤ 4611686018427387904 := Nat.pow_le_pow_right (by decide) (show z - 1 ≤ 62 by omega)
  have hp0 : 0 < 2 ^ (z - 1) := Nat.two_pow_pos _
  obtain ⟨q, hq⟩ : ∃ q, m = 2 ^ z * q := Nat.dvd_of_mod_eq_zero hz
  have h64 : (18446744073709551616 : Nat) = 2 ^ z * 2 ^ (64 - z) := by rw [← Nat.pow_add]; rw [show z + (64 - z) = 64 by omega]
  have hmx0 : m + 2 ^ (z - 1) < 18446744073709551616 := by
    have hq2 : q < 2 ^ (64 - z) := by
      rcases Nat.lt_or_ge q (2 ^ (64 - z)) with h | h
      · exact h
      · have := Nat.mul_le_mul_left (2 ^ z) h; omega
    have h3 : 2 ^ z * (q + 1) ≤ 2 ^ z * 2 ^ (64 - z) := Nat.mul_le_mul_left _ hq2
    rw [Nat.mul_add] at h3
    omega
  have hmq : m / 2 ^ z < 9223372036854775808 := by
    have : m / 2 ^ z ≤ m / 4096 := Nat.div_le_div_left (Nat.pow_le_pow_right (by decide : 0 < 2) hzr1) (show 0 < 2 ^ 12 by decide)
    omega
  obtain ⟨od, hodd⟩ : ∃ od, od = m / 2 ^ z % 2 := ⟨_, rfl⟩
  have od1 : od ≤ 1 := by omega
  have hcast : (m : Int) / 2 ^ z = ((m / 2 ^ z : Nat) : Int) := by push_cast; rfl
  have hod : bits .and .i64 (wrap64 ((m : Int) / 2 ^ z)) 1 = (od : Int) := by
    rw [hcast]
    generalize m / 2 ^ z = mq at hmq hodd
    have := i64_and_nat mq 1 hmq (by omega)
    rw [nat_mask1, ← hodd] at this
    rw [← this, IntWalk.wrap64_in _ ⟨by omega, by omega⟩]; rfl
  have HOD : Hid (spOdd m e = od) := by show _ = _; unfold spOdd; rw [← hz11, hodd]
  obtain ⟨mn, hmn⟩ : ∃ mn, mn = m - 2 ^ (z - 1) := ⟨_, rfl⟩
  obtain ⟨mx, hmx⟩ : ∃ mx, mx = m + 2 ^ (z - 1) := ⟨_, rfl⟩
  have hpc : IntKind.u64.wrap ((2 : Int) ^ (z - 1)) = ((2 ^ (z - 1) : Nat) : Int) := by rw [show ((2 : Int) ^ (z - 1)) = ((2 ^ (z - 1) : Nat) : Int) by push_cast; rfl, IntKind.wrap_u64]; omega
  have hmnw : IntKind.u64.wrap ((m : Int) - IntKind.u64.wrap (2 ^ (z - 1))) = (mn : Int) := by rw [hpc, IntKind.wrap_u64]; omega
  have hmxw : IntKind.u64.wrap ((m : Int) + IntKind.u64.wrap (2 ^ (z - 1))) = (mx : Int) := by rw [hpc, IntKind.wrap_u64]; omega
  have HMN : Hid (((spMin m e : Nat) : Int) = (mn : Int) ∧ spMin m e < 18446744073709551616) := by
    have : spMin m e = mn := by unfold spMin; rw [if_neg hA, ← hz11, hmn]
    rw [this]; exact ⟨rfl, by omega⟩
  have HMX : Hid (((spMax m e : Nat) : Int) = (mx : Int) ∧ spMax m e < 18446744073709551616) := by
    have : spMax m e = mx := by unfold spMax; rw [← hz11, hmx]
    rw [this]; exact ⟨rfl, by omega⟩
  have he0' : decide (-1085 < e) = false := by simp; omega
  have he1' : decide (-1085 ≤ e) = false := by simp; omega
  have hz1 : 11 + (-1085 - e) = (z : Int) := by omega
  have hz2 : e + (z : Int) = -1074 := by omega
  have hz3 : ((z : Int) - 1) = ((z - 1 : Nat) : Int) := by omega
  clear hodd hmn hmx hz hz11 hA hB hcast hpc hmx0 h64 hq hp0 hp1 hzz
  cases hmb : ((m : Int) == 9223372036854775808)
  all_goals
    go_enter Tryd.func41, Tryd.ntmps41
    go_wp2_with fail
    refine (l10_m _ w (by omega) (by omega)).mono ?_
    rintro x w1 ⟨rfl, rfl⟩
    clear hmb
    go_wp2_with fail
    obtain ⟨pv, hpv⟩ : ∃ pv : Int, pv = 324 := ⟨_, rfl⟩
    rw [← hpv]
    have hpE2 : Hid (spP m e = pv) := by rw [hpv]; exact hpE
    clear hpv hpE hz1 hz2 hz3 he0' he1'
    have hpE := hpE2
    clear hpE2
    have hpv1 : -348 ≤ pv := by have := HK.out; have := hpE.out; omega
    have hpv2 : pv ≤ 347 := by have := HK.out; have := hpE.out; omega
    have K := HK.out
    have hpe := hpE.out
    refine (l2_any _ _ (by omega) (by omega)).mono ?_
    rintro x w2 ⟨rfl, rfl⟩
    clear K hpe
    go_wp2_with fail
    have K := HK.out
    have hpe := hpE.out
    refine (prescale_any w.heap.size _ _ _ _ _ _ (spP m e + 348).toNat (row10 (spP m e)) _ hG (heap_alloc_new w _) (HTA.out) (by omega) HROW.out (by omega) (by omega) (by omega) (by omega)).mono ?_
    rintro x w3 ⟨rfl, hw3⟩
    have HB3 : Hid (Below w.heap.size w w3) := by
      rw [hw3]
      exact ((((Below.refl _ _).alloc (Nat.le_refl _) _).setCell (Nat.le_refl _) _).setCell (Nat.le_refl _) _).setCell (Nat.le_refl _) _
    have HSC : Hid (ScalerAt w3 w.heap.size (row10 (spP m e)).1 (row10 (spP m e)).2 (spS m e).toNat) := by
      rw [hw3]
      refine ⟨by go_simp, by go_simp, ?_⟩
      rw [show (((spS m e).toNat : Nat) : Int) = spS m e by omega]
      unfold spS
      rw [hpe]
      go_simp
    have hz3 : w3.heap.size = w.heap.size + 1 := by rw [hw3]; simp
    clear hw3
    have cMin := scl_any m e (spMin m e) w.heap.size w3 (HMN.out.2) (by omega) HSC.out
    rw [HMN.out.1] at cMin
    have uMin := scl_lt m e (spMin m e) HMN.out.2
    have uMax := scl_lt m e (spMax m e) HMX.out.2
    have uMid := scl_lt m e m (by omega)
    obtain ⟨S1, hS1⟩ : ∃ S1, S1 = scl m e (spMin m e) := ⟨_, rfl⟩
    obtain ⟨S2, hS2⟩ : ∃ S2, S2 = scl m e (spMax m e) := ⟨_, rfl⟩
    obtain ⟨S3, hS3⟩ : ∃ S3, S3 = scl m e m := ⟨_, rfl⟩
    rw [← hS1] at cMin uMin
    rw [← hS2] at uMax
    rw [← hS3] at uMid
    have E1 := Lib.hid hS1
    have E2 := Lib.hid hS2
    have E3 := Lib.hid hS3
    have CMin := Lib.hid cMin
    clear K hpe cMin hS1 hS2 hS3
    go_wp2_with fail
    refine CMin.out.mono ?_
    rintro x w4 ⟨rfl, hb4⟩
    have HSC4 := Lib.hid (HSC.out.below (by omega) hb4)
    have HB4 : Hid (Below w.heap.size w w4) := HB3.out.trans (hb4.mono (by omega))
    have hz4 := hb4.size
    clear hb4
    go_wp2_with fail
    obtain ⟨N1, hN1⟩ : ∃ N1 : Nat, N1 = (((S1 : Int) + (od : Int)) % 18446744073709551616).toNat := ⟨_, rfl⟩
    have n1l : N1 < 18446744073709551616 := by omega
    have cN1 := nudge_m S1 (od : Int) w4 uMin (by omega) (by omega)
    rw [show ((S1 : Int) + (od : Int)) % 18446744073709551616 = (N1 : Int) by omega] at cN1
    have HN1 := Lib.hid hN1
    have CN1 := Lib.hid cN1
    clear hN1 cN1
    refine CN1.out.mono ?_
    rintro x w5 ⟨rfl, rfl⟩
    go_wp2_with fail
    refine (ceil_m N1 _ n1l).mono ?_
    rintro x w5 ⟨rfl, rfl⟩
    obtain ⟨L, hL⟩ : ∃ L : Nat, L = (N1 + 3) % 18446744073709551616 / 4 := ⟨_, rfl⟩
    rw [← hL]
    have HL : Hid (spLo m e = L) := by
      show _ = _
      unfold spLo
      rw [hL, HN1.out, E1.out, HOD.out]
      all_goals rfl
    have lL : L < 18446744073709551616 := by omega
    clear hL
    have K := HK.out
    have cMax := scl_any m e (spMax m e) w.heap.size w4 (HMX.out.2) (by omega) HSC4.out
    rw [HMX.out.1, ← E2.out] at cMax
    have CMax := Lib.hid cMax
    clear K cMax
    go_wp2_with fail
    refine CMax.out.mono ?_
    rintro x w6 ⟨rfl, hb6⟩
    have HSC6 := Lib.hid (HSC4.out.below (by omega) hb6)
    have HB6 : Hid (Below w.heap.size w w6) := HB4.out.trans (hb6.mono (by omega))
    have hz6 := hb6.size
    clear hb6
    go_wp2_with fail
    obtain ⟨N2, hN2⟩ : ∃ N2 : Nat, N2 = (((S2 : Int) - (od : Int)) % 18446744073709551616).toNat := ⟨_, rfl⟩
    have n2l : N2 < 18446744073709551616 := by omega
    have cN2 := nudge_m S2 (-(od : Int)) w6 uMax (by omega) (by omega)
    rw [show ((S2 : Int) + -(od : Int)) % 18446744073709551616 = (N2 : Int) by omega] at cN2
    have HN2 := Lib.hid hN2
    have CN2 := Lib.hid cN2
    clear hN2 cN2
    refine CN2.out.mono ?_
    rintro x w7 ⟨rfl, rfl⟩
    go_wp2_with fail
    refine (floor_m N2 _ n2l).mono ?_
    rintro x w7 ⟨rfl, rfl⟩
    obtain ⟨T, hT⟩ : ∃ T : Nat, T = N2 / 4 := ⟨_, rfl⟩
    rw [← hT]
    have HT2 : Hid (spHi m e = T) := by
      show _ = _
      unfold spHi
      rw [hT, HN2.out, E2.out, HOD.out]
      all_goals rfl
    have lT : T < 18446744073709551616 := by omega
    clear hT
    have hw10 : IntKind.u64.wrap ((T : Int) / 10 * 10) = ((T / 10 * 10 : Nat) : Int) := by rw [IntKind.wrap_u64]; omega
    have hpw : IntKind.i64.wrap (-(pv - 1)) = -(pv - 1) := by have := HK.out; have := hpE.out; rw [IntKind.wrap_i64]; omega
    have HM2 := Lib.hid hm2
    clear hod hmnw hmxw hm hm2 hp2 hzr1 hzr2 hmq
    by_cases hc : L ≤ T / 10 * 10
    · have hc' : (L : Int) ≤ ((T / 10 * 10 : Nat) : Int) := by omega
      have HC := Lib.hid hc
      clear hc
      go_wp2_with fail
      go_ret2
      refine ⟨?_, HB6.out⟩
      have hD : shortD m e = T / 10 := by unfold shortD; rw [HL.out, HT2.out, if_pos HC.out]
      have hP : shortP m e = -(pv - 1) := by unfold shortP; rw [HL.out, HT2.out, if_pos HC.out, hpE.out]
      rw [hD, hP]
      rfl
    · have hc' : ¬ ((L : Int) ≤ ((T / 10 * 10 : Nat) : Int)) := by omega
      have HC := Lib.hid hc
      clear hc
      have hpw2 : IntKind.i64.wrap (-(pv)) = -(pv) := by have := HK.out; have := hpE.out; rw [IntKind.wrap_i64]; omega
      have hP : Hid (shortP m e = -(pv)) := by show _ = _; unfold shortP; rw [HL.out, HT2.out, if_neg HC.out, hpE.out]
      by_cases hd : L < T
      · have hD : Hid (shortD m e = (S3 + 1 + S3 / 4 % 2) % 18446744073709551616 / 4) := by
          show _ = _
          unfold shortD spMid; rw [HL.out, HT2.out, if_neg HC.out, if_pos hd, ← E3.out]
        have K := HK.out
        have cMid := scl_any m e m w.heap.size w6 HM2.out (by omega) HSC6.out
        rw [← E3.out] at cMid
        have CMid := Lib.hid cMid
        clear K cMid
        go_wp2_with fail
        refine CMid.out.mono ?_
        rintro x w8 ⟨rfl, hb8⟩
        have HB8 : Hid (Below w.heap.size w w8) := HB6.out.trans (hb8.mono (by omega))
        clear hb8
        go_wp2_with fail
        refine (round_m S3 _ uMid).mono ?_
        rintro x w9 ⟨rfl, rfl⟩
        rw [← hD.out]
        go_wp2_with fail
        go_ret2
        refine ⟨?_, HB8.out⟩
        rw [hP.out]
        rfl
      · have hD : Hid (shortD m e = L) := by
          show _ = _
          unfold shortD; rw [HL.out, HT2.out, if_neg HC.out, if_neg hd]
        go_wp2_with fail
        go_ret2
        refine ⟨?_, HB6.out⟩
        rw [hD.out, hP.out]
        rfl
set_option maxHeartbeats 4000000 in
/-- the part behind the three ways: given the power, the least, the greatest, the oddness -/
theorem short_any (m : Nat) (e : Int) (w : World) (hm : 9223372036854775808 ≤ m) (hm2 : m < 18446744073709551616) (hz : m % 2 ^ spZ e = 0) (he1 : -1137 ≤ e) (he2 : e ≤ 960) (hT : P10At w) (hG : 7 < w.heap.size) :
    Calls Tryd.prog 41 #[.int .u64 (m : Int), .int .i64 e] w fun x w' => x = .returned (.tuple #[.int .u64 (shortD m e : Int), .int .i64 (shortP m e)]) ∧ Below w.heap.size w w' := by
  have HT := Lib.hid hT
  clear hT
  by_cases hA : m = 9223372036854775808 ∧ -1085 < e
  · obtain ⟨rfl, hA2⟩ := hA
    have hok := okE_any 9223372036854775808 e he1 he2
    unfold okE at hok
    rw [decide_eq_true_eq] at hok
    have hpE : Hid (spP 9223372036854775808 e = -(((e + 11) * 631305 - 261663) / 2097152)) := by show _ = _; unfold spP; rw [if_pos ⟨rfl, hA2⟩]
    have HTA : Hid (P10At (w.alloc (.cells #[.int .u64 0, .int .u64 0, .int .i64 0] 85))) := HT.out.below hG ((Below.refl _ _).alloc (Nat.le_refl _) _)
    have HROW : Hid (Pinned.pow10Rows[(spP 9223372036854775808 e + 348).toNat]? = some (row10 (spP 9223372036854775808 e))) := row10_at hok.1 hok.2.1
    have HK := Lib.hid hok
    clear hok
    have hod : bits .and .i64 4503599627370496 1 = 0 := by decide +kernel
    have HOD : Hid (spOdd 9223372036854775808 e = 0) := by show _ = _; unfold spOdd spZ; rw [if_pos (by omega)]
    have HMN : Hid (((spMin 9223372036854775808 e : Nat) : Int) = 9223372036854775296 ∧ spMin 9223372036854775808 e < 18446744073709551616) := by
      have : spMin 9223372036854775808 e = 9223372036854775296 := by unfold spMin; rw [if_pos ⟨rfl, hA2⟩]
      rw [this]; exact ⟨rfl, by decide⟩
    have HMX : Hid (((spMax 9223372036854775808 e : Nat) : Int) = 9223372036854776832 ∧ spMax 9223372036854775808 e < 18446744073709551616) := by
      have : spMax 9223372036854775808 e = 9223372036854776832 := by unfold spMax spZ; rw [if_pos (by omega)]
      rw [this]; exact ⟨rfl, by decide⟩
    go_enter Tryd.func41, Tryd.ntmps41
    go_wp2_with fail
    refine (skewed_any _ w (by omega) (by omega)).mono ?_
    rintro x w1 ⟨rfl, rfl⟩
    go_wp2_with fail
    have K := HK.out
    have hpe := hpE.out
    refine (l2_any _ _ (by omega) (by omega)).mono ?_
    rintro x w2 ⟨rfl, rfl⟩
    clear K hpe
    go_wp2_with fail
    have K := HK.out
    have hpe := hpE.out
    refine (prescale_any w.heap.size _ _ _ _ _ _ (spP 9223372036854775808 e + 348).toNat (row10 (spP 9223372036854775808 e)) _ hG (heap_alloc_new w _) (HTA.out) (by omega) HROW.out (by omega) (by omega) (by omega) (by omega)).mono ?_
    rintro x w3 ⟨rfl, hw3⟩
    have HB3 : Hid (Below w.heap.size w w3) := by
      rw [hw3]
      exact ((((Below.refl _ _).alloc (Nat.le_refl _) _).setCell (Nat.le_refl _) _).setCell (Nat.le_refl _) _).setCell (Nat.le_refl _) _
    have HSC : Hid (ScalerAt w3 w.heap.size (row10 (spP 9223372036854775808 e)).1 (row10 (spP 9223372036854775808 e)).2 (spS 9223372036854775808 e).toNat) := by
      rw [hw3]
      refine ⟨by go_simp, by go_simp, ?_⟩
      rw [show (((spS 9223372036854775808 e).toNat : Nat) : Int) = spS 9223372036854775808 e by omega]
      unfold spS
      rw [hpe]
      go_simp
    have hz3 : w3.heap.size = w.heap.size + 1 := by rw [hw3]; simp
    clear hw3
    have cMin := scl_any 9223372036854775808 e (spMin 9223372036854775808 e) w.heap.size w3 (HMN.out.2) (by omega) HSC.out
    rw [HMN.out.1] at cMin
    have uMin := scl_lt 9223372036854775808 e (spMin 9223372036854775808 e) HMN.out.2
    have uMax := scl_lt 9223372036854775808 e (spMax 9223372036854775808 e) HMX.out.2
    have uMid := scl_lt 9223372036854775808 e 9223372036854775808 (by omega)
    obtain ⟨S1, hS1⟩ : ∃ S1, S1 = scl 9223372036854775808 e (spMin 9223372036854775808 e) := ⟨_, rfl⟩
    obtain ⟨S2, hS2⟩ : ∃ S2, S2 = scl 9223372036854775808 e (spMax 9223372036854775808 e) := ⟨_, rfl⟩
    obtain ⟨S3, hS3⟩ : ∃ S3, S3 = scl 9223372036854775808 e 9223372036854775808 := ⟨_, rfl⟩
    rw [← hS1] at cMin uMin
    rw [← hS2] at uMax
    rw [← hS3] at uMid
    have E1 := Lib.hid hS1
    have E2 := Lib.hid hS2
    have E3 := Lib.hid hS3
    have CMin := Lib.hid cMin
    clear K hpe cMin hS1 hS2 hS3
    go_wp2_with fail
    refine CMin.out.mono ?_
    rintro x w4 ⟨rfl, hb4⟩
    have HSC4 := Lib.hid (HSC.out.below (by omega) hb4)
    have HB4 : Hid (Below w.heap.size w w4) := HB3.out.trans (hb4.mono (by omega))
    have hz4 := hb4.size
    clear hb4
    go_wp2_with fail
    obtain ⟨N1, hN1⟩ : ∃ N1 : Nat, N1 = (((S1 : Int) + 0) % 18446744073709551616).toNat := ⟨_, rfl⟩
    have n1l : N1 < 18446744073709551616 := by omega
    have cN1 := nudge_m S1 0 w4 uMin (by omega) (by omega)
    rw [show ((S1 : Int) + 0) % 18446744073709551616 = (N1 : Int) by omega] at cN1
    have HN1 := Lib.hid hN1
    have CN1 := Lib.hid cN1
    clear hN1 cN1
    refine CN1.out.mono ?_
    rintro x w5 ⟨rfl, rfl⟩
    go_wp2_with fail
    refine (ceil_m N1 _ n1l).mono ?_
    rintro x w5 ⟨rfl, rfl⟩
    obtain ⟨L, hL⟩ : ∃ L : Nat, L = (N1 + 3) % 18446744073709551616 / 4 := ⟨_, rfl⟩
    rw [← hL]
    have HL : Hid (spLo 9223372036854775808 e = L) := by
      show _ = _
      unfold spLo
      rw [hL, HN1.out, E1.out, HOD.out]
      all_goals rfl
    have lL : L < 18446744073709551616 := by omega
    clear hL
    have K := HK.out
    have cMax := scl_any 9223372036854775808 e (spMax 9223372036854775808 e) w.heap.size w4 (HMX.out.2) (by omega) HSC4.out
    rw [HMX.out.1, ← E2.out] at cMax
    have CMax := Lib.hid cMax
    clear K cMax
    go_wp2_with fail
    refine CMax.out.mono ?_
    rintro x w6 ⟨rfl, hb6⟩
    have HSC6 := Lib.hid (HSC4.out.below (by omega) hb6)
    have HB6 : Hid (Below w.heap.size w w6) := HB4.out.trans (hb6.mono (by omega))
    have hz6 := hb6.size
    clear hb6
    go_wp2_with fail
    obtain ⟨N2, hN2⟩ : ∃ N2 : Nat, N2 = (((S2 : Int) - 0) % 18446744073709551616).toNat := ⟨_, rfl⟩
    have n2l : N2 < 18446744073709551616 := by omega
    have cN2 := nudge_m S2 (0) w6 uMax (by omega) (by omega)
    rw [show ((S2 : Int) + 0) % 18446744073709551616 = (N2 : Int) by omega] at cN2
    have HN2 := Lib.hid hN2
    have CN2 := Lib.hid cN2
    clear hN2 cN2
    refine CN2.out.mono ?_
    rintro x w7 ⟨rfl, rfl⟩
    go_wp2_with fail
    refine (floor_m N2 _ n2l).mono ?_
    rintro x w7 ⟨rfl, rfl⟩
    obtain ⟨T, hT⟩ : ∃ T : Nat, T = N2 / 4 := ⟨_, rfl⟩
    rw [← hT]
    have HT2 : Hid (spHi 9223372036854775808 e = T) := by
      show _ = _
      unfold spHi
      rw [hT, HN2.out, E2.out, HOD.out]
      all_goals rfl
    have lT : T < 18446744073709551616 := by omega
    clear hT
    have hw10 : IntKind.u64.wrap ((T : Int) / 10 * 10) = ((T / 10 * 10 : Nat) : Int) := by rw [IntKind.wrap_u64]; omega
    have hpw : IntKind.i64.wrap (-(-(((e + 11) * 631305 - 261663) / 2097152) - 1)) = -(-(((e + 11) * 631305 - 261663) / 2097152) - 1) := by have := HK.out; have := hpE.out; rw [IntKind.wrap_i64]; omega
    by_cases hc : L ≤ T / 10 * 10
    · have hc' : (L : Int) ≤ ((T / 10 * 10 : Nat) : Int) := by omega
      have HC := Lib.hid hc
      clear hc
      go_wp2_with fail
      go_ret2
      refine ⟨?_, HB6.out⟩
      have hD : shortD 9223372036854775808 e = T / 10 := by unfold shortD; rw [HL.out, HT2.out, if_pos HC.out]
      have hP : shortP 9223372036854775808 e = -(-(((e + 11) * 631305 - 261663) / 2097152) - 1) := by unfold shortP; rw [HL.out, HT2.out, if_pos HC.out, hpE.out]
      rw [hD, hP]
      rfl
    · have hc' : ¬ ((L : Int) ≤ ((T / 10 * 10 : Nat) : Int)) := by omega
      have HC := Lib.hid hc
      clear hc
      have hpw2 : IntKind.i64.wrap (-(-(((e + 11) * 631305 - 261663) / 2097152))) = -(-(((e + 11) * 631305 - 261663) / 2097152)) := by have := HK.out; have := hpE.out; rw [IntKind.wrap_i64]; omega
      have hP : Hid (shortP 9223372036854775808 e = -(-(((e + 11) * 631305 - 261663) / 2097152))) := by show _ = _; unfold shortP; rw [HL.out, HT2.out, if_neg HC.out, hpE.out]
      by_cases hd : L < T
      · have hD : Hid (shortD 9223372036854775808 e = (S3 + 1 + S3 / 4 % 2) % 18446744073709551616 / 4) := by
          show _ = _
          unfold shortD spMid; rw [HL.out, HT2.out, if_neg HC.out, if_pos hd, ← E3.out]
        have K := HK.out
        have cMid := scl_any 9223372036854775808 e 9223372036854775808 w.heap.size w6 (by omega) (by omega) HSC6.out
        rw [← E3.out] at cMid
        have CMid := Lib.hid cMid
        clear K cMid
        go_wp2_with fail
        refine CMid.out.mono ?_
        rintro x w8 ⟨rfl, hb8⟩
        have HB8 : Hid (Below w.heap.size w w8) := HB6.out.trans (hb8.mono (by omega))
        clear hb8
        go_wp2_with fail
        refine (round_m S3 _ uMid).mono ?_
        rintro x w9 ⟨rfl, rfl⟩
        rw [← hD.out]
        go_wp2_with fail
        go_ret2
        refine ⟨?_, HB8.out⟩
        rw [hP.out, Int.neg_neg]
        rfl
      · have hD : Hid (shortD 9223372036854775808 e = L) := by
          show _ = _
          unfold shortD; rw [HL.out, HT2.out, if_neg HC.out, if_neg hd]
        go_wp2_with fail
        go_ret2
        refine ⟨?_, HB6.out⟩
        rw [hD.out, hP.out, Int.neg_neg]
        rfl
  · by_cases hB : -1085 ≤ e
    · by_cases hm0 : m = 9223372036854775808
      · have he0 : ¬ (-1085 < e) := fun h => hA ⟨hm0, h⟩
        have hmb : ((m : Int) == 9223372036854775808) = true := by simp; omega
        have hok := okE_any m e he1 he2
        unfold okE at hok
        rw [decide_eq_true_eq] at hok
        have hpE : Hid (spP m e = -((e + 11) * 78913 / 262144)) := by show _ = _; unfold spP; rw [if_neg hA, if_pos hB]
        have HTA : Hid (P10At (w.alloc (.cells #[.int .u64 0, .int .u64 0, .int .i64 0] 85))) := HT.out.below hG ((Below.refl _ _).alloc (Nat.le_refl _) _)
        have HROW : Hid (Pinned.pow10Rows[(spP m e + 348).toNat]? = some (row10 (spP m e))) := row10_at hok.1 hok.2.1
        have HK := Lib.hid hok
        clear hok
        have hz11 : spZ e = 11 := by unfold spZ; rw [if_pos hB]
        rw [hz11] at hz
        obtain ⟨od, hodd⟩ : ∃ od, od = m / 2048 % 2 := ⟨_, rfl⟩
        have od1 : od ≤ 1 := by omega
        have hod : bits .and .i64 ((m : Int) / 2048) 1 = (od : Int) := by
          have := i64_and_nat (m / 2048) 1 (by omega) (by omega)
          rw [nat_mask1, ← hodd] at this
          rw [← this]; congr 1
        have HOD : Hid (spOdd m e = od) := by show _ = _; unfold spOdd; rw [hz11, hodd]
        obtain ⟨mn, hmn⟩ : ∃ mn, mn = m - 1024 := ⟨_, rfl⟩
        obtain ⟨mx, hmx⟩ : ∃ mx, mx = m + 1024 := ⟨_, rfl⟩
        have hmnw : IntKind.u64.wrap ((m : Int) - 1024) = (mn : Int) := by rw [IntKind.wrap_u64]; omega
        have hmxw : IntKind.u64.wrap ((m : Int) + 1024) = (mx : Int) := by rw [IntKind.wrap_u64]; omega
        have HMN : Hid (((spMin m e : Nat) : Int) = (mn : Int) ∧ spMin m e < 18446744073709551616) := by
          have : spMin m e = mn := by unfold spMin; rw [if_neg hA, hz11, hmn]
          rw [this]; exact ⟨rfl, by omega⟩
        have HMX : Hid (((spMax m e : Nat) : Int) = (mx : Int) ∧ spMax m e < 18446744073709551616) := by
          have : spMax m e = mx := by unfold spMax; rw [hz11, hmx]
          rw [this]; exact ⟨rfl, by omega⟩
        have hml : (m : Int) / 2048 < 9223372036854775808 := by omega
        have HmA := Lib.hid hA
        clear hodd hmn hmx hz hA
        have he0' : decide (-1085 < e) = false := by simp; omega
        clear hm0 he0
        go_enter Tryd.func41, Tryd.ntmps41
        go_wp2_with fail
        refine (l10_m _ w (by omega) (by omega)).mono ?_
        rintro x w1 ⟨rfl, rfl⟩
        go_wp2_with fail
        obtain ⟨pv, hpv⟩ : ∃ pv : Int, pv = -((e + 11) * 78913 / 262144) := ⟨_, rfl⟩
        rw [← hpv]
        have hpE2 : Hid (spP m e = pv) := by rw [hpv]; exact hpE
        clear hpv hpE
        have hpE := hpE2
        clear hpE2
        have hpv1 : -348 ≤ pv := by have := HK.out; have := hpE.out; omega
        have hpv2 : pv ≤ 347 := by have := HK.out; have := hpE.out; omega
        have K := HK.out
        have hpe := hpE.out
        refine (l2_any _ _ (by omega) (by omega)).mono ?_
        rintro x w2 ⟨rfl, rfl⟩
        clear K hpe
        go_wp2_with fail
        have K := HK.out
        have hpe := hpE.out
        refine (prescale_any w.heap.size _ _ _ _ _ _ (spP m e + 348).toNat (row10 (spP m e)) _ hG (heap_alloc_new w _) (HTA.out) (by omega) HROW.out (by omega) (by omega) (by omega) (by omega)).mono ?_
        rintro x w3 ⟨rfl, hw3⟩
        have HB3 : Hid (Below w.heap.size w w3) := by
          rw [hw3]
          exact ((((Below.refl _ _).alloc (Nat.le_refl _) _).setCell (Nat.le_refl _) _).setCell (Nat.le_refl _) _).setCell (Nat.le_refl _) _
        have HSC : Hid (ScalerAt w3 w.heap.size (row10 (spP m e)).1 (row10 (spP m e)).2 (spS m e).toNat) := by
          rw [hw3]
          refine ⟨by go_simp, by go_simp, ?_⟩
          rw [show (((spS m e).toNat : Nat) : Int) = spS m e by omega]
          unfold spS
          rw [hpe]
          go_simp
        have hz3 : w3.heap.size = w.heap.size + 1 := by rw [hw3]; simp
        clear hw3
        have cMin := scl_any m e (spMin m e) w.heap.size w3 (HMN.out.2) (by omega) HSC.out
        rw [HMN.out.1] at cMin
        have uMin := scl_lt m e (spMin m e) HMN.out.2
        have uMax := scl_lt m e (spMax m e) HMX.out.2
        have uMid := scl_lt m e m (by omega)
        obtain ⟨S1, hS1⟩ : ∃ S1, S1 = scl m e (spMin m e) := ⟨_, rfl⟩
        obtain ⟨S2, hS2⟩ : ∃ S2, S2 = scl m e (spMax m e) := ⟨_, rfl⟩
        obtain ⟨S3, hS3⟩ : ∃ S3, S3 = scl m e m := ⟨_, rfl⟩
        rw [← hS1] at cMin uMin
        rw [← hS2] at uMax
        rw [← hS3] at uMid
        have E1 := Lib.hid hS1
        have E2 := Lib.hid hS2
        have E3 := Lib.hid hS3
        have CMin := Lib.hid cMin
        clear K hpe cMin hS1 hS2 hS3
        go_wp2_with fail
        refine CMin.out.mono ?_
        rintro x w4 ⟨rfl, hb4⟩
        have HSC4 := Lib.hid (HSC.out.below (by omega) hb4)
        have HB4 : Hid (Below w.heap.size w w4) := HB3.out.trans (hb4.mono (by omega))
        have hz4 := hb4.size
        clear hb4
        go_wp2_with fail
        obtain ⟨N1, hN1⟩ : ∃ N1 : Nat, N1 = (((S1 : Int) + (od : Int)) % 18446744073709551616).toNat := ⟨_, rfl⟩
        have n1l : N1 < 18446744073709551616 := by omega
        have cN1 := nudge_m S1 (od : Int) w4 uMin (by omega) (by omega)
        rw [show ((S1 : Int) + (od : Int)) % 18446744073709551616 = (N1 : Int) by omega] at cN1
        have HN1 := Lib.hid hN1
        have CN1 := Lib.hid cN1
        clear hN1 cN1
        refine CN1.out.mono ?_
        rintro x w5 ⟨rfl, rfl⟩
        go_wp2_with fail
        refine (ceil_m N1 _ n1l).mono ?_
        rintro x w5 ⟨rfl, rfl⟩
        obtain ⟨L, hL⟩ : ∃ L : Nat, L = (N1 + 3) % 18446744073709551616 / 4 := ⟨_, rfl⟩
        rw [← hL]
        have HL : Hid (spLo m e = L) := by
          show _ = _
          unfold spLo
          rw [hL, HN1.out, E1.out, HOD.out]
          all_goals rfl
        have lL : L < 18446744073709551616 := by omega
        clear hL
        have K := HK.out
        have cMax := scl_any m e (spMax m e) w.heap.size w4 (HMX.out.2) (by omega) HSC4.out
        rw [HMX.out.1, ← E2.out] at cMax
        have CMax := Lib.hid cMax
        clear K cMax
        go_wp2_with fail
        refine CMax.out.mono ?_
        rintro x w6 ⟨rfl, hb6⟩
        have HSC6 := Lib.hid (HSC4.out.below (by omega) hb6)
        have HB6 : Hid (Below w.heap.size w w6) := HB4.out.trans (hb6.mono (by omega))
        have hz6 := hb6.size
        clear hb6
        go_wp2_with fail
        obtain ⟨N2, hN2⟩ : ∃ N2 : Nat, N2 = (((S2 : Int) - (od : Int)) % 18446744073709551616).toNat := ⟨_, rfl⟩
        have n2l : N2 < 18446744073709551616 := by omega
        have cN2 := nudge_m S2 (-(od : Int)) w6 uMax (by omega) (by omega)
        rw [show ((S2 : Int) + -(od : Int)) % 18446744073709551616 = (N2 : Int) by omega] at cN2
        have HN2 := Lib.hid hN2
        have CN2 := Lib.hid cN2
        clear hN2 cN2
        refine CN2.out.mono ?_
        rintro x w7 ⟨rfl, rfl⟩
        go_wp2_with fail
        refine (floor_m N2 _ n2l).mono ?_
        rintro x w7 ⟨rfl, rfl⟩
        obtain ⟨T, hT⟩ : ∃ T : Nat, T = N2 / 4 := ⟨_, rfl⟩
        rw [← hT]
        have HT2 : Hid (spHi m e = T) := by
          show _ = _
          unfold spHi
          rw [hT, HN2.out, E2.out, HOD.out]
          all_goals rfl
        have lT : T < 18446744073709551616 := by omega
        clear hT
        have hw10 : IntKind.u64.wrap ((T : Int) / 10 * 10) = ((T / 10 * 10 : Nat) : Int) := by rw [IntKind.wrap_u64]; omega
        have hpw : IntKind.i64.wrap (-(pv - 1)) = -(pv - 1) := by have := HK.out; have := hpE.out; rw [IntKind.wrap_i64]; omega
        have HM2 := Lib.hid hm2
        clear hod hmnw hmxw hml hmb hm hm2 he0'
        by_cases hc : L ≤ T / 10 * 10
        · have hc' : (L : Int) ≤ ((T / 10 * 10 : Nat) : Int) := by omega
          have HC := Lib.hid hc
          clear hc
          go_wp2_with fail
          go_ret2
          refine ⟨?_, HB6.out⟩
          have hD : shortD m e = T / 10 := by unfold shortD; rw [HL.out, HT2.out, if_pos HC.out]
          have hP : shortP m e = -(pv - 1) := by unfold shortP; rw [HL.out, HT2.out, if_pos HC.out, hpE.out]
          rw [hD, hP]
          rfl
        · have hc' : ¬ ((L : Int) ≤ ((T / 10 * 10 : Nat) : Int)) := by omega
          have HC := Lib.hid hc
          clear hc
          have hpw2 : IntKind.i64.wrap (-(pv)) = -(pv) := by have := HK.out; have := hpE.out; rw [IntKind.wrap_i64]; omega
          have hP : Hid (shortP m e = -(pv)) := by show _ = _; unfold shortP; rw [HL.out, HT2.out, if_neg HC.out, hpE.out]
          by_cases hd : L < T
          · have hD : Hid (shortD m e = (S3 + 1 + S3 / 4 % 2) % 18446744073709551616 / 4) := by
              show _ = _
              unfold shortD spMid; rw [HL.out, HT2.out, if_neg HC.out, if_pos hd, ← E3.out]
            have K := HK.out
            have cMid := scl_any m e m w.heap.size w6 HM2.out (by omega) HSC6.out
            rw [← E3.out] at cMid
            have CMid := Lib.hid cMid
            clear K cMid
            go_wp2_with fail
            refine CMid.out.mono ?_
            rintro x w8 ⟨rfl, hb8⟩
            have HB8 : Hid (Below w.heap.size w w8) := HB6.out.trans (hb8.mono (by omega))
            clear hb8
            go_wp2_with fail
            refine (round_m S3 _ uMid).mono ?_
            rintro x w9 ⟨rfl, rfl⟩
            rw [← hD.out]
            go_wp2_with fail
            go_ret2
            refine ⟨?_, HB8.out⟩
            rw [hP.out]
            rfl
          · have hD : Hid (shortD m e = L) := by
              show _ = _
              unfold shortD; rw [HL.out, HT2.out, if_neg HC.out, if_neg hd]
            go_wp2_with fail
            go_ret2
            refine ⟨?_, HB6.out⟩
            rw [hD.out, hP.out]
            rfl
      · have hmb : ((m : Int) == 9223372036854775808) = false := by simp; omega
        have hok := okE_any m e he1 he2
        unfold okE at hok
        rw [decide_eq_true_eq] at hok
        have hpE : Hid (spP m e = -((e + 11) * 78913 / 262144)) := by show _ = _; unfold spP; rw [if_neg hA, if_pos hB]
        have HTA : Hid (P10At (w.alloc (.cells #[.int .u64 0, .int .u64 0, .int .i64 0] 85))) := HT.out.below hG ((Below.refl _ _).alloc (Nat.le_refl _) _)
        have HROW : Hid (Pinned.pow10Rows[(spP m e + 348).toNat]? = some (row10 (spP m e))) := row10_at hok.1 hok.2.1
        have HK := Lib.hid hok
        clear hok
        have hz11 : spZ e = 11 := by unfold spZ; rw [if_pos hB]
        rw [hz11] at hz
        obtain ⟨od, hodd⟩ : ∃ od, od = m / 2048 % 2 := ⟨_, rfl⟩
        have od1 : od ≤ 1 := by omega
        have hod : bits .and .i64 ((m : Int) / 2048) 1 = (od : Int) := by
          have := i64_and_nat (m / 2048) 1 (by omega) (by omega)
          rw [nat_mask1, ← hodd] at this
          rw [← this]; congr 1
        have HOD : Hid (spOdd m e = od) := by show _ = _; unfold spOdd; rw [hz11, hodd]
        obtain ⟨mn, hmn⟩ : ∃ mn, mn = m - 1024 := ⟨_, rfl⟩
        obtain ⟨mx, hmx⟩ : ∃ mx, mx = m + 1024 := ⟨_, rfl⟩
        have hmnw : IntKind.u64.wrap ((m : Int) - 1024) = (mn : Int) := by rw [IntKind.wrap_u64]; omega
        have hmxw : IntKind.u64.wrap ((m : Int) + 1024) = (mx : Int) := by rw [IntKind.wrap_u64]; omega
        have HMN : Hid (((spMin m e : Nat) : Int) = (mn : Int) ∧ spMin m e < 18446744073709551616) := by
          have : spMin m e = mn := by unfold spMin; rw [if_neg hA, hz11, hmn]
          rw [this]; exact ⟨rfl, by omega⟩
        have HMX : Hid (((spMax m e : Nat) : Int) = (mx : Int) ∧ spMax m e < 18446744073709551616) := by
          have : spMax m e = mx := by unfold spMax; rw [hz11, hmx]
          rw [this]; exact ⟨rfl, by omega⟩
        have hml : (m : Int) / 2048 < 9223372036854775808 := by omega
        have HmA := Lib.hid hA
        clear hodd hmn hmx hz hA
        go_enter Tryd.func41, Tryd.ntmps41
        go_wp2_with fail
        refine (l10_m _ w (by omega) (by omega)).mono ?_
        rintro x w1 ⟨rfl, rfl⟩
        go_wp2_with fail
        obtain ⟨pv, hpv⟩ : ∃ pv : Int, pv = -((e + 11) * 78913 / 262144) := ⟨_, rfl⟩
        rw [← hpv]
        have hpE2 : Hid (spP m e = pv) := by rw [hpv]; exact hpE
        clear hpv hpE
        have hpE := hpE2
        clear hpE2
        have hpv1 : -348 ≤ pv := by have := HK.out; have := hpE.out; omega
        have hpv2 : pv ≤ 347 := by have := HK.out; have := hpE.out; omega
        have K := HK.out
        have hpe := hpE.out
        refine (l2_any _ _ (by omega) (by omega)).mono ?_
        rintro x w2 ⟨rfl, rfl⟩
        clear K hpe
        go_wp2_with fail
        have K := HK.out
        have hpe := hpE.out
        refine (prescale_any w.heap.size _ _ _ _ _ _ (spP m e + 348).toNat (row10 (spP m e)) _ hG (heap_alloc_new w _) (HTA.out) (by omega) HROW.out (by omega) (by omega) (by omega) (by omega)).mono ?_
        rintro x w3 ⟨rfl, hw3⟩
        have HB3 : Hid (Below w.heap.size w w3) := by
          rw [hw3]
          exact ((((Below.refl _ _).alloc (Nat.le_refl _) _).setCell (Nat.le_refl _) _).setCell (Nat.le_refl _) _).setCell (Nat.le_refl _) _
        have HSC : Hid (ScalerAt w3 w.heap.size (row10 (spP m e)).1 (row10 (spP m e)).2 (spS m e).toNat) := by
          rw [hw3]
          refine ⟨by go_simp, by go_simp, ?_⟩
          rw [show (((spS m e).toNat : Nat) : Int) = spS m e by omega]
          unfold spS
          rw [hpe]
          go_simp
        have hz3 : w3.heap.size = w.heap.size + 1 := by rw [hw3]; simp
        clear hw3
        have cMin := scl_any m e (spMin m e) w.heap.size w3 (HMN.out.2) (by omega) HSC.out
        rw [HMN.out.1] at cMin
        have uMin := scl_lt m e (spMin m e) HMN.out.2
        have uMax := scl_lt m e (spMax m e) HMX.out.2
        have uMid := scl_lt m e m (by omega)
        obtain ⟨S1, hS1⟩ : ∃ S1, S1 = scl m e (spMin m e) := ⟨_, rfl⟩
        obtain ⟨S2, hS2⟩ : ∃ S2, S2 = scl m e (spMax m e) := ⟨_, rfl⟩
        obtain ⟨S3, hS3⟩ : ∃ S3, S3 = scl m e m := ⟨_, rfl⟩
        rw [← hS1] at cMin uMin
        rw [← hS2] at uMax
        rw [← hS3] at uMid
        have E1 := Lib.hid hS1
        have E2 := Lib.hid hS2
        have E3 := Lib.hid hS3
        have CMin := Lib.hid cMin
        clear K hpe cMin hS1 hS2 hS3
        go_wp2_with fail
        refine CMin.out.mono ?_
        rintro x w4 ⟨rfl, hb4⟩
        have HSC4 := Lib.hid (HSC.out.below (by omega) hb4)
        have HB4 : Hid (Below w.heap.size w w4) := HB3.out.trans (hb4.mono (by omega))
        have hz4 := hb4.size
        clear hb4
        go_wp2_with fail
        obtain ⟨N1, hN1⟩ : ∃ N1 : Nat, N1 = (((S1 : Int) + (od : Int)) % 18446744073709551616).toNat := ⟨_, rfl⟩
        have n1l : N1 < 18446744073709551616 := by omega
        have cN1 := nudge_m S1 (od : Int) w4 uMin (by omega) (by omega)
        rw [show ((S1 : Int) + (od : Int)) % 18446744073709551616 = (N1 : Int) by omega] at cN1
        have HN1 := Lib.hid hN1
        have CN1 := Lib.hid cN1
        clear hN1 cN1
        refine CN1.out.mono ?_
        rintro x w5 ⟨rfl, rfl⟩
        go_wp2_with fail
        refine (ceil_m N1 _ n1l).mono ?_
        rintro x w5 ⟨rfl, rfl⟩
        obtain ⟨L, hL⟩ : ∃ L : Nat, L = (N1 + 3) % 18446744073709551616 / 4 := ⟨_, rfl⟩
        rw [← hL]
        have HL : Hid (spLo m e = L) := by
          show _ = _
          unfold spLo
          rw [hL, HN1.out, E1.out, HOD.out]
          all_goals rfl
        have lL : L < 18446744073709551616 := by omega
        clear hL
        have K := HK.out
        have cMax := scl_any m e (spMax m e) w.heap.size w4 (HMX.out.2) (by omega) HSC4.out
        rw [HMX.out.1, ← E2.out] at cMax
        have CMax := Lib.hid cMax
        clear K cMax
        go_wp2_with fail
        refine CMax.out.mono ?_
        rintro x w6 ⟨rfl, hb6⟩
        have HSC6 := Lib.hid (HSC4.out.below (by omega) hb6)
        have HB6 : Hid (Below w.heap.size w w6) := HB4.out.trans (hb6.mono (by omega))
        have hz6 := hb6.size
        clear hb6
        go_wp2_with fail
        obtain ⟨N2, hN2⟩ : ∃ N2 : Nat, N2 = (((S2 : Int) - (od : Int)) % 18446744073709551616).toNat := ⟨_, rfl⟩
        have n2l : N2 < 18446744073709551616 := by omega
        have cN2 := nudge_m S2 (-(od : Int)) w6 uMax (by omega) (by omega)
        rw [show ((S2 : Int) + -(od : Int)) % 18446744073709551616 = (N2 : Int) by omega] at cN2
        have HN2 := Lib.hid hN2
        have CN2 := Lib.hid cN2
        clear hN2 cN2
        refine CN2.out.mono ?_
        rintro x w7 ⟨rfl, rfl⟩
        go_wp2_with fail
        refine (floor_m N2 _ n2l).mono ?_
        rintro x w7 ⟨rfl, rfl⟩
        obtain ⟨T, hT⟩ : ∃ T : Nat, T = N2 / 4 := ⟨_, rfl⟩
        rw [← hT]
        have HT2 : Hid (spHi m e = T) := by
          show _ = _
          unfold spHi
          rw [hT, HN2.out, E2.out, HOD.out]
          all_goals rfl
        have lT : T < 18446744073709551616 := by omega
        clear hT
        have hw10 : IntKind.u64.wrap ((T : Int) / 10 * 10) = ((T / 10 * 10 : Nat) : Int) := by rw [IntKind.wrap_u64]; omega
        have hpw : IntKind.i64.wrap (-(pv - 1)) = -(pv - 1) := by have := HK.out; have := hpE.out; rw [IntKind.wrap_i64]; omega
        have HM2 := Lib.hid hm2
        clear hod hmnw hmxw hml hmb hm0 hm hm2
        by_cases hc : L ≤ T / 10 * 10
        · have hc' : (L : Int) ≤ ((T / 10 * 10 : Nat) : Int) := by omega
          have HC := Lib.hid hc
          clear hc
          go_wp2_with fail
          go_ret2
          refine ⟨?_, HB6.out⟩
          have hD : shortD m e = T / 10 := by unfold shortD; rw [HL.out, HT2.out, if_pos HC.out]
          have hP : shortP m e = -(pv - 1) := by unfold shortP; rw [HL.out, HT2.out, if_pos HC.out, hpE.out]
          rw [hD, hP]
          rfl
        · have hc' : ¬ ((L : Int) ≤ ((T / 10 * 10 : Nat) : Int)) := by omega
          have HC := Lib.hid hc
          clear hc
          have hpw2 : IntKind.i64.wrap (-(pv)) = -(pv) := by have := HK.out; have := hpE.out; rw [IntKind.wrap_i64]; omega
          have hP : Hid (shortP m e = -(pv)) := by show _ = _; unfold shortP; rw [HL.out, HT2.out, if_neg HC.out, hpE.out]
          by_cases hd : L < T
          · have hD : Hid (shortD m e = (S3 + 1 + S3 / 4 % 2) % 18446744073709551616 / 4) := by
              show _ = _
              unfold shortD spMid; rw [HL.out, HT2.out, if_neg HC.out, if_pos hd, ← E3.out]
            have K := HK.out
            have cMid := scl_any m e m w.heap.size w6 HM2.out (by omega) HSC6.out
            rw [← E3.out] at cMid
            have CMid := Lib.hid cMid
            clear K cMid
            go_wp2_with fail
            refine CMid.out.mono ?_
            rintro x w8 ⟨rfl, hb8⟩
            have HB8 : Hid (Below w.heap.size w w8) := HB6.out.trans (hb8.mono (by omega))
            clear hb8
            go_wp2_with fail
            refine (round_m S3 _ uMid).mono ?_
            rintro x w9 ⟨rfl, rfl⟩
            rw [← hD.out]
            go_wp2_with fail
            go_ret2
            refine ⟨?_, HB8.out⟩
            rw [hP.out]
            rfl
          · have hD : Hid (shortD m e = L) := by
              show _ = _
              unfold shortD; rw [HL.out, HT2.out, if_neg HC.out, if_neg hd]
            go_wp2_with fail
            go_ret2
            refine ⟨?_, HB6.out⟩
            rw [hD.out, hP.out]
            rfl
    · exact short_C m e w hm hm2 hz he1 (by omega) HT.out hG
end Go.Proofs.YtnklnenjdffbaaaDoor
