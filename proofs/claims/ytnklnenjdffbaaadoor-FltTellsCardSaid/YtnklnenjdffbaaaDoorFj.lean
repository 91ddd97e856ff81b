/- strconv.fmtEFG in the form 'g', shortest: joined; zero. -/
import Derived.Test.YtnklnenjdffbaaaDoorFh
import Derived.Test.YtnklnenjdffbaaaDoorFi
namespace Go.Proofs.YtnklnenjdffbaaaDoor
open Go.RowKit Go.Sort
open Go.Lib (byteCells)
set_option linter.unusedVariables false
set_option maxRecDepth 100000
theorem take_one {l : List UInt8} {x : UInt8} (h : l[0]? = some x) : l.take 1 = [x] := by
  cases l with
  | nil => cases h
  | cons y r => simp at h; subst h; rfl
theorem fmtE_s (l : List UInt8) (e : Int) (x : UInt8) (hx : l[0]? = some x) (h1 : l.length = 1) : fmtE l e = [x] ++ [101] ++ [if e < 0 then 45 else 43] ++ expB e.natAbs := by
  unfold fmtE
  rw [take_one hx, if_neg (by omega), List.append_nil]
theorem fmtE_m (l : List UInt8) (e : Int) (x : UInt8) (hx : l[0]? = some x) (h1 : 2 ≤ l.length) : fmtE l e = [x] ++ [46] ++ (l.drop 1).take (l.length - 1) ++ [101] ++ [if e < 0 then 45 else 43] ++ expB e.natAbs := by
  unfold fmtE
  rw [take_one hx, if_pos (by omega), List.take_of_length_le (by simp)]
  simp
set_option maxHeartbeats 1000000 in
theorem efg_any (neg : Bool) (B blk : Nat) (v : Value) (l : List UInt8) (dp : Int) (w : World) (D : Dst B blk l w w v []) (hl : 1 ≤ l.length) (hl2 : l.length ≤ 20) (hd1 : -390 ≤ dp) (hd2 : dp ≤ 390) :
    Calls Tryd.prog 31 #[v, .bool neg, .slice (some ⟨blk, 0, none⟩) 32 32, .int .i64 dp, .int .i64 (l.length : Nat), .int .i64 (l.length : Nat), .int .u8 103, .bool true] w fun e w' => ∃ v', e = .returned v' ∧ Dst B blk l w w' v' (sgnB neg ++ fmtG l dp) := by
  obtain ⟨x0, hx0⟩ : ∃ x0, l[0]? = some x0 := ⟨_, List.getElem?_eq_getElem (by omega)⟩
  unfold fmtG
  by_cases hE : dp - 1 < -4 ∨ 6 ≤ dp - 1
  · rw [if_pos hE]
    by_cases hm : 2 ≤ l.length
    · have hF := fmtE_m l (dp - 1) x0 hx0 hm
      by_cases he : dp - 1 < -4
      · rw [if_pos (by omega), show (dp - 1).natAbs = (-(dp - 1)).toNat by omega] at hF
        by_cases c1 : -(dp - 1) < 10
        · cases neg
          · exact efg_E_pmn1 B blk v l x0 l.length dp w D rfl hm hl2 hx0 he c1 _ (by show _ = _; rw [hF]; simp [sgnB])
          · exact efg_E_nmn1 B blk v l x0 l.length dp w D rfl hm hl2 hx0 he c1 _ (by show _ = _; rw [hF]; simp [sgnB])
        by_cases c2 : -(dp - 1) < 100
        · cases neg
          · exact efg_E_pmn2 B blk v l x0 l.length dp w D rfl hm hl2 hx0 he (by omega) c2 _ (by show _ = _; rw [hF]; simp [sgnB])
          · exact efg_E_nmn2 B blk v l x0 l.length dp w D rfl hm hl2 hx0 he (by omega) c2 _ (by show _ = _; rw [hF]; simp [sgnB])
        · cases neg
          · exact efg_E_pmn3 B blk v l x0 l.length dp w D rfl hm hl2 hx0 he (by omega) (by omega) _ (by show _ = _; rw [hF]; simp [sgnB])
          · exact efg_E_nmn3 B blk v l x0 l.length dp w D rfl hm hl2 hx0 he (by omega) (by omega) _ (by show _ = _; rw [hF]; simp [sgnB])
      · have he' : 6 ≤ dp - 1 := by omega
        rw [if_neg (by omega), show (dp - 1).natAbs = (dp - 1).toNat by omega] at hF
        by_cases c1 : dp - 1 < 10
        · cases neg
          · exact efg_E_pmp1 B blk v l x0 l.length dp w D rfl hm hl2 hx0 he' c1 _ (by show _ = _; rw [hF]; simp [sgnB])
          · exact efg_E_nmp1 B blk v l x0 l.length dp w D rfl hm hl2 hx0 he' c1 _ (by show _ = _; rw [hF]; simp [sgnB])
        by_cases c2 : dp - 1 < 100
        · cases neg
          · exact efg_E_pmp2 B blk v l x0 l.length dp w D rfl hm hl2 hx0 he' (by omega) c2 _ (by show _ = _; rw [hF]; simp [sgnB])
          · exact efg_E_nmp2 B blk v l x0 l.length dp w D rfl hm hl2 hx0 he' (by omega) c2 _ (by show _ = _; rw [hF]; simp [sgnB])
        · cases neg
          · exact efg_E_pmp3 B blk v l x0 l.length dp w D rfl hm hl2 hx0 he' (by omega) (by omega) _ (by show _ = _; rw [hF]; simp [sgnB])
          · exact efg_E_nmp3 B blk v l x0 l.length dp w D rfl hm hl2 hx0 he' (by omega) (by omega) _ (by show _ = _; rw [hF]; simp [sgnB])
    · have h1 : l.length = 1 := by omega
      have hF := fmtE_s l (dp - 1) x0 hx0 h1
      rw [h1]
      by_cases he : dp - 1 < -4
      · rw [if_pos (by omega), show (dp - 1).natAbs = (-(dp - 1)).toNat by omega] at hF
        by_cases c1 : -(dp - 1) < 10
        · cases neg
          · exact efg_E_psn1 B blk v l x0 dp w D h1 hx0 he c1 _ (by show _ = _; rw [hF]; simp [sgnB])
          · exact efg_E_nsn1 B blk v l x0 dp w D h1 hx0 he c1 _ (by show _ = _; rw [hF]; simp [sgnB])
        by_cases c2 : -(dp - 1) < 100
        · cases neg
          · exact efg_E_psn2 B blk v l x0 dp w D h1 hx0 he (by omega) c2 _ (by show _ = _; rw [hF]; simp [sgnB])
          · exact efg_E_nsn2 B blk v l x0 dp w D h1 hx0 he (by omega) c2 _ (by show _ = _; rw [hF]; simp [sgnB])
        · cases neg
          · exact efg_E_psn3 B blk v l x0 dp w D h1 hx0 he (by omega) (by omega) _ (by show _ = _; rw [hF]; simp [sgnB])
          · exact efg_E_nsn3 B blk v l x0 dp w D h1 hx0 he (by omega) (by omega) _ (by show _ = _; rw [hF]; simp [sgnB])
      · have he' : 6 ≤ dp - 1 := by omega
        rw [if_neg (by omega), show (dp - 1).natAbs = (dp - 1).toNat by omega] at hF
        by_cases c1 : dp - 1 < 10
        · cases neg
          · exact efg_E_psp1 B blk v l x0 dp w D h1 hx0 he' c1 _ (by show _ = _; rw [hF]; simp [sgnB])
          · exact efg_E_nsp1 B blk v l x0 dp w D h1 hx0 he' c1 _ (by show _ = _; rw [hF]; simp [sgnB])
        by_cases c2 : dp - 1 < 100
        · cases neg
          · exact efg_E_psp2 B blk v l x0 dp w D h1 hx0 he' (by omega) c2 _ (by show _ = _; rw [hF]; simp [sgnB])
          · exact efg_E_nsp2 B blk v l x0 dp w D h1 hx0 he' (by omega) c2 _ (by show _ = _; rw [hF]; simp [sgnB])
        · cases neg
          · exact efg_E_psp3 B blk v l x0 dp w D h1 hx0 he' (by omega) (by omega) _ (by show _ = _; rw [hF]; simp [sgnB])
          · exact efg_E_nsp3 B blk v l x0 dp w D h1 hx0 he' (by omega) (by omega) _ (by show _ = _; rw [hF]; simp [sgnB])
  · rw [if_neg hE]
    unfold fmtF
    by_cases hp : 0 < dp
    · rw [if_pos hp]
      obtain ⟨d, hd⟩ : ∃ d : Nat, dp = d := ⟨dp.toNat, by omega⟩
      subst hd
      rw [Int.toNat_natCast]
      by_cases hn : d < l.length
      · rw [if_pos hn]
        have e1 : d - l.length = 0 := by omega
        have e2 : (l.drop d).take (l.length - d) = l.drop d := List.take_of_length_le (by simp)
        cases neg
        · exact efg_F_pb B blk v l l.length d (by omega) (by omega) hn w D rfl hl hl2 _ (by show _ = _; rw [e1, e2]; simp [sgnB])
        · exact efg_F_nb B blk v l l.length d (by omega) (by omega) hn w D rfl hl hl2 _ (by show _ = _; rw [e1, e2]; simp [sgnB])
      · rw [if_neg hn]
        have e1 : l.take d = l := List.take_of_length_le (by omega)
        have e2 : l.take l.length = l := List.take_of_length_le (by omega)
        cases neg
        · exact efg_F_pa B blk v l l.length d (by omega) (by omega) (by omega) w D rfl hl hl2 _ (by show _ = _; rw [e1, e2]; simp [sgnB])
        · exact efg_F_na B blk v l l.length d (by omega) (by omega) (by omega) w D rfl hl hl2 _ (by show _ = _; rw [e1, e2]; simp [sgnB])
    · rw [if_neg hp]
      obtain ⟨z, hz⟩ : ∃ z : Nat, dp = -(z : Int) := ⟨(-dp).toNat, by omega⟩
      subst hz
      have e2 : l.take l.length = l := List.take_of_length_le (by omega)
      rw [show (- -(z : Int)).toNat = z by omega]
      cases neg
      · exact efg_F_pz B blk v l l.length z (by omega) w D rfl hl hl2 _ (by show _ = _; rw [e2]; simp [sgnB])
      · exact efg_F_nz B blk v l l.length z (by omega) w D rfl hl hl2 _ (by show _ = _; rw [e2]; simp [sgnB])
set_option maxHeartbeats 1000000 in
theorem efg_zero_p (B blk : Nat) (v : Value) (w : World) (D : Dst B blk [] w w v []) :
    Calls Tryd.prog 31 #[v, .bool false, .slice none 0 0, .int .i64 0, .int .i64 0, .int .i64 (-1), .int .u8 103, .bool true] w fun e w' => ∃ v', e = .returned v' ∧ Dst B blk [] w w' v' [48] := by
  go_enter Tryd.func31, Tryd.ntmps31
  go_wp2_with (first
    | (at_builtin; refine wpList_appN rfl (.tmp 209) (.tmp 210) rfl D rfl [48] _ _ _ _ rfl rfl rfl (by simp) ?_; intro v1 w1 D1))
  go_ret
  exact ⟨_, rfl, D1⟩
set_option maxHeartbeats 1000000 in
theorem efg_zero_n (B blk : Nat) (v : Value) (w : World) (D : Dst B blk [] w w v []) :
    Calls Tryd.prog 31 #[v, .bool true, .slice none 0 0, .int .i64 0, .int .i64 0, .int .i64 (-1), .int .u8 103, .bool true] w fun e w' => ∃ v', e = .returned v' ∧ Dst B blk [] w w' v' [45, 48] := by
  go_enter Tryd.func31, Tryd.ntmps31
  go_wp2_with (first
    | (at_builtin; refine wpList_appN rfl (.tmp 179) (.tmp 180) rfl D rfl [45] _ _ _ _ rfl rfl rfl (by simp) ?_; intro v0 w0 D0)
    | (at_builtin; refine wpList_appN rfl (.tmp 209) (.tmp 210) rfl D0 rfl [48] _ _ _ _ rfl rfl rfl (by simp) ?_; intro v1 w1 D1))
  go_ret
  exact ⟨_, rfl, D1⟩
end Go.Proofs.YtnklnenjdffbaaaDoor
