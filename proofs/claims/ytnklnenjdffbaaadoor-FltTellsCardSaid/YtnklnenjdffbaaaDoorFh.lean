/- strconv.fmtEFG in the form 'g', shortest: with an exponent: a theorem for each way (printed by genE.py). -/
import Derived.Test.YtnklnenjdffbaaaDoorFg
namespace Go.Proofs.YtnklnenjdffbaaaDoor
open Go.RowKit Go.Sort
open Go.Lib (byteCells)
set_option linter.unusedVariables false
set_option maxRecDepth 100000
set_option maxHeartbeats 1000000 in
theorem efg_E_psp1 (B blk : Nat) (v : Value) (l : List UInt8) (x0 : UInt8) (dp : Int) (w : World) (D : Dst B blk l w w v []) (hn : Hid (l.length = 1)) (hx0 : l[0]? = some x0) (hd : 6 ≤ dp - 1) (ha : (dp - 1) < 10) (F : List UInt8) (hF : Hid (F = [] ++ [x0] ++ [101] ++ [43] ++ expB ((dp - 1)).toNat)) :
    Calls Tryd.prog 31 #[v, .bool false, .slice (some ⟨blk, 0, none⟩) 32 32, .int .i64 dp, .int .i64 1, .int .i64 1, .int .u8 103, .bool true] w fun e w' => ∃ v', e = .returned v' ∧ Dst B blk l w w' v' F := by
  have HX := Lib.hid hx0
  clear hx0
  have c1 := D.cell 0 x0 HX.out
  go_enter Tryd.func31, Tryd.ntmps31
  go_wp2_with (first
    | (at_builtin; refine wpList_appN rfl (.tmp 87) (.tmp 89) rfl D rfl [x0] _ _ _ _ rfl rfl rfl (by simp) ?_; intro v1 w1 D1)
    | (at_builtin; refine wpList_appN rfl (.tmp 120) (.tmp 122) rfl D1 rfl [101] _ _ _ _ rfl rfl rfl (by simp) ?_; intro v2 w2 D2)
    | (at_builtin; refine wpList_appN rfl (.tmp 132) (.tmp 134) rfl D2 rfl [43] _ _ _ _ rfl rfl rfl (by simp) ?_; intro v3 w3 D3)
    | (at_builtin; refine wpList_appN rfl (.tmp 155) (.tmp 159) rfl D3 rfl (expB ((dp - 1)).toNat) _ _ _ _ (exp1 (dp - 1) (by omega) (by omega)) rfl (expl1 (dp - 1) (by omega) (by omega)) (by simp) ?_; intro v4 w4 D4))
  go_ret
  exact ⟨v4, rfl, by rw [hF.out]; exact D4⟩
set_option maxHeartbeats 1000000 in
theorem efg_E_psp2 (B blk : Nat) (v : Value) (l : List UInt8) (x0 : UInt8) (dp : Int) (w : World) (D : Dst B blk l w w v []) (hn : Hid (l.length = 1)) (hx0 : l[0]? = some x0) (hd : 6 ≤ dp - 1) (ha : 10 ≤ (dp - 1)) (ha2 : (dp - 1) < 100) (F : List UInt8) (hF : Hid (F = [] ++ [x0] ++ [101] ++ [43] ++ expB ((dp - 1)).toNat)) :
    Calls Tryd.prog 31 #[v, .bool false, .slice (some ⟨blk, 0, none⟩) 32 32, .int .i64 dp, .int .i64 1, .int .i64 1, .int .u8 103, .bool true] w fun e w' => ∃ v', e = .returned v' ∧ Dst B blk l w w' v' F := by
  have HX := Lib.hid hx0
  clear hx0
  have c1 := D.cell 0 x0 HX.out
  go_enter Tryd.func31, Tryd.ntmps31
  go_wp2_with (first
    | (at_builtin; refine wpList_appN rfl (.tmp 87) (.tmp 89) rfl D rfl [x0] _ _ _ _ rfl rfl rfl (by simp) ?_; intro v1 w1 D1)
    | (at_builtin; refine wpList_appN rfl (.tmp 120) (.tmp 122) rfl D1 rfl [101] _ _ _ _ rfl rfl rfl (by simp) ?_; intro v2 w2 D2)
    | (at_builtin; refine wpList_appN rfl (.tmp 132) (.tmp 134) rfl D2 rfl [43] _ _ _ _ rfl rfl rfl (by simp) ?_; intro v3 w3 D3)
    | (at_builtin; refine wpList_appN rfl (.tmp 164) (.tmp 173) rfl D3 rfl (expB ((dp - 1)).toNat) _ _ _ _ (exp2 (dp - 1) (by omega) (by omega)) rfl (expl2 (dp - 1) (by omega) (by omega)) (by simp) ?_; intro v4 w4 D4))
  go_ret
  exact ⟨v4, rfl, by rw [hF.out]; exact D4⟩
set_option maxHeartbeats 1000000 in
theorem efg_E_psp3 (B blk : Nat) (v : Value) (l : List UInt8) (x0 : UInt8) (dp : Int) (w : World) (D : Dst B blk l w w v []) (hn : Hid (l.length = 1)) (hx0 : l[0]? = some x0) (hd : 6 ≤ dp - 1) (ha : 100 ≤ (dp - 1)) (ha2 : (dp - 1) ≤ 400) (F : List UInt8) (hF : Hid (F = [] ++ [x0] ++ [101] ++ [43] ++ expB ((dp - 1)).toNat)) :
    Calls Tryd.prog 31 #[v, .bool false, .slice (some ⟨blk, 0, none⟩) 32 32, .int .i64 dp, .int .i64 1, .int .i64 1, .int .u8 103, .bool true] w fun e w' => ∃ v', e = .returned v' ∧ Dst B blk l w w' v' F := by
  have HX := Lib.hid hx0
  clear hx0
  have c1 := D.cell 0 x0 HX.out
  go_enter Tryd.func31, Tryd.ntmps31
  go_wp2_with (first
    | (at_builtin; refine wpList_appN rfl (.tmp 87) (.tmp 89) rfl D rfl [x0] _ _ _ _ rfl rfl rfl (by simp) ?_; intro v1 w1 D1)
    | (at_builtin; refine wpList_appN rfl (.tmp 120) (.tmp 122) rfl D1 rfl [101] _ _ _ _ rfl rfl rfl (by simp) ?_; intro v2 w2 D2)
    | (at_builtin; refine wpList_appN rfl (.tmp 132) (.tmp 134) rfl D2 rfl [43] _ _ _ _ rfl rfl rfl (by simp) ?_; intro v3 w3 D3)
    | (at_builtin; refine wpList_appN rfl (.tmp 136) (.tmp 150) rfl D3 rfl (expB ((dp - 1)).toNat) _ _ _ _ (exp3 (dp - 1) (by omega) (by omega)) rfl (expl3 (dp - 1) (by omega) (by omega)) (by simp) ?_; intro v4 w4 D4))
  go_ret
  exact ⟨v4, rfl, by rw [hF.out]; exact D4⟩
set_option maxHeartbeats 1000000 in
theorem efg_E_psn1 (B blk : Nat) (v : Value) (l : List UInt8) (x0 : UInt8) (dp : Int) (w : World) (D : Dst B blk l w w v []) (hn : Hid (l.length = 1)) (hx0 : l[0]? = some x0) (hd : dp - 1 < -4) (ha : (-(dp - 1)) < 10) (F : List UInt8) (hF : Hid (F = [] ++ [x0] ++ [101] ++ [45] ++ expB ((-(dp - 1))).toNat)) :
    Calls Tryd.prog 31 #[v, .bool false, .slice (some ⟨blk, 0, none⟩) 32 32, .int .i64 dp, .int .i64 1, .int .i64 1, .int .u8 103, .bool true] w fun e w' => ∃ v', e = .returned v' ∧ Dst B blk l w w' v' F := by
  obtain ⟨a, hE⟩ : ∃ a : Nat, -(dp - 1) = (a : Int) := ⟨(-(dp - 1)).toNat, by omega⟩
  have ha0 : 5 ≤ a := by omega
  have ha1 : a < 10 := by omega
  rw [hE] at hF
  have HX := Lib.hid hx0
  clear hx0
  have c1 := D.cell 0 x0 HX.out
  go_enter Tryd.func31, Tryd.ntmps31
  go_wp2_with (first
    | (at_builtin; refine wpList_appN rfl (.tmp 87) (.tmp 89) rfl D rfl [x0] _ _ _ _ rfl rfl rfl (by simp) ?_; intro v1 w1 D1)
    | (at_builtin; refine wpList_appN rfl (.tmp 120) (.tmp 122) rfl D1 rfl [101] _ _ _ _ rfl rfl rfl (by simp) ?_; intro v2 w2 D2)
    | (at_builtin; refine wpList_appN rfl (.tmp 132) (.tmp 134) rfl D2 rfl [45] _ _ _ _ rfl rfl rfl (by simp) ?_; intro v3 w3 D3)
    | (at_builtin; refine wpList_appN rfl (.tmp 155) (.tmp 159) rfl D3 rfl (expB ((a : Int)).toNat) _ _ _ _ (exp1 (a : Int) (by omega) (by omega)) rfl (expl1 (a : Int) (by omega) (by omega)) (by simp) ?_; intro v4 w4 D4))
  go_ret
  exact ⟨v4, rfl, by rw [hF.out]; exact D4⟩
set_option maxHeartbeats 1000000 in
theorem efg_E_psn2 (B blk : Nat) (v : Value) (l : List UInt8) (x0 : UInt8) (dp : Int) (w : World) (D : Dst B blk l w w v []) (hn : Hid (l.length = 1)) (hx0 : l[0]? = some x0) (hd : dp - 1 < -4) (ha : 10 ≤ (-(dp - 1))) (ha2 : (-(dp - 1)) < 100) (F : List UInt8) (hF : Hid (F = [] ++ [x0] ++ [101] ++ [45] ++ expB ((-(dp - 1))).toNat)) :
    Calls Tryd.prog 31 #[v, .bool false, .slice (some ⟨blk, 0, none⟩) 32 32, .int .i64 dp, .int .i64 1, .int .i64 1, .int .u8 103, .bool true] w fun e w' => ∃ v', e = .returned v' ∧ Dst B blk l w w' v' F := by
  obtain ⟨a, hE⟩ : ∃ a : Nat, -(dp - 1) = (a : Int) := ⟨(-(dp - 1)).toNat, by omega⟩
  have ha0 : 5 ≤ a := by omega
  have ha1 : 10 ≤ a := by omega
  have ha3 : a < 100 := by omega
  rw [hE] at hF
  have HX := Lib.hid hx0
  clear hx0
  have c1 := D.cell 0 x0 HX.out
  go_enter Tryd.func31, Tryd.ntmps31
  go_wp2_with (first
    | (at_builtin; refine wpList_appN rfl (.tmp 87) (.tmp 89) rfl D rfl [x0] _ _ _ _ rfl rfl rfl (by simp) ?_; intro v1 w1 D1)
    | (at_builtin; refine wpList_appN rfl (.tmp 120) (.tmp 122) rfl D1 rfl [101] _ _ _ _ rfl rfl rfl (by simp) ?_; intro v2 w2 D2)
    | (at_builtin; refine wpList_appN rfl (.tmp 132) (.tmp 134) rfl D2 rfl [45] _ _ _ _ rfl rfl rfl (by simp) ?_; intro v3 w3 D3)
    | (at_builtin; refine wpList_appN rfl (.tmp 164) (.tmp 173) rfl D3 rfl (expB ((a : Int)).toNat) _ _ _ _ (exp2 (a : Int) (by omega) (by omega)) rfl (expl2 (a : Int) (by omega) (by omega)) (by simp) ?_; intro v4 w4 D4))
  go_ret
  exact ⟨v4, rfl, by rw [hF.out]; exact D4⟩
set_option maxHeartbeats 1000000 in
theorem efg_E_psn3 (B blk : Nat) (v : Value) (l : List UInt8) (x0 : UInt8) (dp : Int) (w : World) (D : Dst B blk l w w v []) (hn : Hid (l.length = 1)) (hx0 : l[0]? = some x0) (hd : dp - 1 < -4) (ha : 100 ≤ (-(dp - 1))) (ha2 : (-(dp - 1)) ≤ 400) (F : List UInt8) (hF : Hid (F = [] ++ [x0] ++ [101] ++ [45] ++ expB ((-(dp - 1))).toNat)) :
    Calls Tryd.prog 31 #[v, .bool false, .slice (some ⟨blk, 0, none⟩) 32 32, .int .i64 dp, .int .i64 1, .int .i64 1, .int .u8 103, .bool true] w fun e w' => ∃ v', e = .returned v' ∧ Dst B blk l w w' v' F := by
  obtain ⟨a, hE⟩ : ∃ a : Nat, -(dp - 1) = (a : Int) := ⟨(-(dp - 1)).toNat, by omega⟩
  have ha0 : 5 ≤ a := by omega
  have ha1 : 100 ≤ a := by omega
  have ha3 : a ≤ 400 := by omega
  rw [hE] at hF
  have HX := Lib.hid hx0
  clear hx0
  have c1 := D.cell 0 x0 HX.out
  go_enter Tryd.func31, Tryd.ntmps31
  go_wp2_with (first
    | (at_builtin; refine wpList_appN rfl (.tmp 87) (.tmp 89) rfl D rfl [x0] _ _ _ _ rfl rfl rfl (by simp) ?_; intro v1 w1 D1)
    | (at_builtin; refine wpList_appN rfl (.tmp 120) (.tmp 122) rfl D1 rfl [101] _ _ _ _ rfl rfl rfl (by simp) ?_; intro v2 w2 D2)
    | (at_builtin; refine wpList_appN rfl (.tmp 132) (.tmp 134) rfl D2 rfl [45] _ _ _ _ rfl rfl rfl (by simp) ?_; intro v3 w3 D3)
    | (at_builtin; refine wpList_appN rfl (.tmp 136) (.tmp 150) rfl D3 rfl (expB ((a : Int)).toNat) _ _ _ _ (exp3 (a : Int) (by omega) (by omega)) rfl (expl3 (a : Int) (by omega) (by omega)) (by simp) ?_; intro v4 w4 D4))
  go_ret
  exact ⟨v4, rfl, by rw [hF.out]; exact D4⟩
set_option maxHeartbeats 1000000 in
theorem efg_E_pmp1 (B blk : Nat) (v : Value) (l : List UInt8) (x0 : UInt8) (n : Nat) (dp : Int) (w : World) (D : Dst B blk l w w v []) (hn : Hid (l.length = n)) (hl : 2 ≤ n) (hl2 : n ≤ 20) (hx0 : l[0]? = some x0) (hd : 6 ≤ dp - 1) (ha : (dp - 1) < 10) (F : List UInt8) (hF : Hid (F = [] ++ [x0] ++ [46] ++ (l.drop 1).take (n - 1) ++ [101] ++ [43] ++ expB ((dp - 1)).toNat)) :
    Calls Tryd.prog 31 #[v, .bool false, .slice (some ⟨blk, 0, none⟩) 32 32, .int .i64 dp, .int .i64 (n : Nat), .int .i64 (n : Nat), .int .u8 103, .bool true] w fun e w' => ∃ v', e = .returned v' ∧ Dst B blk l w w' v' F := by
  have hn0 : ((n : Int) != 0) = true := by simp; omega
  have HX := Lib.hid hx0
  clear hx0
  have c1 := D.cell 0 x0 HX.out
  go_enter Tryd.func31, Tryd.ntmps31
  go_wp2_with (first
    | (at_builtin; refine wpList_appN rfl (.tmp 87) (.tmp 89) rfl D rfl [x0] _ _ _ _ rfl rfl rfl (by simp) ?_; intro v1 w1 D1)
    | (at_builtin; refine wpList_appN rfl (.tmp 93) (.tmp 94) rfl D1 rfl [46] _ _ _ _ rfl rfl rfl (by simp) ?_; intro v2 w2 D2)
    | (at_builtin; refine wpList_appD rfl (.tmp 103) (.tmp 107) rfl D2 rfl 1 (n - 1) _ rfl (by have := hn.out; omega) (by simp; omega) ?_; intro v3 w3 D3))
  go_loop [0, 114] (fun d i => d = v3 ∧ i = .int .i64 0) (fun _ _ => 0)
  case atStart => exact ⟨rfl, rfl⟩
  case round =>
    obtain ⟨rfl, rfl⟩ := hrel
    go_wp2_with (first
      | (at_builtin; refine wpList_appN rfl (.tmp 120) (.tmp 122) rfl D3 rfl [101] _ _ _ _ rfl rfl rfl (by simp; omega) ?_; intro v4 w4 D4)
      | (at_builtin; refine wpList_appN rfl (.tmp 132) (.tmp 134) rfl D4 rfl [43] _ _ _ _ rfl rfl rfl (by simp; omega) ?_; intro v5 w5 D5)
      | (at_builtin; refine wpList_appN rfl (.tmp 155) (.tmp 159) rfl D5 rfl (expB ((dp - 1)).toNat) _ _ _ _ (exp1 (dp - 1) (by omega) (by omega)) rfl (expl1 (dp - 1) (by omega) (by omega)) (by simp; omega) ?_; intro v6 w6 D6))
    go_ret
    exact ⟨v6, rfl, by rw [hF.out]; exact D6⟩
set_option maxHeartbeats 1000000 in
theorem efg_E_pmp2 (B blk : Nat) (v : Value) (l : List UInt8) (x0 : UInt8) (n : Nat) (dp : Int) (w : World) (D : Dst B blk l w w v []) (hn : Hid (l.length = n)) (hl : 2 ≤ n) (hl2 : n ≤ 20) (hx0 : l[0]? = some x0) (hd : 6 ≤ dp - 1) (ha : 10 ≤ (dp - 1)) (ha2 : (dp - 1) < 100) (F : List UInt8) (hF : Hid (F = [] ++ [x0] ++ [46] ++ (l.drop 1).take (n - 1) ++ [101] ++ [43] ++ expB ((dp - 1)).toNat)) :
    Calls Tryd.prog 31 #[v, .bool false, .slice (some ⟨blk, 0, none⟩) 32 32, .int .i64 dp, .int .i64 (n : Nat), .int .i64 (n : Nat), .int .u8 103, .bool true] w fun e w' => ∃ v', e = .returned v' ∧ Dst B blk l w w' v' F := by
  have hn0 : ((n : Int) != 0) = true := by simp; omega
  have HX := Lib.hid hx0
  clear hx0
  have c1 := D.cell 0 x0 HX.out
  go_enter Tryd.func31, Tryd.ntmps31
  go_wp2_with (first
    | (at_builtin; refine wpList_appN rfl (.tmp 87) (.tmp 89) rfl D rfl [x0] _ _ _ _ rfl rfl rfl (by simp) ?_; intro v1 w1 D1)
    | (at_builtin; refine wpList_appN rfl (.tmp 93) (.tmp 94) rfl D1 rfl [46] _ _ _ _ rfl rfl rfl (by simp) ?_; intro v2 w2 D2)
    | (at_builtin; refine wpList_appD rfl (.tmp 103) (.tmp 107) rfl D2 rfl 1 (n - 1) _ rfl (by have := hn.out; omega) (by simp; omega) ?_; intro v3 w3 D3))
  go_loop [0, 114] (fun d i => d = v3 ∧ i = .int .i64 0) (fun _ _ => 0)
  case atStart => exact ⟨rfl, rfl⟩
  case round =>
    obtain ⟨rfl, rfl⟩ := hrel
    go_wp2_with (first
      | (at_builtin; refine wpList_appN rfl (.tmp 120) (.tmp 122) rfl D3 rfl [101] _ _ _ _ rfl rfl rfl (by simp; omega) ?_; intro v4 w4 D4)
      | (at_builtin; refine wpList_appN rfl (.tmp 132) (.tmp 134) rfl D4 rfl [43] _ _ _ _ rfl rfl rfl (by simp; omega) ?_; intro v5 w5 D5)
      | (at_builtin; refine wpList_appN rfl (.tmp 164) (.tmp 173) rfl D5 rfl (expB ((dp - 1)).toNat) _ _ _ _ (exp2 (dp - 1) (by omega) (by omega)) rfl (expl2 (dp - 1) (by omega) (by omega)) (by simp; omega) ?_; intro v6 w6 D6))
    go_ret
    exact ⟨v6, rfl, by rw [hF.out]; exact D6⟩
set_option maxHeartbeats 1000000 in
theorem efg_E_pmp3 (B blk : Nat) (v : Value) (l : List UInt8) (x0 : UInt8) (n : Nat) (dp : Int) (w : World) (D : Dst B blk l w w v []) (hn : Hid (l.length = n)) (hl : 2 ≤ n) (hl2 : n ≤ 20) (hx0 : l[0]? = some x0) (hd : 6 ≤ dp - 1) (ha : 100 ≤ (dp - 1)) (ha2 : (dp - 1) ≤ 400) (F : List UInt8) (hF : Hid (F = [] ++ [x0] ++ [46] ++ (l.drop 1).take (n - 1) ++ [101] ++ [43] ++ expB ((dp - 1)).toNat)) :
    Calls Tryd.prog 31 #[v, .bool false, .slice (some ⟨blk, 0, none⟩) 32 32, .int .i64 dp, .int .i64 (n : Nat), .int .i64 (n : Nat), .int .u8 103, .bool true] w fun e w' => ∃ v', e = .returned v' ∧ Dst B blk l w w' v' F := by
  have hn0 : ((n : Int) != 0) = true := by simp; omega
  have HX := Lib.hid hx0
  clear hx0
  have c1 := D.cell 0 x0 HX.out
  go_enter Tryd.func31, Tryd.ntmps31
  go_wp2_with (first
    | (at_builtin; refine wpList_appN rfl (.tmp 87) (.tmp 89) rfl D rfl [x0] _ _ _ _ rfl rfl rfl (by simp) ?_; intro v1 w1 D1)
    | (at_builtin; refine wpList_appN rfl (.tmp 93) (.tmp 94) rfl D1 rfl [46] _ _ _ _ rfl rfl rfl (by simp) ?_; intro v2 w2 D2)
    | (at_builtin; refine wpList_appD rfl (.tmp 103) (.tmp 107) rfl D2 rfl 1 (n - 1) _ rfl (by have := hn.out; omega) (by simp; omega) ?_; intro v3 w3 D3))
  go_loop [0, 114] (fun d i => d = v3 ∧ i = .int .i64 0) (fun _ _ => 0)
  case atStart => exact ⟨rfl, rfl⟩
  case round =>
    obtain ⟨rfl, rfl⟩ := hrel
    go_wp2_with (first
      | (at_builtin; refine wpList_appN rfl (.tmp 120) (.tmp 122) rfl D3 rfl [101] _ _ _ _ rfl rfl rfl (by simp; omega) ?_; intro v4 w4 D4)
      | (at_builtin; refine wpList_appN rfl (.tmp 132) (.tmp 134) rfl D4 rfl [43] _ _ _ _ rfl rfl rfl (by simp; omega) ?_; intro v5 w5 D5)
      | (at_builtin; refine wpList_appN rfl (.tmp 136) (.tmp 150) rfl D5 rfl (expB ((dp - 1)).toNat) _ _ _ _ (exp3 (dp - 1) (by omega) (by omega)) rfl (expl3 (dp - 1) (by omega) (by omega)) (by simp; omega) ?_; intro v6 w6 D6))
    go_ret
    exact ⟨v6, rfl, by rw [hF.out]; exact D6⟩
set_option maxHeartbeats 1000000 in
theorem efg_E_pmn1 (B blk : Nat) (v : Value) (l : List UInt8) (x0 : UInt8) (n : Nat) (dp : Int) (w : World) (D : Dst B blk l w w v []) (hn : Hid (l.length = n)) (hl : 2 ≤ n) (hl2 : n ≤ 20) (hx0 : l[0]? = some x0) (hd : dp - 1 < -4) (ha : (-(dp - 1)) < 10) (F : List UInt8) (hF : Hid (F = [] ++ [x0] ++ [46] ++ (l.drop 1).take (n - 1) ++ [101] ++ [45] ++ expB ((-(dp - 1))).toNat)) :
    Calls Tryd.prog 31 #[v, .bool false, .slice (some ⟨blk, 0, none⟩) 32 32, .int .i64 dp, .int .i64 (n : Nat), .int .i64 (n : Nat), .int .u8 103, .bool true] w fun e w' => ∃ v', e = .returned v' ∧ Dst B blk l w w' v' F := by
  have hn0 : ((n : Int) != 0) = true := by simp; omega
  obtain ⟨a, hE⟩ : ∃ a : Nat, -(dp - 1) = (a : Int) := ⟨(-(dp - 1)).toNat, by omega⟩
  have ha0 : 5 ≤ a := by omega
  have ha1 : a < 10 := by omega
  rw [hE] at hF
  have HX := Lib.hid hx0
  clear hx0
  have c1 := D.cell 0 x0 HX.out
  go_enter Tryd.func31, Tryd.ntmps31
  go_wp2_with (first
    | (at_builtin; refine wpList_appN rfl (.tmp 87) (.tmp 89) rfl D rfl [x0] _ _ _ _ rfl rfl rfl (by simp) ?_; intro v1 w1 D1)
    | (at_builtin; refine wpList_appN rfl (.tmp 93) (.tmp 94) rfl D1 rfl [46] _ _ _ _ rfl rfl rfl (by simp) ?_; intro v2 w2 D2)
    | (at_builtin; refine wpList_appD rfl (.tmp 103) (.tmp 107) rfl D2 rfl 1 (n - 1) _ rfl (by have := hn.out; omega) (by simp; omega) ?_; intro v3 w3 D3))
  go_loop [0, 114] (fun d i => d = v3 ∧ i = .int .i64 0) (fun _ _ => 0)
  case atStart => exact ⟨rfl, rfl⟩
  case round =>
    obtain ⟨rfl, rfl⟩ := hrel
    go_wp2_with (first
      | (at_builtin; refine wpList_appN rfl (.tmp 120) (.tmp 122) rfl D3 rfl [101] _ _ _ _ rfl rfl rfl (by simp; omega) ?_; intro v4 w4 D4)
      | (at_builtin; refine wpList_appN rfl (.tmp 132) (.tmp 134) rfl D4 rfl [45] _ _ _ _ rfl rfl rfl (by simp; omega) ?_; intro v5 w5 D5)
      | (at_builtin; refine wpList_appN rfl (.tmp 155) (.tmp 159) rfl D5 rfl (expB ((a : Int)).toNat) _ _ _ _ (exp1 (a : Int) (by omega) (by omega)) rfl (expl1 (a : Int) (by omega) (by omega)) (by simp; omega) ?_; intro v6 w6 D6))
    go_ret
    exact ⟨v6, rfl, by rw [hF.out]; exact D6⟩
set_option maxHeartbeats 1000000 in
theorem efg_E_pmn2 (B blk : Nat) (v : Value) (l : List UInt8) (x0 : UInt8) (n : Nat) (dp : Int) (w : World) (D : Dst B blk l w w v []) (hn : Hid (l.length = n)) (hl : 2 ≤ n) (hl2 : n ≤ 20) (hx0 : l[0]? = some x0) (hd : dp - 1 < -4) (ha : 10 ≤ (-(dp - 1))) (ha2 : (-(dp - 1)) < 100) (F : List UInt8) (hF : Hid (F = [] ++ [x0] ++ [46] ++ (l.drop 1).take (n - 1) ++ [101] ++ [45] ++ expB ((-(dp - 1))).toNat)) :
    Calls Tryd.prog 31 #[v, .bool false, .slice (some ⟨blk, 0, none⟩) 32 32, .int .i64 dp, .int .i64 (n : Nat), .int .i64 (n : Nat), .int .u8 103, .bool true] w fun e w' => ∃ v', e = .returned v' ∧ Dst B blk l w w' v' F := by
  have hn0 : ((n : Int) != 0) = true := by simp; omega
  obtain ⟨a, hE⟩ : ∃ a : Nat, -(dp - 1) = (a : Int) := ⟨(-(dp - 1)).toNat, by omega⟩
  have ha0 : 5 ≤ a := by omega
  have ha1 : 10 ≤ a := by omega
  have ha3 : a < 100 := by omega
  rw [hE] at hF
  have HX := Lib.hid hx0
  clear hx0
  have c1 := D.cell 0 x0 HX.out
  go_enter Tryd.func31, Tryd.ntmps31
  go_wp2_with (first
    | (at_builtin; refine wpList_appN rfl (.tmp 87) (.tmp 89) rfl D rfl [x0] _ _ _ _ rfl rfl rfl (by simp) ?_; intro v1 w1 D1)
    | (at_builtin; refine wpList_appN rfl (.tmp 93) (.tmp 94) rfl D1 rfl [46] _ _ _ _ rfl rfl rfl (by simp) ?_; intro v2 w2 D2)
    | (at_builtin; refine wpList_appD rfl (.tmp 103) (.tmp 107) rfl D2 rfl 1 (n - 1) _ rfl (by have := hn.out; omega) (by simp; omega) ?_; intro v3 w3 D3))
  go_loop [0, 114] (fun d i => d = v3 ∧ i = .int .i64 0) (fun _ _ => 0)
  case atStart => exact ⟨rfl, rfl⟩
  case round =>
    obtain ⟨rfl, rfl⟩ := hrel
    go_wp2_with (first
      | (at_builtin; refine wpList_appN rfl (.tmp 120) (.tmp 122) rfl D3 rfl [101] _ _ _ _ rfl rfl rfl (by simp; omega) ?_; intro v4 w4 D4)
      | (at_builtin; refine wpList_appN rfl (.tmp 132) (.tmp 134) rfl D4 rfl [45] _ _ _ _ rfl rfl rfl (by simp; omega) ?_; intro v5 w5 D5)
      | (at_builtin; refine wpList_appN rfl (.tmp 164) (.tmp 173) rfl D5 rfl (expB ((a : Int)).toNat) _ _ _ _ (exp2 (a : Int) (by omega) (by omega)) rfl (expl2 (a : Int) (by omega) (by omega)) (by simp; omega) ?_; intro v6 w6 D6))
    go_ret
    exact ⟨v6, rfl, by rw [hF.out]; exact D6⟩
set_option maxHeartbeats 1000000 in
theorem efg_E_pmn3 (B blk : Nat) (v : Value) (l : List UInt8) (x0 : UInt8) (n : Nat) (dp : Int) (w : World) (D : Dst B blk l w w v []) (hn : Hid (l.length = n)) (hl : 2 ≤ n) (hl2 : n ≤ 20) (hx0 : l[0]? = some x0) (hd : dp - 1 < -4) (ha : 100 ≤ (-(dp - 1))) (ha2 : (-(dp - 1)) ≤ 400) (F : List UInt8) (hF : Hid (F = [] ++ [x0] ++ [46] ++ (l.drop 1).take (n - 1) ++ [101] ++ [45] ++ expB ((-(dp - 1))).toNat)) :
    Calls Tryd.prog 31 #[v, .bool false, .slice (some ⟨blk, 0, none⟩) 32 32, .int .i64 dp, .int .i64 (n : Nat), .int .i64 (n : Nat), .int .u8 103, .bool true] w fun e w' => ∃ v', e = .returned v' ∧ Dst B blk l w w' v' F := by
  have hn0 : ((n : Int) != 0) = true := by simp; omega
  obtain ⟨a, hE⟩ : ∃ a : Nat, -(dp - 1) = (a : Int) := ⟨(-(dp - 1)).toNat, by omega⟩
  have ha0 : 5 ≤ a := by omega
  have ha1 : 100 ≤ a := by omega
  have ha3 : a ≤ 400 := by omega
  rw [hE] at hF
  have HX := Lib.hid hx0
  clear hx0
  have c1 := D.cell 0 x0 HX.out
  go_enter Tryd.func31, Tryd.ntmps31
  go_wp2_with (first
    | (at_builtin; refine wpList_appN rfl (.tmp 87) (.tmp 89) rfl D rfl [x0] _ _ _ _ rfl rfl rfl (by simp) ?_; intro v1 w1 D1)
    | (at_builtin; refine wpList_appN rfl (.tmp 93) (.tmp 94) rfl D1 rfl [46] _ _ _ _ rfl rfl rfl (by simp) ?_; intro v2 w2 D2)
    | (at_builtin; refine wpList_appD rfl (.tmp 103) (.tmp 107) rfl D2 rfl 1 (n - 1) _ rfl (by have := hn.out; omega) (by simp; omega) ?_; intro v3 w3 D3))
  go_loop [0, 114] (fun d i => d = v3 ∧ i = .int .i64 0) (fun _ _ => 0)
  case atStart => exact ⟨rfl, rfl⟩
  case round =>
    obtain ⟨rfl, rfl⟩ := hrel
    go_wp2_with (first
      | (at_builtin; refine wpList_appN rfl (.tmp 120) (.tmp 122) rfl D3 rfl [101] _ _ _ _ rfl rfl rfl (by simp; omega) ?_; intro v4 w4 D4)
      | (at_builtin; refine wpList_appN rfl (.tmp 132) (.tmp 134) rfl D4 rfl [45] _ _ _ _ rfl rfl rfl (by simp; omega) ?_; intro v5 w5 D5)
      | (at_builtin; refine wpList_appN rfl (.tmp 136) (.tmp 150) rfl D5 rfl (expB ((a : Int)).toNat) _ _ _ _ (exp3 (a : Int) (by omega) (by omega)) rfl (expl3 (a : Int) (by omega) (by omega)) (by simp; omega) ?_; intro v6 w6 D6))
    go_ret
    exact ⟨v6, rfl, by rw [hF.out]; exact D6⟩
set_option maxHeartbeats 1000000 in
theorem efg_E_nsp1 (B blk : Nat) (v : Value) (l : List UInt8) (x0 : UInt8) (dp : Int) (w : World) (D : Dst B blk l w w v []) (hn : Hid (l.length = 1)) (hx0 : l[0]? = some x0) (hd : 6 ≤ dp - 1) (ha : (dp - 1) < 10) (F : List UInt8) (hF : Hid (F = [] ++ [45] ++ [x0] ++ [101] ++ [43] ++ expB ((dp - 1)).toNat)) :
    Calls Tryd.prog 31 #[v, .bool true, .slice (some ⟨blk, 0, none⟩) 32 32, .int .i64 dp, .int .i64 1, .int .i64 1, .int .u8 103, .bool true] w fun e w' => ∃ v', e = .returned v' ∧ Dst B blk l w w' v' F := by
  have HX := Lib.hid hx0
  clear hx0
  go_enter Tryd.func31, Tryd.ntmps31
  go_wp2_with (first
    | (at_builtin; refine wpList_appN rfl (.tmp 79) (.tmp 80) rfl D rfl [45] _ _ _ _ rfl rfl rfl (by simp) ?_; intro v1 w1 D1; have c1 := D1.cell 0 x0 HX.out)
    | (at_builtin; refine wpList_appN rfl (.tmp 87) (.tmp 89) rfl D1 rfl [x0] _ _ _ _ rfl rfl rfl (by simp) ?_; intro v2 w2 D2)
    | (at_builtin; refine wpList_appN rfl (.tmp 120) (.tmp 122) rfl D2 rfl [101] _ _ _ _ rfl rfl rfl (by simp) ?_; intro v3 w3 D3)
    | (at_builtin; refine wpList_appN rfl (.tmp 132) (.tmp 134) rfl D3 rfl [43] _ _ _ _ rfl rfl rfl (by simp) ?_; intro v4 w4 D4)
    | (at_builtin; refine wpList_appN rfl (.tmp 155) (.tmp 159) rfl D4 rfl (expB ((dp - 1)).toNat) _ _ _ _ (exp1 (dp - 1) (by omega) (by omega)) rfl (expl1 (dp - 1) (by omega) (by omega)) (by simp) ?_; intro v5 w5 D5))
  go_ret
  exact ⟨v5, rfl, by rw [hF.out]; exact D5⟩
set_option maxHeartbeats 1000000 in
theorem efg_E_nsp2 (B blk : Nat) (v : Value) (l : List UInt8) (x0 : UInt8) (dp : Int) (w : World) (D : Dst B blk l w w v []) (hn : Hid (l.length = 1)) (hx0 : l[0]? = some x0) (hd : 6 ≤ dp - 1) (ha : 10 ≤ (dp - 1)) (ha2 : (dp - 1) < 100) (F : List UInt8) (hF : Hid (F = [] ++ [45] ++ [x0] ++ [101] ++ [43] ++ expB ((dp - 1)).toNat)) :
    Calls Tryd.prog 31 #[v, .bool true, .slice (some ⟨blk, 0, none⟩) 32 32, .int .i64 dp, .int .i64 1, .int .i64 1, .int .u8 103, .bool true] w fun e w' => ∃ v', e = .returned v' ∧ Dst B blk l w w' v' F := by
  have HX := Lib.hid hx0
  clear hx0
  go_enter Tryd.func31, Tryd.ntmps31
  go_wp2_with (first
    | (at_builtin; refine wpList_appN rfl (.tmp 79) (.tmp 80) rfl D rfl [45] _ _ _ _ rfl rfl rfl (by simp) ?_; intro v1 w1 D1; have c1 := D1.cell 0 x0 HX.out)
    | (at_builtin; refine wpList_appN rfl (.tmp 87) (.tmp 89) rfl D1 rfl [x0] _ _ _ _ rfl rfl rfl (by simp) ?_; intro v2 w2 D2)
    | (at_builtin; refine wpList_appN rfl (.tmp 120) (.tmp 122) rfl D2 rfl [101] _ _ _ _ rfl rfl rfl (by simp) ?_; intro v3 w3 D3)
    | (at_builtin; refine wpList_appN rfl (.tmp 132) (.tmp 134) rfl D3 rfl [43] _ _ _ _ rfl rfl rfl (by simp) ?_; intro v4 w4 D4)
    | (at_builtin; refine wpList_appN rfl (.tmp 164) (.tmp 173) rfl D4 rfl (expB ((dp - 1)).toNat) _ _ _ _ (exp2 (dp - 1) (by omega) (by omega)) rfl (expl2 (dp - 1) (by omega) (by omega)) (by simp) ?_; intro v5 w5 D5))
  go_ret
  exact ⟨v5, rfl, by rw [hF.out]; exact D5⟩
set_option maxHeartbeats 1000000 in
theorem efg_E_nsp3 (B blk : Nat) (v : Value) (l : List UInt8) (x0 : UInt8) (dp : Int) (w : World) (D : Dst B blk l w w v []) (hn : Hid (l.length = 1)) (hx0 : l[0]? = some x0) (hd : 6 ≤ dp - 1) (ha : 100 ≤ (dp - 1)) (ha2 : (dp - 1) ≤ 400) (F : List UInt8) (hF : Hid (F = [] ++ [45] ++ [x0] ++ [101] ++ [43] ++ expB ((dp - 1)).toNat)) :
    Calls Tryd.prog 31 #[v, .bool true, .slice (some ⟨blk, 0, none⟩) 32 32, .int .i64 dp, .int .i64 1, .int .i64 1, .int .u8 103, .bool true] w fun e w' => ∃ v', e = .returned v' ∧ Dst B blk l w w' v' F := by
  have HX := Lib.hid hx0
  clear hx0
  go_enter Tryd.func31, Tryd.ntmps31
  go_wp2_with (first
    | (at_builtin; refine wpList_appN rfl (.tmp 79) (.tmp 80) rfl D rfl [45] _ _ _ _ rfl rfl rfl (by simp) ?_; intro v1 w1 D1; have c1 := D1.cell 0 x0 HX.out)
    | (at_builtin; refine wpList_appN rfl (.tmp 87) (.tmp 89) rfl D1 rfl [x0] _ _ _ _ rfl rfl rfl (by simp) ?_; intro v2 w2 D2)
    | (at_builtin; refine wpList_appN rfl (.tmp 120) (.tmp 122) rfl D2 rfl [101] _ _ _ _ rfl rfl rfl (by simp) ?_; intro v3 w3 D3)
    | (at_builtin; refine wpList_appN rfl (.tmp 132) (.tmp 134) rfl D3 rfl [43] _ _ _ _ rfl rfl rfl (by simp) ?_; intro v4 w4 D4)
    | (at_builtin; refine wpList_appN rfl (.tmp 136) (.tmp 150) rfl D4 rfl (expB ((dp - 1)).toNat) _ _ _ _ (exp3 (dp - 1) (by omega) (by omega)) rfl (expl3 (dp - 1) (by omega) (by omega)) (by simp) ?_; intro v5 w5 D5))
  go_ret
  exact ⟨v5, rfl, by rw [hF.out]; exact D5⟩
set_option maxHeartbeats 1000000 in
theorem efg_E_nsn1 (B blk : Nat) (v : Value) (l : List UInt8) (x0 : UInt8) (dp : Int) (w : World) (D : Dst B blk l w w v []) (hn : Hid (l.length = 1)) (hx0 : l[0]? = some x0) (hd : dp - 1 < -4) (ha : (-(dp - 1)) < 10) (F : List UInt8) (hF : Hid (F = [] ++ [45] ++ [x0] ++ [101] ++ [45] ++ expB ((-(dp - 1))).toNat)) :
    Calls Tryd.prog 31 #[v, .bool true, .slice (some ⟨blk, 0, none⟩) 32 32, .int .i64 dp, .int .i64 1, .int .i64 1, .int .u8 103, .bool true] w fun e w' => ∃ v', e = .returned v' ∧ Dst B blk l w w' v' F := by
  obtain ⟨a, hE⟩ : ∃ a : Nat, -(dp - 1) = (a : Int) := ⟨(-(dp - 1)).toNat, by omega⟩
  have ha0 : 5 ≤ a := by omega
  have ha1 : a < 10 := by omega
  rw [hE] at hF
  have HX := Lib.hid hx0
  clear hx0
  go_enter Tryd.func31, Tryd.ntmps31
  go_wp2_with (first
    | (at_builtin; refine wpList_appN rfl (.tmp 79) (.tmp 80) rfl D rfl [45] _ _ _ _ rfl rfl rfl (by simp) ?_; intro v1 w1 D1; have c1 := D1.cell 0 x0 HX.out)
    | (at_builtin; refine wpList_appN rfl (.tmp 87) (.tmp 89) rfl D1 rfl [x0] _ _ _ _ rfl rfl rfl (by simp) ?_; intro v2 w2 D2)
    | (at_builtin; refine wpList_appN rfl (.tmp 120) (.tmp 122) rfl D2 rfl [101] _ _ _ _ rfl rfl rfl (by simp) ?_; intro v3 w3 D3)
    | (at_builtin; refine wpList_appN rfl (.tmp 132) (.tmp 134) rfl D3 rfl [45] _ _ _ _ rfl rfl rfl (by simp) ?_; intro v4 w4 D4)
    | (at_builtin; refine wpList_appN rfl (.tmp 155) (.tmp 159) rfl D4 rfl (expB ((a : Int)).toNat) _ _ _ _ (exp1 (a : Int) (by omega) (by omega)) rfl (expl1 (a : Int) (by omega) (by omega)) (by simp) ?_; intro v5 w5 D5))
  go_ret
  exact ⟨v5, rfl, by rw [hF.out]; exact D5⟩
set_option maxHeartbeats 1000000 in
theorem efg_E_nsn2 (B blk : Nat) (v : Value) (l : List UInt8) (x0 : UInt8) (dp : Int) (w : World) (D : Dst B blk l w w v []) (hn : Hid (l.length = 1)) (hx0 : l[0]? = some x0) (hd : dp - 1 < -4) (ha : 10 ≤ (-(dp - 1))) (ha2 : (-(dp - 1)) < 100) (F : List UInt8) (hF : Hid (F = [] ++ [45] ++ [x0] ++ [101] ++ [45] ++ expB ((-(dp - 1))).toNat)) :
    Calls Tryd.prog 31 #[v, .bool true, .slice (some ⟨blk, 0, none⟩) 32 32, .int .i64 dp, .int .i64 1, .int .i64 1, .int .u8 103, .bool true] w fun e w' => ∃ v', e = .returned v' ∧ Dst B blk l w w' v' F := by
  obtain ⟨a, hE⟩ : ∃ a : Nat, -(dp - 1) = (a : Int) := ⟨(-(dp - 1)).toNat, by omega⟩
  have ha0 : 5 ≤ a := by omega
  have ha1 : 10 ≤ a := by omega
  have ha3 : a < 100 := by omega
  rw [hE] at hF
  have HX := Lib.hid hx0
  clear hx0
  go_enter Tryd.func31, Tryd.ntmps31
  go_wp2_with (first
    | (at_builtin; refine wpList_appN rfl (.tmp 79) (.tmp 80) rfl D rfl [45] _ _ _ _ rfl rfl rfl (by simp) ?_; intro v1 w1 D1; have c1 := D1.cell 0 x0 HX.out)
    | (at_builtin; refine wpList_appN rfl (.tmp 87) (.tmp 89) rfl D1 rfl [x0] _ _ _ _ rfl rfl rfl (by simp) ?_; intro v2 w2 D2)
    | (at_builtin; refine wpList_appN rfl (.tmp 120) (.tmp 122) rfl D2 rfl [101] _ _ _ _ rfl rfl rfl (by simp) ?_; intro v3 w3 D3)
    | (at_builtin; refine wpList_appN rfl (.tmp 132) (.tmp 134) rfl D3 rfl [45] _ _ _ _ rfl rfl rfl (by simp) ?_; intro v4 w4 D4)
    | (at_builtin; refine wpList_appN rfl (.tmp 164) (.tmp 173) rfl D4 rfl (expB ((a : Int)).toNat) _ _ _ _ (exp2 (a : Int) (by omega) (by omega)) rfl (expl2 (a : Int) (by omega) (by omega)) (by simp) ?_; intro v5 w5 D5))
  go_ret
  exact ⟨v5, rfl, by rw [hF.out]; exact D5⟩
set_option maxHeartbeats 1000000 in
theorem efg_E_nsn3 (B blk : Nat) (v : Value) (l : List UInt8) (x0 : UInt8) (dp : Int) (w : World) (D : Dst B blk l w w v []) (hn : Hid (l.length = 1)) (hx0 : l[0]? = some x0) (hd : dp - 1 < -4) (ha : 100 ≤ (-(dp - 1))) (ha2 : (-(dp - 1)) ≤ 400) (F : List UInt8) (hF : Hid (F = [] ++ [45] ++ [x0] ++ [101] ++ [45] ++ expB ((-(dp - 1))).toNat)) :
    Calls Tryd.prog 31 #[v, .bool true, .slice (some ⟨blk, 0, none⟩) 32 32, .int .i64 dp, .int .i64 1, .int .i64 1, .int .u8 103, .bool true] w fun e w' => ∃ v', e = .returned v' ∧ Dst B blk l w w' v' F := by
  obtain ⟨a, hE⟩ : ∃ a : Nat, -(dp - 1) = (a : Int) := ⟨(-(dp - 1)).toNat, by omega⟩
  have ha0 : 5 ≤ a := by omega
  have ha1 : 100 ≤ a := by omega
  have ha3 : a ≤ 400 := by omega
  rw [hE] at hF
  have HX := Lib.hid hx0
  clear hx0
  go_enter Tryd.func31, Tryd.ntmps31
  go_wp2_with (first
    | (at_builtin; refine wpList_appN rfl (.tmp 79) (.tmp 80) rfl D rfl [45] _ _ _ _ rfl rfl rfl (by simp) ?_; intro v1 w1 D1; have c1 := D1.cell 0 x0 HX.out)
    | (at_builtin; refine wpList_appN rfl (.tmp 87) (.tmp 89) rfl D1 rfl [x0] _ _ _ _ rfl rfl rfl (by simp) ?_; intro v2 w2 D2)
    | (at_builtin; refine wpList_appN rfl (.tmp 120) (.tmp 122) rfl D2 rfl [101] _ _ _ _ rfl rfl rfl (by simp) ?_; intro v3 w3 D3)
    | (at_builtin; refine wpList_appN rfl (.tmp 132) (.tmp 134) rfl D3 rfl [45] _ _ _ _ rfl rfl rfl (by simp) ?_; intro v4 w4 D4)
    | (at_builtin; refine wpList_appN rfl (.tmp 136) (.tmp 150) rfl D4 rfl (expB ((a : Int)).toNat) _ _ _ _ (exp3 (a : Int) (by omega) (by omega)) rfl (expl3 (a : Int) (by omega) (by omega)) (by simp) ?_; intro v5 w5 D5))
  go_ret
  exact ⟨v5, rfl, by rw [hF.out]; exact D5⟩
set_option maxHeartbeats 1000000 in
theorem efg_E_nmp1 (B blk : Nat) (v : Value) (l : List UInt8) (x0 : UInt8) (n : Nat) (dp : Int) (w : World) (D : Dst B blk l w w v []) (hn : Hid (l.length = n)) (hl : 2 ≤ n) (hl2 : n ≤ 20) (hx0 : l[0]? = some x0) (hd : 6 ≤ dp - 1) (ha : (dp - 1) < 10) (F : List UInt8) (hF : Hid (F = [] ++ [45] ++ [x0] ++ [46] ++ (l.drop 1).take (n - 1) ++ [101] ++ [43] ++ expB ((dp - 1)).toNat)) :
    Calls Tryd.prog 31 #[v, .bool true, .slice (some ⟨blk, 0, none⟩) 32 32, .int .i64 dp, .int .i64 (n : Nat), .int .i64 (n : Nat), .int .u8 103, .bool true] w fun e w' => ∃ v', e = .returned v' ∧ Dst B blk l w w' v' F := by
  have hn0 : ((n : Int) != 0) = true := by simp; omega
  have HX := Lib.hid hx0
  clear hx0
  go_enter Tryd.func31, Tryd.ntmps31
  go_wp2_with (first
    | (at_builtin; refine wpList_appN rfl (.tmp 79) (.tmp 80) rfl D rfl [45] _ _ _ _ rfl rfl rfl (by simp) ?_; intro v1 w1 D1; have c1 := D1.cell 0 x0 HX.out)
    | (at_builtin; refine wpList_appN rfl (.tmp 87) (.tmp 89) rfl D1 rfl [x0] _ _ _ _ rfl rfl rfl (by simp) ?_; intro v2 w2 D2)
    | (at_builtin; refine wpList_appN rfl (.tmp 93) (.tmp 94) rfl D2 rfl [46] _ _ _ _ rfl rfl rfl (by simp) ?_; intro v3 w3 D3)
    | (at_builtin; refine wpList_appD rfl (.tmp 103) (.tmp 107) rfl D3 rfl 1 (n - 1) _ rfl (by have := hn.out; omega) (by simp; omega) ?_; intro v4 w4 D4))
  go_loop [0, 114] (fun d i => d = v4 ∧ i = .int .i64 0) (fun _ _ => 0)
  case atStart => exact ⟨rfl, rfl⟩
  case round =>
    obtain ⟨rfl, rfl⟩ := hrel
    go_wp2_with (first
      | (at_builtin; refine wpList_appN rfl (.tmp 120) (.tmp 122) rfl D4 rfl [101] _ _ _ _ rfl rfl rfl (by simp; omega) ?_; intro v5 w5 D5)
      | (at_builtin; refine wpList_appN rfl (.tmp 132) (.tmp 134) rfl D5 rfl [43] _ _ _ _ rfl rfl rfl (by simp; omega) ?_; intro v6 w6 D6)
      | (at_builtin; refine wpList_appN rfl (.tmp 155) (.tmp 159) rfl D6 rfl (expB ((dp - 1)).toNat) _ _ _ _ (exp1 (dp - 1) (by omega) (by omega)) rfl (expl1 (dp - 1) (by omega) (by omega)) (by simp; omega) ?_; intro v7 w7 D7))
    go_ret
    exact ⟨v7, rfl, by rw [hF.out]; exact D7⟩
set_option maxHeartbeats 1000000 in
theorem efg_E_nmp2 (B blk : Nat) (v : Value) (l : List UInt8) (x0 : UInt8) (n : Nat) (dp : Int) (w : World) (D : Dst B blk l w w v []) (hn : Hid (l.length = n)) (hl : 2 ≤ n) (hl2 : n ≤ 20) (hx0 : l[0]? = some x0) (hd : 6 ≤ dp - 1) (ha : 10 ≤ (dp - 1)) (ha2 : (dp - 1) < 100) (F : List UInt8) (hF : Hid (F = [] ++ [45] ++ [x0] ++ [46] ++ (l.drop 1).take (n - 1) ++ [101] ++ [43] ++ expB ((dp - 1)).toNat)) :
    Calls Tryd.prog 31 #[v, .bool true, .slice (some ⟨blk, 0, none⟩) 32 32, .int .i64 dp, .int .i64 (n : Nat), .int .i64 (n : Nat), .int .u8 103, .bool true] w fun e w' => ∃ v', e = .returned v' ∧ Dst B blk l w w' v' F := by
  have hn0 : ((n : Int) != 0) = true := by simp; omega
  have HX := Lib.hid hx0
  clear hx0
  go_enter Tryd.func31, Tryd.ntmps31
  go_wp2_with (first
    | (at_builtin; refine wpList_appN rfl (.tmp 79) (.tmp 80) rfl D rfl [45] _ _ _ _ rfl rfl rfl (by simp) ?_; intro v1 w1 D1; have c1 := D1.cell 0 x0 HX.out)
    | (at_builtin; refine wpList_appN rfl (.tmp 87) (.tmp 89) rfl D1 rfl [x0] _ _ _ _ rfl rfl rfl (by simp) ?_; intro v2 w2 D2)
    | (at_builtin; refine wpList_appN rfl (.tmp 93) (.tmp 94) rfl D2 rfl [46] _ _ _ _ rfl rfl rfl (by simp) ?_; intro v3 w3 D3)
    | (at_builtin; refine wpList_appD rfl (.tmp 103) (.tmp 107) rfl D3 rfl 1 (n - 1) _ rfl (by have := hn.out; omega) (by simp; omega) ?_; intro v4 w4 D4))
  go_loop [0, 114] (fun d i => d = v4 ∧ i = .int .i64 0) (fun _ _ => 0)
  case atStart => exact ⟨rfl, rfl⟩
  case round =>
    obtain ⟨rfl, rfl⟩ := hrel
    go_wp2_with (first
      | (at_builtin; refine wpList_appN rfl (.tmp 120) (.tmp 122) rfl D4 rfl [101] _ _ _ _ rfl rfl rfl (by simp; omega) ?_; intro v5 w5 D5)
      | (at_builtin; refine wpList_appN rfl (.tmp 132) (.tmp 134) rfl D5 rfl [43] _ _ _ _ rfl rfl rfl (by simp; omega) ?_; intro v6 w6 D6)
      | (at_builtin; refine wpList_appN rfl (.tmp 164) (.tmp 173) rfl D6 rfl (expB ((dp - 1)).toNat) _ _ _ _ (exp2 (dp - 1) (by omega) (by omega)) rfl (expl2 (dp - 1) (by omega) (by omega)) (by simp; omega) ?_; intro v7 w7 D7))
    go_ret
    exact ⟨v7, rfl, by rw [hF.out]; exact D7⟩
set_option maxHeartbeats 1000000 in
theorem efg_E_nmp3 (B blk : Nat) (v : Value) (l : List UInt8) (x0 : UInt8) (n : Nat) (dp : Int) (w : World) (D : Dst B blk l w w v []) (hn : Hid (l.length = n)) (hl : 2 ≤ n) (hl2 : n ≤ 20) (hx0 : l[0]? = some x0) (hd : 6 ≤ dp - 1) (ha : 100 ≤ (dp - 1)) (ha2 : (dp - 1) ≤ 400) (F : List UInt8) (hF : Hid (F = [] ++ [45] ++ [x0] ++ [46] ++ (l.drop 1).take (n - 1) ++ [101] ++ [43] ++ expB ((dp - 1)).toNat)) :
    Calls Tryd.prog 31 #[v, .bool true, .slice (some ⟨blk, 0, none⟩) 32 32, .int .i64 dp, .int .i64 (n : Nat), .int .i64 (n : Nat), .int .u8 103, .bool true] w fun e w' => ∃ v', e = .returned v' ∧ Dst B blk l w w' v' F := by
  have hn0 : ((n : Int) != 0) = true := by simp; omega
  have HX := Lib.hid hx0
  clear hx0
  go_enter Tryd.func31, Tryd.ntmps31
  go_wp2_with (first
    | (at_builtin; refine wpList_appN rfl (.tmp 79) (.tmp 80) rfl D rfl [45] _ _ _ _ rfl rfl rfl (by simp) ?_; intro v1 w1 D1; have c1 := D1.cell 0 x0 HX.out)
    | (at_builtin; refine wpList_appN rfl (.tmp 87) (.tmp 89) rfl D1 rfl [x0] _ _ _ _ rfl rfl rfl (by simp) ?_; intro v2 w2 D2)
    | (at_builtin; refine wpList_appN rfl (.tmp 93) (.tmp 94) rfl D2 rfl [46] _ _ _ _ rfl rfl rfl (by simp) ?_; intro v3 w3 D3)
    | (at_builtin; refine wpList_appD rfl (.tmp 103) (.tmp 107) rfl D3 rfl 1 (n - 1) _ rfl (by have := hn.out; omega) (by simp; omega) ?_; intro v4 w4 D4))
  go_loop [0, 114] (fun d i => d = v4 ∧ i = .int .i64 0) (fun _ _ => 0)
  case atStart => exact ⟨rfl, rfl⟩
  case round =>
    obtain ⟨rfl, rfl⟩ := hrel
    go_wp2_with (first
      | (at_builtin; refine wpList_appN rfl (.tmp 120) (.tmp 122) rfl D4 rfl [101] _ _ _ _ rfl rfl rfl (by simp; omega) ?_; intro v5 w5 D5)
      | (at_builtin; refine wpList_appN rfl (.tmp 132) (.tmp 134) rfl D5 rfl [43] _ _ _ _ rfl rfl rfl (by simp; omega) ?_; intro v6 w6 D6)
      | (at_builtin; refine wpList_appN rfl (.tmp 136) (.tmp 150) rfl D6 rfl (expB ((dp - 1)).toNat) _ _ _ _ (exp3 (dp - 1) (by omega) (by omega)) rfl (expl3 (dp - 1) (by omega) (by omega)) (by simp; omega) ?_; intro v7 w7 D7))
    go_ret
    exact ⟨v7, rfl, by rw [hF.out]; exact D7⟩
set_option maxHeartbeats 1000000 in
theorem efg_E_nmn1 (B blk : Nat) (v : Value) (l : List UInt8) (x0 : UInt8) (n : Nat) (dp : Int) (w : World) (D : Dst B blk l w w v []) (hn : Hid (l.length = n)) (hl : 2 ≤ n) (hl2 : n ≤ 20) (hx0 : l[0]? = some x0) (hd : dp - 1 < -4) (ha : (-(dp - 1)) < 10) (F : List UInt8) (hF : Hid (F = [] ++ [45] ++ [x0] ++ [46] ++ (l.drop 1).take (n - 1) ++ [101] ++ [45] ++ expB ((-(dp - 1))).toNat)) :
    Calls Tryd.prog 31 #[v, .bool true, .slice (some ⟨blk, 0, none⟩) 32 32, .int .i64 dp, .int .i64 (n : Nat), .int .i64 (n : Nat), .int .u8 103, .bool true] w fun e w' => ∃ v', e = .returned v' ∧ Dst B blk l w w' v' F := by
  have hn0 : ((n : Int) != 0) = true := by simp; omega
  obtain ⟨a, hE⟩ : ∃ a : Nat, -(dp - 1) = (a : Int) := ⟨(-(dp - 1)).toNat, by omega⟩
  have ha0 : 5 ≤ a := by omega
  have ha1 : a < 10 := by omega
  rw [hE] at hF
  have HX := Lib.hid hx0
  clear hx0
  go_enter Tryd.func31, Tryd.ntmps31
  go_wp2_with (first
    | (at_builtin; refine wpList_appN rfl (.tmp 79) (.tmp 80) rfl D rfl [45] _ _ _ _ rfl rfl rfl (by simp) ?_; intro v1 w1 D1; have c1 := D1.cell 0 x0 HX.out)
    | (at_builtin; refine wpList_appN rfl (.tmp 87) (.tmp 89) rfl D1 rfl [x0] _ _ _ _ rfl rfl rfl (by simp) ?_; intro v2 w2 D2)
    | (at_builtin; refine wpList_appN rfl (.tmp 93) (.tmp 94) rfl D2 rfl [46] _ _ _ _ rfl rfl rfl (by simp) ?_; intro v3 w3 D3)
    | (at_builtin; refine wpList_appD rfl (.tmp 103) (.tmp 107) rfl D3 rfl 1 (n - 1) _ rfl (by have := hn.out; omega) (by simp; omega) ?_; intro v4 w4 D4))
  go_loop [0, 114] (fun d i => d = v4 ∧ i = .int .i64 0) (fun _ _ => 0)
  case atStart => exact ⟨rfl, rfl⟩
  case round =>
    obtain ⟨rfl, rfl⟩ := hrel
    go_wp2_with (first
      | (at_builtin; refine wpList_appN rfl (.tmp 120) (.tmp 122) rfl D4 rfl [101] _ _ _ _ rfl rfl rfl (by simp; omega) ?_; intro v5 w5 D5)
      | (at_builtin; refine wpList_appN rfl (.tmp 132) (.tmp 134) rfl D5 rfl [45] _ _ _ _ rfl rfl rfl (by simp; omega) ?_; intro v6 w6 D6)
      | (at_builtin; refine wpList_appN rfl (.tmp 155) (.tmp 159) rfl D6 rfl (expB ((a : Int)).toNat) _ _ _ _ (exp1 (a : Int) (by omega) (by omega)) rfl (expl1 (a : Int) (by omega) (by omega)) (by simp; omega) ?_; intro v7 w7 D7))
    go_ret
    exact ⟨v7, rfl, by rw [hF.out]; exact D7⟩
set_option maxHeartbeats 1000000 in
theorem efg_E_nmn2 (B blk : Nat) (v : Value) (l : List UInt8) (x0 : UInt8) (n : Nat) (dp : Int) (w : World) (D : Dst B blk l w w v []) (hn : Hid (l.length = n)) (hl : 2 ≤ n) (hl2 : n ≤ 20) (hx0 : l[0]? = some x0) (hd : dp - 1 < -4) (ha : 10 ≤ (-(dp - 1))) (ha2 : (-(dp - 1)) < 100) (F : List UInt8) (hF : Hid (F = [] ++ [45] ++ [x0] ++ [46] ++ (l.drop 1).take (n - 1) ++ [101] ++ [45] ++ expB ((-(dp - 1))).toNat)) :
    Calls Tryd.prog 31 #[v, .bool true, .slice (some ⟨blk, 0, none⟩) 32 32, .int .i64 dp, .int .i64 (n : Nat), .int .i64 (n : Nat), .int .u8 103, .bool true] w fun e w' => ∃ v', e = .returned v' ∧ Dst B blk l w w' v' F := by
  have hn0 : ((n : Int) != 0) = true := by simp; omega
  obtain ⟨a, hE⟩ : ∃ a : Nat, -(dp - 1) = (a : Int) := ⟨(-(dp - 1)).toNat, by omega⟩
  have ha0 : 5 ≤ a := by omega
  have ha1 : 10 ≤ a := by omega
  have ha3 : a < 100 := by omega
  rw [hE] at hF
  have HX := Lib.hid hx0
  clear hx0
  go_enter Tryd.func31, Tryd.ntmps31
  go_wp2_with (first
    | (at_builtin; refine wpList_appN rfl (.tmp 79) (.tmp 80) rfl D rfl [45] _ _ _ _ rfl rfl rfl (by simp) ?_; intro v1 w1 D1; have c1 := D1.cell 0 x0 HX.out)
    | (at_builtin; refine wpList_appN rfl (.tmp 87) (.tmp 89) rfl D1 rfl [x0] _ _ _ _ rfl rfl rfl (by simp) ?_; intro v2 w2 D2)
    | (at_builtin; refine wpList_appN rfl (.tmp 93) (.tmp 94) rfl D2 rfl [46] _ _ _ _ rfl rfl rfl (by simp) ?_; intro v3 w3 D3)
    | (at_builtin; refine wpList_appD rfl (.tmp 103) (.tmp 107) rfl D3 rfl 1 (n - 1) _ rfl (by have := hn.out; omega) (by simp; omega) ?_; intro v4 w4 D4))
  go_loop [0, 114] (fun d i => d = v4 ∧ i = .int .i64 0) (fun _ _ => 0)
  case atStart => exact ⟨rfl, rfl⟩
  case round =>
    obtain ⟨rfl, rfl⟩ := hrel
    go_wp2_with (first
      | (at_builtin; refine wpList_appN rfl (.tmp 120) (.tmp 122) rfl D4 rfl [101] _ _ _ _ rfl rfl rfl (by simp; omega) ?_; intro v5 w5 D5)
      | (at_builtin; refine wpList_appN rfl (.tmp 132) (.tmp 134) rfl D5 rfl [45] _ _ _ _ rfl rfl rfl (by simp; omega) ?_; intro v6 w6 D6)
      | (at_builtin; refine wpList_appN rfl (.tmp 164) (.tmp 173) rfl D6 rfl (expB ((a : Int)).toNat) _ _ _ _ (exp2 (a : Int) (by omega) (by omega)) rfl (expl2 (a : Int) (by omega) (by omega)) (by simp; omega) ?_; intro v7 w7 D7))
    go_ret
    exact ⟨v7, rfl, by rw [hF.out]; exact D7⟩
set_option maxHeartbeats 1000000 in
theorem efg_E_nmn3 (B blk : Nat) (v : Value) (l : List UInt8) (x0 : UInt8) (n : Nat) (dp : Int) (w : World) (D : Dst B blk l w w v []) (hn : Hid (l.length = n)) (hl : 2 ≤ n) (hl2 : n ≤ 20) (hx0 : l[0]? = some x0) (hd : dp - 1 < -4) (ha : 100 ≤ (-(dp - 1))) (ha2 : (-(dp - 1)) ≤ 400) (F : List UInt8) (hF : Hid (F = [] ++ [45] ++ [x0] ++ [46] ++ (l.drop 1).take (n - 1) ++ [101] ++ [45] ++ expB ((-(dp - 1))).toNat)) :
    Calls Tryd.prog 31 #[v, .bool true, .slice (some ⟨blk, 0, none⟩) 32 32, .int .i64 dp, .int .i64 (n : Nat), .int .i64 (n : Nat), .int .u8 103, .bool true] w fun e w' => ∃ v', e = .returned v' ∧ Dst B blk l w w' v' F := by
  have hn0 : ((n : Int) != 0) = true := by simp; omega
  obtain ⟨a, hE⟩ : ∃ a : Nat, -(dp - 1) = (a : Int) := ⟨(-(dp - 1)).toNat, by omega⟩
  have ha0 : 5 ≤ a := by omega
  have ha1 : 100 ≤ a := by omega
  have ha3 : a ≤ 400 := by omega
  rw [hE] at hF
  have HX := Lib.hid hx0
  clear hx0
  go_enter Tryd.func31, Tryd.ntmps31
  go_wp2_with (first
    | (at_builtin; refine wpList_appN rfl (.tmp 79) (.tmp 80) rfl D rfl [45] _ _ _ _ rfl rfl rfl (by simp) ?_; intro v1 w1 D1; have c1 := D1.cell 0 x0 HX.out)
    | (at_builtin; refine wpList_appN rfl (.tmp 87) (.tmp 89) rfl D1 rfl [x0] _ _ _ _ rfl rfl rfl (by simp) ?_; intro v2 w2 D2)
    | (at_builtin; refine wpList_appN rfl (.tmp 93) (.tmp 94) rfl D2 rfl [46] _ _ _ _ rfl rfl rfl (by simp) ?_; intro v3 w3 D3)
    | (at_builtin; refine wpList_appD rfl (.tmp 103) (.tmp 107) rfl D3 rfl 1 (n - 1) _ rfl (by have := hn.out; omega) (by simp; omega) ?_; intro v4 w4 D4))
  go_loop [0, 114] (fun d i => d = v4 ∧ i = .int .i64 0) (fun _ _ => 0)
  case atStart => exact ⟨rfl, rfl⟩
  case round =>
    obtain ⟨rfl, rfl⟩ := hrel
    go_wp2_with (first
      | (at_builtin; refine wpList_appN rfl (.tmp 120) (.tmp 122) rfl D4 rfl [101] _ _ _ _ rfl rfl rfl (by simp; omega) ?_; intro v5 w5 D5)
      | (at_builtin; refine wpList_appN rfl (.tmp 132) (.tmp 134) rfl D5 rfl [45] _ _ _ _ rfl rfl rfl (by simp; omega) ?_; intro v6 w6 D6)
      | (at_builtin; refine wpList_appN rfl (.tmp 136) (.tmp 150) rfl D6 rfl (expB ((a : Int)).toNat) _ _ _ _ (exp3 (a : Int) (by omega) (by omega)) rfl (expl3 (a : Int) (by omega) (by omega)) (by simp; omega) ?_; intro v7 w7 D7))
    go_ret
    exact ⟨v7, rfl, by rw [hF.out]; exact D7⟩
end Go.Proofs.YtnklnenjdffbaaaDoor
