/- strconv.fmtEFG in the form 'g', shortest: without an exponent (printed by genF.py). -/
import Derived.Test.YtnklnenjdffbaaaDoorFg
namespace Go.Proofs.YtnklnenjdffbaaaDoor
open Go.RowKit Go.Sort
open Go.Lib (byteCells)
set_option linter.unusedVariables false
set_option maxRecDepth 100000
set_option maxHeartbeats 2000000 in
theorem efg_F_pa (B blk : Nat) (v : Value) (l : List UInt8) (n : Nat) (d : Nat) (hd : 1 ≤ d) (hd2 : d ≤ 6) (hnd : n ≤ d) (w : World) (D : Dst B blk l w w v []) (hn : Hid (l.length = n)) (hl : 1 ≤ n) (hl2 : n ≤ 20) (F : List UInt8) (hF : Hid (F = [] ++ l.take n ++ List.replicate (d - n) 48)) :
    Calls Tryd.prog 31 #[v, .bool false, .slice (some ⟨blk, 0, none⟩) 32 32, .int .i64 ((d : Int)), .int .i64 n, .int .i64 n, .int .u8 103, .bool true] w fun e w' => ∃ v', e = .returned v' ∧ Dst B blk l w w' v' F := by
  have m1 : max ((n : Int) - (d : Int)) 0 = 0 := by omega
  have m2 : min (n : Int) (d : Int) = n := by omega
  have m3 : max (n : Int) 0 = n := by omega
  have b1 : decide (d < n) = false := by simp; omega
  have b2 : decide (0 < d) = true := by simp; omega
  go_enter Tryd.func31, Tryd.ntmps31
  go_wp2_with fail
  go_loopw [0, 25, 191] (fun d_ _ i wr => ∃ k : Nat, k ≤ n ∧ i = .int .i64 k ∧ Dst B blk l w wr d_ ([] ++ l.take k)) (fun _ _ i _ => n - (intOf i).toNat)
  case atStart => exact ⟨0, Nat.zero_le _, rfl, by simpa using D⟩
  case round =>
    obtain ⟨k, hk, rfl, E1⟩ := hrel
    by_cases hlt : k < n
    · obtain ⟨y, hy⟩ : ∃ y, l[k]? = some y := ⟨_, List.getElem?_eq_getElem (by have := hn.out; omega)⟩
      have c1 := E1.cell _ y hy
      have HY := Lib.hid hy
      clear hy
      go_wp2_with (first
        | (at_builtin; refine wpList_appN rfl (.tmp 195) (.tmp 197) rfl E1 rfl [y] _ _ _ _ rfl rfl rfl (by simp; have := hn.out; omega) ?_; intro v7 w7 D7))
      go_roundw
      case rel => exact ⟨k + 1, by omega, by go_num, by rw [List.take_add_one, HY.out, ← List.append_assoc]; exact D7⟩
      case measure => simp [intOf]; omega
    · obtain rfl : n = k := by omega
      go_wp2_with fail
      go_loopw [0, 203] (fun d_ i wr => ∃ k : Nat, k ≤ (d - n) ∧ i = .int .i64 k ∧ Dst B blk l w wr d_ ([] ++ l.take n ++ List.replicate k 48)) (fun _ i _ => (d - n) - (intOf i).toNat)
      case atStart => exact ⟨0, Nat.zero_le _, rfl, by simpa using E1⟩
      case round =>
        obtain ⟨k, hk, rfl, E2⟩ := hrel
        by_cases hlt : k < (d - n)
        · go_wp2_with (first
            | (at_builtin; refine wpList_appN rfl (.tmp 205) (.tmp 206) rfl E2 rfl [48] _ _ _ _ rfl rfl rfl (by simp; have := hn.out; omega) ?_; intro v7 w7 D7))
          go_roundw
          case rel => exact ⟨k + 1, by omega, by go_num, by rw [List.replicate_succ', ← List.append_assoc]; exact D7⟩
          case measure => simp [intOf]; omega
        · have hkM : k = (d - n) := by omega
          rw [hkM] at E2
          have hI : ¬ ((k : Int) < (d : Int) - (n : Int)) := by omega
          clear hkM
          go_wp2_with fail
          go_ret
          exact ⟨_, rfl, by rw [hF.out]; exact E2⟩
set_option maxHeartbeats 2000000 in
theorem efg_F_pb (B blk : Nat) (v : Value) (l : List UInt8) (n : Nat) (d : Nat) (hd : 1 ≤ d) (hd2 : d ≤ 6) (hnd : d < n) (w : World) (D : Dst B blk l w w v []) (hn : Hid (l.length = n)) (hl : 1 ≤ n) (hl2 : n ≤ 20) (F : List UInt8) (hF : Hid (F = [] ++ l.take d ++ [46] ++ (l.drop d).take (n - d))) :
    Calls Tryd.prog 31 #[v, .bool false, .slice (some ⟨blk, 0, none⟩) 32 32, .int .i64 ((d : Int)), .int .i64 n, .int .i64 n, .int .u8 103, .bool true] w fun e w' => ∃ v', e = .returned v' ∧ Dst B blk l w w' v' F := by
  have m1 : max ((n : Int) - (d : Int)) 0 = (n : Int) - (d : Int) := by omega
  have m2 : min (n : Int) (d : Int) = d := by omega
  have m3 : max (d : Int) 0 = d := by omega
  have m4 : max 0 (-(d : Int)) = 0 := by omega
  have m5 : min ((n : Int) - (d : Int)) 0 = 0 := by omega
  have m6 : max 0 ((n : Int) - (d : Int)) = (n : Int) - (d : Int) := by omega
  have b1 : decide (d < n) = true := by simp; omega
  have b2 : decide (0 < d) = true := by simp; omega
  go_enter Tryd.func31, Tryd.ntmps31
  go_wp2_with fail
  go_loopw [0, 25, 191] (fun d_ _ i wr => ∃ k : Nat, k ≤ d ∧ i = .int .i64 k ∧ Dst B blk l w wr d_ ([] ++ l.take k)) (fun _ _ i _ => d - (intOf i).toNat)
  case atStart => exact ⟨0, Nat.zero_le _, rfl, by simpa using D⟩
  case round =>
    obtain ⟨k, hk, rfl, E1⟩ := hrel
    by_cases hlt : k < d
    · obtain ⟨y, hy⟩ : ∃ y, l[k]? = some y := ⟨_, List.getElem?_eq_getElem (by have := hn.out; omega)⟩
      have c1 := E1.cell _ y hy
      have HY := Lib.hid hy
      clear hy
      go_wp2_with (first
        | (at_builtin; refine wpList_appN rfl (.tmp 195) (.tmp 197) rfl E1 rfl [y] _ _ _ _ rfl rfl rfl (by simp; have := hn.out; omega) ?_; intro v7 w7 D7))
      go_roundw
      case rel => exact ⟨k + 1, by omega, by go_num, by rw [List.take_add_one, HY.out, ← List.append_assoc]; exact D7⟩
      case measure => simp [intOf]; omega
    · obtain rfl : d = k := by omega
      go_wp2_with fail
      go_loop [0, 203] (fun d_ i => d_ = u0 ∧ i = .int .i64 0) (fun _ _ => 0)
      case atStart => exact ⟨rfl, rfl⟩
      case round =>
        obtain ⟨rfl, rfl⟩ := hrel
        go_wp2_with (first
          | (at_builtin; refine wpList_appN rfl (.tmp 214) (.tmp 215) rfl E1 rfl [46] _ _ _ _ rfl rfl rfl (by simp; omega) ?_; intro v1 w1 D1))
        go_loop [0, 240] (fun d_ i => d_ = v1 ∧ i = .int .i64 0) (fun _ _ => 0)
        case atStart => exact ⟨rfl, rfl⟩
        case round =>
          obtain ⟨rfl, rfl⟩ := hrel
          go_wp2_with fail
          go_loopw [0, 30, 247] (fun d_ _ i wr => ∃ k : Nat, k ≤ (n - d) ∧ i = .int .i64 k ∧ Dst B blk l w wr d_ ([] ++ l.take d ++ [46] ++ (l.drop (d)).take k)) (fun _ _ i _ => (n - d) - (intOf i).toNat)
          case atStart => exact ⟨0, Nat.zero_le _, rfl, by simpa using D1⟩
          case round =>
            obtain ⟨k, hk, rfl, E4⟩ := hrel
            by_cases hlt : k < (n - d)
            · obtain ⟨y, hy⟩ : ∃ y, l[d + k]? = some y := ⟨_, List.getElem?_eq_getElem (by have := hn.out; omega)⟩
              have c1 := E4.cell _ y hy
              have HY := Lib.hid hy
              clear hy
              go_wp2_with (first
                | (at_builtin; refine wpList_appN rfl (.tmp 250) (.tmp 257) rfl E4 rfl [y] _ _ _ _ rfl rfl rfl (by simp; have := hn.out; omega) ?_; intro v7 w7 D7))
              go_roundw
              case rel => exact ⟨k + 1, by omega, by go_num, by rw [List.take_add_one, List.getElem?_drop, HY.out, ← List.append_assoc]; exact D7⟩
              case measure => simp [intOf]; omega
            · have hkM : k = (n - d) := by omega
              rw [hkM] at E4
              have hI : ¬ ((k : Int) < (n : Int) - (d : Int)) := by omega
              clear hkM
              go_wp2_with fail
              go_loop [0, 261] (fun d_ i => d_ = u0 ∧ i = .int .i64 0) (fun _ _ => 0)
              case atStart => exact ⟨rfl, rfl⟩
              case round =>
                obtain ⟨rfl, rfl⟩ := hrel
                go_wp2_with fail
                go_ret
                exact ⟨_, rfl, by rw [hF.out]; exact E4⟩
set_option maxHeartbeats 2000000 in
theorem efg_F_pz (B blk : Nat) (v : Value) (l : List UInt8) (n : Nat) (z : Nat) (hd2 : z ≤ 3) (w : World) (D : Dst B blk l w w v []) (hn : Hid (l.length = n)) (hl : 1 ≤ n) (hl2 : n ≤ 20) (F : List UInt8) (hF : Hid (F = [] ++ [48] ++ [46] ++ List.replicate z 48 ++ l.take n)) :
    Calls Tryd.prog 31 #[v, .bool false, .slice (some ⟨blk, 0, none⟩) 32 32, .int .i64 (-(z : Int)), .int .i64 n, .int .i64 n, .int .u8 103, .bool true] w fun e w' => ∃ v', e = .returned v' ∧ Dst B blk l w w' v' F := by
  have m1 : max ((n : Int) - -(z : Int)) 0 = (n : Int) + z := by omega
  have m1b : max ((n : Int) + (z : Int)) 0 = (n : Int) + z := by omega
  have m4 : max 0 (z : Int) = z := by omega
  have m5 : min ((n : Int) + (z : Int)) z = z := by omega
  have m6 : max 0 (n : Int) = n := by omega
  have m7 : -(z : Int) + (z : Int) = 0 := by omega
  go_enter Tryd.func31, Tryd.ntmps31
  go_wp2_with (first
    | (at_builtin; refine wpList_appN rfl (.tmp 209) (.tmp 210) rfl D rfl [48] _ _ _ _ rfl rfl rfl (by simp) ?_; intro v1 w1 D1)
    | (at_builtin; refine wpList_appN rfl (.tmp 214) (.tmp 215) rfl D1 rfl [46] _ _ _ _ rfl rfl rfl (by simp) ?_; intro v2 w2 D2))
  go_loopw [0, 240] (fun d_ i wr => ∃ k : Nat, k ≤ z ∧ i = .int .i64 k ∧ Dst B blk l w wr d_ ([] ++ [48] ++ [46] ++ List.replicate k 48)) (fun _ i _ => z - (intOf i).toNat)
  case atStart => exact ⟨0, Nat.zero_le _, rfl, by simpa using D2⟩
  case round =>
    obtain ⟨k, hk, rfl, E3⟩ := hrel
    by_cases hlt : k < z
    · go_wp2_with (first
        | (at_builtin; refine wpList_appN rfl (.tmp 242) (.tmp 243) rfl E3 rfl [48] _ _ _ _ rfl rfl rfl (by simp; have := hn.out; omega) ?_; intro v7 w7 D7))
      go_roundw
      case rel => exact ⟨k + 1, by omega, by go_num, by rw [List.replicate_succ', ← List.append_assoc]; exact D7⟩
      case measure => simp [intOf]; omega
    · obtain rfl : z = k := by omega
      go_wp2_with fail
      go_loopw [0, 30, 247] (fun d_ _ i wr => ∃ k : Nat, k ≤ n ∧ i = .int .i64 k ∧ Dst B blk l w wr d_ ([] ++ [48] ++ [46] ++ List.replicate z 48 ++ l.take k)) (fun _ _ i _ => n - (intOf i).toNat)
      case atStart => exact ⟨0, Nat.zero_le _, rfl, by simpa using E3⟩
      case round =>
        obtain ⟨k, hk, rfl, E4⟩ := hrel
        by_cases hlt : k < n
        · obtain ⟨y, hy⟩ : ∃ y, l[k]? = some y := ⟨_, List.getElem?_eq_getElem (by have := hn.out; omega)⟩
          have c1 := E4.cell _ y hy
          have HY := Lib.hid hy
          clear hy
          go_wp2_with (first
            | (at_builtin; refine wpList_appN rfl (.tmp 250) (.tmp 257) rfl E4 rfl [y] _ _ _ _ rfl rfl rfl (by simp; have := hn.out; omega) ?_; intro v7 w7 D7))
          go_roundw
          case rel => exact ⟨k + 1, by omega, by go_num, by rw [List.take_add_one, HY.out, ← List.append_assoc]; exact D7⟩
          case measure => simp [intOf]; omega
        · obtain rfl : n = k := by omega
          go_wp2_with fail
          go_loop [0, 261] (fun d_ i => d_ = u0 ∧ i = .int .i64 0) (fun _ _ => 0)
          case atStart => exact ⟨rfl, rfl⟩
          case round =>
            obtain ⟨rfl, rfl⟩ := hrel
            go_wp2_with fail
            go_ret
            exact ⟨_, rfl, by rw [hF.out]; exact E4⟩
set_option maxHeartbeats 2000000 in
theorem efg_F_na (B blk : Nat) (v : Value) (l : List UInt8) (n : Nat) (d : Nat) (hd : 1 ≤ d) (hd2 : d ≤ 6) (hnd : n ≤ d) (w : World) (D : Dst B blk l w w v []) (hn : Hid (l.length = n)) (hl : 1 ≤ n) (hl2 : n ≤ 20) (F : List UInt8) (hF : Hid (F = [45] ++ l.take n ++ List.replicate (d - n) 48)) :
    Calls Tryd.prog 31 #[v, .bool true, .slice (some ⟨blk, 0, none⟩) 32 32, .int .i64 ((d : Int)), .int .i64 n, .int .i64 n, .int .u8 103, .bool true] w fun e w' => ∃ v', e = .returned v' ∧ Dst B blk l w w' v' F := by
  have m1 : max ((n : Int) - (d : Int)) 0 = 0 := by omega
  have m2 : min (n : Int) (d : Int) = n := by omega
  have m3 : max (n : Int) 0 = n := by omega
  have b1 : decide (d < n) = false := by simp; omega
  have b2 : decide (0 < d) = true := by simp; omega
  go_enter Tryd.func31, Tryd.ntmps31
  go_wp2_with (first
    | (at_builtin; refine wpList_appN rfl (.tmp 179) (.tmp 180) rfl D rfl [45] _ _ _ _ rfl rfl rfl (by simp) ?_; intro v1 w1 D1))
  go_loopw [0, 25, 191] (fun d_ _ i wr => ∃ k : Nat, k ≤ n ∧ i = .int .i64 k ∧ Dst B blk l w wr d_ ([45] ++ l.take k)) (fun _ _ i _ => n - (intOf i).toNat)
  case atStart => exact ⟨0, Nat.zero_le _, rfl, by simpa using D1⟩
  case round =>
    obtain ⟨k, hk, rfl, E1⟩ := hrel
    by_cases hlt : k < n
    · obtain ⟨y, hy⟩ : ∃ y, l[k]? = some y := ⟨_, List.getElem?_eq_getElem (by have := hn.out; omega)⟩
      have c1 := E1.cell _ y hy
      have HY := Lib.hid hy
      clear hy
      go_wp2_with (first
        | (at_builtin; refine wpList_appN rfl (.tmp 195) (.tmp 197) rfl E1 rfl [y] _ _ _ _ rfl rfl rfl (by simp; have := hn.out; omega) ?_; intro v7 w7 D7))
      go_roundw
      case rel => exact ⟨k + 1, by omega, by go_num, by rw [List.take_add_one, HY.out, ← List.append_assoc]; exact D7⟩
      case measure => simp [intOf]; omega
    · obtain rfl : n = k := by omega
      go_wp2_with fail
      go_loopw [0, 203] (fun d_ i wr => ∃ k : Nat, k ≤ (d - n) ∧ i = .int .i64 k ∧ Dst B blk l w wr d_ ([45] ++ l.take n ++ List.replicate k 48)) (fun _ i _ => (d - n) - (intOf i).toNat)
      case atStart => exact ⟨0, Nat.zero_le _, rfl, by simpa using E1⟩
      case round =>
        obtain ⟨k, hk, rfl, E2⟩ := hrel
        by_cases hlt : k < (d - n)
        · go_wp2_with (first
            | (at_builtin; refine wpList_appN rfl (.tmp 205) (.tmp 206) rfl E2 rfl [48] _ _ _ _ rfl rfl rfl (by simp; have := hn.out; omega) ?_; intro v7 w7 D7))
          go_roundw
          case rel => exact ⟨k + 1, by omega, by go_num, by rw [List.replicate_succ', ← List.append_assoc]; exact D7⟩
          case measure => simp [intOf]; omega
        · have hkM : k = (d - n) := by omega
          rw [hkM] at E2
          have hI : ¬ ((k : Int) < (d : Int) - (n : Int)) := by omega
          clear hkM
          go_wp2_with fail
          go_ret
          exact ⟨_, rfl, by rw [hF.out]; exact E2⟩
set_option maxHeartbeats 2000000 in
theorem efg_F_nb (B blk : Nat) (v : Value) (l : List UInt8) (n : Nat) (d : Nat) (hd : 1 ≤ d) (hd2 : d ≤ 6) (hnd : d < n) (w : World) (D : Dst B blk l w w v []) (hn : Hid (l.length = n)) (hl : 1 ≤ n) (hl2 : n ≤ 20) (F : List UInt8) (hF : Hid (F = [45] ++ l.take d ++ [46] ++ (l.drop d).take (n - d))) :
    Calls Tryd.prog 31 #[v, .bool true, .slice (some ⟨blk, 0, none⟩) 32 32, .int .i64 ((d : Int)), .int .i64 n, .int .i64 n, .int .u8 103, .bool true] w fun e w' => ∃ v', e = .returned v' ∧ Dst B blk l w w' v' F := by
  have m1 : max ((n : Int) - (d : Int)) 0 = (n : Int) - (d : Int) := by omega
  have m2 : min (n : Int) (d : Int) = d := by omega
  have m3 : max (d : Int) 0 = d := by omega
  have m4 : max 0 (-(d : Int)) = 0 := by omega
  have m5 : min ((n : Int) - (d : Int)) 0 = 0 := by omega
  have m6 : max 0 ((n : Int) - (d : Int)) = (n : Int) - (d : Int) := by omega
  have b1 : decide (d < n) = true := by simp; omega
  have b2 : decide (0 < d) = true := by simp; omega
  go_enter Tryd.func31, Tryd.ntmps31
  go_wp2_with (first
    | (at_builtin; refine wpList_appN rfl (.tmp 179) (.tmp 180) rfl D rfl [45] _ _ _ _ rfl rfl rfl (by simp) ?_; intro v1 w1 D1))
  go_loopw [0, 25, 191] (fun d_ _ i wr => ∃ k : Nat, k ≤ d ∧ i = .int .i64 k ∧ Dst B blk l w wr d_ ([45] ++ l.take k)) (fun _ _ i _ => d - (intOf i).toNat)
  case atStart => exact ⟨0, Nat.zero_le _, rfl, by simpa using D1⟩
  case round =>
    obtain ⟨k, hk, rfl, E1⟩ := hrel
    by_cases hlt : k < d
    · obtain ⟨y, hy⟩ : ∃ y, l[k]? = some y := ⟨_, List.getElem?_eq_getElem (by have := hn.out; omega)⟩
      have c1 := E1.cell _ y hy
      have HY := Lib.hid hy
      clear hy
      go_wp2_with (first
        | (at_builtin; refine wpList_appN rfl (.tmp 195) (.tmp 197) rfl E1 rfl [y] _ _ _ _ rfl rfl rfl (by simp; have := hn.out; omega) ?_; intro v7 w7 D7))
      go_roundw
      case rel => exact ⟨k + 1, by omega, by go_num, by rw [List.take_add_one, HY.out, ← List.append_assoc]; exact D7⟩
      case measure => simp [intOf]; omega
    · obtain rfl : d = k := by omega
      go_wp2_with fail
      go_loop [0, 203] (fun d_ i => d_ = u0 ∧ i = .int .i64 0) (fun _ _ => 0)
      case atStart => exact ⟨rfl, rfl⟩
      case round =>
        obtain ⟨rfl, rfl⟩ := hrel
        go_wp2_with (first
          | (at_builtin; refine wpList_appN rfl (.tmp 214) (.tmp 215) rfl E1 rfl [46] _ _ _ _ rfl rfl rfl (by simp; omega) ?_; intro v2 w2 D2))
        go_loop [0, 240] (fun d_ i => d_ = v2 ∧ i = .int .i64 0) (fun _ _ => 0)
        case atStart => exact ⟨rfl, rfl⟩
        case round =>
          obtain ⟨rfl, rfl⟩ := hrel
          go_wp2_with fail
          go_loopw [0, 30, 247] (fun d_ _ i wr => ∃ k : Nat, k ≤ (n - d) ∧ i = .int .i64 k ∧ Dst B blk l w wr d_ ([45] ++ l.take d ++ [46] ++ (l.drop (d)).take k)) (fun _ _ i _ => (n - d) - (intOf i).toNat)
          case atStart => exact ⟨0, Nat.zero_le _, rfl, by simpa using D2⟩
          case round =>
            obtain ⟨k, hk, rfl, E4⟩ := hrel
            by_cases hlt : k < (n - d)
            · obtain ⟨y, hy⟩ : ∃ y, l[d + k]? = some y := ⟨_, List.getElem?_eq_getElem (by have := hn.out; omega)⟩
              have c1 := E4.cell _ y hy
              have HY := Lib.hid hy
              clear hy
              go_wp2_with (first
                | (at_builtin; refine wpList_appN rfl (.tmp 250) (.tmp 257) rfl E4 rfl [y] _ _ _ _ rfl rfl rfl (by simp; have := hn.out; omega) ?_; intro v7 w7 D7))
              go_roundw
              case rel => exact ⟨k + 1, by omega, by go_num, by rw [List.take_add_one, List.getElem?_drop, HY.out, ← List.append_assoc]; exact D7⟩
              case measure => simp [intOf]; omega
            · have hkM : k = (n - d) := by omega
              rw [hkM] at E4
              have hI : ¬ ((k : Int) < (n : Int) - (d : Int)) := by omega
              clear hkM
              go_wp2_with fail
              go_loop [0, 261] (fun d_ i => d_ = u0 ∧ i = .int .i64 0) (fun _ _ => 0)
              case atStart => exact ⟨rfl, rfl⟩
              case round =>
                obtain ⟨rfl, rfl⟩ := hrel
                go_wp2_with fail
                go_ret
                exact ⟨_, rfl, by rw [hF.out]; exact E4⟩
set_option maxHeartbeats 2000000 in
theorem efg_F_nz (B blk : Nat) (v : Value) (l : List UInt8) (n : Nat) (z : Nat) (hd2 : z ≤ 3) (w : World) (D : Dst B blk l w w v []) (hn : Hid (l.length = n)) (hl : 1 ≤ n) (hl2 : n ≤ 20) (F : List UInt8) (hF : Hid (F = [45] ++ [48] ++ [46] ++ List.replicate z 48 ++ l.take n)) :
    Calls Tryd.prog 31 #[v, .bool true, .slice (some ⟨blk, 0, none⟩) 32 32, .int .i64 (-(z : Int)), .int .i64 n, .int .i64 n, .int .u8 103, .bool true] w fun e w' => ∃ v', e = .returned v' ∧ Dst B blk l w w' v' F := by
  have m1 : max ((n : Int) - -(z : Int)) 0 = (n : Int) + z := by omega
  have m1b : max ((n : Int) + (z : Int)) 0 = (n : Int) + z := by omega
  have m4 : max 0 (z : Int) = z := by omega
  have m5 : min ((n : Int) + (z : Int)) z = z := by omega
  have m6 : max 0 (n : Int) = n := by omega
  have m7 : -(z : Int) + (z : Int) = 0 := by omega
  go_enter Tryd.func31, Tryd.ntmps31
  go_wp2_with (first
    | (at_builtin; refine wpList_appN rfl (.tmp 179) (.tmp 180) rfl D rfl [45] _ _ _ _ rfl rfl rfl (by simp) ?_; intro v1 w1 D1)
    | (at_builtin; refine wpList_appN rfl (.tmp 209) (.tmp 210) rfl D1 rfl [48] _ _ _ _ rfl rfl rfl (by simp) ?_; intro v2 w2 D2)
    | (at_builtin; refine wpList_appN rfl (.tmp 214) (.tmp 215) rfl D2 rfl [46] _ _ _ _ rfl rfl rfl (by simp) ?_; intro v3 w3 D3))
  go_loopw [0, 240] (fun d_ i wr => ∃ k : Nat, k ≤ z ∧ i = .int .i64 k ∧ Dst B blk l w wr d_ ([45] ++ [48] ++ [46] ++ List.replicate k 48)) (fun _ i _ => z - (intOf i).toNat)
  case atStart => exact ⟨0, Nat.zero_le _, rfl, by simpa using D3⟩
  case round =>
    obtain ⟨k, hk, rfl, E3⟩ := hrel
    by_cases hlt : k < z
    · go_wp2_with (first
        | (at_builtin; refine wpList_appN rfl (.tmp 242) (.tmp 243) rfl E3 rfl [48] _ _ _ _ rfl rfl rfl (by simp; have := hn.out; omega) ?_; intro v7 w7 D7))
      go_roundw
      case rel => exact ⟨k + 1, by omega, by go_num, by rw [List.replicate_succ', ← List.append_assoc]; exact D7⟩
      case measure => simp [intOf]; omega
    · obtain rfl : z = k := by omega
      go_wp2_with fail
      go_loopw [0, 30, 247] (fun d_ _ i wr => ∃ k : Nat, k ≤ n ∧ i = .int .i64 k ∧ Dst B blk l w wr d_ ([45] ++ [48] ++ [46] ++ List.replicate z 48 ++ l.take k)) (fun _ _ i _ => n - (intOf i).toNat)
      case atStart => exact ⟨0, Nat.zero_le _, rfl, by simpa using E3⟩
      case round =>
        obtain ⟨k, hk, rfl, E4⟩ := hrel
        by_cases hlt : k < n
        · obtain ⟨y, hy⟩ : ∃ y, l[k]? = some y := ⟨_, List.getElem?_eq_getElem (by have := hn.out; omega)⟩
          have c1 := E4.cell _ y hy
          have HY := Lib.hid hy
          clear hy
          go_wp2_with (first
            | (at_builtin; refine wpList_appN rfl (.tmp 250) (.tmp 257) rfl E4 rfl [y] _ _ _ _ rfl rfl rfl (by simp; have := hn.out; omega) ?_; intro v7 w7 D7))
          go_roundw
          case rel => exact ⟨k + 1, by omega, by go_num, by rw [List.take_add_one, HY.out, ← List.append_assoc]; exact D7⟩
          case measure => simp [intOf]; omega
        · obtain rfl : n = k := by omega
          go_wp2_with fail
          go_loop [0, 261] (fun d_ i => d_ = u0 ∧ i = .int .i64 0) (fun _ _ => 0)
          case atStart => exact ⟨rfl, rfl⟩
          case round =>
            obtain ⟨rfl, rfl⟩ := hrel
            go_wp2_with fail
            go_ret
            exact ⟨_, rfl, by rw [hF.out]; exact E4⟩
end Go.Proofs.YtnklnenjdffbaaaDoor
