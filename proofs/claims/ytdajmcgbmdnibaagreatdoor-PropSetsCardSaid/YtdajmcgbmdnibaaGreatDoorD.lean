/- cord: Num, Str; prop.run. -/
import Derived.Test.YtdajmcgbmdnibaaGreatDoorShelf
import Derived.Test.YtdajmcgbmdnibaaGreatDoorC
import Derived.Lib.AppendStr
import Derived.Laws.OwnMore
import Derived.Lib.ItoaLen
import Derived.Deep.AppendLies
namespace Go.Proofs.YtdajmcgbmdnibaaGreatDoor
open Go.RowKit
open Go.Lib (byteCells)
set_option linter.unusedVariables false
set_option maxRecDepth 100000

theorem byte_info : (Tryz.prog.info? 5).map (fun i => (i.zero, i.size, i.bytes)) = some (some (.int .u8 0), 1, 1) := by kernel_rfl
theorem block_add (a : Addr) (n : Nat) : (a.add n).block = a.block := by unfold Addr.add; split <;> rfl
theorem byteCells_app (a b : List UInt8) : byteCells (a ++ b) = byteCells a ++ byteCells b := by simp [byteCells]
theorem byteCells_one (l : List UInt8) : ∀ u ∈ byteCells l, u.oneCell' = true := by
  intro u hu; simp only [byteCells, List.mem_map] at hu; obtain ⟨x, _, rfl⟩ := hu; rfl
theorem below_own {base : Nat} {e : TypeId} {size n : Nat} {w w' : World} {v : Value} {xs : List Value} (h : w.ownsRow base e size v n xs) (hg : w.grownBy w' v.ownBlock) (hb : base ≤ w.heap.size) : Below base w w' :=
  (Below.refl _ _).grown hg hb (fun k hk => (h.lt k hk).1)

theorem own_below {W W' : World} {B e size n : Nat} {v : Value} {xs : List Value} (h : W.ownsRow B e size v n xs) (hb : Below W.heap.size W W') : W'.ownsRow B e size v n xs := by
  obtain ⟨h1, h2⟩ := h
  refine ⟨h1, ?_⟩
  rcases h2 with h2 | ⟨g, cap, cur, hv, hg, hh, r⟩
  · exact .inl h2
  · have hlt : g < W.heap.size := by
      rcases Nat.lt_or_ge g W.heap.size with h | h
      · exact h
      · rw [Array.getElem?_eq_none h] at hh; cases hh
    exact .inr ⟨g, cap, cur, hv, hg, (hb.block g hlt).trans hh, r⟩
/-- append(s, x...) on bytes that the call owns -/
theorem wpList_appB {w : World} {ops : Array Oper} {rest : List Oper} {o : Oper} {a : Act} {Q : Exit → Act → World → Prop} (hgd : o.guard = none) (s x : Operand)
    (ho : o.op = .call { callee := .builtin .append, args := #[s, x], argTypes := #[27, 27] })
    (base : Nat) (v : Value) (n : Nat) (l : List UInt8) (hs : a.eval s = v) (hown : w.ownsRow base 5 1 v n (byteCells l))
    (ad : Addr) (m c : Nat) (news : List UInt8) (hx : a.eval x = .slice (some ad) m c) (hl : news.length = m) (hnews : ∀ j u, (byteCells news)[j]? = some u → w.cell? (ad.add j) = some u)
    (hb : n + m ≤ 140737488355328) (hbase : base ≤ w.heap.size)
    (h : ∀ v' w', w'.ownsRow base 5 1 v' (n + m) (byteCells (l ++ news)) → Below base w w' → w.heap.size ≤ w'.heap.size → wpList Tryz.prog ops Q rest (a.put o.dst v') w') : wpList Tryz.prog ops Q (o :: rest) a w := by
  obtain ⟨i0, hi, hz0, hz1, hz2⟩ := info_parts byte_info
  refine wpList_append_own w hgd s x 27 ho base 5 i0 _ 1 1 Tryz.underlying27 hi hz0 hz1 hz2 rfl (by decide) v n _ hs hown ad m c (byteCells news) hx (by rw [Lib.byteCells_length]; omega) hnews (byteCells_one _)
    (by unfold maxLen; omega) (by omega) hbase ?_
  intro v' w' h1 h2 _
  rw [← byteCells_app] at h1
  exact h v' w' h1 (below_own hown h2 hbase) h2.size
/-- append(s, t...) of a string -/
theorem wpList_appS {w : World} {ops : Array Oper} {rest : List Oper} {o : Oper} {a : Act} {Q : Exit → Act → World → Prop} (hgd : o.guard = none) (s x : Operand)
    (ho : o.op = .call { callee := .builtin .append, args := #[s, x], argTypes := #[27, 9] })
    (base : Nat) (v : Value) (n : Nat) (l : List UInt8) (hs : a.eval s = v) (hown : w.ownsRow base 5 1 v n (byteCells l))
    (t : ByteArray) (hx : a.eval x = .string t) (hb : n + t.size ≤ 140737488355328) (hbase : base ≤ w.heap.size)
    (h : ∀ v' w', w'.ownsRow base 5 1 v' (n + t.size) (byteCells (l ++ t.data.toList)) → Below base w w' → w.heap.size ≤ w'.heap.size → wpList Tryz.prog ops Q rest (a.put o.dst v') w') : wpList Tryz.prog ops Q (o :: rest) a w := by
  obtain ⟨i0, hi, hz0, hz1, hz2⟩ := info_parts byte_info
  refine Lib.wpList_append_own_string w hgd s x 27 9 ho base 5 i0 Tryz.underlying27 Tryz.underlying9 hi hz0 hz1 hz2 v n _ hs hown t hx (by unfold maxLen; omega) hb hbase ?_
  intro v' w' h1 h2 _
  rw [Lib.strCells_eq, ← byteCells_app] at h1
  exact h v' w' h1 (below_own hown h2 hbase) h2.size

/-- the bytes of a text -/
def strB (l : List UInt8) : List UInt8 := Lib.itoa l.length ++ [58] ++ l ++ [44]
abbrev Tab (w : World) : Prop := Lib.TabBelow Tryz.prog 12 w "internal/strconv.uint64pow10" .u64 Lib.pow10Tab

theorem clone_nil (w : World) : Calls Tryz.prog 97 #[.slice none 0 0] w fun e w' => e = .returned (.slice none 0 0) ∧ w = w' := by
  have hn : ∀ W : World, (binOp .eql 27 (.slice none 0 0) (.slice none 0 0)).run Tryz.prog W = .ok (.bool true) W := fun W => by kernel_rfl
  go_enter Tryz.func97, Tryz.ntmps97
  go_wp2
  go_ret
  exact ⟨rfl, rfl⟩
theorem Tab.mono {w : World} (h : Tab w) {B : Nat} (hB : 12 ≤ B) : Lib.TabBelow Tryz.prog B w "internal/strconv.uint64pow10" .u64 Lib.pow10Tab := fun w' h' => h w' (h'.mono hB)
theorem Tab.on {w w' : World} (h : Tab w) {B : Nat} (hB : 12 ≤ B) (hb : Below B w w') : Tab w' := Lib.TabBelow.on h (hb.mono hB)
theorem one_byte (w : World) (x : UInt8) (t : TypeId) : ∀ j u, (byteCells [x])[j]? = some u → (w.alloc (.cells #[.int .u8 x.toNat] t)).cell? ((⟨w.heap.size, 0, none⟩ : Addr).add j) = some u := by
  intro j u hu
  cases j with
  | zero => simp [byteCells] at hu; subst hu; go_simp
  | succ j => simp [byteCells] at hu
theorem str_any (s : ByteArray) (w : World) (hs : s.size ≤ 1000000000000) (hG : 12 ≤ w.heap.size) (ht : Tab w) :
    Calls Tryz.prog 99 #[.slice none 0 0, .string s] w fun e w' => ∃ v, e = .returned v ∧ w'.ownsRow w.heap.size 5 1 v (strB s.data.toList).length (byteCells (strB s.data.toList)) ∧ Below w.heap.size w w' := by
  have HT := Lib.hid (ht.mono hG)
  clear ht
  go_enter Tryz.func99, Tryz.ntmps99
  go_wp2_with fail
  refine (clone_nil _).mono ?_
  rintro e w1 ⟨rfl, rfl⟩
  go_wp2_with fail
  refine (Tryz.strconv_AppendInt_10 w.heap.size 0 _ (by omega) (by omega) _ [] w (World.ownsRow_nil _ _ _ _) (Nat.le_refl _) (by omega) HT.out).mono ?_
  rintro e w1 ⟨v1, rfl, ho1, hb1, _⟩
  have hlen := Lib.hid (Lib.itoa_length_le (s.size : Int) (by omega) (by omega))
  have hz1 := hb1.size
  have HB1 := Lib.hid hb1
  clear hb1
  rw [Nat.zero_add, List.nil_append] at ho1
  go_wp2_with (first
    | (at_builtin; refine wpList_appB rfl (.tmp 10) (.tmp 11) rfl w.heap.size v1 _ (Lib.itoa s.size) rfl (ho1.alloc _) ⟨w1.heap.size, 0, none⟩ 1 1 [58] rfl rfl (one_byte _ _ _) (by have := hlen.out; omega) (by simp; omega) ?_; intro v2 w2 ho2 hb2 hz2; have HB2 := Lib.hid hb2; clear hb2; simp only [World.size_alloc] at hz2)
    | (at_builtin; refine wpList_appS rfl (.tmp 13) (.tmp 14) rfl w.heap.size v2 _ _ rfl ho2 s rfl (by have := hlen.out; omega) (by omega) ?_; intro v3 w3 ho3 hb3 hz3; have HB3 := Lib.hid hb3; clear hb3)
    | (at_builtin; refine wpList_appB rfl (.tmp 15) (.tmp 16) rfl w.heap.size v3 _ _ rfl (ho3.alloc _) ⟨w3.heap.size, 0, none⟩ 1 1 [44] rfl rfl (one_byte _ _ _) (by have := hlen.out; omega) (by simp; omega) ?_; intro v4 w4 ho4 hb4 hz4; have HB4 := Lib.hid hb4; clear hb4))
  go_ret
  refine ⟨v4, rfl, ?_, ?_⟩
  · have e : (strB s.data.toList).length = (Lib.itoa ↑s.size).length + 1 + s.size + 1 := by simp [strB]; omega
    have e2 : Lib.itoa ↑s.size ++ [58] ++ s.data.toList ++ [44] = strB s.data.toList := by simp [strB]
    rw [e, ← e2]; exact ho4
  · exact (((HB1.out.alloc hz1 _).trans HB2.out).trans HB3.out |>.alloc (by omega) _).trans HB4.out

/-- the bytes of numbers -/
def numB (l : List Int) : List UInt8 := l.flatMap fun n => Lib.itoa n ++ [59]
theorem numB_snoc (l : List Int) (k : Nat) (hk : k < l.length) : numB (l.take (k + 1)) = numB (l.take k) ++ (Lib.itoa (l[k]?.getD 0) ++ [59]) := by
  rw [List.take_add_one, List.getElem?_eq_getElem hk]; simp only [numB, Option.toList_some, List.flatMap_append, List.flatMap_cons, List.flatMap_nil, List.append_nil, Option.getD_some]
theorem numB_len (l : List Int) (h : ∀ x ∈ l, -9223372036854775808 ≤ x ∧ x ≤ 9223372036854775807) : (numB l).length ≤ 22 * l.length := by
  induction l with
  | nil => simp [numB]
  | cons x r ih =>
    have h1 := h x (by simp)
    have h2 := ih fun y hy => h y (by simp [hy])
    have h3 := Lib.itoa_length_le x h1.1 h1.2
    simp only [numB, List.flatMap_cons, List.length_append, List.length_cons, List.length_nil] at h2 ⊢
    omega
def IntsAt (w : World) (ad : Addr) (l : List Int) : Prop := ∀ j, j < l.length → w.cell? (ad.add j) = some (.int .i64 (l[j]?.getD 0))
theorem num_any (ad : Addr) (c : Nat) (l : List Int) (w : World) (hl : l.length ≤ 1000000) (hr : ∀ x ∈ l, -9223372036854775808 ≤ x ∧ x ≤ 9223372036854775807) (hc : IntsAt w ad l) (had : ad.block < w.heap.size)
    (hG : 12 ≤ w.heap.size) (ht : Tab w) :
    Calls Tryz.prog 62 #[.slice none 0 0, .slice (some ad) l.length c] w fun e w' => ∃ v, e = .returned v ∧ w'.ownsRow w.heap.size 5 1 v (numB l).length (byteCells (numB l)) ∧ Below w.heap.size w w' := by
  have HT := Lib.hid (ht.mono hG)
  have HC := Lib.hid hc
  have HR := Lib.hid hr
  clear ht hc hr
  go_enter Tryz.func62, Tryz.ntmps62
  go_wp2_with fail
  refine (clone_nil _).mono ?_
  rintro e w1 ⟨rfl, rfl⟩
  go_wp2_with fail
  go_loopw [5, 12] (fun v i wr => ∃ k : Nat, k ≤ l.length ∧ i = .int .i64 k ∧ wr.ownsRow w.heap.size 5 1 v (numB (l.take k)).length (byteCells (numB (l.take k))) ∧ Hid (Below w.heap.size w wr)) (fun v i wr => l.length - (intOf i).toNat)
  case atStart => exact ⟨0, Nat.zero_le _, rfl, World.ownsRow_nil _ _ _ _, Below.refl _ _⟩
  case round =>
    obtain ⟨k, hk, rfl, ho, hb⟩ := hrel
    have hz := hb.out.size
    by_cases hlt : k < l.length
    · have hck := (hb.out.cell (by rw [block_add]; exact had)).trans (HC.out k hlt)
      obtain ⟨x, hx⟩ : ∃ x, x = l[k]?.getD 0 := ⟨_, rfl⟩
      rw [← hx] at hck
      have hxr : -9223372036854775808 ≤ x ∧ x ≤ 9223372036854775807 := by
        have := HR.out l[k] (List.getElem_mem hlt); rw [hx, List.getElem?_eq_getElem hlt]; exact this
      have HX := Lib.hid hx
      clear hx
      have hxi := Lib.hid (Lib.itoa_length_le x hxr.1 hxr.2)
      have hnl := Lib.hid (numB_len (l.take k) (fun y hy => HR.out y (List.mem_of_mem_take hy)))
      have hnl2 : (numB (l.take k)).length ≤ 22 * l.length := by have := hnl.out; rw [List.length_take] at this; omega
      go_wp2_with fail
      refine (Tryz.strconv_AppendInt_10 w.heap.size _ _ hxr.1 hxr.2 _ _ wr ho hz (by omega) (Lib.TabBelow.on HT.out hb.out)).mono ?_
      rintro e w1 ⟨v1, rfl, ho1, hb1, _⟩
      rw [← byteCells_app] at ho1
      have hz1 := hb1.size
      have HB1 := Lib.hid hb1
      clear hb1 hxr
      go_wp2_with (first
        | (at_builtin; refine wpList_appB rfl (.tmp 18) (.tmp 19) rfl w.heap.size v1 _ _ rfl (ho1.alloc _) ⟨w1.heap.size, 0, none⟩ 1 1 [59] rfl rfl (one_byte _ _ _) (by have := hxi.out; omega) (by simp; omega) ?_; intro v2 w2 ho2 hb2 hz2; have HB2 := Lib.hid hb2; clear hb2; simp only [World.size_alloc] at hz2))
      go_roundw
      case rel =>
        refine ⟨k + 1, by omega, by go_num, ?_, ?_⟩
        · have e := numB_snoc l k hlt
          rw [← HX.out, ← List.append_assoc] at e
          rw [e]
          have e2 : (numB (List.take k l) ++ Lib.itoa x ++ [59]).length = (numB (List.take k l)).length + (Lib.itoa x).length + 1 := by simp [Nat.add_assoc]
          rw [e2]; exact ho2
        · exact ((hb.out.trans HB1.out).alloc (by omega) _).trans HB2.out
      case measure => simp [intOf]; omega
    · have e : l.take k = l := List.take_of_length_le (by omega)
      rw [e] at ho
      go_wp2
      go_ret
      exact ⟨u5, rfl, ho, hb.out⟩

theorem run_any (v : Value) (n : Nat) (l : List UInt8) (s : ByteArray) (B : Nat) (w : World) (ho : w.ownsRow B 5 1 v n (byteCells l)) (hB : 12 ≤ B) (hBw : B ≤ w.heap.size) (hn : n ≤ 1000000000000) (hs : s.size ≤ 1000000000000) (ht : Tab w) :
    Calls Tryz.prog 63 #[v, .string s] w fun e w' => ∃ v', e = .returned v' ∧ w'.ownsRow B 5 1 v' (n + (strB s.data.toList).length) (byteCells (l ++ strB s.data.toList)) ∧ Below B w w' := by
  have HT := Lib.hid ht
  clear ht
  have hl := Lib.hid (Lib.itoa_length_le (s.size : Int) (by omega) (by omega))
  have hl2 : Hid ((strB s.data.toList).length ≤ 1000000000100) := by
    have := hl.out; simp only [strB, List.length_append, List.length_cons, List.length_nil]; show _ ≤ _
    have e : s.data.toList.length = s.size := by simp
    rw [e]; omega
  go_enter Tryz.func63, Tryz.ntmps63
  go_wp2_with fail
  refine (str_any s w hs (by omega) HT.out).mono ?_
  rintro e w1 ⟨v1, rfl, ho1, hb1⟩
  have hz1 := hb1.size
  have hB1 := Lib.hid (hb1.mono hBw)
  have ho' := Lib.hid (own_below ho hb1)
  clear ho hb1
  have hp : 0 < (strB s.data.toList).length := by simp [strB]; omega
  obtain ⟨g, cap, hv, hg, hgl⟩ := ho1.form hp
  rw [hv] at ho1 ⊢
  clear hv
  have hcell := Lib.hid (ho1.cells (g := g) rfl)
  clear ho1
  generalize hL : strB s.data.toList = L at *
  go_wp2_with (first
    | (at_builtin; refine wpList_appB rfl (.tmp 5) (.tmp 7) rfl B v n l rfl ho'.out ⟨g, 0, none⟩ _ _ L rfl rfl hcell.out (by have := hl2.out; omega) (by omega) ?_; intro v2 w2 ho2 hb2 hz2; have HB2 := Lib.hid hb2; clear hb2))
  go_ret
  subst hL
  exact ⟨v2, rfl, ho2, hB1.out.trans HB2.out⟩
end Go.Proofs.YtdajmcgbmdnibaaGreatDoor
