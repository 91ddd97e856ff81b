/- strconv.fmtEFG in the form 'g', shortest. -/
import Derived.Test.YtnklnenjdffbaaaDoorFf
import Derived.Laws.OwnMore
import Derived.Lib.AppendStr
import Derived.OwnWalk
import Derived.LoopTactic
namespace Go.Proofs.YtnklnenjdffbaaaDoor
open Go.RowKit Go.Sort
open Go.Lib (byteCells)
set_option linter.unusedVariables false
set_option maxRecDepth 100000

theorem byte_info : (Tryd.prog.info? 5).map (fun i => (i.zero, i.size, i.bytes)) = some (some (.int .u8 0), 1, 1) := by kernel_rfl
theorem byteCells_app (a b : List UInt8) : byteCells (a ++ b) = byteCells a ++ byteCells b := by simp [byteCells]
theorem byteCells_one (l : List UInt8) : ∀ u ∈ byteCells l, u.oneCell' = true := by
  intro u hu; simp only [byteCells, List.mem_map] at hu; obtain ⟨x, _, rfl⟩ := hu; rfl
theorem byteCells_at (l : List UInt8) (j : Nat) : (byteCells l)[j]? = (l[j]?).map fun u => .int .u8 (u.toNat : Int) := by simp [byteCells]
theorem own_below {W W' : World} {B e size n : Nat} {v : Value} {xs : List Value} (h : W.ownsRow B e size v n xs) (hb : Below W.heap.size W W') : W'.ownsRow B e size v n xs := by
  obtain ⟨h1, h2⟩ := h
  refine ⟨h1, ?_⟩
  rcases h2 with h2 | ⟨g, cap, cur, hv, hg, hh, r⟩
  · exact .inl h2
  · have hlt : g < W.heap.size := by
      rcases Nat.lt_or_ge g W.heap.size with h | h
      · exact h
      · rw [Array.getElem?_eq_none h] at hh; cases hh
    exact .inr ⟨g, cap, cur, hv, hg, (hb.block g hlt).trans hh, r⟩
theorem own_mono {w : World} {B B' e size n : Nat} {v : Value} {xs : List Value} (h : w.ownsRow B e size v n xs) (hB : B' ≤ B) : w.ownsRow B' e size v n xs := by
  obtain ⟨h1, h2⟩ := h
  refine ⟨h1, ?_⟩
  rcases h2 with h2 | ⟨g, cap, cur, hv, hg, r⟩
  · exact .inl h2
  · exact .inr ⟨g, cap, cur, hv, by omega, r⟩

/-- a text that grows: v owns its bytes; a block of digits lies beside it -/
structure Dst (B blk : Nat) (l : List UInt8) (w0 w : World) (v : Value) (L : List UInt8) : Prop where
  own : w.ownsRow B 5 1 v L.length (byteCells L)
  at_ : BytesAt w blk 58 l ∨ l = []
  below : Below B w0 w
  hB : B ≤ w.heap.size
section
variable {B blk : Nat} {l L : List UInt8} {w0 w w' : World} {v : Value}
theorem Dst.alloc (h : Dst B blk l w0 w v L) (o : Obj) : Dst B blk l w0 (w.alloc o) v L := by
  refine ⟨h.own.alloc _, ?_, h.below.alloc h.hB _, by have := h.hB; simp; omega⟩
  rcases h.at_ with ⟨c, h1, h2⟩ | h1
  · refine .inl ⟨c, (Below.heap_alloc w o blk ?_).trans h1, h2⟩
    rcases Nat.lt_or_ge blk w.heap.size with h | h
    · exact h
    · rw [Array.getElem?_eq_none h] at h1; cases h1
  · exact .inr h1
theorem Dst.cell (h : Dst B blk l w0 w v L) (j : Nat) (u : UInt8) (hj : l[j]? = some u) : w.cell? ⟨blk, j, none⟩ = some (.int .u8 (u.toNat : Int)) := by
  rcases h.at_ with h1 | h1
  · exact h1.cell j u hj
  · rw [h1] at hj; cases hj
theorem Dst.grown (h : Dst B blk l w0 w v L) {v' : Value} {L' : List UInt8} (ho : w'.ownsRow B 5 1 v' L'.length (byteCells L')) (hg : w.grownBy w' v.ownBlock) : Dst B blk l w0 w' v' L' := by
  refine ⟨ho, ?_, h.below.grown hg h.hB (fun k hk => (h.own.lt k hk).1), by have := h.hB; have := hg.size; omega⟩
  rcases h.at_ with ⟨c, h1, h2⟩ | h1
  · have hlt : blk < w.heap.size := by
      rcases Nat.lt_or_ge blk w.heap.size with h | h
      · exact h
      · rw [Array.getElem?_eq_none h] at h1; cases h1
    refine .inl ⟨c, (hg.block blk hlt ?_).trans h1, h2⟩
    intro e
    rcases h.own.2 with ⟨rfl, _⟩ | ⟨g', cap, cur, rfl, _, hh, _⟩
    · simp [Value.ownBlock] at e
    · have : g' = blk := by simpa [Value.ownBlock] using e.symm
      subst this
      rw [hh] at h1
      injection h1 with h1
      injection h1 with _ ht
      cases ht
  · exact .inr h1
/-- append of bytes that lie in a new block -/
theorem wpList_appN {ops : Array Oper} {rest : List Oper} {o : Oper} {a : Act} {Q : Exit → Act → World → Prop} (hgd : o.guard = none) (s x : Operand)
    (ho : o.op = .call { callee := .builtin .append, args := #[s, x], argTypes := #[46, 46] }) (D : Dst B blk l w0 w v L) (hs : a.eval s = v) (news : List UInt8) (cs : Array Value) (T m c : Nat) (hcs : cs.toList = byteCells news)
    (hx : a.eval x = .slice (some ⟨w.heap.size, 0, none⟩) m c) (hm : news.length = m) (hlen : L.length + m ≤ 1000000)
    (h : ∀ v' w', Dst B blk l w0 w' v' (L ++ news) → wpList Tryd.prog ops Q rest (a.put o.dst v') w') : wpList Tryd.prog ops Q (o :: rest) a (w.alloc (.cells cs T)) := by
  obtain ⟨i0, hi, hz0, hz1, hz2⟩ := info_parts byte_info
  have D' := D.alloc (.cells cs T)
  refine wpList_append_own _ hgd s x 46 ho B 5 i0 _ 1 1 Tryd.underlying46 hi hz0 hz1 hz2 rfl (by decide) v _ _ hs D'.own ⟨w.heap.size, 0, none⟩ m c (byteCells news) hx (by rw [Lib.byteCells_length]; omega) ?_ (byteCells_one _)
    (by unfold maxLen; omega) (by omega) D'.hB ?_
  · intro j u hu
    rw [Lib.add_plain, World.cell?_alloc_new, Nat.zero_add, ← Array.getElem?_toList, hcs, hu]
  · intro v' w' h1 h2 _
    rw [← byteCells_app] at h1
    exact h v' w' (D'.grown (by rw [List.length_append, hm]; exact h1) h2)
/-- append of digits out of the block -/
theorem wpList_appD {ops : Array Oper} {rest : List Oper} {o : Oper} {a : Act} {Q : Exit → Act → World → Prop} (hgd : o.guard = none) (s x : Operand)
    (ho : o.op = .call { callee := .builtin .append, args := #[s, x], argTypes := #[46, 46] }) (D : Dst B blk l w0 w v L) (hs : a.eval s = v) (i m c : Nat)
    (hx : a.eval x = .slice (some ⟨blk, i, none⟩) m c) (hm : i + m ≤ l.length) (hlen : L.length + m ≤ 1000000)
    (h : ∀ v' w', Dst B blk l w0 w' v' (L ++ (l.drop i).take m) → wpList Tryd.prog ops Q rest (a.put o.dst v') w') : wpList Tryd.prog ops Q (o :: rest) a w := by
  obtain ⟨i0, hi, hz0, hz1, hz2⟩ := info_parts byte_info
  have hl : ((l.drop i).take m).length = m := by simp; omega
  refine wpList_append_own _ hgd s x 46 ho B 5 i0 _ 1 1 Tryd.underlying46 hi hz0 hz1 hz2 rfl (by decide) v _ _ hs D.own ⟨blk, i, none⟩ m c (byteCells ((l.drop i).take m)) hx (by rw [Lib.byteCells_length]; omega) ?_ (byteCells_one _)
    (by unfold maxLen; omega) (by omega) D.hB ?_
  · intro j u hu
    rw [byteCells_at] at hu
    cases hx : ((l.drop i).take m)[j]? with
    | none => rw [hx] at hu; cases hu
    | some y =>
      rw [hx] at hu
      rw [Lib.add_plain]
      have : l[i + j]? = some y := by
        have hjm : j < m := by have := (List.getElem?_eq_some_iff.1 hx).1; omega
        rw [List.getElem?_take_of_lt hjm, List.getElem?_drop] at hx; exact hx
      rw [D.cell _ y this, ← Option.some.inj hu]
  · intro v' w' h1 h2 _
    rw [← byteCells_app] at h1
    exact h v' w' (D.grown (by rw [List.length_append, hl]; exact h1) h2)
end

/-- a number's text: the sign, the digits, where the point stands -/
def sgnB (neg : Bool) : List UInt8 := if neg then [45] else []
def expB (a : Nat) : List UInt8 := if a < 10 then [48, UInt8.ofNat (a + 48)] else if a < 100 then [UInt8.ofNat (a / 10 + 48), UInt8.ofNat (a % 10 + 48)] else [UInt8.ofNat (a / 100 + 48), UInt8.ofNat (a / 10 % 10 + 48), UInt8.ofNat (a % 10 + 48)]
def fmtE (l : List UInt8) (e : Int) : List UInt8 := l.take 1 ++ (if 1 < l.length then 46 :: l.drop 1 else []) ++ [101] ++ [if e < 0 then 45 else 43] ++ expB e.natAbs
def fmtF (l : List UInt8) (dp : Int) : List UInt8 :=
  if 0 < dp then l.take dp.toNat ++ List.replicate (dp.toNat - l.length) 48 ++ (if dp.toNat < l.length then 46 :: l.drop dp.toNat else [])
  else 48 :: 46 :: (List.replicate (-dp).toNat 48 ++ l)
def fmtG (l : List UInt8) (dp : Int) : List UInt8 := if dp - 1 < -4 ∨ 6 ≤ dp - 1 then fmtE l (dp - 1) else fmtF l dp

theorem ofNat_byte (n : Nat) (h : n < 256) : ((UInt8.ofNat n).toNat : Int) = n := by
  rw [UInt8.toNat_ofNat']; omega
theorem exp1 (X : Int) (h0 : 0 ≤ X) (h : X < 10) : #[Value.int .u8 48, .int .u8 (X + 48)].toList = byteCells (expB X.toNat) := by
  obtain ⟨a, rfl⟩ := Int.eq_ofNat_of_zero_le h0
  rw [Int.toNat_natCast]
  unfold expB
  rw [if_pos (by omega)]
  simp only [byteCells, List.map_cons, List.map_nil]
  rw [ofNat_byte _ (by omega)]
  rfl
theorem exp2 (X : Int) (h0 : 10 ≤ X) (h : X < 100) : #[Value.int .u8 (X / 10 + 48), .int .u8 (X % 10 + 48)].toList = byteCells (expB X.toNat) := by
  obtain ⟨a, rfl⟩ := Int.eq_ofNat_of_zero_le (show 0 ≤ X by omega)
  rw [Int.toNat_natCast]
  unfold expB
  rw [if_neg (by omega), if_pos (by omega)]
  simp only [byteCells, List.map_cons, List.map_nil]
  rw [ofNat_byte _ (by omega), ofNat_byte _ (by omega)]
  rfl
theorem exp3 (X : Int) (h0 : 100 ≤ X) (h : X ≤ 400) : #[Value.int .u8 (X / 100 + 48), .int .u8 (X / 10 % 10 + 48), .int .u8 (X % 10 + 48)].toList = byteCells (expB X.toNat) := by
  obtain ⟨a, rfl⟩ := Int.eq_ofNat_of_zero_le (show 0 ≤ X by omega)
  rw [Int.toNat_natCast]
  unfold expB
  rw [if_neg (by omega), if_neg (by omega)]
  simp only [byteCells, List.map_cons, List.map_nil]
  rw [ofNat_byte _ (by omega), ofNat_byte _ (by omega), ofNat_byte _ (by omega)]
  rfl
theorem expl1 (X : Int) (h0 : 0 ≤ X) (h : X < 10) : (expB X.toNat).length = 2 := by unfold expB; rw [if_pos (by omega)]; rfl
theorem expl2 (X : Int) (h0 : 10 ≤ X) (h : X < 100) : (expB X.toNat).length = 2 := by unfold expB; rw [if_neg (by omega), if_pos (by omega)]; rfl
theorem expl3 (X : Int) (h0 : 100 ≤ X) (h : X ≤ 400) : (expB X.toNat).length = 3 := by unfold expB; rw [if_neg (by omega), if_neg (by omega)]; rfl

end Go.Proofs.YtnklnenjdffbaaaDoor
