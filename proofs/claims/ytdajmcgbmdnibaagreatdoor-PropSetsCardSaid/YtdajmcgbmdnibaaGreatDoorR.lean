/- trivetlaw07.long; trivetlaw07.PropSets walked. -/
import Derived.Test.YtdajmcgbmdnibaaGreatDoorQ
namespace Go.Proofs.YtdajmcgbmdnibaaGreatDoor
open Go.RowKit
set_option linter.unusedVariables false
set_option maxRecDepth 100000
attribute [local go_sem] run_store_float

set_option maxHeartbeats 1000000 in
theorem long_any (A : Option Addr) (c : Nat) (l : List Pr) (w : World) (hl : l.length ≤ 9223372036854775807) (hc : PropsAt w A l) (hs : Fits l) :
    Calls Tryz.prog 16 #[.slice A l.length c] w fun e w' => ∃ b, e = .returned (.bool b) ∧ Below w.heap.size w w' := by
  have HC := Lib.hid hc
  have HS := Lib.hid hs
  clear hc hs
  go_enter Tryz.func16, Tryz.ntmps16
  go_wp2_with fail
  go_loopw [3, 8] (fun n i wr => ∃ (k : Nat) (x : Int), k ≤ l.length ∧ i = .int .i64 k ∧ n = .int .i64 x ∧ Hid (Below w.heap.size w wr)) (fun n i wr => l.length - (intOf i).toNat)
  case atStart => exact ⟨0, 0, Nat.zero_le _, rfl, rfl, Below.refl _ _⟩
  case round =>
    obtain ⟨k, x, hk, rfl, rfl, hb⟩ := hrel
    have hz := hb.out.size
    by_cases hlt : k < l.length
    · obtain ⟨p, hp⟩ : ∃ p, l[k]? = some p := ⟨_, List.getElem?_eq_getElem hlt⟩
      obtain ⟨b, o, rfl, hbl, hcell⟩ := (HC.out.below hb.out) (by omega)
      have hck := hcell k p hp
      clear hcell
      have hfit := HS.out p (List.mem_of_getElem? hp)
      clear hp
      have c0 := hck 0 _ rfl
      have c1 := hck 1 _ rfl
      have c2 := hck 2 _ rfl
      have c3 := hck 3 _ rfl
      have c4 := hck 4 _ rfl
      rw [Nat.add_zero] at c0
      clear hck
      go_wp2_with fail
      · go_ret
        exact ⟨true, rfl, hb.out.alloc hz _⟩
      · go_roundw
        case rel => exact ⟨k + 1, _, by omega, by go_num, rfl, hb.out.alloc hz _⟩
        case measure => simp [intOf]; omega
    · obtain rfl : k = l.length := by omega
      go_wp2_with fail
      go_ret
      exact ⟨false, rfl, hb.out⟩

theorem same_self (v : V) : v.same v = true := by simp [V.same]
theorem get_none_of {l : List Pr} {s : ByteArray} {i : Nat} (hv : validB l = true) (hp : IsPlace l s i) (h : there l s i = false) : getB l s = none := by
  obtain ⟨hlo, hhi⟩ := not_there (valid_iff.1 hv).2.2 hp h
  refine get_none fun q hq hqe => ?_
  have : q ∈ l.take i ∨ q ∈ l.drop i := by rw [← List.mem_append, List.take_append_drop]; exact hq
  rcases this with h | h
  · exact ltN_ne (hlo q h) hqe
  · exact ltN_ne (hhi q h) hqe.symm
theorem putB_fits {l : List Pr} {p : Pr} {i : Nat} (hl : Fits l) (hp : p.name.size ≤ 9223372036854775807 ∧ p.v.text.size ≤ 9223372036854775807) : Fits (putB l i p) := by
  intro x hx
  unfold putB at hx
  split at hx
  · rcases List.mem_or_eq_of_mem_set hx with h | h
    · exact hl x h
    · subst h; exact hp
  · unfold insB at hx
    rcases List.mem_append.1 hx with h | h
    · exact hl x (List.mem_of_mem_take h)
    · rcases List.mem_cons.1 h with h | h
      · subst h; exact hp
      · exact hl x (List.mem_of_mem_drop h)
def PAt (w : World) (b : Nat) (p : Pr) : Prop := w.cell? ⟨b, 0, none⟩ = some (.string p.name) ∧ w.cell? ⟨b, 1, none⟩ = some (.int .i64 p.v.kind) ∧ w.cell? ⟨b, 2, none⟩ = some (.int .i64 p.v.num) ∧ w.cell? ⟨b, 3, none⟩ = some (.string p.v.text) ∧ w.cell? ⟨b, 4, none⟩ = some (.float .f64 p.v.real)
theorem pat_of {w W : World} {b : Nat} {p : Pr} (h : W.heap[b]? = some (.cells p.cells.toArray 44 (0, 0))) (hb : Below (b + 1) W w) : PAt w b p := by
  have hr : w.heap[b]? = some (.cells p.cells.toArray 44 (0, 0)) := (hb.block _ (by omega)).trans h
  refine ⟨?_, ?_, ?_, ?_, ?_⟩ <;> (rw [cell_of_row w _ _ _ 44 (0, 0) hr]; rfl)
def VAt (w : World) (b : Nat) (v : V) : Prop := w.cell? ⟨b, 0, none⟩ = some (.int .i64 v.kind) ∧ w.cell? ⟨b, 1, none⟩ = some (.int .i64 v.num) ∧ w.cell? ⟨b, 2, none⟩ = some (.string v.text) ∧ w.cell? ⟨b, 3, none⟩ = some (.float .f64 v.real)
theorem vat_of {w W : World} {b : Nat} {v : V} (h : W.heap[b]? = some (.cells #[.int .i64 v.kind, .int .i64 v.num, .string v.text, .float .f64 v.real] 37 (0, 0))) (hb : Below (b + 1) W w) : VAt w b v := by
  have hr := (hb.block b (by omega)).trans h
  refine ⟨?_, ?_, ?_, ?_⟩ <;> (rw [cell_of_row w _ _ _ 37 (0, 0) hr]; rfl)
def FitsP (p : Pr) : Prop := p.name.size ≤ 9223372036854775807 ∧ p.v.text.size ≤ 9223372036854775807
theorem fits_of {l : List Pr} (h : validB l = true) : ∀ p ∈ l, p.name.size ≤ 16 := by
  intro p hp
  have := ((valid_iff.1 h).2.1 p hp).1
  unfold nameB at this
  simp only [Bool.and_eq_true, decide_eq_true_eq] at this
  exact this.2.1
set_option maxHeartbeats 4000000 in
theorem sets_any (A B : Option Addr) (c d : Nat) (l m : List Pr) (w : World) (hl : l.length ≤ 9223372036854775807) (hm : m.length ≤ 9223372036854775807) (hc : PropsAt w A l) (hs : Fits l) (hc' : PropsAt w B m) (hs' : Fits m) (hG : 12 ≤ w.heap.size) (hT : Tab w) :
    Calls Tryz.prog 6 #[.slice A l.length c, .slice B m.length d] w fun e w' => e = .returned (.bool true) ∧ Below w.heap.size w w' := by
  have HC := Lib.hid hc
  have HS := Lib.hid hs
  have HCM := Lib.hid hc'
  have HSM := Lib.hid hs'
  have HTab := Lib.hid hT
  clear hc hs hc' hs' hT
  go_enter Tryz.func6, Tryz.ntmps6
  go_wp2_with fail
  refine (wakes_any w hG HTab.out).mono ?_
  rintro e w1 ⟨rfl, hb1⟩
  have HB1 := Lib.hid hb1
  have hz1 := hb1.size
  clear hb1
  go_wp2_with fail
  refine (long_any A c l w1 hl (HC.out.below HB1.out) HS.out).mono ?_
  rintro e w2 ⟨b2, rfl, hb2⟩
  have HB2 := Lib.hid (HB1.out.trans (hb2.mono hz1))
  have hz2 := HB2.out.size
  clear hb2
  cases b2 with
  | true =>
    go_wp2_with fail
    go_ret
    exact ⟨rfl, HB2.out⟩
  | false =>
  go_wp2_with fail
  refine (long_any B d m w2 hm (HCM.out.below HB2.out) HSM.out).mono ?_
  rintro e w3 ⟨b3, rfl, hb3⟩
  have HB3 := Lib.hid (HB2.out.trans (hb3.mono hz2))
  have hz3 := HB3.out.size
  clear hb3
  cases b3 with
  | true =>
    go_wp2_with fail
    go_ret
    exact ⟨rfl, HB3.out⟩
  | false =>
  go_wp2_with fail
  refine (valid_any A c l w3 hl (HC.out.below HB3.out) HS.out).mono ?_
  rintro e w4 ⟨rfl, hb4⟩
  have HB4 := Lib.hid (HB3.out.trans (hb4.mono hz3))
  have hz4 := HB4.out.size
  clear hb4
  by_cases hv : validB l = true
  rotate_left
  · have hv : validB l = false := by simpa using hv
    rw [hv]
    go_wp2_with fail
    go_ret
    exact ⟨rfl, HB4.out⟩
  have HV := Lib.hid hv
  rw [hv]
  clear hv
  by_cases h40 : 40 < m.length
  · go_wp2_with fail
    go_ret
    exact ⟨rfl, HB4.out⟩
  go_wp2_with fail
  go_loopw [0, 38] (fun v i wr => ∃ (k : Nat) (q : List Pr) (A' : Option Addr) (c' : Nat), k ≤ m.length ∧ i = .int .i64 k ∧ v = .slice A' q.length c' ∧ q.length ≤ 16 ∧ Hid (PropsAt wr A' q) ∧ Hid (Fits q) ∧ Hid (validB q = true) ∧ Hid (Below w.heap.size w wr)) (fun v i wr => m.length - (intOf i).toNat)
  case atStart => exact ⟨0, l, A, c, Nat.zero_le _, rfl, rfl, (valid_iff.1 HV.out).1, HC.out.below HB4.out, HS.out, HV.out, HB4.out⟩
  case round =>
    obtain ⟨k, q, A', c', hk, rfl, rfl, hq16, hpa, hfq, hvq, hb⟩ := hrel
    obtain ⟨wo, rfl⟩ : ∃ wo, wo = wr := ⟨_, rfl⟩
    have hz := hb.out.size
    by_cases hlt : k < m.length
    · obtain ⟨p, hp⟩ : ∃ p, m[k]? = some p := ⟨_, List.getElem?_eq_getElem hlt⟩
      obtain ⟨b, o, rfl, hbl, hcell⟩ := (HCM.out.below hb.out) (by omega)
      have hck := hcell k p hp
      clear hcell
      have hfit := HSM.out p (List.mem_of_getElem? hp)
      clear hp
      have c0 := hck 0 _ rfl
      have c1 := hck 1 _ rfl
      have c2 := hck 2 _ rfl
      have c3 := hck 3 _ rfl
      have c4 := hck 4 _ rfl
      rw [Nat.add_zero] at c0
      clear hck
      go_wp2_with fail
      generalize hW : wo.alloc (.cells #[.string p.name, .int .i64 p.v.kind, .int .i64 p.v.num, .string p.v.text, .float .f64 p.v.real] 44) = W0
      have HR : Hid (W0.heap[wo.heap.size]? = some (.cells p.cells.toArray 44 (0, 0))) := by rw [← hW]; exact heap_alloc_new wo _
      have hz0 : W0.heap.size = wo.heap.size + 1 := by rw [← hW]; simp
      have HB0 : Hid (Below wo.heap.size wo W0) := by rw [← hW]; exact (Below.refl _ _).alloc (Nat.le_refl _) _
      clear hW c0 c1 c2 c3 c4
      refine (get_any A' c' q p.name W0 (by omega) (hpa.out.below HB0.out)).mono ?_
      rintro e w5 ⟨rfl, hb5⟩
      generalize hgv : getV q p.name = gv
      generalize hhad : (getB q p.name).isSome = had
      have HAD := Lib.hid hhad
      have HB5 : Hid (Below (wo.heap.size + 1) W0 w5) := hb5.mono (by omega)
      have hz5 := hb5.size
      clear hb5 hgv hhad
      have a0 := fun X => (pat_of HR.out (HB5.out.alloc (by omega) X)).1
      have a1 := fun X => (pat_of HR.out (HB5.out.alloc (by omega) X)).2.1
      have a2 := fun X => (pat_of HR.out (HB5.out.alloc (by omega) X)).2.2.1
      have a3 := fun X => (pat_of HR.out (HB5.out.alloc (by omega) X)).2.2.2.1
      have a4 := fun X => (pat_of HR.out (HB5.out.alloc (by omega) X)).2.2.2.2
      go_wp2_with fail
      generalize hW6 : w5.alloc (.cells #[.int .i64 gv.kind, .int .i64 gv.num, .string gv.text, .float .f64 gv.real] 37) = w6
      have HB6 : Hid (Below (wo.heap.size + 1) W0 w6) := by rw [← hW6]; exact HB5.out.alloc (by omega) _
      have hz6 := HB6.out.size
      clear hW6 a0 a1 a2 a3 a4
      have HBr6 : Hid (Below wo.heap.size wo w6) := HB0.out.trans (HB6.out.mono (by omega))
      refine (set_any A' c' q p w6 (by omega) (hpa.out.below HBr6.out) hfq.out hfit).mono ?_
      rintro e w7 ⟨hb7, hres⟩
      have HB7 : Hid (Below (wo.heap.size + 1) W0 w7) := HB6.out.trans (hb7.mono (by omega))
      have HBr7 : Hid (Below wo.heap.size wo w7) := HBr6.out.trans (hb7.mono (by omega))
      have hz7 := HB7.out.size
      clear hb7
      obtain ⟨d0, d1, d2, d3, d4⟩ := pat_of HR.out HB7.out
      rcases hres with ⟨hok, rfl⟩ | ⟨hok, i, hpl, hres⟩
      · -- ErrMsg
        have hnot : nameB p.name = true → p.v.good = false := by
          intro hn
          unfold setOK at hok
          rw [hvq.out, hn] at hok
          simpa using hok
        by_cases hn : nameB p.name = true
        · have hg := hnot hn
          clear hnot hok
          go_wp2_with fail
          refine (name_any p.name w7 hfit.1).mono ?_
          rintro e w8 ⟨rfl, hb8⟩
          rw [hn]
          have HB8 : Hid (Below (wo.heap.size + 1) W0 w8) := HB7.out.trans (hb8.mono (by omega))
          have HBr8 : Hid (Below wo.heap.size wo w8) := HBr7.out.trans (hb8.mono (by omega))
          have hz8 := HB8.out.size
          clear hb8 d0 d1 d2 d3 d4
          obtain ⟨d0, d1, d2, d3, d4⟩ := pat_of HR.out HB8.out
          go_wp2_with fail
          refine (good_any p.v w8 hfit.2).mono ?_
          rintro e w9 ⟨rfl, hb9⟩
          rw [hg]
          have HBr9 : Hid (Below wo.heap.size wo w9) := HBr8.out.trans (hb9.mono (by omega))
          clear hb9 d0 d1 d2 d3 d4
          go_wp2_with fail
          go_roundw
          case rel => exact ⟨k + 1, q, A', c', by omega, by go_num, rfl, hq16, hpa.out.below HBr9.out, hfq.out, hvq.out, hb.out.trans (HBr9.out.mono (by omega))⟩
          case measure => simp [intOf]; omega
        · have hn : nameB p.name = false := by simpa using hn
          clear hnot hok
          go_wp2_with fail
          refine (name_any p.name w7 hfit.1).mono ?_
          rintro e w8 ⟨rfl, hb8⟩
          rw [hn]
          have HBr8 : Hid (Below wo.heap.size wo w8) := HBr7.out.trans (hb8.mono (by omega))
          clear hb8 d0 d1 d2 d3 d4
          go_wp2_with fail
          go_roundw
          case rel => exact ⟨k + 1, q, A', c', by omega, by go_num, rfl, hq16, hpa.out.below HBr8.out, hfq.out, hvq.out, hb.out.trans (HBr8.out.mono (by omega))⟩
          case measure => simp [intOf]; omega
      · rcases hres with ⟨h16, ht, rfl⟩ | ⟨hor, v7, rfl, ho7⟩
        · -- ErrRoom
          obtain rfl : had = false := by rw [← HAD.out, get_none_of hvq.out hpl ht]; rfl
          clear hok hpl ht
          go_wp2_with fail
          go_roundw
          case rel => exact ⟨k + 1, q, A', c', by omega, by go_num, rfl, hq16, hpa.out.below HBr7.out, hfq.out, hvq.out, hb.out.trans (HBr7.out.mono (by omega))⟩
          case measure => simp [intOf]; omega
        · have PF := Lib.hid (put_facts hok hpl hor)
          have HFP := Lib.hid (putB_fits (i := i) hfq.out hfit)
          obtain ⟨L, hL⟩ : ∃ L, putB q i p = L := ⟨_, rfl⟩
          rw [hL] at PF HFP ho7
          obtain ⟨A7, c7, rfl, hp7⟩ := props_own ho7
          have HP7 := Lib.hid hp7
          have hL16 := (valid_iff.1 PF.out.valid).1
          clear hok hpl hor hL ho7 hp7
          go_wp2_with fail
          refine (get_any A7 c7 L p.name w7 (by omega) HP7.out).mono ?_
          rintro e w8 ⟨rfl, hb8⟩
          have hgv8 : getV L p.name = p.v := by unfold getV; rw [PF.out.here]
          rw [hgv8, PF.out.here]
          clear hgv8
          have HB8 : Hid (Below (wo.heap.size + 1) W0 w8) := HB7.out.trans (hb8.mono (by omega))
          have HBr8 : Hid (Below wo.heap.size wo w8) := HBr7.out.trans (hb8.mono (by omega))
          have HP8 := Lib.hid (HP7.out.below hb8)
          have hz8 := HB8.out.size
          clear hb8 d0 d1 d2 d3 d4
          have a0 := fun X => (pat_of HR.out (HB8.out.alloc (by omega) X)).1
          have a1 := fun X => (pat_of HR.out (HB8.out.alloc (by omega) X)).2.1
          have a2 := fun X => (pat_of HR.out (HB8.out.alloc (by omega) X)).2.2.1
          have a3 := fun X => (pat_of HR.out (HB8.out.alloc (by omega) X)).2.2.2.1
          have a4 := fun X => (pat_of HR.out (HB8.out.alloc (by omega) X)).2.2.2.2
          go_wp2_with fail
          generalize hW9 : w8.alloc (.cells #[.int .i64 p.v.kind, .int .i64 p.v.num, .string p.v.text, .float .f64 p.v.real] 37) = w9
          have HB9 : Hid (Below (wo.heap.size + 1) W0 w9) := by rw [← hW9]; exact HB8.out.alloc (by omega) _
          have HB89 : Hid (Below w8.heap.size w8 w9) := by rw [← hW9]; exact (Below.refl _ _).alloc (Nat.le_refl _) _
          have hz9 : w9.heap.size = w8.heap.size + 1 := by rw [← hW9]; simp
          have HBr9 : Hid (Below wo.heap.size wo w9) := HBr8.out.trans (HB89.out.mono (by omega))
          have HP9 := Lib.hid (HP8.out.below HB89.out)
          clear hW9 a0 a1 a2 a3 a4
          refine (same_any p.v p.v w9).mono ?_
          rintro e w10 ⟨rfl, hb10⟩
          rw [same_self]
          have HB10 : Hid (Below (wo.heap.size + 1) W0 w10) := HB9.out.trans (hb10.mono (by omega))
          have HBr10 : Hid (Below wo.heap.size wo w10) := HBr9.out.trans (hb10.mono (by omega))
          have HP10 := Lib.hid (HP9.out.below hb10)
          have hz10 := HB10.out.size
          clear hb10
          go_wp2_with fail
          refine (valid_any A7 c7 L w10 (by omega) HP10.out HFP.out).mono ?_
          rintro e w11 ⟨rfl, hb11⟩
          rw [PF.out.valid]
          have HB11 : Hid (Below (wo.heap.size + 1) W0 w11) := HB10.out.trans (hb11.mono (by omega))
          have HBr11 : Hid (Below wo.heap.size wo w11) := HBr10.out.trans (hb11.mono (by omega))
          have HP11 := Lib.hid (HP10.out.below hb11)
          have hz11 := HB11.out.size
          have HQ11 := Lib.hid (hpa.out.below HBr11.out)
          clear hb11
          go_wp2_with fail
          go_loopw [109] (fun i wr => ∃ (j : Nat), j ≤ q.length ∧ i = .int .i64 j ∧ Hid (Below w11.heap.size w11 wr)) (fun i wr => q.length - (intOf i).toNat)
          case atStart => exact ⟨0, Nat.zero_le _, rfl, Below.refl _ _⟩
          case round =>
            obtain ⟨j, hj, rfl, hbs⟩ := hrel
            have hzs := hbs.out.size
            have HBs : Hid (Below (wo.heap.size + 1) W0 wr) := HB11.out.trans (hbs.out.mono (by omega))
            have HPs := Lib.hid (HP11.out.below hbs.out)
            by_cases hjl : j < q.length
            · obtain ⟨x, hx⟩ : ∃ x, q[j]? = some x := ⟨_, List.getElem?_eq_getElem hjl⟩
              obtain ⟨b', o', rfl, hbl', hcell⟩ := (HQ11.out.below hbs.out) (by omega)
              have hck := hcell j x hx
              clear hcell
              have HXM := Lib.hid (List.mem_of_getElem? hx)
              clear hx
              have c0 := hck 0 _ rfl
              have c1 := hck 1 _ rfl
              have c2 := hck 2 _ rfl
              have c3 := hck 3 _ rfl
              have c4 := hck 4 _ rfl
              rw [Nat.add_zero] at c0
              clear hck
              go_wp2_with fail
              generalize hWx : wr.alloc (.cells #[.string x.name, .int .i64 x.v.kind, .int .i64 x.v.num, .string x.v.text, .float .f64 x.v.real] 44) = Wx
              have HRx : Hid (Wx.heap[wr.heap.size]? = some (.cells x.cells.toArray 44 (0, 0))) := by rw [← hWx]; exact heap_alloc_new wr _
              have hzx : Wx.heap.size = wr.heap.size + 1 := by rw [← hWx]; simp
              have HBx : Hid (Below wr.heap.size wr Wx) := by rw [← hWx]; exact (Below.refl _ _).alloc (Nat.le_refl _) _
              clear hWx c0 c1 c2 c3 c4
              refine (get_any A7 c7 L x.name Wx (by omega) (HPs.out.below HBx.out)).mono ?_
              rintro e w12 ⟨rfl, hb12⟩
              have HB12x : Hid (Below (wr.heap.size + 1) Wx w12) := hb12.mono (by omega)
              have HB12 : Hid (Below (wo.heap.size + 1) W0 w12) := HBs.out.trans ((HBx.out.mono (by omega)).trans (hb12.mono (by omega)))
              have HBs12 : Hid (Below w11.heap.size w11 w12) := hbs.out.trans ((HBx.out.mono (by omega)).trans (hb12.mono (by omega)))
              have hz12 := hb12.size
              clear hb12
              have a0 := fun X => (pat_of HR.out (HB12.out.alloc (by omega) X)).1
              have a1 := fun X => (pat_of HR.out (HB12.out.alloc (by omega) X)).2.1
              have a2 := fun X => (pat_of HR.out (HB12.out.alloc (by omega) X)).2.2.1
              have a3 := fun X => (pat_of HR.out (HB12.out.alloc (by omega) X)).2.2.2.1
              have a4 := fun X => (pat_of HR.out (HB12.out.alloc (by omega) X)).2.2.2.2
              have b0 := fun X => (pat_of HRx.out (HB12x.out.alloc (by omega) X)).1
              have b1 := fun X => (pat_of HRx.out (HB12x.out.alloc (by omega) X)).2.1
              have b2 := fun X => (pat_of HRx.out (HB12x.out.alloc (by omega) X)).2.2.1
              have b3 := fun X => (pat_of HRx.out (HB12x.out.alloc (by omega) X)).2.2.2.1
              have b4 := fun X => (pat_of HRx.out (HB12x.out.alloc (by omega) X)).2.2.2.2
              by_cases hne : (x.name.toList == p.name.toList) = true
              · have hne' : (x.name.toList != p.name.toList) = false := by simp [bne, hne]
                generalize getV L x.name = gx
                generalize (getB L x.name).isSome = hx
                go_wp2_with fail
                go_roundw
                case rel => exact ⟨j + 1, by omega, by go_num, HBs12.out.alloc (by omega) _⟩
                case measure => simp [intOf]; omega
              · have hne : (x.name.toList == p.name.toList) = false := by simpa using hne
                have hne' : (x.name.toList != p.name.toList) = true := by simp [bne, hne]
                have hget : getB L x.name = some x := PF.out.rest x HXM.out (fun h => by
                  have : (x.name.toList == p.name.toList) = true := by
                    rw [ByteArray.toList_eq, ByteArray.toList_eq, beq_iff_eq]; exact h
                  rw [this] at hne; cases hne)
                have hgx : getV L x.name = x.v := by unfold getV; rw [hget]
                rw [hgx, hget]
                clear hgx hget
                go_wp2_with fail
                refine (same_any x.v x.v _).mono ?_
                rintro e w14 ⟨rfl, hb14⟩
                rw [same_self]
                have HB14 : Hid (Below w11.heap.size w11 w14) := (HBs12.out.alloc (by omega) _).trans (hb14.mono (by simp; omega))
                clear hb14 a0 a1 a2 a3 a4 b0 b1 b2 b3 b4
                go_wp2_with fail
                go_roundw
                case rel => exact ⟨j + 1, by omega, by go_num, HB14.out⟩
                case measure => simp [intOf]; omega
            · obtain rfl : j = q.length := by omega
              have hlen := PF.out.len
              rw [HAD.out] at hlen
              have HBr : Hid (Below wo.heap.size wo wr) := HBr11.out.trans (hbs.out.mono (by omega))
              cases had with
              | true =>
                simp only [if_true] at hlen
                go_wp2_with fail
                go_roundw
                case rel => exact ⟨k + 1, L, A7, c7, by omega, by go_num, rfl, hL16, HPs.out, HFP.out, PF.out.valid, hb.out.trans (HBr.out.mono (by omega))⟩
                case measure => simp [intOf]; omega
              | false =>
                simp only [Bool.false_eq_true, if_false] at hlen
                go_wp2_with fail
                go_roundw
                case rel => exact ⟨k + 1, L, A7, c7, by omega, by go_num, rfl, hL16, HPs.out, HFP.out, PF.out.valid, hb.out.trans (HBr.out.mono (by omega))⟩
                case measure => simp [intOf]; omega
    · go_wp2_with fail
      go_ret
      exact ⟨rfl, hb.out⟩
end Go.Proofs.YtdajmcgbmdnibaaGreatDoor
