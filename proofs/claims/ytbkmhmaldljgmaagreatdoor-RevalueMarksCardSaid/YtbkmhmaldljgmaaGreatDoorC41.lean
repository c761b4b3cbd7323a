/-
  price.quotes: the prices of an instrument, one for each day, as an iterator. (Printed by gen_qts.py.)
  price.last, latest: the latest price up to a day.
  price.latest, fresh, check, Fresh where there is a fresh price.
-/
import Derived.Test.YtbkmhmaldljgmaaGreatDoorC40
import Derived.Test.YtbkmhmaldljgmaaGreatDoorC36
import Derived.Test.YtbkmhmaldljgmaaGreatDoorC37
set_option linter.unusedVariables false
set_option linter.unusedSimpArgs false
set_option maxHeartbeats 16000000
set_option maxRecDepth 100000
namespace Go.Proofs.YtbkmhmaldljgmaaGreatDoor
open Go.RowKit Tr Go.Shelf
attribute [local go_sem] Oper.semAt_some
structure Qt where
 day : Int
 pn : ByteArray
 pd : ByteArray
def Qt.cells (q : Qt) : Array Value := #[.int .i64 q.day, .string q.pn, .string q.pd]
def qzero : Qt := ⟨0, ⟨#[]⟩, ⟨#[]⟩⟩
def encQt (q : Qt) : Array Value := #[.agg q.cells]
abbrev qIs (s : ByteArray) (y : VF) : Prop := y.x.kind = 15 ∧ y.x.inst = s
def qOf (y : VF) : Qt := ⟨y.x.day, y.x.pn, y.x.pd⟩
structure QS where
 out : List Qt
 seen : Bool
 q : Qt
def qstep (s : ByteArray) (z : QS) (y : VF) : QS := if qIs s y then ⟨if z.seen = true ∧ z.q.day ≠ y.x.day then z.out ++ [z.q] else z.out, true, qOf y⟩ else z
def qst (s : ByteArray) (vs : List VF) : QS := vs.foldl (qstep s) ⟨[], false, qzero⟩
theorem qst_succ {s : ByteArray} {vs : List VF} {k : Nat} {y : VF} (h : vs[k]? = some y) : qst s (vs.take (k + 1)) = qstep s (qst s (vs.take k)) y := by
 unfold qst; rw [List.take_add_one, h]; simp
def quotesL (s : ByteArray) (vs : List VF) : List Qt := if (qst s vs).seen = true then (qst s vs).out ++ [(qst s vs).q] else (qst s vs).out
theorem qst_len (s : ByteArray) (vs : List VF) : ∀ k, k ≤ vs.length → (qst s (vs.take k)).out.length ≤ k
 | 0, _ => by simp [qst]
 | k + 1, hk => by
   have ih := qst_len s vs k (by omega)
   rw [qst_succ (List.getElem?_eq_getElem (show k < vs.length from hk))]
   unfold qstep
   split
   ·show (if _ then _ else _ : List Qt).length ≤ _
    split
    ·rw [List.length_append]; simp; omega
    ·omega
   ·omega
structure QW (n₀ bl bi g q : Nat) (s : ByteArray) (vs : List VF) (m c : Nat) (wr : World) : Prop where
 l : Boxed wr bl 61 (.slice (some ⟨g, 0, none⟩) m c)
 i : Boxed wr bi 9 (.string s)
 r : VRd wr g vs
 n : n₀ ≤ wr.heap.size
 q : q < wr.heap.size
theorem QW.below {n₀ bl bi g q : Nat} {s : ByteArray} {vs : List VF} {m c : Nat} {W W' : World} (h : QW n₀ bl bi g q s vs m c W) (hb : Below W.heap.size W W') : QW n₀ bl bi g q s vs m c W' :=
 ⟨bkeepK hb h.l, bkeepK hb h.i, h.r.below hb, Nat.le_trans h.n hb.size, Nat.lt_of_lt_of_le h.q hb.size⟩
theorem QW.row {n₀ bl bi g q : Nat} {s : ByteArray} {vs : List VF} {m c : Nat} {W : World} (h : QW n₀ bl bi g q s vs m c W) (hg : g < n₀) (h1 : bl < q) (h2 : bi < q) (h3 : n₀ ≤ q) (vals : Array Value) : QW n₀ bl bi g q s vs m c (W.setRow q vals) :=
 ⟨(setRow_other _ _ _ _ (by omega)).trans h.l, (setRow_other _ _ _ _ (by omega)).trans h.i, h.r.below' (n₀ := n₀) hg (below_setRowK (Below.refl _ _) h3 _), by simp [World.setRow]; exact h.n, by simp [World.setRow]; exact h.q⟩
theorem QW.kept {n₀ bl bi g q b6 b7 : Nat} {s : ByteArray} {vs : List VF} {m c : Nat} {W W' : World} (h : QW n₀ bl bi g q s vs m c W) (hg : g < n₀) (hl6 : bl ≠ b6) (hl7 : bl ≠ b7) (hi6 : bi ≠ b6) (hi7 : bi ≠ b7) (hk : KpQ n₀ b6 b7 W W') : QW n₀ bl bi g q s vs m c W' :=
 ⟨hk.2 _ _ hl6 hl7 h.l rfl, hk.2 _ _ hi6 hi7 h.i rfl, h.r.below' (n₀ := n₀) hg hk.1, Nat.le_trans h.n hk.1.size, Nat.lt_of_lt_of_le h.q hk.1.size⟩
theorem qcells_one (q : Qt) : ∀ u ∈ q.cells.toList, u.oneCell' = true := by
 intro u hu
 simp [Qt.cells] at hu
 rcases hu with rfl | rfl | rfl <;> rfl
theorem quotes1_seq (n n₀ N b6 b7 bl bi g : Nat) (s : ByteArray) (vs : List VF) (c : Nat) (w : World) (hn : 1 ≤ n) (hlm : vs.length ≤ 1000000)
 (hbl : Boxed w bl 61 (.slice (some ⟨g, 0, none⟩) vs.length c)) (hbi : Boxed w bi 9 (.string s)) (h6 : b6 < w.heap.size) (h7 : b7 < w.heap.size) (hl6 : bl ≠ b6) (hl7 : bl ≠ b7) (hi6 : bi ≠ b6) (hi7 : bi ≠ b7)
 (hR : VRd w g vs) (hg : g < n₀) (hv : ∀ y ∈ vs, FactV y.x y.p y.o) (hnw : n₀ ≤ w.heap.size) (hN : N ≤ w.heap.size) :
 SeqM Fence.wide n Tryz.prog 258 #[.pointer (some ⟨bl, 0, none⟩), .pointer (some ⟨bi, 0, none⟩)] encQt (KpQ n₀ b6 b7) (MvB N) (fun xs _ => xs = quotesL s vs) (vs.length + 1) w := by
 intro l J W hW hJ hY hJ0
 obtain ⟨m, hm⟩ : ∃ m, vs.length = m := ⟨_, rfl⟩
 rw [hm] at hbl hlm
 obtain ⟨q, hq⟩ : ∃ q, W.heap.size = q := ⟨_, rfl⟩
 obtain ⟨W0, hW0⟩ : ∃ W0, W.alloc (.cells #[.int .i64 0, .string ⟨#[]⟩, .string ⟨#[]⟩] 206) = W0 := ⟨_, rfl⟩
 have b0 : Below W.heap.size W W0 := by rw [← hW0]; exact (Below.refl _ W).alloc (Nat.le_refl _) _
 have HQ0 : Hid (W0.heap[q]? = some (.cells (qst s (vs.take 0)).q.cells 206 (0, 0))) := by rw [Hid, ← hW0, ← hq]; exact heap_alloc_new W _
 have hsq : w.heap.size ≤ q := by rw [← hq]; exact hW.size
 have hblq : bl < q := Nat.lt_of_lt_of_le hbl.lt hsq
 have hbiq : bi < q := Nat.lt_of_lt_of_le hbi.lt hsq
 have HQW0 : Hid (QW n₀ bl bi g q s vs m c W0) := ⟨bkeepK b0 (bkeepK hW hbl), bkeepK b0 (bkeepK hW hbi), (hR.below hW).below b0, by have := hW.size; have := b0.size; omega, by rw [← hW0]; simp [hq]⟩
 have HN : Hid (w.heap.size ≤ q ∧ n₀ ≤ q ∧ N ≤ q ∧ bl < q ∧ bi < q ∧ b6 < q ∧ b7 < q ∧ g < n₀ ∧ vs.length = m) := ⟨hsq, by omega, by omega, hblq, hbiq, by omega, by omega, hg, hm⟩
 have HNE : Hid (bl ≠ b6 ∧ bl ≠ b7 ∧ bi ≠ b6 ∧ bi ≠ b7) := ⟨hl6, hl7, hi6, hi7⟩
 have HJ0 : Hid (J (qst s (vs.take 0)).out W0) := hJ _ _ _ hJ0 (MvB.below b0 (by omega))
 have HJ := hI hJ
 have HY := hI hY
 have HV := hI hv
 have cl := HQW0.out.l.cell
 clear hJ hY hJ0 hv hR hbl hbi h6 h7 hl6 hl7 hi6 hi7 hg hnw hN b0 hW hsq hblq hbiq hm
 refine callsIn_of_wp Tryz.func258 rfl trivial ?_ rfl
 simp only [Tryz.ntmps258, List.size_toArray, List.length_cons, List.length_nil, Nat.reduceAdd, Nat.reduceSub, Array.replicate_succ, Array.replicate_zero, List.push_toArray, List.append_toArray, List.nil_append, List.cons_append]
 gi_wp2
 gi_loopw [5, 10] (fun v5 v10 wr => ∃ k : Nat, v10 = .int .i64 (k : Int) ∧ k ≤ m ∧ v5 = .bool (qst s (vs.take k)).seen ∧ QW n₀ bl bi g q s vs m c wr ∧ wr.heap[q]? = some (.cells (qst s (vs.take k)).q.cells 206 (0, 0)) ∧ J (qst s (vs.take k)).out wr) (fun _ v _ => m - (intOf v).toNat)
 case atStart => exact ⟨0, rfl, Nat.zero_le _, rfl, HQW0.out, HQ0.out, HJ0.out⟩
 case round =>
  obtain ⟨k, rfl, hk, rfl, hqw, hqc, hj⟩ := hrel
  clear HQW0 HQ0 HJ0 cl hW0 hq
  rcases Nat.lt_or_ge k m with hlt | hge
  ·have hcx : decide ((k : Int) < (m : Int)) = true := by simp; omega
   have hbk : (k : Int) < (m : Int) := by omega
   obtain ⟨y, hy⟩ : ∃ y, vs[k]? = some y := ⟨_, List.getElem?_eq_getElem (by rw [HN.out.2.2.2.2.2.2.2.2]; exact hlt)⟩
   have HSUC := hI (qst_succ (s := s) hy)
   have HLEN := hI (qst_len s vs k (by rw [HN.out.2.2.2.2.2.2.2.2]; exact hk))
   have HROW := hI (hqw.r.rd k y hy)
   generalize qst s (vs.take k) = z at *
   obtain ⟨W5, hW5⟩ : ∃ W5, wr.alloc fzero = W5 := ⟨_, rfl⟩
   have k5 : W5.heap[wr.heap.size]? = some fzero := by rw [← hW5]; exact heap_alloc_new wr _
   have b5 : Below wr.heap.size wr W5 := by rw [← hW5]; exact (Below.refl _ wr).alloc (Nat.le_refl _) _
   have hrun := run_store_rowK W5 wr.heap.size 21 60 _ y.cells (by kernel_rfl) k5 rfl rfl (fcells_one _ _ _ (HV.out y (List.mem_of_getElem? hy)))
   obtain ⟨W6, hW6⟩ : ∃ W6, W5.setRow wr.heap.size y.cells = W6 := ⟨_, rfl⟩
   rw [hW6] at hrun
   have b6' : Below wr.heap.size wr W6 := by rw [← hW6]; exact below_setRowK b5 (Nat.le_refl _) _
   have k6 : W6.heap[wr.heap.size]? = some (.cells (y.x.cells y.p y.o) 60 (0, 0)) := by rw [← hW6]; exact setRow_heap W5 _ _ _ _ _ k5
   have HJ6 : Hid (J z.out W6) := HJ.out _ _ _ hj (MvB.below b6' (by have := hqw.q; have := HN.out; omega))
   have HQW6 := hI (hqw.below b6')
   have HQC6 : Hid (W6.heap[q]? = some (.cells z.q.cells 206 (0, 0))) := bkeepK b6' hqc
   have hBq : q < wr.heap.size := hqw.q
   obtain ⟨B, hB0⟩ : ∃ B, wr.heap.size = B := ⟨_, rfl⟩
   rw [hB0] at hrun k6 hBq
   obtain ⟨c0, c1, c2, m3, m4, m5, c6, c7, c8, c9, c10, c11, m12, m13, c14, c15, c16, c17, c18, c19, c20⟩ := fact_cells k6
   clear c0 c1 c2 c6 c7 c8 c9 c10 c11 c14 c15 c16 c17 c18 c19 c20
   have hbi6 := HQW6.out.i.cell
   have HK6 := hI k6
   unfold fzero at hW5
   have cl := hqw.l.cell
   clear k5 k6 b5 b6' hW6 hqw hqc hj hy
   obtain ⟨out, seen, qd, qn, qp⟩ := z
   simp only [Qt.cells] at HQC6 ⊢
   have q0 := Lib.cell_of_heap HQC6.out 0
   have q1 := Lib.cell_of_heap HQC6.out 1
   have q2 := Lib.cell_of_heap HQC6.out 2
   simp at q0 q1 q2
   have hse := str_eq y.x.inst s
   rcases Decidable.em (y.x.kind = 15) with hkd | hkd
   case inr =>
    have e1 : (y.x.kind == 15) = false := beq_eq_false_iff_ne.2 hkd
    have e2 : (y.x.kind != 15) = true := by rw [bne, e1]; rfl
    have HNP : Hid (¬ qIs s y) := fun h => hkd h.1
    clear hkd hse
    gi_wp2_with (first | (refine wpListIn_store_runK hrun rfl _ _ rfl rfl rfl ?_) | (refine wpListIn_load_mid rfl 60 _ rfl g (k * 21) rfl _ _ HROW.out Tryz.underlying60 rfl (by kernel_rfl) ?_) | fail)
    go_roundw
    case rel => exact ⟨k + 1, by go_num, by omega, by rw [HSUC.out]; unfold qstep; rw [if_neg HNP.out], HQW6.out, by rw [HSUC.out]; unfold qstep; rw [if_neg HNP.out]; exact HQC6.out, by rw [HSUC.out]; unfold qstep; rw [if_neg HNP.out]; exact HJ6.out⟩
    case measure => simp [intOf]; omega
   have e1 : (y.x.kind == 15) = true := beq_iff_eq.2 hkd
   have e2 : (y.x.kind != 15) = false := by rw [bne, e1]; rfl
   rcases Decidable.em (y.x.inst = s) with his | his
   case inr =>
    have e3 : (y.x.inst.toList == s.toList) = false := by rw [hse, decide_eq_false his]
    have e4 : (y.x.inst.toList != s.toList) = true := by rw [bne, e3]; rfl
    have HNP : Hid (¬ qIs s y) := fun h => his h.2
    clear hkd hse his
    gi_wp2_with (first | (refine wpListIn_store_runK hrun rfl _ _ rfl rfl rfl ?_) | (refine wpListIn_load_mid rfl 60 _ rfl g (k * 21) rfl _ _ HROW.out Tryz.underlying60 rfl (by kernel_rfl) ?_) | fail)
    go_roundw
    case rel => exact ⟨k + 1, by go_num, by omega, by rw [HSUC.out]; unfold qstep; rw [if_neg HNP.out], HQW6.out, by rw [HSUC.out]; unfold qstep; rw [if_neg HNP.out]; exact HQC6.out, by rw [HSUC.out]; unfold qstep; rw [if_neg HNP.out]; exact HJ6.out⟩
    case measure => simp [intOf]; omega
   have e3 : (y.x.inst.toList == s.toList) = true := by rw [hse, decide_eq_true his]
   have e4 : (y.x.inst.toList != s.toList) = false := by rw [bne, e3]; rfl
   have HPP : Hid (qIs s y) := ⟨hkd, his⟩
   clear hkd hse his
   cases seen with
   | false =>
     have HST : Hid (qst s (vs.take (k + 1)) = ⟨out, true, qOf y⟩) := by rw [Hid, HSUC.out]; unfold qstep; rw [if_pos HPP.out, if_neg (fun h => Bool.false_ne_true h.1)]
     clear HSUC
     have hrun2 := run_store_rowK W6 q 3 206 _ (qOf y).cells (by kernel_rfl) HQC6.out rfl rfl (qcells_one _)
     obtain ⟨W8, hW8⟩ : ∃ W8, W6.setRow q (qOf y).cells = W8 := ⟨_, rfl⟩
     rw [hW8] at hrun2
     have HQW8 : Hid (QW n₀ bl bi g q s vs m c W8) := by rw [Hid, ← hW8]; exact HQW6.out.row HN.out.2.2.2.2.2.2.2.1 HN.out.2.2.2.1 HN.out.2.2.2.2.1 HN.out.2.1 _
     have HQC8 : Hid (W8.heap[q]? = some (.cells (qOf y).cells 206 (0, 0))) := by rw [Hid, ← hW8]; exact setRow_heap _ _ _ _ _ _ HQC6.out
     have HJ8 : Hid (J out W8) := by rw [Hid, ← hW8]; exact HJ.out _ _ _ HJ6.out (MvB.row HQC6.out HN.out.2.2.1 _)
     clear hW8
     unfold qOf Qt.cells at hrun2
     gi_wp2_with (first | (refine wpListIn_store_runK hrun rfl _ _ rfl rfl rfl ?_) | (refine wpListIn_load_mid rfl 60 _ rfl g (k * 21) rfl _ _ HROW.out Tryz.underlying60 rfl (by kernel_rfl) ?_) | fail)
     refine ⟨fun _ h => (by cases h), ?_⟩
     gi_wp2_with (first | (refine wpListIn_store_runK hrun2 rfl _ _ rfl rfl rfl ?_) | fail)
     go_roundw
     case rel => exact ⟨k + 1, by go_num, by omega, by rw [HST.out], HQW8.out, by rw [HST.out]; exact HQC8.out, by rw [HST.out]; exact HJ8.out⟩
     case measure => simp [intOf]; omega
   | true =>
     rcases Decidable.em (qd = y.x.day) with hd | hd
     ·have e5 : (qd == y.x.day) = true := beq_iff_eq.2 hd
      have e6 : (qd != y.x.day) = false := by rw [bne, e5]; rfl
      have HST : Hid (qst s (vs.take (k + 1)) = ⟨out, true, qOf y⟩) := by rw [Hid, HSUC.out]; unfold qstep; rw [if_pos HPP.out, if_neg (fun h => h.2 hd)]
      clear HSUC hd
      have hrun2 := run_store_rowK W6 q 3 206 _ (qOf y).cells (by kernel_rfl) HQC6.out rfl rfl (qcells_one _)
      obtain ⟨W8, hW8⟩ : ∃ W8, W6.setRow q (qOf y).cells = W8 := ⟨_, rfl⟩
      rw [hW8] at hrun2
      have HQW8 : Hid (QW n₀ bl bi g q s vs m c W8) := by rw [Hid, ← hW8]; exact HQW6.out.row HN.out.2.2.2.2.2.2.2.1 HN.out.2.2.2.1 HN.out.2.2.2.2.1 HN.out.2.1 _
      have HQC8 : Hid (W8.heap[q]? = some (.cells (qOf y).cells 206 (0, 0))) := by rw [Hid, ← hW8]; exact setRow_heap _ _ _ _ _ _ HQC6.out
      have HJ8 : Hid (J out W8) := by rw [Hid, ← hW8]; exact HJ.out _ _ _ HJ6.out (MvB.row HQC6.out HN.out.2.2.1 _)
      clear hW8
      unfold qOf Qt.cells at hrun2
      gi_wp2_with (first | (refine wpListIn_store_runK hrun rfl _ _ rfl rfl rfl ?_) | (refine wpListIn_load_mid rfl 60 _ rfl g (k * 21) rfl _ _ HROW.out Tryz.underlying60 rfl (by kernel_rfl) ?_) | fail)
      refine ⟨fun _ h => (by cases h), ?_⟩
      gi_wp2_with (first | (refine wpListIn_store_runK hrun2 rfl _ _ rfl rfl rfl ?_) | fail)
      go_roundw
      case rel => exact ⟨k + 1, by go_num, by omega, by rw [HST.out], HQW8.out, by rw [HST.out]; exact HQC8.out, by rw [HST.out]; exact HJ8.out⟩
      case measure => simp [intOf]; omega
     ·have e5 : (qd == y.x.day) = false := beq_eq_false_iff_ne.2 hd
      have e6 : (qd != y.x.day) = true := by rw [bne, e5]; rfl
      have HST : Hid (qst s (vs.take (k + 1)) = ⟨out ++ [⟨qd, qn, qp⟩], true, qOf y⟩) := by rw [Hid, HSUC.out]; unfold qstep; rw [if_pos HPP.out, if_pos ⟨rfl, hd⟩]
      clear HSUC hd
      obtain ⟨fn, tmps, assign, body, hy, hR⟩ := HY.out out ⟨qd, qn, qp⟩ W6 HJ6.out (by have := HLEN.out; have := HN.out; simp only at *; omega)
      dsimp only [encQt, Qt.cells] at hy
      have HRD := hI hR
      clear hR
      gi_wp2_with (first | (refine wpListIn_store_runK hrun rfl _ _ rfl rfl rfl ?_) | (refine wpListIn_load_mid rfl 60 _ rfl g (k * 21) rfl _ _ HROW.out Tryz.underlying60 rfl (by kernel_rfl) ?_) | fail)
      refine HRD.out.mono ?_
      rintro e W7 ⟨rfl, hj7, hk7⟩
      have HJ7 := hI hj7
      have HQW7 := hI (HQW6.out.kept HN.out.2.2.2.2.2.2.2.1 HNE.out.1 HNE.out.2.1 HNE.out.2.2.1 HNE.out.2.2.2 hk7)
      have HQC7 : Hid (W7.heap[q]? = some (.cells #[.int .i64 qd, .string qn, .string qp] 206 (0, 0))) := hk7.2 _ _ (by have := HN.out; omega) (by have := HN.out; omega) HQC6.out rfl
      have HK7 : Hid (W7.heap[B]? = some (.cells (y.x.cells y.p y.o) 60 (0, 0))) := hk7.2 _ _ (by have := HN.out; omega) (by have := HN.out; omega) HK6.out rfl
      clear hj7 hk7 HRD hy q0 q1 q2 m3 m4 m5 m12 m13 hbi6 HK6 HQC6 HQW6 HJ6 hrun hW5 cl
      obtain ⟨c0, c1, c2, m3, m4, m5, c6, c7, c8, c9, c10, c11, m12, m13, c14, c15, c16, c17, c18, c19, c20⟩ := fact_cells HK7.out
      clear c0 c1 c2 c6 c7 c8 c9 c10 c11 c14 c15 c16 c17 c18 c19 c20
      have hrun2 := run_store_rowK W7 q 3 206 _ (qOf y).cells (by kernel_rfl) HQC7.out rfl rfl (qcells_one _)
      obtain ⟨W8, hW8⟩ : ∃ W8, W7.setRow q (qOf y).cells = W8 := ⟨_, rfl⟩
      rw [hW8] at hrun2
      have HQW8 : Hid (QW n₀ bl bi g q s vs m c W8) := by rw [Hid, ← hW8]; exact HQW7.out.row HN.out.2.2.2.2.2.2.2.1 HN.out.2.2.2.1 HN.out.2.2.2.2.1 HN.out.2.1 _
      have HQC8 : Hid (W8.heap[q]? = some (.cells (qOf y).cells 206 (0, 0))) := by rw [Hid, ← hW8]; exact setRow_heap _ _ _ _ _ _ HQC7.out
      have HJ8 : Hid (J (out ++ [⟨qd, qn, qp⟩]) W8) := by rw [Hid, ← hW8]; exact HJ.out _ _ _ HJ7.out (MvB.row HQC7.out HN.out.2.2.1 _)
      clear hW8
      unfold qOf Qt.cells at hrun2
      gi_wp2_with (first | (refine wpListIn_store_runK hrun2 rfl _ _ rfl rfl rfl ?_) | fail)
      go_roundw
      case rel => exact ⟨k + 1, by go_num, by omega, by rw [HST.out], HQW8.out, by rw [HST.out]; exact HQC8.out, by rw [HST.out]; exact HJ8.out⟩
      case measure => simp [intOf]; omega
  ·have hcx : decide ((k : Int) < (m : Int)) = false := by simp; omega
   have hkm : k = m := by omega
   subst hkm
   have hall : vs.take k = vs := List.take_of_length_le (by rw [HN.out.2.2.2.2.2.2.2.2]; exact Nat.le_refl _)
   have HLEN := hI (qst_len s vs k (by rw [HN.out.2.2.2.2.2.2.2.2]; exact Nat.le_refl _))
   rw [hall] at hqc hj HLEN ⊢
   have HQL : Hid (quotesL s vs = if (qst s vs).seen = true then (qst s vs).out ++ [(qst s vs).q] else (qst s vs).out) := rfl
   generalize qst s vs = z at *
   obtain ⟨out, seen, qd, qn, qp⟩ := z
   simp only [Qt.cells] at hqc ⊢
   have q0 := Lib.cell_of_heap hqc 0
   have q1 := Lib.cell_of_heap hqc 1
   have q2 := Lib.cell_of_heap hqc 2
   simp at q0 q1 q2
   clear hall hqc hqw
   cases seen with
   | false =>
     have HJ7 := hI hj
     clear hj
     gi_wp2
     go_end0
     have hfin : J (quotesL s vs) wr := by rw [HQL.out]; simpa using HJ7.out
     first | exact ⟨⟨_, rfl⟩, hfin⟩ | exact hfin | exact ⟨⟨_, rfl⟩, _, rfl, hfin⟩
   | true =>
     obtain ⟨fn, tmps, assign, body, hy, hR⟩ := HY.out out ⟨qd, qn, qp⟩ wr hj (by have := HLEN.out; have := HN.out; simp only at *; omega)
     dsimp only [encQt, Qt.cells] at hy
     have HRD := hI hR
     clear hR hj
     gi_wp2
     refine HRD.out.mono ?_
     rintro e W7 ⟨rfl, hj7, hk7⟩
     have HJ7 := hI hj7
     clear hj7 hk7
     gi_wp2
     go_end0
     have hfin : J (quotesL s vs) W7 := by rw [HQL.out]; simpa using HJ7.out
     first | exact ⟨⟨_, rfl⟩, hfin⟩ | exact hfin | exact ⟨⟨_, rfl⟩, _, rfl, hfin⟩
theorem pquotes_any (A : Option Addr) (k c : Nat) (s : ByteArray) (w : World) :
 Calls Tryz.prog 213 #[.slice A k c, .string s] w fun e w' => e = .returned (.func (.func 258) #[] #[.pointer (some ⟨w.heap.size, 0, none⟩), .pointer (some ⟨w.heap.size + 1, 0, none⟩)]) ∧ w' = (w.alloc (.cells #[.slice A k c] 61)).alloc (.cells #[.string s] 9) := by
 go_enter Tryz.func213, Tryz.ntmps213
 go_wp2_with fail
 go_ret
 exact ⟨rfl, rfl⟩
end Go.Proofs.YtbkmhmaldljgmaaGreatDoor
namespace Go.Proofs.YtbkmhmaldljgmaaGreatDoor
open Go.RowKit Tr Go.Shelf
attribute [local go_sem] Oper.semAt_some
def lastQ (d : Int) (xs : List Qt) : Option Qt := (xs.filter fun q => decide (q.day ≤ d)).getLast?
def lqV (o : Option Qt) : Qt := o.getD qzero
theorem lastQ_snoc (d : Int) (xs : List Qt) (x : Qt) : lastQ d (xs ++ [x]) = if x.day ≤ d then some x else lastQ d xs := by
 unfold lastQ
 rw [List.filter_append]
 by_cases h : x.day ≤ d
 ·rw [if_pos h]; simp [h]
 ·rw [if_neg h]; simp [h]
theorem platest1_any (bd : Nat) (d : Int) (x : Qt) (w : World) (hb : Boxed w bd 22 (.int .i64 d)) :
 Calls Tryz.prog 214 #[.agg x.cells, .pointer (some ⟨bd, 0, none⟩)] w fun e w' => e = .returned (.bool (decide (x.day ≤ d))) ∧ Below w.heap.size w w' := by
 obtain ⟨W0, hW0⟩ : ∃ W0, w.alloc (.cells #[.int .i64 x.day, .string x.pn, .string x.pd] 206) = W0 := ⟨_, rfl⟩
 have hb0 : Below w.heap.size w W0 := by rw [← hW0]; exact (Below.refl _ w).alloc (Nat.le_refl _) _
 have c0 : W0.cell? ⟨w.heap.size, 0, none⟩ = some (.int .i64 x.day) := by
  have h : W0.heap[w.heap.size]? = some (.cells #[.int .i64 x.day, .string x.pn, .string x.pd] 206 (0, 0)) := by rw [← hW0]; exact heap_alloc_new w _
  have := Lib.cell_of_heap h 0; simpa using this
 have cb : W0.cell? ⟨bd, 0, none⟩ = some (.int .i64 d) := by rw [← hW0]; exact (hb.alloc _).cell
 have HB := hI hb0
 clear hb0 hb
 unfold Qt.cells
 go_enter Tryz.func214, Tryz.ntmps214
 go_wp2_with fail
 go_ret
 exact ⟨rfl, HB.out⟩
def LsI (N b6 b7 : Nat) (w : World) (d : Int) (fc : Value) (pre : List Qt) (W : World) : Prop :=
 ((W.heap[b6]? = some (.cells (lqV (lastQ d pre)).cells 206 (0, 0)) ∧ Boxed W b7 4 (.bool (lastQ d pre).isSome)) ∧ (Boxed W N 260 fc ∧ W.heap[N + 1]? = some (.cells qzero.cells 206 (0, 0)))) ∧ Below N w W
theorem own_cellsQ {β : Type} (b : Nat) (cs : β → Array Value) (t : TypeId) (m : Nat × Nat) : Own (fun (x : β) W => W.heap[b]? = some (.cells (cs x) t m)) := fun s X Y row hs hg hrow => by
 refine (hg.block b (Array.getElem?_eq_some_iff.1 hs).1 (fun e => ?_)).trans hs
 obtain ⟨o, ho, hc⟩ := hrow b e.symm
 rw [hs] at ho; cases ho; cases hc
theorem LsI.own (N b6 b7 n : Nat) (w : World) (d : Int) (fc : Value) (h : N ≤ n) (hN : N = w.heap.size) : OwnFrom n (LsI N b6 b7 w d fc) :=
 OwnFrom.and (OwnFrom.and (OwnFrom.and ((own_cellsQ b6 (fun pre => (lqV (lastQ d pre)).cells) _ _).from _) ((own_cellsQ b7 (fun pre => #[.bool (lastQ d pre).isSome]) _ _).from _)) (OwnFrom.and ((own_cellsQ N (fun _ => #[fc]) _ _).from _) ((own_cellsQ (N + 1) (fun _ => qzero.cells) _ _).from _))) (ownFrom_below (by omega) h)
theorem LsI.below {N b6 b7 : Nat} {w : World} {d : Int} {fc : Value} {pre : List Qt} {W W' : World} (h : LsI N b6 b7 w d fc pre W) (hb : Below W.heap.size W W') (hN : N ≤ W.heap.size) : LsI N b6 b7 w d fc pre W' :=
 ⟨⟨⟨bkeepK hb h.1.1.1, bkeepK hb h.1.1.2⟩, bkeepK hb h.1.2.1, bkeepK hb h.1.2.2⟩, h.2.trans (hb.mono hN)⟩
theorem LsI.moved {N b6 b7 M : Nat} {w : World} {d : Int} {fc : Value} {pre : List Qt} {W W' : World} (h : LsI N b6 b7 w d fc pre W) (hm : MvB M W W') (h6 : b6 < M) (h7 : b7 < M) (hN : N + 1 < M) : LsI N b6 b7 w d fc pre W' :=
 ⟨⟨⟨(hm.1.block _ h6).trans h.1.1.1, (hm.1.block _ h7).trans h.1.1.2⟩, (hm.1.block _ (by omega)).trans h.1.2.1, (hm.1.block _ hN).trans h.1.2.2⟩, h.2.trans (hm.1.mono (by omega))⟩
theorem plast_any (n₀ bl bi bd g : Nat) (s : ByteArray) (vs : List VF) (c : Nat) (d : Int) (w : World) (hlm : vs.length ≤ 1000000)
 (hbl : Boxed w bl 61 (.slice (some ⟨g, 0, none⟩) vs.length c)) (hbi : Boxed w bi 9 (.string s)) (hbd : Boxed w bd 22 (.int .i64 d))
 (hR : VRd w g vs) (hg : g < n₀) (hv : ∀ y ∈ vs, FactV y.x y.p y.o) (hnw : n₀ ≤ w.heap.size) :
 Calls Tryz.prog 212 #[.func (.func 258) #[] #[.pointer (some ⟨bl, 0, none⟩), .pointer (some ⟨bi, 0, none⟩)], .func (.func 214) #[] #[.pointer (some ⟨bd, 0, none⟩)]] w
  fun e w' => e = .returned (.tuple #[.agg (lqV (lastQ d (quotesL s vs))).cells, .bool (lastQ d (quotesL s vs)).isSome]) ∧ Below w.heap.size w w' := by
 obtain ⟨N, hN⟩ : ∃ N, w.heap.size = N := ⟨_, rfl⟩
 obtain ⟨W1, hW1⟩ : ∃ W1, w.alloc (.cells #[Value.func (.func 214) #[] #[.pointer (some ⟨bd, 0, none⟩)]] 260) = W1 := ⟨_, rfl⟩
 obtain ⟨W2, hW2⟩ : ∃ W2, W1.alloc (.cells #[.int .i64 0, .string ⟨#[]⟩, .string ⟨#[]⟩] 206) = W2 := ⟨_, rfl⟩
 obtain ⟨W3, hW3⟩ : ∃ W3, W2.alloc (.cells #[.int .i64 0, .string ⟨#[]⟩, .string ⟨#[]⟩] 206) = W3 := ⟨_, rfl⟩
 obtain ⟨W4, hW4⟩ : ∃ W4, W3.alloc (.cells #[.bool false] 4) = W4 := ⟨_, rfl⟩
 have b1 : Below w.heap.size w W1 := by rw [← hW1]; exact (Below.refl _ w).alloc (Nat.le_refl _) _
 have b2 : Below W1.heap.size W1 W2 := by rw [← hW2]; exact (Below.refl _ W1).alloc (Nat.le_refl _) _
 have b3 : Below W2.heap.size W2 W3 := by rw [← hW3]; exact (Below.refl _ W2).alloc (Nat.le_refl _) _
 have b4 : Below W3.heap.size W3 W4 := by rw [← hW4]; exact (Below.refl _ W3).alloc (Nat.le_refl _) _
 have z1 : W1.heap.size = N + 1 := by rw [← hW1, ← hN]; simp
 have z2 : W2.heap.size = N + 1 + 1 := by rw [← hW2]; simp [z1]
 have z3 : W3.heap.size = N + 1 + 1 + 1 := by rw [← hW3]; simp [z2]
 have z4 : W4.heap.size = N + 1 + 1 + 1 + 1 := by rw [← hW4]; simp [z3]
 have k3 : W4.heap[N]? = some (.cells #[Value.func (.func 214) #[] #[.pointer (some ⟨bd, 0, none⟩)]] 260 (0, 0)) := bkeepK b4 (bkeepK b3 (bkeepK b2 (by rw [← hW1, ← hN]; exact heap_alloc_new w _)))
 have k4 : W4.heap[N + 1]? = some (.cells qzero.cells 206 (0, 0)) := bkeepK b4 (bkeepK b3 (by rw [← hW2, ← z1]; exact heap_alloc_new W1 _))
 have k6 : W4.heap[N + 1 + 1]? = some (.cells qzero.cells 206 (0, 0)) := bkeepK b4 (by rw [← hW3, ← z2]; exact heap_alloc_new W2 _)
 have k7 : Boxed W4 (N + 1 + 1 + 1) 4 (.bool false) := by rw [← hW4, ← z3]; exact heap_alloc_new W3 _
 have b04 : Below w.heap.size w W4 := ((b1.trans (b2.mono b1.size)).trans (b3.mono (by omega))).trans (b4.mono (by omega))
 have hI0 : LsI N (N + 1 + 1) (N + 1 + 1 + 1) w d (Value.func (.func 214) #[] #[.pointer (some ⟨bd, 0, none⟩)]) [] W4 := ⟨⟨⟨k6, k7⟩, k3, k4⟩, by rw [← hN]; exact b04⟩
 have hl4 : bl < N := by rw [← hN]; exact hbl.lt
 have hi4 : bi < N := by rw [← hN]; exact hbi.lt
 have hd4 : bd < N := by rw [← hN]; exact hbd.lt
 have HSEQ := hI (quotes1_seq (6 - 1) n₀ W4.heap.size (N + 1 + 1) (N + 1 + 1 + 1) bl bi g s vs c W4 (by omega) hlm (bkeepK b04 hbl) (bkeepK b04 hbi) (by omega) (by omega) (by omega) (by omega) (by omega) (by omega) (hR.below b04) hg hv (Nat.le_trans hnw b04.size) (Nat.le_refl _))
 have HBD : Hid (Boxed w bd 22 (.int .i64 d)) := hbd
 have hn0 : n₀ ≤ N := by rw [← hN]; exact hnw
 have HN := hI hN
 generalize quotesL s vs = qs at HSEQ ⊢
 clear b1 b2 b3 b4 z1 z2 z3 k3 k4 k6 k7 b04 hlm hbl hbi hbd hR hg hv hnw
 refine (callsIn_wide (n := 6)).1 ?_
 refine callsIn_of_wp_marks Tryz.func212 rfl trivial ?_ rfl
 simp only [Tryz.ntmps212, List.size_toArray, List.length_cons, List.length_nil, Nat.reduceAdd, Nat.reduceSub, Array.replicate_succ, Array.replicate_zero, List.push_toArray, List.append_toArray, List.nil_append, List.cons_append]
 have HW1 := hI hW1
 have HW2 := hI hW2
 have HW3 := hI hW3
 have HW4 := hI hW4
 clear hW1 hW2 hW3 hW4
 gi_wp2
 rw [HW1.out, HW2.out, HW3.out, HW4.out]
 clear HW1 HW2 HW3 HW4 hN
 refine wpIn_rangeFunc_MH (gf := 258) (lb := #[.pointer (some ⟨bl, 0, none⟩), .pointer (some ⟨bi, 0, none⟩)]) (encs := encQt) (Kp := KpQ n₀ (N + 1 + 1) (N + 1 + 1 + 1)) (M := MvB W4.heap.size) (S := fun xs _ => xs = qs) (N := vs.length + 1) (w0 := W4) ?hro ?h1 ?hg ?hF ?eg ?hseq ?hM ?hKt ?hKb ?hb0 ?hps
  (LsI N (N + 1 + 1) (N + 1 + 1 + 1) w d (Value.func (.func 214) #[] #[.pointer (some ⟨bd, 0, none⟩)])) ?hIz ?hIM ?hS ?hI0
  (fun x a' W => ∃ Bx, N + 1 + 1 + 1 < Bx ∧ W.heap[Bx]? = some (.cells x.cells 206 (0, 0)) ∧ a' = { tmps := #[.func (.func 258) #[] #[.pointer (some ⟨bl, 0, none⟩), .pointer (some ⟨bi, 0, none⟩)], .func (.func 214) #[] #[.pointer (some ⟨bd, 0, none⟩)], undef, .pointer (some ⟨N, 0, none⟩), .pointer (some ⟨N + 1, 0, none⟩), .bool false, .pointer (some ⟨N + 1 + 1, 0, none⟩), .pointer (some ⟨N + 1 + 1 + 1, 0, none⟩), .pointer (some ⟨Bx, 0, none⟩), .func (.func 258) #[] #[.pointer (some ⟨bl, 0, none⟩), .pointer (some ⟨bi, 0, none⟩)], .agg x.cells, undef, undef, undef, undef, undef, undef], defers := [] })
  (fun x a' => ?hAx) ?assign ?body ?done
 case hro => rfl
 case h1 => omega
 case hg => rfl
 case hF => trivial
 case eg => exact enters_of Tryz.func258 (by kernel_rfl) rfl
 case hseq => exact HSEQ.out
 case hM => exact fun A B hm k o _ hk ho => hm.2 k o hk ho
 case hKt => exact KpQ.trans
 case hKb => exact fun W l o o' hl' hl ho _ => KpQ.put (N := W4.heap.size) (by rw [z4]; omega) W l o o' hl' hl ho
 case hb0 => exact Below.refl _ _
 case hps => exact fun _ => rfl
 case hIz => exact LsI.own N (N + 1 + 1) (N + 1 + 1 + 1) W4.heap.size w d _ (by omega) HN.out.symm
 case hIM => exact fun pre A B hi hm => hi.moved (M := W4.heap.size) hm (by omega) (by omega) (by omega)
 case hS => exact ownFrom_pure _ _
 case hI0 => exact hI0
 case hAx =>
  rintro _ X Y row ⟨Bx, h1, h2, rfl⟩ hg hr
  exact ⟨Bx, h1, ((own_cellsQ (β := Unit) Bx (fun _ => x.cells) _ _).from _) () X Y row h2 hg hr, rfl⟩
 case assign =>
  rintro l pre x W K hIz hK
  have hlt := hIz.1.1.2.lt
  obtain ⟨W5, hW5⟩ : ∃ W5, W.alloc (.cells #[.int .i64 0, .string ⟨#[]⟩, .string ⟨#[]⟩] 206) = W5 := ⟨_, rfl⟩
  have b5 : Below W.heap.size W W5 := by rw [← hW5]; exact (Below.refl _ W).alloc (Nat.le_refl _) _
  have k5 : W5.heap[W.heap.size]? = some (.cells #[.int .i64 0, .string ⟨#[]⟩, .string ⟨#[]⟩] 206 (0, 0)) := by rw [← hW5]; exact heap_alloc_new W _
  have hrun := run_store_rowK W5 W.heap.size 3 206 _ x.cells (by kernel_rfl) k5 rfl rfl (qcells_one _)
  obtain ⟨W6, hW6⟩ : ∃ W6, W5.setRow W.heap.size x.cells = W6 := ⟨_, rfl⟩
  rw [hW6] at hrun
  have b6 : Below W.heap.size W W6 := by rw [← hW6]; exact below_setRowK b5 (Nat.le_refl _) _
  have HF : Hid (KeepsFrom W4.heap.size W W6 ∧ KpQ n₀ (N + 1 + 1) (N + 1 + 1 + 1) W W6 ∧ LsI N (N + 1 + 1) (N + 1 + 1 + 1) w d (Value.func (.func 214) #[] #[.pointer (some ⟨bd, 0, none⟩)]) pre W6 ∧ W6.heap[W.heap.size]? = some (.cells x.cells 206 (0, 0))) := by
   refine ⟨⟨b6.size, fun k o _ hk _ => bkeepK b6 hk⟩, KpQ.below b6 (by omega), hIz.below b6 (by omega), ?_⟩
   rw [← hW6]; exact setRow_heap _ _ _ _ _ _ k5
  clear b5 k5 hW6 b6 hIz
  simp only [encQt]
  gi_wp2_with (first | (refine wpListIn_store_runK hrun rfl _ _ rfl rfl rfl ?_) | fail)
  obtain ⟨f1, f2, f3, f4⟩ := HF.out
  exact hK _ _ f1 f2 f3 ⟨_, hlt, f4, rfl⟩
 case body =>
  rintro l pre x a' W hIz ⟨Bx, hBx, bX, rfl⟩ hlt
  have c3 := hIz.1.2.1.cell
  have x0 := Lib.cell_of_heap bX 0
  have x1 := Lib.cell_of_heap bX 1
  have x2 := Lib.cell_of_heap bX 2
  simp [Qt.cells] at x0 x1 x2
  have HI :=hI hIz
  have HX := hI bX
  have HC : Hid (CallsIn (Fence.wide.inRound l) (6 - 1 - 1 - 1) Tryz.prog 214 #[.agg x.cells, .pointer (some ⟨bd, 0, none⟩)] W fun e w' => e = .returned (.bool (decide (x.day ≤ d))) ∧ Below W.heap.size W w') :=
   CallsIn.inRound l (callsIn_wide.2 (platest1_any bd d x W ((hIz.2.block bd hd4).trans HBD.out)))
  clear hIz bX hlt
  unfold Qt.cells at HC
  gi_wp2
  refine ⟨trivial, ?_⟩
  refine HC.out.mono ?_
  rintro e Wb ⟨rfl, b2⟩
  have hsz := HI.out.1.1.2.lt
  have HI2 := hI (HI.out.below b2 (by omega))
  have bX2 := bkeepK b2 HX.out
  have HKF : Hid (KeepsFrom W4.heap.size W Wb) := ⟨b2.size, fun k o _ hk _ => bkeepK b2 hk⟩
  have HKP : Hid (KpQ n₀ (N + 1 + 1) (N + 1 + 1 + 1) W Wb) := KpQ.below b2 (by omega)
  clear c3 x0 x1 x2 HC HI HX b2 hsz
  have x0 := Lib.cell_of_heap bX2 0
  have x1 := Lib.cell_of_heap bX2 1
  have x2 := Lib.cell_of_heap bX2 2
  simp [Qt.cells] at x0 x1 x2
  clear bX2
  by_cases hd : x.day ≤ d
  ·rw [decide_eq_true hd]
   have HL : Hid (lastQ d (pre ++ [x]) = some x) := by rw [Hid, lastQ_snoc, if_pos hd]
   have hrun := run_store_rowK Wb (N + 1 + 1) 3 206 _ x.cells (by kernel_rfl) HI2.out.1.1.1 rfl rfl (qcells_one _)
   obtain ⟨Wc, hWc⟩ : ∃ Wc, Wb.setRow (N + 1 + 1) x.cells = Wc := ⟨_, rfl⟩
   rw [hWc] at hrun
   have k6 : Wc.heap[N + 1 + 1]? = some (.cells x.cells 206 (0, 0)) := by rw [← hWc]; exact setRow_heap _ _ _ _ _ _ HI2.out.1.1.1
   have k7 : Boxed Wc (N + 1 + 1 + 1) 4 (.bool (lastQ d pre).isSome) := by rw [← hWc]; exact (setRow_other _ _ _ _ (by omega)).trans HI2.out.1.1.2
   have c7 := k7.cell
   have f7 := k7.frozen
   have HF : Hid (KeepsFrom W4.heap.size W (Wc.setCell ⟨N + 1 + 1 + 1, 0, none⟩ (.bool true)) ∧ KpQ n₀ (N + 1 + 1) (N + 1 + 1 + 1) W (Wc.setCell ⟨N + 1 + 1 + 1, 0, none⟩ (.bool true)) ∧ LsI N (N + 1 + 1) (N + 1 + 1 + 1) w d (Value.func (.func 214) #[] #[.pointer (some ⟨bd, 0, none⟩)]) (pre ++ [x]) (Wc.setCell ⟨N + 1 + 1 + 1, 0, none⟩ (.bool true))) := by
    have ho : ∀ k, k ≠ N + 1 + 1 → k ≠ N + 1 + 1 + 1 → (Wc.setCell ⟨N + 1 + 1 + 1, 0, none⟩ (.bool true)).heap[k]? = Wb.heap[k]? := fun k h1 h2 => by
     rw [Below.heap_setCell _ _ _ k h2, ← hWc]; exact setRow_other _ _ _ _ h1
    have hb : Below N w (Wc.setCell ⟨N + 1 + 1 + 1, 0, none⟩ (.bool true)) := by
     rw [← hWc]; exact (below_setRowK HI2.out.2 (by omega) _).setCell (p := ⟨N + 1 + 1 + 1, 0, none⟩) (by show N ≤ N + 1 + 1 + 1; omega) _
    have hb2 : Below n₀ W (Wc.setCell ⟨N + 1 + 1 + 1, 0, none⟩ (.bool true)) := by
     rw [← hWc]; exact (below_setRowK HKP.out.1 (by omega) _).setCell (p := ⟨N + 1 + 1 + 1, 0, none⟩) (by show n₀ ≤ N + 1 + 1 + 1; omega) _
    refine ⟨⟨hb2.size, fun k o hk h hc => ?_⟩, ⟨hb2, fun k o h1 h2 h hc => ?_⟩, ⟨⟨⟨?_, ?_⟩, ?_, ?_⟩, hb⟩⟩
    ·rw [ho k (by omega) (by omega)]; exact HKF.out.same k o hk h hc
    ·rw [ho k h1 h2]; exact HKP.out.2 k o h1 h2 h hc
    ·rw [HL.out, Below.heap_setCell _ _ _ _ (by show N + 1 + 1 ≠ N + 1 + 1 + 1; omega)]; exact k6
    ·rw [HL.out]; exact k7.set _
    ·show (Wc.setCell ⟨N + 1 + 1 + 1, 0, none⟩ (.bool true)).heap[N]? = _
     rw [ho N (by omega) (by omega)]; exact HI2.out.1.2.1
    ·rw [ho (N + 1) (by omega) (by omega)]; exact HI2.out.1.2.2
   clear k6 k7 hWc hd HL
   unfold Qt.cells at hrun
   gi_wp2_with (first | (refine wpListIn_store_runK hrun rfl _ _ rfl rfl rfl ?_) | fail)
   exact HF.out
  ·rw [decide_eq_false hd]
   have HF : Hid (KeepsFrom W4.heap.size W Wb ∧ KpQ n₀ (N + 1 + 1) (N + 1 + 1 + 1) W Wb ∧ LsI N (N + 1 + 1) (N + 1 + 1 + 1) w d (Value.func (.func 214) #[] #[.pointer (some ⟨bd, 0, none⟩)]) (pre ++ [x]) Wb) := by
    refine ⟨HKF.out, HKP.out, ?_⟩
    have h := HI2.out
    unfold LsI at h ⊢
    rw [lastQ_snoc, if_neg hd]
    exact h
   clear hd
   gi_wp2
   exact HF.out
 case done =>
  rintro D xs W hD rfl hIz hK
  have k4 := hIz.1.2.2
  have o0 := Lib.cell_of_heap hIz.1.1.1 0
  have o1 := Lib.cell_of_heap hIz.1.1.1 1
  have o2 := Lib.cell_of_heap hIz.1.1.1 2
  simp [Qt.cells] at o0 o1 o2
  have c7 := hIz.1.1.2.cell
  have r0 := Lib.cell_of_heap k4 0
  have r1 := Lib.cell_of_heap k4 1
  have r2 := Lib.cell_of_heap k4 2
  have g0 := Lib.frozen_of_heap k4 0
  have g1 := Lib.frozen_of_heap k4 1
  have g2 := Lib.frozen_of_heap k4 2
  simp [Qt.cells, qzero] at r0 r1 r2 g0 g1 g2
  have HI :=hI hIz
  have HK := hI hK
  clear hIz hK k4
  gi_wp2
  gi_region
  all_goals gi_wp2
  have e1 := heap_setCell_same W (N + 1) 0 _ _ (.int .i64 (lqV (lastQ d xs)).day) HI.out.1.2.2
  have e2 := heap_setCell_same _ (N + 1) 1 _ _ (.string (lqV (lastQ d xs)).pn) e1
  have e3 := heap_setCell_same _ (N + 1) 2 _ _ (.string (lqV (lastQ d xs)).pd) e2
  obtain ⟨Y, hY⟩ : ∃ Y, ((W.setCell ⟨N + 1, 0, none⟩ (.int .i64 (lqV (lastQ d xs)).day)).setCell ⟨N + 1, 1, none⟩ (.string (lqV (lastQ d xs)).pn)).setCell ⟨N + 1, 2, none⟩ (.string (lqV (lastQ d xs)).pd) = Y := ⟨_, rfl⟩
  rw [hY] at e3 ⊢
  have hD2 : N + 1 < D := by have := hD; omega
  have hXk : Y.drew.heap[N + 1]? = some (.cells (lqV (lastQ d xs)).cells 206 (0, 0)) := e3
  have hXD : Y.drew.heap[D]? = some (.deferred (some [])) := by
   show Y.heap[D]? = _
   rw [← hY, Below.heap_setCell _ _ _ D (by show D ≠ N + 1; omega), Below.heap_setCell _ _ _ D (by show D ≠ N + 1; omega), Below.heap_setCell _ _ _ D (by show D ≠ N + 1; omega)]
   exact HK.out
  have hXb : Below N w Y.drew := by
   rw [← hY]
   exact (((HI.out.2.setCell (p := ⟨N + 1, 0, none⟩) (by show N ≤ N + 1; omega) _).setCell (p := ⟨N + 1, 1, none⟩) (by show N ≤ N + 1; omega) _).setCell (p := ⟨N + 1, 2, none⟩) (by show N ≤ N + 1; omega) _).drew
  have hXb' : Below w.heap.size w Y.drew := by rw [HN.out]; exact hXb
  refine ⟨by simp, .inl ⟨_, _, rfl, run_takeDeferred hXD, ?_⟩⟩
  exact ⟨_, results_row_tmpQ rfl _ _ (N + 1) _ _ (0, 0) _ rfl ((World.putObj_heap_other (by omega)).trans hXk) Tryz.underlying206 rfl (by kernel_rfl), rfl, hXb'.trans (belowK_b (w := w) (Nat.le_refl _) Y.drew D _ _ (by have := HN.out; omega) hXD rfl rfl)⟩
end Go.Proofs.YtbkmhmaldljgmaaGreatDoor
namespace Go.Proofs.YtbkmhmaldljgmaaGreatDoor
open Go.RowKit Tr Go.Shelf
theorem store3 (W : World) (B : Nat) (cs : Array Value) (q : Qt) (h : W.heap[B]? = some (.cells cs 206 (0, 0))) (hc : cs.size = 3) :
 (Instr.storeAt 206 (.pointer (some ⟨B, 0, none⟩)) (.agg q.cells)).run Tryz.prog W = .ok () (W.setRow B q.cells) := run_store_rowK W B 3 206 _ _ (by kernel_rfl) h hc rfl (qcells_one _)
theorem fr_one (n d : ByteArray) : ∀ u ∈ (#[.string n, .string d] : Array Value).toList, u.oneCell' = true := by
 intro u hu; simp at hu; rcases hu with rfl | rfl <;> rfl
theorem platest_any (n₀ g : Nat) (s : ByteArray) (vs : List VF) (c : Nat) (d : Int) (w : World) (hlm : vs.length ≤ 1000000) (hR : VRd w g vs) (hg : g < n₀) (hv : ∀ y ∈ vs, FactV y.x y.p y.o) (hnw : n₀ ≤ w.heap.size) :
 Calls Tryz.prog 159 #[.slice (some ⟨g, 0, none⟩) vs.length c, .string s, .int .i64 d] w fun e w' => e = .returned (.tuple #[.agg (lqV (lastQ d (quotesL s vs))).cells, .bool (lastQ d (quotesL s vs)).isSome]) ∧ Below w.heap.size w w' := by
 obtain ⟨W2, hW2', hB2, z2, k0, k1⟩ := box2 w (.cells #[.int .i64 d] 22) (.cells #[.int .i64 0, .string ⟨#[]⟩, .string ⟨#[]⟩] 206)
 have hW2 := hW2'.symm
 have H := hI (fun (bl bi bd : Nat) (W : World) (h1 : Boxed W bl 61 (.slice (some ⟨g, 0, none⟩) vs.length c)) (h2 : Boxed W bi 9 (.string s)) (h3 : Boxed W bd 22 (.int .i64 d)) (hb : Below w.heap.size w W) => plast_any n₀ bl bi bd g s vs c d W hlm h1 h2 h3 (hR.below hb) hg hv (Nat.le_trans hnw hb.size))
 have HP := hI (pquotes_any (some ⟨g, 0, none⟩) vs.length c s W2)
 generalize lastQ d (quotesL s vs) = o at H ⊢
 generalize vs.length = m at *
 have HB2 := hI hB2
 have HK0 := hI k0
 have HK1 := hI k1
 have HZ2 := hI z2
 clear hlm hR hg hv hnw hB2 k0 k1 z2 hW2'
 go_enter Tryz.func159, Tryz.ntmps159
 go_wp2_with fail
 refine HP.out.mono ?_
 rintro e w3 ⟨rfl, hw3⟩
 have b3 : Below W2.heap.size W2 w3 := by rw [hw3]; exact ((Below.refl _ W2).alloc (Nat.le_refl _) _).alloc (by simp) _
 have q0 : Boxed w3 W2.heap.size 61 (.slice (some ⟨g, 0, none⟩) m c) := by rw [hw3]; exact (Boxed.new W2 _ _).alloc _
 have q1 : Boxed w3 (W2.heap.size + 1) 9 (.string s) := by
  rw [hw3]
  have := Boxed.new (W2.alloc (.cells #[.slice (some ⟨g, 0, none⟩) m c] 61)) 9 (.string s)
  rwa [World.size_alloc] at this
 have HL := hI (H.out _ _ w.heap.size w3 q0 q1 (bkeepK b3 HK0.out) (HB2.out.trans (b3.mono HB2.out.size)))
 have HB3 := hI (HB2.out.trans (b3.mono HB2.out.size))
 have HK3 : Hid (w3.heap[w.heap.size + 1]? = some (.cells #[.int .i64 0, .string ⟨#[]⟩, .string ⟨#[]⟩] 206 (0, 0))) := bkeepK b3 HK1.out
 clear hw3 b3 q0 q1 H HP hW2
 unfold Qt.cells at HL
 go_wp2_with fail
 refine HL.out.mono ?_
 rintro e w4 ⟨rfl, b4⟩
 have hk4 : w4.heap[w.heap.size + 1]? = some (.cells #[.int .i64 0, .string ⟨#[]⟩, .string ⟨#[]⟩] 206 (0, 0)) := bkeepK b4 HK3.out
 have hrun := store3 w4 (w.heap.size + 1) _ (lqV o) hk4 rfl
 obtain ⟨W5, hW5⟩ : ∃ W5, w4.setRow (w.heap.size + 1) (lqV o).cells = W5 := ⟨_, rfl⟩
 rw [hW5] at hrun
 have HK5 : Hid (W5.heap[w.heap.size + 1]? = some (.cells (lqV o).cells 206 (0, 0))) := by rw [Hid, ← hW5]; exact setRow_heap _ _ _ _ _ _ hk4
 have HB5 : Hid (Below w.heap.size w W5) := by rw [Hid, ← hW5]; exact below_setRowK (HB3.out.trans (b4.mono HB3.out.size)) (by omega) _
 clear hW5 hk4 b4 HL HB3 HK3
 unfold Qt.cells at hrun
 go_wp2_with (first | (refine wpList_store_runK hrun rfl _ _ rfl rfl rfl ?_) | fail)
 refine bodyPost_ret (results_row_tmpQ rfl _ _ (w.heap.size + 1) _ _ (0, 0) _ rfl HK5.out Tryz.underlying206 rfl (by kernel_rfl)) rfl ?_
 exact ⟨rfl, HB5.out⟩
theorem pfresh_yes (n₀ g : Nat) (s : ByteArray) (vs : List VF) (c : Nat) (d st : Int) (q : Qt) (hq : lastQ d (quotesL s vs) = some q) (hst : d - q.day ≤ st) (hdd : IntKind.i64.wrap (d - q.day) = d - q.day) (w : World) (hlm : vs.length ≤ 1000000) (hR : VRd w g vs) (hg : g < n₀) (hv : ∀ y ∈ vs, FactV y.x y.p y.o) (hnw : n₀ ≤ w.heap.size) :
 Calls Tryz.prog 114 #[.slice (some ⟨g, 0, none⟩) vs.length c, .string s, .int .i64 d, .int .i64 st] w fun e w' => e = .returned (.tuple #[.agg #[.string q.pn, .string q.pd], .bool true]) ∧ Below w.heap.size w w' := by
 obtain ⟨W0, hW0⟩ : ∃ W0, w.alloc (.cells #[.string ⟨#[]⟩, .string ⟨#[]⟩] 25) = W0 := ⟨_, rfl⟩
 have b0 : Below w.heap.size w W0 := by rw [← hW0]; exact (Below.refl _ w).alloc (Nat.le_refl _) _
 have k0 : W0.heap[w.heap.size]? = some (.cells #[.string ⟨#[]⟩, .string ⟨#[]⟩] 25 (0, 0)) := by rw [← hW0]; exact heap_alloc_new w _
 have HP := hI (platest_any n₀ g s vs c d W0 hlm (hR.below b0) hg hv (Nat.le_trans hnw b0.size))
 rw [hq] at HP
 unfold lqV Qt.cells at HP
 simp only [Option.getD_some, Option.isSome_some] at HP
 obtain ⟨qd, pn, pd⟩ := q
 simp only at hst hdd HP ⊢
 generalize vs.length = m at *
 have hgt : decide (st < d - qd) = false := decide_eq_false (by omega)
 have hgt2 : decide (d - qd > st) = false := decide_eq_false (by omega)
 have HB0 := hI b0
 have HK0 := hI k0
 clear hq hlm hR hg hv hnw b0 k0 hst
 go_enter Tryz.func114, Tryz.ntmps114
 go_wp2_with fail
 refine HP.out.mono ?_
 rintro e w1 ⟨rfl, b1⟩
 obtain ⟨W2, hW2⟩ : ∃ W2, w1.alloc (.cells #[.int .i64 0, .string ⟨#[]⟩, .string ⟨#[]⟩] 206) = W2 := ⟨_, rfl⟩
 have b2 : Below w1.heap.size w1 W2 := by rw [← hW2]; exact (Below.refl _ w1).alloc (Nat.le_refl _) _
 have k2 : W2.heap[w1.heap.size]? = some (.cells #[.int .i64 0, .string ⟨#[]⟩, .string ⟨#[]⟩] 206 (0, 0)) := by rw [← hW2]; exact heap_alloc_new w1 _
 have hrun := store3 W2 w1.heap.size _ ⟨qd, pn, pd⟩ k2 rfl
 obtain ⟨W3, hW3⟩ : ∃ W3, W2.setRow w1.heap.size (Qt.cells ⟨qd, pn, pd⟩) = W3 := ⟨_, rfl⟩
 rw [hW3] at hrun
 have b3 : Below w1.heap.size w1 W3 := by rw [← hW3]; exact below_setRowK b2 (Nat.le_refl _) _
 have k3 : W3.heap[w1.heap.size]? = some (.cells (Qt.cells ⟨qd, pn, pd⟩) 206 (0, 0)) := by rw [← hW3]; exact setRow_heap _ _ _ _ _ _ k2
 have hk0 : W3.heap[w.heap.size]? = some (.cells #[.string ⟨#[]⟩, .string ⟨#[]⟩] 25 (0, 0)) := bkeepK b3 (bkeepK b1 HK0.out)
 have HB3 : Hid (Below w.heap.size w W3) := (HB0.out.trans (b1.mono HB0.out.size)).trans (b3.mono (Nat.le_trans HB0.out.size b1.size))
 have hrun2 := run_store_rowK W3 w.heap.size 2 25 _ #[.string pn, .string pd] (by kernel_rfl) hk0 rfl rfl (fr_one _ _)
 obtain ⟨W4, hW4⟩ : ∃ W4, W3.setRow w.heap.size #[.string pn, .string pd] = W4 := ⟨_, rfl⟩
 rw [hW4] at hrun2
 have HK4 : Hid (W4.heap[w.heap.size]? = some (.cells #[.string pn, .string pd] 25 (0, 0))) := by rw [Hid, ← hW4]; exact setRow_heap _ _ _ _ _ _ hk0
 have HB4 : Hid (Below w.heap.size w W4) := by rw [Hid, ← hW4]; exact below_setRowK HB3.out (Nat.le_refl _) _
 obtain ⟨B, hB⟩ : ∃ B, w1.heap.size = B := ⟨_, rfl⟩
 rw [hB] at hrun k3
 have m0 := Lib.cell_of_heap k3 0
 have m1 := Lib.cell_of_heap k3 1
 have m2 := Lib.cell_of_heap k3 2
 simp [Qt.cells] at m0 m1 m2
 clear hW3 hW4 b1 b2 k2 b3 k3 hk0 HK0 HB0 HP
 unfold Qt.cells at hrun
 go_wp2_with (first | (refine wpList_store_runK hrun rfl _ _ rfl rfl rfl ?_) | (refine wpList_store_runK hrun2 rfl _ _ rfl rfl rfl ?_) | fail)
 refine bodyPost_ret (results_row_tmpQ rfl _ _ w.heap.size _ _ (0, 0) _ rfl HK4.out Tryz.underlying25 rfl (by kernel_rfl)) rfl ?_
 exact ⟨rfl, HB4.out⟩
theorem pValid_one (B : Nat) (d : Int) (hd : okDay d) (w : World) (hb : w.heap[B]? = some (.cells #[.int .i64 d] 22 (0, 0))) :
 Calls Tryz.prog 158 #[.slice (some ⟨B, 0, none⟩) 1 1] w fun e w' => e = .returned (.bool true) ∧ w' = w := by
 have c0 : w.cell? ⟨B, 0, none⟩ = some (.int .i64 d) := by have := Lib.cell_of_heap hb 0; simpa using this
 have d1 : decide (d < -25567) = false := decide_eq_false (by unfold okDay at hd; omega)
 have d2 : decide (d > 84005) = false := decide_eq_false (by unfold okDay at hd; omega)
 have d3 : decide (84005 < d) = false := decide_eq_false (by unfold okDay at hd; omega)
 clear hd hb
 go_enter Tryz.func158, Tryz.ntmps158
 go_wp2_with fail
 go_loopw [7] (fun v wr => (v = .int .i64 0 ∨ v = .int .i64 1) ∧ wr = w) (fun v _ => 1 - (intOf v).toNat)
 case atStart => exact ⟨.inl rfl, rfl⟩
 case round =>
  obtain ⟨hv, rfl⟩ := hrel
  rcases hv with rfl | rfl
  ·go_wp2_with fail
   go_roundw
   case rel => exact ⟨.inr rfl, (by first | rfl | trivial)⟩
   case measure => simp [intOf]
  ·go_wp2_with fail
   go_ret
   exact ⟨rfl, rfl⟩
theorem pCheck_ok (F : Value) (hF : ∃ B k c, F = .slice B k c) (B : Nat) (d st : Int) (hd : okDay d) (hst : 0 ≤ st) (w : World) (hv : Calls Tryz.prog 110 #[F] w fun e w' => e = .returned (.int .i64 0) ∧ Below w.heap.size w w') (hb : w.heap[B]? = some (.cells #[.int .i64 d] 22 (0, 0))) :
 Calls Tryz.prog 113 #[F, .int .i64 st, .slice (some ⟨B, 0, none⟩) 1 1] w fun e w' => e = .returned (.int .i64 0) ∧ Below w.heap.size w w' := by
 obtain ⟨FB, fk, fc, rfl⟩ := hF
 have HV := hI hv
 have HP := hI (fun W (hw : Below w.heap.size w W) => pValid_one B d hd W (bkeepK hw hb))
 have hs1 : decide (st < 0) = false := decide_eq_false (by omega)
 have hs2 : ¬ st < 0 := by omega
 clear hv hd hb hst
 go_enter Tryz.func113, Tryz.ntmps113
 go_wp2_with fail
 refine HV.out.mono ?_
 rintro e w1 ⟨rfl, b1⟩
 have HB1 := hI b1
 clear b1
 go_wp2_with fail
 refine (HP.out w1 HB1.out).mono ?_
 rintro e w2 ⟨rfl, rfl⟩
 go_wp2_with fail
 go_ret
 exact ⟨rfl, HB1.out⟩
theorem pFresh_yes (n₀ g : Nat) (s : ByteArray) (vs : List VF) (c : Nat) (d st : Int) (hd : okDay d) (hst0 : 0 ≤ st) (q : Qt) (hq : lastQ d (quotesL s vs) = some q) (hst : d - q.day ≤ st) (hdd : IntKind.i64.wrap (d - q.day) = d - q.day) (w : World) (hlm : vs.length ≤ 1000000) (hR : VRd w g vs) (hg : g < n₀) (hv : ∀ y ∈ vs, FactV y.x y.p y.o) (hnw : n₀ ≤ w.heap.size)
 (hV : ∀ W, Below w.heap.size w W → Calls Tryz.prog 110 #[.slice (some ⟨g, 0, none⟩) vs.length c] W fun e w' => e = .returned (.int .i64 0) ∧ Below W.heap.size W w') :
 Calls Tryz.prog 68 #[.slice (some ⟨g, 0, none⟩) vs.length c, .string s, .int .i64 d, .int .i64 st] w fun e w' => e = .returned (.tuple #[.agg #[.string q.pn, .string q.pd], .int .i64 0]) ∧ Below w.heap.size w w' := by
 obtain ⟨W1, hW1', hB1, z1, k0, k1⟩ := box2 w (.cells #[.string ⟨#[]⟩, .string ⟨#[]⟩] 25) (.cells #[.int .i64 d] 22)
 have hW1 := hW1'.symm
 have HC := hI (pCheck_ok (.slice (some ⟨g, 0, none⟩) vs.length c) ⟨_, _, _, rfl⟩ (w.heap.size + 1) d st hd hst0 W1 (hV W1 hB1) k1)
 have HF := hI (fun W (hb : Below w.heap.size w W) => pfresh_yes n₀ g s vs c d st q hq hst hdd W hlm (hR.below hb) hg hv (Nat.le_trans hnw hb.size))
 generalize vs.length = m at *
 obtain ⟨qd, pn, pd⟩ := q
 simp only at hst hdd HF ⊢
 have HB1 := hI hB1
 have HK0 := hI k0
 clear hq hlm hR hg hv hnw hB1 k0 k1 z1 hst hV hd hst0 hdd hW1'
 go_enter Tryz.func68, Tryz.ntmps68
 go_wp2_with fail
 refine HC.out.mono ?_
 rintro e w2 ⟨rfl, b2⟩
 have HB2 := hI (HB1.out.trans (b2.mono HB1.out.size))
 have HK2 : Hid (w2.heap[w.heap.size]? = some (.cells #[.string ⟨#[]⟩, .string ⟨#[]⟩] 25 (0, 0))) := bkeepK b2 HK0.out
 clear b2 HC HB1 HK0 hW1
 go_wp2_with fail
 refine (HF.out w2 HB2.out).mono ?_
 rintro e w3 ⟨rfl, b3⟩
 obtain ⟨W4, hW4⟩ : ∃ W4, w3.alloc (.cells #[.string ⟨#[]⟩, .string ⟨#[]⟩] 25) = W4 := ⟨_, rfl⟩
 have b4 : Below w3.heap.size w3 W4 := by rw [← hW4]; exact (Below.refl _ w3).alloc (Nat.le_refl _) _
 have k4 : W4.heap[w3.heap.size]? = some (.cells #[.string ⟨#[]⟩, .string ⟨#[]⟩] 25 (0, 0)) := by rw [← hW4]; exact heap_alloc_new w3 _
 have hrun := run_store_rowK W4 w3.heap.size 2 25 _ #[.string pn, .string pd] (by kernel_rfl) k4 rfl rfl (fr_one _ _)
 obtain ⟨W5, hW5⟩ : ∃ W5, W4.setRow w3.heap.size #[.string pn, .string pd] = W5 := ⟨_, rfl⟩
 rw [hW5] at hrun
 have b5 : Below w3.heap.size w3 W5 := by rw [← hW5]; exact below_setRowK b4 (Nat.le_refl _) _
 have k5 : W5.heap[w3.heap.size]? = some (.cells #[.string pn, .string pd] 25 (0, 0)) := by rw [← hW5]; exact setRow_heap _ _ _ _ _ _ k4
 have hk0 : W5.heap[w.heap.size]? = some (.cells #[.string ⟨#[]⟩, .string ⟨#[]⟩] 25 (0, 0)) := bkeepK b5 (bkeepK b3 HK2.out)
 have HB5 : Hid (Below w.heap.size w W5) := (HB2.out.trans (b3.mono HB2.out.size)).trans (b5.mono (Nat.le_trans HB2.out.size b3.size))
 have hrun2 := run_store_rowK W5 w.heap.size 2 25 _ #[.string pn, .string pd] (by kernel_rfl) hk0 rfl rfl (fr_one _ _)
 obtain ⟨W6, hW6⟩ : ∃ W6, W5.setRow w.heap.size #[.string pn, .string pd] = W6 := ⟨_, rfl⟩
 rw [hW6] at hrun2
 have HK6 : Hid (W6.heap[w.heap.size]? = some (.cells #[.string pn, .string pd] 25 (0, 0))) := by rw [Hid, ← hW6]; exact setRow_heap _ _ _ _ _ _ hk0
 have HB6 : Hid (Below w.heap.size w W6) := by rw [Hid, ← hW6]; exact below_setRowK HB5.out (Nat.le_refl _) _
 obtain ⟨B, hB⟩ : ∃ B, w3.heap.size = B := ⟨_, rfl⟩
 rw [hB] at hrun k5
 have m0 := Lib.cell_of_heap k5 0
 have m1 := Lib.cell_of_heap k5 1
 simp at m0 m1
 clear hW5 hW6 b3 b4 k4 b5 k5 hk0 HK2 HB2 HF
 go_wp2_with (first | (refine wpList_store_runK hrun rfl _ _ rfl rfl rfl ?_) | (refine wpList_store_runK hrun2 rfl _ _ rfl rfl rfl ?_) | fail)
 refine bodyPost_ret (results_row_tmpQ rfl _ _ w.heap.size _ _ (0, 0) _ rfl HK6.out Tryz.underlying25 rfl (by kernel_rfl)) rfl ?_
 exact ⟨rfl, HB6.out⟩
end Go.Proofs.YtbkmhmaldljgmaaGreatDoor
