/-
  The iterator of accrual.amounts: it gives the exact amortizations of the lots of an instrument.
  The walk of accrual.sum over the amounts.
  The walks of accrual.check, checkOne, Amortized, Total, Book on what is valid. (Printed by gen_acc6.py.)
  The walk of accrual.Total on what is valid. (Printed by gen_acc6.py.)
  The walk of accrual.Book on what is valid. (Printed by gen_acc6.py.)
  The walks of accrual.checkOne and Amortized on what is valid. (Printed by gen_acc9.py.)
  The walk of accrual.Effect on what is valid. (Printed by gen_acc10.py.)
-/
import Derived.Test.YtpgjmdggblnfkaaGreatDoorM27
import Derived.Test.YtpgjmdggblnfkaaGreatDoorM37
set_option linter.unusedVariables false
set_option linter.unusedSimpArgs false
set_option maxHeartbeats 16000000
set_option maxRecDepth 100000
namespace Go.Proofs.YtpgjmdggblnfkaaGreatDoor
open Go.RowKit Tr Go.Shelf
attribute [local go_sem] Oper.semAt_some
def qB : Nat := 4000
abbrev SQ := { q : Rat // BdQ q qB }
def encQ (x : SQ) : Array Value := #[fenc x.1]
structure ExOk (i : Inst) (d : Int) : Prop where
 s1 : i.fn.size ≤ 1000
 s2 : i.fd.size ≤ 1000
 dy : okDay d
 mt : i.kind = 2 → okDay i.matures
theorem exact_any (i : Inst) (l : Lot) (d : Int) (h : ExOk i d) (hs : l.sized) (ho : okDay l.opn) (w : World) (ht : Tabs w) :
 Calls Tryz.prog 51 #[i.enc, l.enc, .int .i64 d] w fun e w' => e = .returned (fenc (exactQ i l d)) ∧ Below w.heap.size w w' := by
 by_cases hz : i.kind ≠ 2 ∨ d < l.opn
 ·exact exact_zero i l d hz w
 ·have hk : i.kind = 2 := by
   rcases Decidable.em (i.kind = 2) with e | e
   ·exact e
   ·exact absurd (.inl e) hz
  exact exact_some i l d hk (by omega) h.s1 h.s2 hs.2.2.1 hs.2.2.2.1 h.dy ho (h.mt hk) w ht
theorem exact_bd (i : Inst) (l : Lot) (d : Int) (h : ExOk i d) (hs : l.sized) (ho : okDay l.opn) : BdQ (exactQ i l d) qB := by
 obtain ⟨K, hK⟩ : ∃ K, K = 1002 := ⟨_, rfl⟩
 have hq : K + K + K + 1 + 7 ≤ qB := by unfold qB; omega
 have s1 := h.s1
 have s2 := h.s2
 have s3 := hs.2.2.1
 have s4 := hs.2.2.2.1
 have bf : BdQ (fv i.fn i.fd) K := fv_bd _ _ (by omega) (by omega)
 have bq : BdQ (vl l.qty : Rat) K := BdQ.int (Nat.lt_of_lt_of_le (vl_lt _) (pow_mono (by omega))) (by omega)
 have bc : BdQ (vl l.cost : Rat) K := BdQ.int (Nat.lt_of_lt_of_le (vl_lt _) (pow_mono (by omega))) (by omega)
 have ba : BdQ (allQ i l) (K + K + K + 1) := (bf.mul bq).sub bc
 unfold exactQ
 split
 ·exact BdQ.zero (by omega)
 ·rename_i hz
  split
  ·exact ba.mono (by omega)
  ·have hk : i.kind = 2 := by
    rcases Decidable.em (i.kind = 2) with e | e
    ·exact e
    ·exact absurd (.inl e) hz
   have e1 := h.dy
   have e3 := h.mt hk
   unfold okDay at e1 e3 ho
   refine (BdQ.div' (m := 7) ?_ ?_ ?_ ba).mono hq <;> omega
def KpZ (m b : Nat) (W W' : World) : Prop := Below m W W' ∧ ∀ (k : Nat) (o : Obj), k ≠ b → W.heap[k]? = some o → o.isCells = true → W'.heap[k]? = some o
theorem KpZ.trans {m b : Nat} {A B C : World} (h : KpZ m b A B) (k : KpZ m b B C) : KpZ m b A C := ⟨h.1.trans k.1, fun i o hi ho hc => k.2 i o hi (h.2 i o hi ho hc) hc⟩
theorem KpZ.put {m b : Nat} (W : World) (l : Nat) (o o' : Obj) (hm : m ≤ l) (hl : W.heap[l]? = some o) (ho : o.isCells = false) : KpZ m b W (W.putObj l o') := by
 refine ⟨(Below.refl m W).grown (grownBy_putObj' W l o') (by have := (Array.getElem?_eq_some_iff.1 hl).1; omega) (fun k e => by cases e; omega), fun k o2 _ hk hc => ?_⟩
 rcases Nat.decEq k l with h | h
 ·exact (World.putObj_heap_other (by omega)).trans hk
 ·subst h; rw [hl] at hk; injection hk with hk; subst hk; rw [ho] at hc; cases hc
theorem KpZ.below {m b : Nat} {A B : World} (h : Below A.heap.size A B) (hm : m ≤ A.heap.size) : KpZ m b A B := ⟨h.mono hm, fun k o _ hk _ => (h.block k (Array.getElem?_eq_some_iff.1 hk).1).trans hk⟩
theorem KpZ.cell {m b : Nat} {W W' : World} (h : KpZ m b W W') {p : Addr} (hp : p.block ≠ b) {v : Value} (hc : W.cell? p = some v) : W'.cell? p = some v := by
 obtain ⟨o, ho, hoc⟩ := cells_of_cell hc
 have := h.2 _ o hp ho hoc
 rw [← hc]
 unfold World.cell?
 rw [ho, this]
theorem LotAt.keptZ {m b : Nat} {W W' : World} {p : Addr} {l : Lot} (h : LotAt W p l) (hk : KpZ m b W W') (hp : p.block ≠ b) : LotAt W' p l :=
 ⟨hk.cell hp h.c0, hk.cell (p := ⟨p.block, p.off + 1, none⟩) hp h.c1, hk.cell (p := ⟨p.block, p.off + 2, none⟩) hp h.c2, hk.cell (p := ⟨p.block, p.off + 3, none⟩) hp h.c3, hk.cell (p := ⟨p.block, p.off + 4, none⟩) hp h.c4, hk.cell (p := ⟨p.block, p.off + 5, none⟩) hp h.c5, hk.cell (p := ⟨p.block, p.off + 6, none⟩) hp h.c6⟩
theorem grown_of_below {W W' : World} (h : Below W.heap.size W W') : W.grownBy W' none := ⟨h.os, h.tape, h.output, h.size, fun k hk _ => h.block k hk⟩
def RdZ (b : Nat) (w : World) (A : Option Addr) (ls : List SLot) : Prop :=
 ls ≠ [] → ∃ ad : Addr, A = some ad ∧ ad.block ≠ b ∧ ∀ (j : Nat) (l : SLot), ls[j]? = some l → LotAt w (ad.add (j * 7)) l.1
theorem RdZ.kept {m b : Nat} {w w' : World} {A : Option Addr} {ls : List SLot} (h : RdZ b w A ls) (hk : KpZ m b w w') : RdZ b w' A ls := by
 intro hl
 obtain ⟨ad, rfl, h1, h2⟩ := h hl
 exact ⟨ad, rfl, h1, fun j l hj => (h2 j l hj).keptZ hk (by rw [add_block]; exact h1)⟩
theorem amounts1_seq (n n₀ bz bl bi bd : Nat) (A : Option Addr) (ls : List SLot) (c : Nat) (i : Inst) (d : Int) (w : World) (hn : 1 ≤ n) (hlen : ls.length ≤ 99) (h : ExOk i d) (hop : ∀ l ∈ ls, okDay l.1.opn)
 (hbl : Boxed w bl 28 (.slice A ls.length c)) (hbi : InstBox w bi i) (hbd : Boxed w bd 22 (.int .i64 d)) (hR : RdB n₀ w A ls) (hnw : n₀ ≤ w.heap.size) (hz : bz < w.heap.size) (hz1 : bi ≠ bz) (hz2 : bd ≠ bz) (w0 : World) (hb0 : Below w0.heap.size w0 w) (ht : Tabs w0) :
 SeqStopsK Fence.wide n Tryz.prog 87 #[.pointer (some ⟨bl, 0, none⟩), .pointer (some ⟨bi, 0, none⟩), .pointer (some ⟨bd, 0, none⟩)] encQ (KpZ w0.heap.size bz) (fun xs => xs.map Subtype.val = (ownL ls i.id).map fun l => exactQ i l.1 d) (fun _ => True) 100 w := by
 intro l J Jx W hW hJ hJx hY hJ0
 have HJ := Lib.hid hJ
 have HY := Lib.hid hY
 have HT := Lib.hid ht
 have HB0 := Lib.hid (hb0.trans (hW.mono hb0.size))
 have hbl' : Boxed W bl 28 (.slice A ls.length c) := (hW.block bl hbl.lt).trans hbl
 have hbi' : InstBox W bi i := hbi.below hW
 have hbd' : Boxed W bd 22 (.int .i64 d) := (hW.block bd hbd.lt).trans hbd
 have HBI := Lib.hid hbi'
 have HBD := Lib.hid hbd'
 have HOF := Lib.hid (lOf_any n₀ A ls c i.id W (by omega) (hR.below (hW.mono hnw)) (Nat.le_trans hnw hW.size))
 have hzW : bz < W.heap.size := Nat.lt_of_lt_of_le hz hW.size
 have cl := hbl'.cell
 have ci := Lib.cell_of_heap hbi' 0
 simp at ci
 have hol : (ownL ls i.id).length ≤ 99 := Nat.le_trans (List.length_filter_le _ _) hlen
 have HOP : Hid (∀ l ∈ ownL ls i.id, okDay l.1.opn) := fun l hl => hop l ((List.mem_filter.1 hl).1)
 have H := Lib.hid h
 clear hJ hJx hY hbl hbi hbd hbl' hbi' hbd' hR hW hop h ht hz
 generalize ownL ls i.id = own at HOF hol HOP ⊢
 refine callsIn_of_wp Tryz.func87 rfl trivial ?_ rfl
 simp only [Tryz.ntmps87, List.size_toArray, List.length_cons, List.length_nil, Nat.reduceAdd, Nat.reduceSub, Array.replicate_succ, Array.replicate_zero, List.push_toArray, List.append_toArray, List.nil_append, List.cons_append]
 gi_wp2_with fail
 refine ⟨trivial, ?_⟩
 refine (callsIn_wide.2 HOF.out).mono ?_
 rintro e w1 ⟨A', c', rfl, hc', hfr, hR', hb1⟩
 have HRR : Hid (RdZ bz w1 A' own) := fun hl => by
  obtain ⟨ad, rfl, _, h2⟩ := hR' hl
  exact ⟨ad, rfl, by have := hfr ad rfl; omega, h2⟩
 have HJ1 : Hid (J [] w1) := HJ.out _ _ _ none hJ0 (grown_of_below hb1) (fun r e => by cases e)
 have HI1 := Lib.hid (HBI.out.below hb1)
 have HD1 : Hid (Boxed w1 bd 22 (.int .i64 d)) := (hb1.block bd HBD.out.lt).trans HBD.out
 have HB1 := Lib.hid (HB0.out.trans (hb1.mono HB0.out.size))
 clear hR' hfr hb1 HBI HBD HB0 cl ci hJ0 HOF
 gi_wp2_with fail
 gi_loopw [12] (fun v wr => ∃ (k : Nat) (pre : List SQ), v = .int .i64 (k : Int) ∧ k ≤ own.length ∧ InstBox wr bi i ∧ Boxed wr bd 22 (.int .i64 d) ∧ RdZ bz wr A' own ∧ Below w0.heap.size w0 wr ∧ pre.map Subtype.val = (own.take k).map (fun l => exactQ i l.1 d) ∧ J pre wr) (fun v _ => own.length - (intOf v).toNat)
 case atStart => exact ⟨0, [], rfl, by omega, HI1.out, HD1.out, HRR.out, HB1.out, rfl, HJ1.out⟩
 case round =>
  obtain ⟨k, pre, rfl, hk, hb, hd, hr, hbb, hpre, hj⟩ := hrel
  clear HI1 HD1 HRR HB1 HJ1
  rcases Nat.lt_or_ge k own.length with hlt | hge
  ·obtain ⟨x, hl⟩ : ∃ x, own[k]? = some x := ⟨_, List.getElem?_eq_getElem hlt⟩
   obtain ⟨ad, rfl, had, hcell⟩ := hr (by intro e; rw [e] at hlt; cases hlt)
   have hcx : decide ((k : Int) < (own.length : Int)) = true := by simp; omega
   obtain ⟨c0, c1, c2, c3, c4, c5, c6⟩ := hcell k x hl
   have hxo := HOP.out x (List.mem_of_getElem? hl)
   have HEX := Lib.hid (fun W hW => exact_any i x.1 d H.out x.2 hxo W hW)
   have hbd := exact_bd i x.1 d H.out x.2 hxo
   have HSUC : Hid ((own.take (k + 1)).map (fun l => exactQ i l.1 d) = (own.take k).map (fun l => exactQ i l.1 d) ++ [exactQ i x.1 d]) := by
    rw [Hid, List.take_succ_eq_append_getElem hlt, List.map_append]
    rw [List.getElem?_eq_getElem hlt] at hl
    rw [Option.some.inj hl]; rfl
   have hpl : pre.length < 100 := by
    have := congrArg List.length hpre
    simp at this
    omega
   obtain ⟨W5, hW5⟩ : ∃ W5, wr.alloc (.cells x.1.cells 39) = W5 := ⟨_, rfl⟩
   have k5 : LotBox W5 wr.heap.size x.1 := by rw [← hW5]; exact heap_alloc_new wr _
   have b5 : Below wr.heap.size wr W5 := by rw [← hW5]; exact (Below.refl _ wr).alloc (Nat.le_refl _) _
   have HJ5 : Hid (J pre W5) := HJ.out _ _ _ none hj (grown_of_below b5) (fun r e => by cases e)
   have i5 := hb.below b5
   have d5 : Boxed W5 bd 22 (.int .i64 d) := (b5.block bd hd.lt).trans hd
   have HR5 := Lib.hid (hr.kept (KpZ.below (m := w0.heap.size) b5 hbb.size))
   have HB5 := Lib.hid (hbb.trans (b5.mono hbb.size))
   obtain ⟨m0, m1, m2, m3, m4, m5, m6⟩ := cells7 k5
   obtain ⟨q0, q1, q2, q3, q4, q5, q6, q7, q8, q9, q10, q11, q12, q13, q14⟩ := cells15 i5
   have cd := d5.cell
   have HI5 := Lib.hid i5
   have HD5 := Lib.hid d5
   have HPRE := Lib.hid hpre
   clear hb hr hj k5 b5 i5 d5 hd hbb hcell hl hpre
   unfold Lot.cells at hW5
   dsimp only [Inst.enc, Inst.cells, Lot.enc, Lot.cells] at HEX
   gi_wp2_with fail
   refine ⟨trivial, ?_⟩
   refine (callsIn_wide.2 (HEX.out _ (HT.out.below HB5.out))).mono ?_
   rintro e w6 ⟨rfl, b6⟩
   have HJ6 : Hid (J pre w6) := HJ.out _ _ _ none HJ5.out (grown_of_below b6) (fun r e => by cases e)
   have HI6 := Lib.hid (HI5.out.below b6)
   have HD6 : Hid (Boxed w6 bd 22 (.int .i64 d)) := (b6.block bd HD5.out.lt).trans HD5.out
   have HR6 := Lib.hid (HR5.out.kept (KpZ.below (m := w0.heap.size) b6 HB5.out.size))
   have HB6 := Lib.hid (HB5.out.trans (b6.mono HB5.out.size))
   clear b6 HJ5 HI5 HD5 HR5 HB5 HEX
   clear c0 c1 c2 c3 c4 c5 c6 m0 m1 m2 m3 m4 m5 m6 q0 q1 q2 q3 q4 q5 q6 q7 q8 q9 q10 q11 q12 q13 q14 cd hW5
   obtain ⟨fn, tmps, assign, body, hy, hR⟩ := HY.out pre ⟨exactQ i x.1 d, hbd⟩ w6 HJ6.out hpl
   dsimp only [encQ] at hy
   have HRD := Lib.hid hR
   clear hR
   generalize exactQ i x.1 d = rq at *
   gi_wp2
   refine HRD.out.mono ?_
   rintro e W7 (⟨rfl, hj7, hk7⟩ | ⟨rfl, hjx⟩)
   ·have HI7 : Hid (InstBox W7 bi i) := hk7.2 _ _ hz1 HI6.out rfl
    have HD7 : Hid (Boxed W7 bd 22 (.int .i64 d)) := hk7.2 _ _ hz2 HD6.out rfl
    have HR7 := Lib.hid (HR6.out.kept hk7)
    have HB7 := Lib.hid (HB6.out.trans hk7.1)
    have HJ7 := Lib.hid hj7
    clear hj7 hk7
    gi_wp2
    go_roundw
    case rel => exact ⟨k + 1, _, by go_num, by omega, HI7.out, HD7.out, HR7.out, HB7.out, by rw [List.map_append, HPRE.out, HSUC.out]; rfl, HJ7.out⟩
    case measure => simp [intOf]; omega
   ·gi_wp2
    refine bodyPost_ret (results_none rfl _ _ _) rfl ?_
    exact ⟨⟨_, rfl⟩, .inr ⟨_, trivial, hjx⟩⟩
  ·have hcx : decide ((k : Int) < (own.length : Int)) = false := by simp; omega
   have HPRE := Lib.hid hpre
   clear hpre
   gi_wp2
   go_end0
   refine ⟨⟨_, rfl⟩, .inl ⟨pre, ?_, hj⟩⟩
   rw [HPRE.out, List.take_of_length_le (by omega)]
theorem amounts_any (i : Inst) (A : Option Addr) (k c : Nat) (d : Int) (w : World) :
 Calls Tryz.prog 45 #[i.enc, .slice A k c, .int .i64 d] w fun e w' => e = .returned (.func (.func 87) #[] #[.pointer (some ⟨w.heap.size + 1, 0, none⟩), .pointer (some ⟨w.heap.size, 0, none⟩), .pointer (some ⟨w.heap.size + 1 + 1, 0, none⟩)]) ∧ w' = ((w.alloc (.cells i.cells 27)).alloc (.cells #[.slice A k c] 28)).alloc (.cells #[.int .i64 d] 22) := by
 go_enter Tryz.func45, Tryz.ntmps45
 go_wp2_with fail
 go_ret
 exact ⟨rfl, rfl⟩
end Go.Proofs.YtpgjmdggblnfkaaGreatDoor
namespace Go.Proofs.YtpgjmdggblnfkaaGreatDoor
open Go.RowKit Tr Go.Shelf
attribute [local go_sem] Oper.semAt_some
def qsum (l : List Rat) : Rat := l.foldl (fun a b => a + b) 0
theorem qsum_snoc (l : List Rat) (q : Rat) : qsum (l ++ [q]) = qsum l + q := by simp [qsum]
theorem qsum_bd (l : List SQ) : BdQ (qsum (l.map Subtype.val)) (l.length * (qB + 1) + 1) := by
 have h : ∀ (r : List SQ) (z : Rat) (k : Nat), BdQ z k → BdQ ((r.map Subtype.val).foldl (fun a b => a + b) z) (k + r.length * (qB + 1)) := by
  intro r
  induction r with
  | nil => intro z k hz; simpa using hz
  | cons x r ih =>
    intro z k hz
    have := ih (z + x.1) (k + qB + 1) (hz.add x.2)
    simp only [List.map_cons, List.foldl_cons, List.length_cons]
    exact this.mono (by rw [Nat.add_mul]; omega)
 have := h l 0 1 (BdQ.zero (Nat.le_refl _))
 unfold qsum
 exact this.mono (by omega)
theorem cells_own {β : Type} (B : Nat) (t : TypeId) (f : β → Array Value) : Own (fun s W => W.heap[B]? = some (.cells (f s) t (0, 0))) := fun s X Y row hs hg hrow =>
 (hg.block B (Array.getElem?_eq_some_iff.1 hs).1 (fun e => by obtain ⟨o, ho, hc⟩ := hrow B e.symm; rw [hs] at ho; cases ho; cases hc)).trans hs
theorem fenc_zero : fenc 0 = .agg #[.string ⟨#[]⟩, .string ⟨#[]⟩] := rfl
theorem asum_any (n₀ bl bi bd : Nat) (A : Option Addr) (ls : List SLot) (c : Nat) (i : Inst) (d : Int) (w : World) (hlen : ls.length ≤ 99) (h : ExOk i d) (hop : ∀ l ∈ ls, okDay l.1.opn)
 (hbl : Boxed w bl 28 (.slice A ls.length c)) (hbi : InstBox w bi i) (hbd : Boxed w bd 22 (.int .i64 d)) (hR : RdB n₀ w A ls) (hnw : n₀ ≤ w.heap.size) (ht : Tabs w) :
 Calls Tryz.prog 44 #[fenc 0, .func (.func 87) #[] #[.pointer (some ⟨bl, 0, none⟩), .pointer (some ⟨bi, 0, none⟩), .pointer (some ⟨bd, 0, none⟩)], .func (.func 46) #[] #[]] w
  fun e w' => e = .returned (fenc (qsum ((ownL ls i.id).map fun l => exactQ i l.1 d))) ∧ Below w.heap.size w w' := by
 have HT := Lib.hid ht
 obtain ⟨rq, hrq⟩ : ∃ rq, rq = qsum ((ownL ls i.id).map fun l => exactQ i l.1 d) := ⟨_, rfl⟩
 rw [← hrq]
 have HRQ := Lib.hid hrq
 clear hrq
 refine (callsIn_wide (n := 8)).1 ?_
 refine callsIn_of_wp_marks Tryz.func44 rfl trivial ?_ rfl
 simp only [Tryz.ntmps44, List.size_toArray, List.length_cons, List.length_nil, Nat.reduceAdd, Nat.reduceSub, Array.replicate_succ, Array.replicate_zero, List.push_toArray, List.append_toArray, List.nil_append, List.cons_append]
 rw [fenc_zero]
 gi_wp2
 obtain ⟨W0, hW0', hb0, hsz, k0, k1, k2⟩ := box3 w (.cells #[.string ⟨#[]⟩, .string ⟨#[]⟩] 25) (.cells #[.func (.func 46) #[] #[]] 45) (.cells #[.string ⟨#[]⟩, .string ⟨#[]⟩] 25)
 rw [← hW0']
 have hbl0 : Boxed W0 bl 28 (.slice A ls.length c) := (hb0.block bl hbl.lt).trans hbl
 have hbi0 : InstBox W0 bi i := hbi.below hb0
 have hbd0 : Boxed W0 bd 22 (.int .i64 d) := (hb0.block bd hbd.lt).trans hbd
 have hlbd := hbd.lt
 have hlbi : bi < w.heap.size := (Array.getElem?_eq_some_iff.1 hbi).1
 refine wpIn_rangeFunc_ownH (α := SQ) rfl (by omega) (gf := 87) (lb := #[.pointer (some ⟨bl, 0, none⟩), .pointer (some ⟨bi, 0, none⟩), .pointer (some ⟨bd, 0, none⟩)]) rfl trivial (enters_of Tryz.func87 (by kernel_rfl) rfl)
  (amounts1_seq (8 - 1) n₀ w.heap.size bl bi bd A ls c i d W0 (by omega) hlen h hop hbl0 hbi0 hbd0 (hR.below (hb0.mono hnw)) (by omega) (by omega) (by omega) (by omega) w hb0 ht) KpZ.trans (fun W l o o' hl h hc _ => KpZ.put W l o o' (by omega) h hc) (Below.refl _ _) (fun _ => rfl)
  (fun pre W => ((W.heap[w.heap.size]? = some (.cells #[.string (I (qsum (pre.map Subtype.val)).num), .string (dn (qsum (pre.map Subtype.val)))] 25 (0, 0)) ∧ W.heap[w.heap.size + 1]? = some (.cells #[.func (.func 46) #[] #[]] 45 (0, 0))) ∧ W.heap[w.heap.size + 1 + 1]? = some (.cells #[.string ⟨#[]⟩, .string ⟨#[]⟩] 25 (0, 0))) ∧ Below w.heap.size w W) (fun _ _ _ => False)
  (OwnFrom.and (OwnFrom.and (OwnFrom.and ((cells_own _ _ (fun (pre : List SQ) => #[.string (I (qsum (pre.map Subtype.val)).num), .string (dn (qsum (pre.map Subtype.val)))])).from _) ((cells_own _ _ (fun (_ : List SQ) => _)).from _)) ((cells_own _ _ (fun (_ : List SQ) => _)).from _)) (ownFrom_below (Nat.le_refl _) (by omega)))
  (fun _ => ownFrom_pure _ _) ⟨⟨⟨k0, k1⟩, k2⟩, hb0⟩
  (fun x a' W => ∃ Bx, w.heap.size + 1 + 1 < Bx ∧ FBox W Bx x.1 ∧ a' = { tmps := #[Value.agg #[Value.string { data := #[] }, Value.string { data := #[] }], Value.func (Fn.func 87) #[] #[Value.pointer (some { block := bl, off := 0 }), Value.pointer (some { block := bi, off := 0 }), Value.pointer (some { block := bd, off := 0 })], Value.func (Fn.func 46) #[] #[], Value.pointer (some { block := w.heap.size, off := 0 }), undef, Value.pointer (some { block := w.heap.size + 1, off := 0 }), Value.pointer (some { block := w.heap.size + 1 + 1, off := 0 }), Value.pointer (some { block := Bx, off := 0 }), Value.func (Fn.func 87) #[] #[Value.pointer (some { block := bl, off := 0 }), Value.pointer (some { block := bi, off := 0 }), Value.pointer (some { block := bd, off := 0 })], fenc x.1, undef, undef, undef, undef, undef], defers := [] })
  (fun x a' => ?hAx) ?assign ?body ?done ?stop
 case hAx =>
  rintro _ X Y row ⟨Bx, hB, hx, rfl⟩ hg hr
  refine ⟨Bx, hB, (hg.block Bx hx.lt (fun e => ?_)).trans hx, rfl⟩
  obtain ⟨_, o, ho, hc⟩ := hr Bx e.symm
  rw [show X.heap[Bx]? = _ from hx] at ho; cases ho; cases hc
 case assign =>
  rintro l pre x W K ⟨⟨⟨h0, h1⟩, h2⟩, hB⟩ hK
  have hlt : w.heap.size + 1 + 1 < W.heap.size := (Array.getElem?_eq_some_iff.1 h2).1
  obtain ⟨W5, hW5⟩ : ∃ W5, W.alloc (.cells #[.string (I x.1.num), .string (dn x.1)] 25) = W5 := ⟨_, rfl⟩
  have b5 : Below W.heap.size W W5 := by rw [← hW5]; exact (Below.refl _ W).alloc (Nat.le_refl _) _
  have HF : Hid (FBox W5 W.heap.size x.1 ∧ KeepsFrom W0.heap.size W W5 ∧ KpZ w.heap.size w.heap.size W W5 ∧ Below W.heap.size W W5) :=
   ⟨by rw [← hW5]; exact heap_alloc_new W _, by rw [← hW5]; exact (KeepsOthers.alloc _ _).from _, KpZ.below b5 hB.size, b5⟩
  have H0 := Lib.hid h0
  have H1 := Lib.hid h1
  have H2 := Lib.hid h2
  clear b5 h0 h1 h2
  dsimp only [encQ, fenc] at hW5 ⊢
  gi_wp2
  obtain ⟨f1, f2, f3, f4⟩ := HF.out
  exact hK _ _ f2 f3 ⟨⟨⟨(f4.block _ (by omega)).trans H0.out, (f4.block _ (by omega)).trans H1.out⟩, (f4.block _ (by omega)).trans H2.out⟩, hB.trans (f4.mono hB.size)⟩ ⟨W.heap.size, hlt, f1, rfl⟩
 case body =>
  rintro l pre x a' W hl ⟨r, hr⟩ ⟨⟨⟨h0, h1⟩, h2⟩, hB⟩ ⟨Bx, hBx, bX, rfl⟩ hlt
  have hbq := qsum_bd pre
  have HAD := Lib.hid (fun W hW => fAddQ hbq x.2 (by have : pre.length * (qB + 1) ≤ 100 * (qB + 1) := Nat.mul_le_mul_right _ (by omega); unfold qB at *; omega) (by unfold qB; omega) W hW)
  have HSN : Hid (qsum ((pre ++ [x]).map Subtype.val) = qsum (pre.map Subtype.val) + x.1) := by rw [Hid, List.map_append]; exact qsum_snoc _ _
  generalize qsum (pre.map Subtype.val) = qp at *
  have HX1 := x.2
  generalize hxr : x.1 = rx at *
  have c0 := Lib.cell_of_heap h0 0
  have c1 := Lib.cell_of_heap h0 1
  have c2 := Lib.cell_of_heap h1 0
  have c3 := Lib.cell_of_heap bX 0
  have c4 := Lib.cell_of_heap bX 1
  simp at c0 c1 c2 c3 c4
  have H0 := Lib.hid h0
  have H1 := Lib.hid h1
  have H2 := Lib.hid h2
  clear h0 h1 h2 bX hr hxr hbq HX1
  unfold fenc at HAD
  dsimp only [fenc]
  gi_wp2_with fail
  refine ⟨trivial, ?_⟩
  refine (CallsIn.inRound l (callsIn_wide.2 (HAD.out _ (HT.out.below hB)))).mono ?_
  rintro e w5 ⟨rfl, b5⟩
  have g0 := (b5.block _ (Array.getElem?_eq_some_iff.1 H0.out).1).trans H0.out
  have g1 := (b5.block _ (Array.getElem?_eq_some_iff.1 H1.out).1).trans H1.out
  have g2 := (b5.block _ (Array.getElem?_eq_some_iff.1 H2.out).1).trans H2.out
  have e0 := Lib.cell_of_heap g0 0
  have e1 := Lib.cell_of_heap g0 1
  have e2 := Lib.frozen_of_heap g0 0
  have e3 := Lib.frozen_of_heap g0 1
  simp at e0 e1 e2 e3
  have G0 := Lib.hid g0
  have G1 := Lib.hid g1
  have G2 := Lib.hid g2
  have B5 := Lib.hid b5
  clear g0 g1 g2 b5 c0 c1 c2 c3 c4
  gi_wp2
  have hbw := hB.size
  refine ⟨?_, ⟨((B5.out.mono hbw).setCell (p := ⟨w.heap.size, 0, none⟩) (Nat.le_refl _) _).setCell (p := ⟨w.heap.size, 1, none⟩) (Nat.le_refl _) _, fun k o hk ho _ => ?_⟩, ⟨⟨?_, ?_⟩, ?_⟩, hB.trans (((B5.out.mono hbw).setCell (p := ⟨w.heap.size, 0, none⟩) (Nat.le_refl _) _).setCell (p := ⟨w.heap.size, 1, none⟩) (Nat.le_refl _) _)⟩
  ·exact KeepsFrom.trans ⟨B5.out.size, fun k o _ hk _ => (B5.out.block k (Array.getElem?_eq_some_iff.1 hk).1).trans hk⟩ (KeepsFrom.trans ((KeepsOthers.setCell _ _ _).from _) ((KeepsOthers.setCell _ _ _).from _))
  ·exact ((Below.heap_setCell _ _ _ _ hk).trans (Below.heap_setCell _ _ _ _ hk)).trans ((B5.out.block k (Array.getElem?_eq_some_iff.1 ho).1).trans ho)
  ·rw [HSN.out]; exact set2 G0.out _ _
  ·exact ((Below.heap_setCell _ _ _ _ (by simp)).trans (Below.heap_setCell _ _ _ _ (by simp))).trans G1.out
  ·exact ((Below.heap_setCell _ _ _ _ (by simp; omega)).trans (Below.heap_setCell _ _ _ _ (by simp; omega))).trans G2.out
 case done =>
  rintro D xs W hD hxs ⟨⟨⟨h0, h1⟩, h2⟩, hB⟩ hK
  rw [hxs, ← HRQ.out] at h0
  have c0 := Lib.cell_of_heap h0 0
  have c1 := Lib.cell_of_heap h0 1
  have c2 := Lib.cell_of_heap h2 0
  have c3 := Lib.cell_of_heap h2 1
  have f2 := Lib.frozen_of_heap h2 0
  have f3 := Lib.frozen_of_heap h2 1
  simp at c0 c1 c2 c3 f2 f3
  have H2 := Lib.hid h2
  have HK := Lib.hid hK
  clear h0 h1 h2 hxs hK
  gi_wp2
  have hK2 := (KeepsOthers.setCell _ ⟨w.heap.size + 1 + 1, 1, none⟩ (.string (dn rq))).same D _ ((KeepsOthers.setCell W ⟨w.heap.size + 1 + 1, 0, none⟩ (.string (I rq.num))).same D _ HK.out rfl) rfl
  refine ⟨by simp, .inl ⟨_, _, rfl, run_takeDeferred hK2, ?_⟩⟩
  have hDlt : w.heap.size + 1 + 1 < D := by omega
  have q3 : Below w.heap.size w (((W.setCell ⟨w.heap.size + 1 + 1, 0, none⟩ (.string (I rq.num))).setCell ⟨w.heap.size + 1 + 1, 1, none⟩ (.string (dn rq))).putObj D (.deferred none)) :=
   ((hB.setCell (p := ⟨w.heap.size + 1 + 1, 0, none⟩) (by simp; omega) _).setCell (p := ⟨w.heap.size + 1 + 1, 1, none⟩) (by simp; omega) _).trans (belowK_b (w := w) (Nat.le_refl _) _ D _ _ (by omega) hK2 rfl rfl)
  have k6 : (((W.setCell ⟨w.heap.size + 1 + 1, 0, none⟩ (.string (I rq.num))).setCell ⟨w.heap.size + 1 + 1, 1, none⟩ (.string (dn rq))).putObj D (.deferred none)).heap[w.heap.size + 1 + 1]? = some (.cells #[.string (I rq.num), .string (dn rq)] 25 (0, 0)) :=
   (World.putObj_heap_other (by omega)).trans (set2 H2.out _ _)
  generalize ((W.setCell ⟨w.heap.size + 1 + 1, 0, none⟩ (.string (I rq.num))).setCell ⟨w.heap.size + 1 + 1, 1, none⟩ (.string (dn rq))).putObj D (.deferred none) = W9 at q3 k6 ⊢
  have m0 := Lib.cell_of_heap k6 0
  have m1 := Lib.cell_of_heap k6 1
  simp at m0 m1
  exact ⟨.agg #[.string (I rq.num), .string (dn rq)], by simp [results, Tryz.results44, go_sem, m0, m1], rfl, q3⟩
 case stop =>
  rintro D c pre W _ _ h _
  exact h.elim
end Go.Proofs.YtpgjmdggblnfkaaGreatDoor
namespace Go.Proofs.YtpgjmdggblnfkaaGreatDoor
open Go.RowKit Tr Go.Shelf
structure Inst.small (i : Inst) : Prop where
 id : i.id.size ≤ 1000
 cur : i.cur.size ≤ 1000
 fn : i.fn.size ≤ 1000
 fd : i.fd.size ≤ 1000
 cn : i.cn.size ≤ 1000
 cd : i.cd.size ≤ 1000
 other : i.other.size ≤ 1000
 sn : i.sn.size ≤ 1000
 sd : i.sd.size ≤ 1000
theorem Inst.small.sized {i : Inst} (h : i.small) : i.sized := by
 obtain ⟨h1, h2, h3, h4, h5, h6, h7, h8, h9⟩ := h
 exact ⟨by omega, by omega, by omega, by omega, by omega, by omega, by omega, by omega, by omega⟩
structure AOk (i : Inst) (ls : List SLot) (d : Int) : Prop where
 small : i.small
 ok : i.ok
 lots : LotsOk (ls.map Subtype.val)
 len : ls.length ≤ 99
 dy : okDay d
theorem Inst.ok.mt {i : Inst} (h : i.ok) (hk : i.kind = 2) : okDay i.matures := (h.matures.resolve_left (fun x => x.2.1 hk)).2.1
theorem AOk.ex {i : Inst} {ls : List SLot} {d : Int} (h : AOk i ls d) : ExOk i d := ⟨h.small.fn, h.small.fd, h.dy, h.ok.mt⟩
theorem AOk.opn {i : Inst} {ls : List SLot} {d : Int} (h : AOk i ls d) : ∀ l ∈ ls, okDay l.1.opn := fun l hl => (h.lots.ok l.1 (List.mem_map.2 ⟨l, hl, rfl⟩)).2.opn
theorem RdB.rdl {n₀ : Nat} {w : World} {A : Option Addr} {ls : List SLot} (h : RdB n₀ w A ls) (hn : n₀ ≤ w.heap.size) : RdL w A (ls.map Subtype.val) := by
 intro hl
 obtain ⟨ad, rfl, h1, h2⟩ := h (fun e => hl (by rw [e]; rfl))
 refine ⟨ad, rfl, by omega, fun j l hj => ?_⟩
 rw [List.getElem?_map] at hj
 obtain ⟨x, hx, rfl⟩ := Option.map_eq_some_iff.1 hj
 exact h2 j x hx
theorem acheck_ok (n₀ : Nat) (i : Inst) (A : Option Addr) (ls : List SLot) (c : Nat) (hc : ls.length ≤ c) (d : Int) (h : AOk i ls d) (w : World) (hR : RdB n₀ w A ls) (hn : n₀ ≤ w.heap.size) (ht : Tabs w) :
 Calls Tryz.prog 42 #[i.enc, .slice A ls.length c, .int .i64 d] w fun e w' => e = .returned (.int .i64 0) ∧ Below w.heap.size w w' := by
 obtain ⟨W0, hW0, hB0, hz, hk⟩ := ibox i w
 obtain ⟨c0, c1, c2, c3, c4, c5, c6, c7, c8, c9, c10, c11, c12, c13, c14⟩ := cells15 hk
 have HT := Lib.hid ht
 have HB0 := Lib.hid hB0
 have HC1 := Lib.hid (iCheck_ok i h.small.sized h.ok W0 (ht.below hB0))
 have HC2 := Lib.hid (fun W (hb : Below w.heap.size w W) => lCheckAll_ok A c (ls.map Subtype.val) (by rw [List.length_map]; exact hc) W ((hR.below (hb.mono hn)).rdl (Nat.le_trans hn hb.size)) h.lots (ht.below hb))
 rw [List.length_map] at HC2
 have HV := Lib.hid (fun W => avalid_any d W)
 rw [decide_eq_true h.dy] at HV
 clear h hR ht hB0 hk hz
 unfold Inst.enc Inst.cells at *
 go_enter Tryz.func42, Tryz.ntmps42
 go_wp2_with fail
 refine HC1.out.mono ?_
 rintro e w1 ⟨rfl, b1⟩
 have B1 := HB0.out.trans (b1.mono HB0.out.size)
 clear b1
 clear c0 c1 c2 c3 c4 c5 c6 c7 c8 c9 c10 c11 c12 c13 c14
 go_wp2_with fail
 refine (HC2.out _ B1).mono ?_
 rintro e w2 ⟨rfl, b2⟩
 have B2 := B1.trans (b2.mono B1.size)
 clear b2 B1
 go_wp2_with fail
 refine (HV.out _).mono ?_
 rintro e w3 ⟨rfl, rfl⟩
 go_wp2_with fail
 go_ret
 exact ⟨rfl, B2⟩
theorem aTotal_ok (n₀ : Nat) (i : Inst) (A : Option Addr) (ls : List SLot) (c : Nat) (hc : ls.length ≤ c) (d : Int) (h : AOk i ls d) (w : World) (hR : RdB n₀ w A ls) (hn : n₀ ≤ w.heap.size) (ht : Tabs w) :
 Calls Tryz.prog 10 #[i.enc, .slice A ls.length c, .int .i64 d] w fun e w' => e = .returned (.tuple #[.string (I (rnd (qsum ((ownL ls i.id).map fun l => exactQ i l.1 d)))), .int .i64 0]) ∧ Below w.heap.size w w' := by
 obtain ⟨W0, hW0, hB0, hz, hk⟩ := ibox i w
 obtain ⟨c0, c1, c2, c3, c4, c5, c6, c7, c8, c9, c10, c11, c12, c13, c14⟩ := cells15 hk
 have HT := Lib.hid ht
 have HB0 := Lib.hid hB0
 have HK0 : Hid (InstBox W0 w.heap.size i) := hk
 have HC1 := Lib.hid (acheck_ok n₀ i A ls c hc d h W0 (hR.below (hB0.mono hn)) (Nat.le_trans hn hB0.size) (ht.below hB0))
 have HS := Lib.hid (fun (W : World) bl bi bd (hb : Below w.heap.size w W) (k0 : Boxed W bl 28 (.slice A ls.length c)) (k1 : InstBox W bi i) (k2 : Boxed W bd 22 (.int .i64 d)) => asum_any n₀ bl bi bd A ls c i d W h.len h.ex h.opn k0 k1 k2 (hR.below (hb.mono hn)) (Nat.le_trans hn hb.size) (ht.below hb))
 have hbd : BdQ (qsum ((ownL ls i.id).map fun l => exactQ i l.1 d)) (100 * (qB + 1) + 1) := by
  have e : ((ownL ls i.id).map fun l => exactQ i l.1 d) = ((ownL ls i.id).attach.map (fun l => (⟨exactQ i l.1.1 d, exact_bd i l.1.1 d h.ex l.1.2 (h.opn _ (List.mem_filter.1 l.2).1)⟩ : SQ))).map Subtype.val := by
   rw [List.map_map]
   conv => lhs; rw [← List.attach_map_subtype_val (ownL ls i.id), List.map_map]
   rfl
  rw [e]
  refine (qsum_bd _).mono ?_
  rw [List.length_map, List.length_attach]
  have : (ownL ls i.id).length ≤ 99 := Nat.le_trans (List.length_filter_le _ _) h.len
  have := Nat.mul_le_mul_right (qB + 1) (show (ownL ls i.id).length ≤ 100 by omega)
  omega
 have HR := Lib.hid (fun W hW => roundQ hbd (by unfold qB; omega) W hW)
 generalize qsum ((ownL ls i.id).map fun l => exactQ i l.1 d) = rq at HS HR ⊢
 clear hbd h hR ht hB0 hk hz
 unfold Inst.enc Inst.cells at *
 go_enter Tryz.func10, Tryz.ntmps10
 go_wp2_with fail
 refine HC1.out.mono ?_
 rintro e w1 ⟨rfl, b1⟩
 have HB1 := Lib.hid (HB0.out.trans (b1.mono HB0.out.size))
 have hk1 := HK0.out.below b1
 clear c0 c1 c2 c3 c4 c5 c6 c7 c8 c9 c10 c11 c12 c13 c14
 obtain ⟨c0, c1, c2, c3, c4, c5, c6, c7, c8, c9, c10, c11, c12, c13, c14⟩ := cells15 hk1
 have HK1 := Lib.hid hk1
 clear b1 hk1 HB0 HK0 HC1 hW0
 have HAM := Lib.hid (amounts_any i A ls.length c d w1)
 unfold Inst.enc Inst.cells at HAM
 go_wp2_with fail
 refine HAM.out.mono ?_
 rintro e w2 ⟨rfl, hw2⟩
 obtain ⟨W2, hW2, hb2, hs2, k0, k1, k2⟩ := box3 w1 (.cells i.cells 27) (.cells #[.slice A ls.length c] 28) (.cells #[.int .i64 d] 22)
 unfold Inst.cells at hW2
 obtain rfl : W2 = w2 := by rw [hW2, hw2]
 have HB2 := Lib.hid (HB1.out.trans (hb2.mono HB1.out.size))
 have HSS := Lib.hid (HS.out W2 _ _ _ HB2.out k1 k0 k2)
 clear c0 c1 c2 c3 c4 c5 c6 c7 c8 c9 c10 c11 c12 c13 c14
 clear hw2 hW2 hb2 hs2 k0 k1 k2 HS HAM
 rw [fenc_zero] at HSS
 go_wp2_with fail
 refine HSS.out.mono ?_
 rintro e w3 ⟨rfl, b3⟩
 have HB3 := Lib.hid (HB2.out.trans (b3.mono HB2.out.size))
 clear b3 HSS HB2
 go_wp2_with fail
 refine (HR.out _ (HT.out.below HB3.out)).mono ?_
 rintro e w4 ⟨rfl, b4⟩
 have B4 := HB3.out.trans (b4.mono HB3.out.size)
 clear b4
 go_wp2_with fail
 go_ret2
 exact ⟨rfl, B4⟩
theorem aBook_ok (n₀ : Nat) (i : Inst) (A : Option Addr) (ls : List SLot) (c : Nat) (hc : ls.length ≤ c) (d : Int) (h : AOk i ls d) (w : World) (hR : RdB n₀ w A ls) (hn : n₀ ≤ w.heap.size) (ht : Tabs w) (z1 : (I (rnd (qsum ((ownL ls i.id).map fun l => exactQ i l.1 d)))).size ≤ 4000000) :
 Calls Tryz.prog 11 #[i.enc, .slice A ls.length c, .int .i64 d] w fun e w' => e = .returned (.tuple #[.string (I (sumBy costOf (ownL ls i.id) + rnd (qsum ((ownL ls i.id).map fun l => exactQ i l.1 d)))), .int .i64 0]) ∧ Below w.heap.size w w' := by
 obtain ⟨W0, hW0, hB0, hz, hk⟩ := ibox i w
 obtain ⟨c0, c1, c2, c3, c4, c5, c6, c7, c8, c9, c10, c11, c12, c13, c14⟩ := cells15 hk
 have HT := Lib.hid ht
 have HB0 := Lib.hid hB0
 have HK0 : Hid (InstBox W0 w.heap.size i) := hk
 have HC1 := Lib.hid (aTotal_ok n₀ i A ls c hc d h W0 (hR.below (hB0.mono hn)) (Nat.le_trans hn hB0.size) (ht.below hB0))
 have HC2 := Lib.hid (fun W (hb : Below w.heap.size w W) => lTotal_any n₀ A ls c i.id W (by have := h.len; omega) (hR.below (hb.mono hn)) (Nat.le_trans hn hb.size) (ht.below hb))
 obtain ⟨K, hK⟩ : ∃ K, K = 1000 := ⟨_, rfl⟩
 have zc := sumBy_size (cost_lt hK) (ownL ls i.id) (by have : (ownL ls i.id).length ≤ 99 := Nat.le_trans (List.length_filter_le _ _) h.len; omega)
 have zc' : (I (sumBy costOf (ownL ls i.id))).size ≤ 4000000 := by omega
 have HAD := Lib.hid (fun W hW => Add_any (I (sumBy costOf (ownL ls i.id))) (I (rnd (qsum ((ownL ls i.id).map fun l => exactQ i l.1 d)))) W (by omega) (by omega) hW)
 rw [vl_I, vl_I] at HAD
 generalize sumBy costOf (ownL ls i.id) = sc at *
 generalize sumBy qtyOf (ownL ls i.id) = sq at *
 generalize rnd (qsum ((ownL ls i.id).map fun l => exactQ i l.1 d)) = rq at *
 clear h hR ht hB0 hk hz zc hK
 unfold Inst.enc Inst.cells at *
 go_enter Tryz.func11, Tryz.ntmps11
 go_wp2_with fail
 refine HC1.out.mono ?_
 rintro e w1 ⟨rfl, b1⟩
 have HB1 := Lib.hid (HB0.out.trans (b1.mono HB0.out.size))
 have hk1 := HK0.out.below b1
 clear c0 c1 c2 c3 c4 c5 c6 c7 c8 c9 c10 c11 c12 c13 c14
 have c0 := Lib.cell_of_heap hk1 0
 simp at c0
 clear b1 hk1 HB0 HK0 HC1 hW0
 go_wp2_with fail
 refine (HC2.out _ HB1.out).mono ?_
 rintro e w2 ⟨rfl, b2⟩
 have HB2 := Lib.hid (HB1.out.trans (b2.mono HB1.out.size))
 clear b2 HB1 c0
 go_wp2_with fail
 refine (HAD.out _ (HT.out.below HB2.out)).mono ?_
 rintro e w3 ⟨rfl, b3⟩
 have B3 := HB2.out.trans (b3.mono HB2.out.size)
 clear b3
 go_wp2_with fail
 go_ret2
 exact ⟨rfl, B3⟩
def ith (ds : List Int) (k : Nat) : Int := ds.getD k 0
def RdD (w : World) (A : Option Addr) (ds : List Int) : Prop :=
 ds ≠ [] → ∃ ad : Addr, A = some ad ∧ ad.block < w.heap.size ∧ ∀ j, j < ds.length → w.cell? (ad.add j) = some (.int .i64 (ith ds j))
theorem RdD.below {w w' : World} {A : Option Addr} {ds : List Int} (h : RdD w A ds) (hb : Below w.heap.size w w') : RdD w' A ds := by
 intro hl
 obtain ⟨ad, rfl, h1, h2⟩ := h hl
 exact ⟨ad, rfl, Nat.lt_of_lt_of_le h1 hb.size, fun j hj => (hb.cell (by rw [add_block]; exact h1)).trans (h2 j hj)⟩
theorem ith_mem {ds : List Int} {k : Nat} (h : k < ds.length) : ith ds k ∈ ds := by
 unfold ith; rw [List.getD_eq_getElem?_getD, List.getElem?_eq_getElem h]; exact List.getElem_mem h
structure BOk (i : Inst) (l : Lot) : Prop where
 small : i.small
 ok : i.ok
 sized : l.sized
 lok : l.ok
 inst : l.inst = i.id
theorem ilbox (i : Inst) (l : Lot) (w : World) : ∃ W0, (w.alloc (.cells i.cells 27)).alloc (.cells l.cells 39) = W0 ∧ Below w.heap.size w W0 ∧ InstBox W0 w.heap.size i ∧ LotBox W0 (w.heap.size + 1) l := by
 obtain ⟨W0, hW0, hB, hz, k0, k1⟩ := box2 w (.cells i.cells 27) (.cells l.cells 39)
 exact ⟨W0, hW0.symm, hB, k0, k1⟩
theorem checkOne_ok (i : Inst) (l : Lot) (A : Option Addr) (ds : List Int) (c : Nat) (hl : ds.length ≤ 1000000) (h : BOk i l) (hd : ∀ d ∈ ds, okDay d) (w : World) (hR : RdD w A ds) (ht : Tabs w) :
 Calls Tryz.prog 50 #[i.enc, l.enc, .slice A ds.length c] w fun e w' => e = .returned (.int .i64 0) ∧ Below w.heap.size w w' := by
 obtain ⟨W0, hW0, hB0, k0, k1⟩ := ilbox i l w
 obtain ⟨c0, c1, c2, c3, c4, c5, c6, c7, c8, c9, c10, c11, c12, c13, c14⟩ := cells15 k0
 obtain ⟨o0, o1, o2, o3, o4, o5, o6⟩ := cells7 k1
 have HT := Lib.hid ht
 have HB0 := Lib.hid hB0
 have HK0 := Lib.hid k0
 have HK1 := Lib.hid k1
 have HC1 := Lib.hid (iCheck_ok i h.small.sized h.ok W0 (ht.below hB0))
 have HC2 := Lib.hid (fun W hW => lCheck_ok l h.sized h.lok W hW)
 have HR := Lib.hid (fun W (hb : Below w.heap.size w W) => hR.below hb)
 have HD := Lib.hid hd
 have HV := Lib.hid (fun (k : Nat) (hk : k < ds.length) (W : World) => avalid_any (ith ds k) W)
 have heq := str_eq l.inst i.id
 rw [decide_eq_true h.inst] at heq
 clear h hR ht hB0 k0 k1 hd
 unfold Inst.enc Inst.cells Lot.enc Lot.cells at *
 go_enter Tryz.func50, Tryz.ntmps50
 go_wp2_with fail
 refine HC1.out.mono ?_
 rintro e w1 ⟨rfl, b1⟩
 have HB1 := Lib.hid (HB0.out.trans (b1.mono HB0.out.size))
 have g0 := HK0.out.below b1
 have g1 := HK1.out.below b1
 clear c0 c1 c2 c3 c4 c5 c6 c7 c8 c9 c10 c11 c12 c13 c14
 clear o0 o1 o2 o3 o4 o5 o6
 obtain ⟨o0, o1, o2, o3, o4, o5, o6⟩ := cells7 g1
 have HG0 := Lib.hid g0
 have HG1 := Lib.hid g1
 clear b1 g0 g1 HK0 HK1 HB0 HC1 hW0
 go_wp2_with fail
 refine (HC2.out _ (HT.out.below HB1.out)).mono ?_
 rintro e w2 ⟨rfl, b2⟩
 have HB2 := Lib.hid (HB1.out.trans (b2.mono HB1.out.size))
 have g0 := HG0.out.below b2
 have g1 := HG1.out.below b2
 clear o0 o1 o2 o3 o4 o5 o6
 have c0 := Lib.cell_of_heap g0 0
 have o1 := Lib.cell_of_heap g1 1
 simp at c0 o1
 clear b2 g0 g1 HG0 HG1 HB1 HC2
 go_wp2_with fail
 go_loopw [24] (fun v wr => ∃ k : Nat, v = .int .i64 (k : Int) ∧ k ≤ ds.length ∧ w2 = wr) (fun v _ => ds.length - (intOf v).toNat)
 case atStart => exact ⟨0, rfl, by omega, rfl⟩
 case round =>
  obtain ⟨k, rfl, hk, rfl⟩ := hrel
  clear c0 o1
  rcases Nat.lt_or_ge k ds.length with hlt | hge
  ·obtain ⟨ad, rfl, had, hcell⟩ := HR.out w2 HB2.out (by intro e; rw [e] at hlt; cases hlt)
   have hcx : decide ((k : Int) < (ds.length : Int)) = true := by simp; omega
   have ck := hcell k hlt
   have HVK := Lib.hid (HV.out k hlt)
   rw [decide_eq_true (HD.out _ (ith_mem hlt))] at HVK
   clear hcell
   go_wp2_with fail
   refine (HVK.out _).mono ?_
   rintro e w3 ⟨rfl, rfl⟩
   go_wp2_with fail
   go_roundw
   case rel => exact ⟨k + 1, by go_num, by omega, by trivial⟩
   case measure => simp [intOf]; omega
  ·have hcx : decide ((k : Int) < (ds.length : Int)) = false := by simp; omega
   go_wp2_with fail
   go_ret
   exact ⟨rfl, HB2.out⟩
theorem Amortized_ok (i : Inst) (l : Lot) (d : Int) (h : BOk i l) (hd : okDay d) (w : World) (ht : Tabs w) :
 Calls Tryz.prog 14 #[i.enc, l.enc, .int .i64 d] w fun e w' => e = .returned (.tuple #[.string (I (rnd (exactQ i l d))), .int .i64 0]) ∧ Below w.heap.size w w' := by
 obtain ⟨W0, hW0, hB0, k0, k1⟩ := ilbox i l w
 obtain ⟨c0, c1, c2, c3, c4, c5, c6, c7, c8, c9, c10, c11, c12, c13, c14⟩ := cells15 k0
 obtain ⟨o0, o1, o2, o3, o4, o5, o6⟩ := cells7 k1
 have HT := Lib.hid ht
 obtain ⟨W1, hW1⟩ : ∃ W1, W0.alloc (.cells #[.int .i64 d] 22) = W1 := ⟨_, rfl⟩
 have b1 : Below W0.heap.size W0 W1 := by rw [← hW1]; exact (Below.refl _ W0).alloc (Nat.le_refl _) _
 have k2 : W1.heap[W0.heap.size]? = some (.cells #[.int .i64 d] 22) := by rw [← hW1]; exact heap_alloc_new W0 _
 have hR : RdD W1 (some ⟨W0.heap.size, 0, none⟩) [d] := fun _ => ⟨_, rfl, (Array.getElem?_eq_some_iff.1 k2).1, fun j hj => by
  have : j = 0 := by simp at hj; omega
  subst this
  have := Lib.cell_of_heap k2 0
  simp at this
  exact this⟩
 have B1 := hB0.trans (b1.mono hB0.size)
 have HC1 := Lib.hid (checkOne_ok i l (some ⟨W0.heap.size, 0, none⟩) [d] 1 (by simp) h (fun x hx => by simp at hx; subst hx; exact hd) W1 hR (ht.below B1))
 have hex : ExOk i d := ⟨h.small.fn, h.small.fd, hd, h.ok.mt⟩
 have HEX := Lib.hid (fun W hW => exact_any i l d hex h.sized h.lok.opn W hW)
 have HRD := Lib.hid (fun W hW => roundQ (exact_bd i l d hex h.sized h.lok.opn) (by unfold qB; omega) W hW)
 have HK0 := Lib.hid (k0.below b1)
 have HK1 := Lib.hid (k1.below b1)
 have HB1 := Lib.hid B1
 generalize exactQ i l d = rq at *
 clear h hR ht hB0 b1 k0 k1 k2 B1 hex hd
 unfold Inst.enc Inst.cells Lot.enc Lot.cells at *
 go_enter Tryz.func14, Tryz.ntmps14
 go_wp2_with fail
 refine HC1.out.mono ?_
 rintro e w1 ⟨rfl, b1⟩
 have HB2 := Lib.hid (HB1.out.trans (b1.mono HB1.out.size))
 have g0 := HK0.out.below b1
 have g1 := HK1.out.below b1
 clear c0 c1 c2 c3 c4 c5 c6 c7 c8 c9 c10 c11 c12 c13 c14
 clear o0 o1 o2 o3 o4 o5 o6
 obtain ⟨c0, c1, c2, c3, c4, c5, c6, c7, c8, c9, c10, c11, c12, c13, c14⟩ := cells15 g0
 obtain ⟨o0, o1, o2, o3, o4, o5, o6⟩ := cells7 g1
 clear b1 g0 g1 HK0 HK1 HB1 HC1 hW0 hW1
 go_wp2_with fail
 refine (HEX.out _ (HT.out.below HB2.out)).mono ?_
 rintro e w2 ⟨rfl, b2⟩
 have HB3 := Lib.hid (HB2.out.trans (b2.mono HB2.out.size))
 clear b2 HB2
 clear c0 c1 c2 c3 c4 c5 c6 c7 c8 c9 c10 c11 c12 c13 c14
 clear o0 o1 o2 o3 o4 o5 o6
 go_wp2_with fail
 refine (HRD.out _ (HT.out.below HB3.out)).mono ?_
 rintro e w3 ⟨rfl, b3⟩
 have B4 := HB3.out.trans (b3.mono HB3.out.size)
 clear b3
 go_wp2_with fail
 go_ret2
 exact ⟨rfl, B4⟩
abbrev effZero : Array Value := #[.int .i64 0, .int .i64 0, .string ⟨#[]⟩, .string ⟨#[]⟩, .string ⟨#[]⟩, .string ⟨#[]⟩, .slice none 0 0]
theorem date_exists {d : Int} (hd : okDay d) (w : World) : ∃ (y : Int) (m : Nat) (dd : Int), VDate y m dd ∧ dayOf y m dd = d := by
 obtain ⟨e, w', fr, hR, _⟩ := Parts_any d hd w []
 obtain ⟨y, m, dd, _, hv, hd', _⟩ := hR
 exact ⟨y, m, dd, hv, hd'⟩
theorem ptext_size {d : Int} (hd : okDay d) (w : World) : (ptext d).size ≤ 100 := by
 obtain ⟨y, m, dd, hv, hd'⟩ := date_exists hd w
 obtain ⟨q, rfl⟩ : ∃ q : Nat, dd = (q : Int) := ⟨dd.toNat, by have := hv.2.2.2.2.1; omega⟩
 rw [ptext_eq hv hd']
 have b1 := hv.1
 have b2 := hv.2.1
 have b3 := hv.2.2.2.1
 have b4 := hv.2.2.2.2.2
 have b5 := lenB_pos (leapB y) m
 have hz2 := nDigits_size y (by omega) (by omega)
 have t2 : ∀ k : Nat, k < 100 → (two k).length = 2 := by
  intro k hk
  have := itoa_len hk
  unfold two; simp; omega
 have hm2 := t2 m (by omega)
 have hq2 := t2 q (by omega)
 unfold dtext
 rw [bs_size]
 simp only [List.length_append, List.length_cons, List.length_nil]
 omega
noncomputable def causeB (d : Int) (id : ByteArray) : ByteArray := ⟨#[109, 97, 114, 107, 32]⟩ ++ ptext d ++ ⟨#[32]⟩ ++ id
theorem set7 {w : World} {b : Nat} {a0 a1 a2 a3 a4 a5 a6 : Value} {t : TypeId} {m : Nat × Nat} (h : w.heap[b]? = some (.cells #[a0, a1, a2, a3, a4, a5, a6] t m)) (x0 x1 x2 x3 x4 x5 x6 : Value) :
 (((((((w.setCell ⟨b, 0, none⟩ x0).setCell ⟨b, 1, none⟩ x1).setCell ⟨b, 2, none⟩ x2).setCell ⟨b, 3, none⟩ x3).setCell ⟨b, 4, none⟩ x4).setCell ⟨b, 5, none⟩ x5).setCell ⟨b, 6, none⟩ x6).heap[b]? = some (.cells #[x0, x1, x2, x3, x4, x5, x6] t m) := by
 simp [World.setCell, Array.getElem?_modify, h]
theorem below7 {w W : World} {b : Nat} (hb : w.heap.size ≤ b) (h : Below w.heap.size w W) (x0 x1 x2 x3 x4 x5 x6 : Value) :
 Below w.heap.size w (((((((W.setCell ⟨b, 0, none⟩ x0).setCell ⟨b, 1, none⟩ x1).setCell ⟨b, 2, none⟩ x2).setCell ⟨b, 3, none⟩ x3).setCell ⟨b, 4, none⟩ x4).setCell ⟨b, 5, none⟩ x5).setCell ⟨b, 6, none⟩ x6) :=
 (((((((h.setCell (p := ⟨b, 0, none⟩) hb x0).setCell (p := ⟨b, 1, none⟩) hb x1).setCell (p := ⟨b, 2, none⟩) hb x2).setCell (p := ⟨b, 3, none⟩) hb x3).setCell (p := ⟨b, 4, none⟩) hb x4).setCell (p := ⟨b, 5, none⟩) hb x5).setCell (p := ⟨b, 6, none⟩) hb x6)
theorem far7 {W : World} {b k : Nat} (hk : k ≠ b) (x0 x1 x2 x3 x4 x5 x6 : Value) :
 (((((((W.setCell ⟨b, 0, none⟩ x0).setCell ⟨b, 1, none⟩ x1).setCell ⟨b, 2, none⟩ x2).setCell ⟨b, 3, none⟩ x3).setCell ⟨b, 4, none⟩ x4).setCell ⟨b, 5, none⟩ x5).setCell ⟨b, 6, none⟩ x6).heap[k]? = W.heap[k]? := by
 simp [World.setCell, Array.getElem?_modify, Ne.symm hk]
def EffPost (w : World) (kind d : Int) (i : Inst) (ch : ByteArray) (e : Ending) (w' : World) : Prop :=
 ∃ B : Nat, e = .returned (.tuple #[.agg #[.int .i64 kind, .int .i64 d, .string (causeB d i.id), .string i.id, .string ⟨#[]⟩, .string i.cur, .slice (some ⟨B, 0, none⟩) 1 1], .bool true, .int .i64 0]) ∧ w'.heap[B]? = some (.cells #[.string ⟨#[97, 109, 111, 117, 110, 116]⟩, .string ch] 57 (0, 0)) ∧ w.heap.size ≤ B ∧ Below w.heap.size w w'
theorem Effect_none (kind : Int) (hk : kind = 17 ∨ kind = 18 ∨ kind = 19) (d : Int) (hd : okDay d) (i : Inst) (hsm : i.small) (hok : i.ok) (w : World) (ht : Tabs w) :
 Calls Tryz.prog 24 #[.int .i64 kind, .int .i64 d, i.enc, .string ⟨#[]⟩] w fun e w' => e = .returned (.tuple #[.agg effZero, .bool false, .int .i64 0]) ∧ Below w.heap.size w w' := by
 obtain ⟨ch, hce⟩ : ∃ ch : ByteArray, ch = ⟨#[]⟩ := ⟨_, rfl⟩
 have hch : Can ⟨#[]⟩ := rfl
 have hcz : (⟨#[]⟩ : ByteArray).size ≤ 1000 := by decide
 clear hce ch
 obtain ⟨W0, hW0', hB0, hz, k0, k1⟩ := box2 w (.cells i.cells 27) (.cells effZero 50)
 have hW0 := hW0'.symm
 obtain ⟨c0, c1, c2, c3, c4, c5, c6, c7, c8, c9, c10, c11, c12, c13, c14⟩ := cells15 k0
 have HT := Lib.hid ht
 have HB0 := Lib.hid hB0
 have HK0 : Hid (InstBox W0 w.heap.size i) := k0
 have HK1 := Lib.hid k1
 have HC1 := Lib.hid (iCheck_ok i hsm.sized hok W0 (ht.below hB0))
 have HC2 := Lib.hid (fun W => Check_yes ⟨#[]⟩ W (by show 0 ≤ _; omega) hch)
 have HP := Lib.hid (fun W hW => Print_any d hd W hW)
 have hpz := ptext_size hd w
 have hiz := hsm.id
 have t1 : (kind != 17 && kind != 18 && kind != 19) = false := by rcases hk with rfl | rfl | rfl <;> rfl
 clear hW0' hz ht hB0 k0 k1 hsm hok hch hd
 unfold Inst.enc Inst.cells effZero at *
 rcases hk with rfl | rfl | rfl
 all_goals
  clear t1
  go_enter Tryz.func24, Tryz.ntmps24
  go_wp2_with fail
  refine HC1.out.mono ?_
  rintro e w1 ⟨rfl, b1⟩
  have HB1 := Lib.hid (HB0.out.trans (b1.mono HB0.out.size))
  have HG0 := Lib.hid (HK0.out.below b1)
  have HG1 := Lib.hid ((b1.block (w.heap.size + 1) (Array.getElem?_eq_some_iff.1 HK1.out).1).trans HK1.out)
  clear b1 HK0 HK1 HB0 HC1 hW0
  clear c0 c1 c2 c3 c4 c5 c6 c7 c8 c9 c10 c11 c12 c13 c14
  go_wp2_with fail
  refine (HC2.out _).mono ?_
  rintro e w2 ⟨rfl, b2⟩
  have HB2 := Lib.hid (HB1.out.trans (b2.mono HB1.out.size))
  have HH0 := Lib.hid (HG0.out.below b2)
  have HH1 := Lib.hid ((b2.block (w.heap.size + 1) (Array.getElem?_eq_some_iff.1 HG1.out).1).trans HG1.out)
  clear b2 HG0 HG1 HB1 HC2
  go_wp2_with fail
  refine (HP.out _ (HT.out.below HB2.out)).mono ?_
  rintro e w3 ⟨rfl, b3⟩
  have HB3 := Lib.hid (HB2.out.trans (b3.mono HB2.out.size))
  have g0 := HH0.out.below b3
  have g1 := (b3.block (w.heap.size + 1) (Array.getElem?_eq_some_iff.1 HH1.out).1).trans HH1.out
  have HL0 := Lib.hid g0
  have HL1 := Lib.hid g1
  have hl3 : w.heap.size + 1 < w3.heap.size := (Array.getElem?_eq_some_iff.1 g1).1
  have c0 := Lib.cell_of_heap g0 0
  have c2 := Lib.cell_of_heap g0 2
  simp at c0 c2
  obtain ⟨r0, r1, r2, r3, r4, r5, r6⟩ := cells7 g1
  obtain ⟨f0, f1, f2, f3, f4, f5, f6⟩ := frozen7 g1
  clear b3 HH0 HH1 HB2 g0 g1 HP
  go_wp2_with fail
  have q7 := set7 HL1.out (.int .i64 0) (.int .i64 0) (.string ⟨#[]⟩) (.string ⟨#[]⟩) (.string ⟨#[]⟩) (.string ⟨#[]⟩) (.slice none 0 0)
  have q8 := below7 (b := w.heap.size + 1) (by omega) HB3.out (.int .i64 0) (.int .i64 0) (.string ⟨#[]⟩) (.string ⟨#[]⟩) (.string ⟨#[]⟩) (.string ⟨#[]⟩) (.slice none 0 0)
  generalize (((((((w3.setCell ⟨w.heap.size + 1, 0, none⟩ (.int .i64 0)).setCell ⟨w.heap.size + 1, 1, none⟩ (.int .i64 0)).setCell ⟨w.heap.size + 1, 2, none⟩ (.string ⟨#[]⟩)).setCell ⟨w.heap.size + 1, 3, none⟩ (.string ⟨#[]⟩)).setCell ⟨w.heap.size + 1, 4, none⟩ (.string ⟨#[]⟩)).setCell ⟨w.heap.size + 1, 5, none⟩ (.string ⟨#[]⟩)).setCell ⟨w.heap.size + 1, 6, none⟩ (.slice none 0 0)) = W9 at q7 q8 ⊢
  obtain ⟨m0, m1, m2, m3, m4, m5, m6⟩ := cells7 q7
  exact bodyPost_ret (v := .tuple #[.agg effZero, .bool false, .int .i64 0]) (by simp [results, Tryz.results24, go_sem, m0, m1, m2, m3, m4, m5, m6]) rfl ⟨rfl, q8⟩
theorem eff_close {w W4 : World} {B : Nat} {kind d : Int} {i : Inst} {ch : ByteArray} {a : Act} (h1 : W4.heap[w.heap.size + 1]? = some (.cells effZero 50 (0, 0))) (hB : Below w.heap.size w W4)
 (hT : W4.heap[B]? = some (.cells #[.string ⟨#[97, 109, 111, 117, 110, 116]⟩, .string ch] 57 (0, 0))) (hl : w.heap.size + 1 < B) (hd : a.defers = [])
 (hr : ∀ W9 : World, W9.cell? ⟨w.heap.size + 1, 0, none⟩ = some (.int .i64 kind) → W9.cell? ⟨w.heap.size + 1, 1, none⟩ = some (.int .i64 d) → W9.cell? ⟨w.heap.size + 1, 2, none⟩ = some (.string (⟨#[109, 97, 114, 107, 32]⟩ ++ ptext d ++ ⟨#[32]⟩ ++ i.id)) → W9.cell? ⟨w.heap.size + 1, 3, none⟩ = some (.string i.id) → W9.cell? ⟨w.heap.size + 1, 4, none⟩ = some (.string ⟨#[]⟩) → W9.cell? ⟨w.heap.size + 1, 5, none⟩ = some (.string i.cur) → W9.cell? ⟨w.heap.size + 1, 6, none⟩ = some (.slice (some ⟨B, 0, none⟩) 1 1) →
   (results Tryz.f24 a.tmps).run Tryz.prog W9 = .ok (.tuple #[.agg #[.int .i64 kind, .int .i64 d, .string (⟨#[109, 97, 114, 107, 32]⟩ ++ ptext d ++ ⟨#[32]⟩ ++ i.id), .string i.id, .string ⟨#[]⟩, .string i.cur, .slice (some ⟨B, 0, none⟩) 1 1], .bool true, .int .i64 0]) W9) :
 bodyPost Tryz.prog Tryz.f24 (EffPost w kind d i ch) .ret a (((((((W4.setCell ⟨w.heap.size + 1, 0, none⟩ (.int .i64 kind)).setCell ⟨w.heap.size + 1, 1, none⟩ (.int .i64 d)).setCell ⟨w.heap.size + 1, 2, none⟩ (.string (⟨#[109, 97, 114, 107, 32]⟩ ++ ptext d ++ ⟨#[32]⟩ ++ i.id))).setCell ⟨w.heap.size + 1, 3, none⟩ (.string i.id)).setCell ⟨w.heap.size + 1, 4, none⟩ (.string ⟨#[]⟩)).setCell ⟨w.heap.size + 1, 5, none⟩ (.string i.cur)).setCell ⟨w.heap.size + 1, 6, none⟩ (.slice (some ⟨B, 0, none⟩) 1 1)) := by
 have q7 := set7 h1 (.int .i64 kind) (.int .i64 d) (.string (⟨#[109, 97, 114, 107, 32]⟩ ++ ptext d ++ ⟨#[32]⟩ ++ i.id)) (.string i.id) (.string ⟨#[]⟩) (.string i.cur) (.slice (some ⟨B, 0, none⟩) 1 1)
 have q8 := below7 (b := w.heap.size + 1) (by omega) hB (.int .i64 kind) (.int .i64 d) (.string (⟨#[109, 97, 114, 107, 32]⟩ ++ ptext d ++ ⟨#[32]⟩ ++ i.id)) (.string i.id) (.string ⟨#[]⟩) (.string i.cur) (.slice (some ⟨B, 0, none⟩) 1 1)
 have q9 := (far7 (W := W4) (b := w.heap.size + 1) (k := B) (by omega) (.int .i64 kind) (.int .i64 d) (.string (⟨#[109, 97, 114, 107, 32]⟩ ++ ptext d ++ ⟨#[32]⟩ ++ i.id)) (.string i.id) (.string ⟨#[]⟩) (.string i.cur) (.slice (some ⟨B, 0, none⟩) 1 1)).trans hT
 generalize (((((((W4.setCell ⟨w.heap.size + 1, 0, none⟩ (.int .i64 kind)).setCell ⟨w.heap.size + 1, 1, none⟩ (.int .i64 d)).setCell ⟨w.heap.size + 1, 2, none⟩ (.string (⟨#[109, 97, 114, 107, 32]⟩ ++ ptext d ++ ⟨#[32]⟩ ++ i.id))).setCell ⟨w.heap.size + 1, 3, none⟩ (.string i.id)).setCell ⟨w.heap.size + 1, 4, none⟩ (.string ⟨#[]⟩)).setCell ⟨w.heap.size + 1, 5, none⟩ (.string i.cur)).setCell ⟨w.heap.size + 1, 6, none⟩ (.slice (some ⟨B, 0, none⟩) 1 1)) = W9 at q7 q8 q9 ⊢
 have m0 := Lib.cell_of_heap q7 0
 have m1 := Lib.cell_of_heap q7 1
 have m2 := Lib.cell_of_heap q7 2
 have m3 := Lib.cell_of_heap q7 3
 have m4 := Lib.cell_of_heap q7 4
 have m5 := Lib.cell_of_heap q7 5
 have m6 := Lib.cell_of_heap q7 6
 exact bodyPost_ret (hr W9 m0 m1 m2 m3 m4 m5 m6) hd ⟨B, rfl, q9, by omega, q8⟩
theorem Effect_some (kind : Int) (hk : kind = 17 ∨ kind = 18 ∨ kind = 19) (d : Int) (hd : okDay d) (i : Inst) (hsm : i.small) (hok : i.ok) (ch : ByteArray) (hch : Can ch) (hcz : ch.size ≤ 1000) (hne : ch ≠ ⟨#[]⟩) (w : World) (ht : Tabs w) :
 Calls Tryz.prog 24 #[.int .i64 kind, .int .i64 d, i.enc, .string ch] w (EffPost w kind d i ch) := by
 have hne' := str_empty ch
 rw [decide_eq_false hne] at hne'
 clear hne
 obtain ⟨W0, hW0', hB0, hz, k0, k1⟩ := box2 w (.cells i.cells 27) (.cells effZero 50)
 have hW0 := hW0'.symm
 obtain ⟨c0, c1, c2, c3, c4, c5, c6, c7, c8, c9, c10, c11, c12, c13, c14⟩ := cells15 k0
 have HT := Lib.hid ht
 have HB0 := Lib.hid hB0
 have HK0 : Hid (InstBox W0 w.heap.size i) := k0
 have HK1 := Lib.hid k1
 have HC1 := Lib.hid (iCheck_ok i hsm.sized hok W0 (ht.below hB0))
 have HC2 := Lib.hid (fun W => Check_yes ch W (by omega) hch)
 have HP := Lib.hid (fun W hW => Print_any d hd W hW)
 have hpz := ptext_size hd w
 have hiz := hsm.id
 have t1 : (kind != 17 && kind != 18 && kind != 19) = false := by rcases hk with rfl | rfl | rfl <;> rfl
 clear hW0' hz ht hB0 k0 k1 hsm hok hch hd
 unfold Inst.enc Inst.cells effZero at *
 rcases hk with rfl | rfl | rfl
 all_goals
  clear t1
  go_enter Tryz.func24, Tryz.ntmps24
  go_wp2_with fail
  refine HC1.out.mono ?_
  rintro e w1 ⟨rfl, b1⟩
  have HB1 := Lib.hid (HB0.out.trans (b1.mono HB0.out.size))
  have HG0 := Lib.hid (HK0.out.below b1)
  have HG1 := Lib.hid ((b1.block (w.heap.size + 1) (Array.getElem?_eq_some_iff.1 HK1.out).1).trans HK1.out)
  clear b1 HK0 HK1 HB0 HC1 hW0
  clear c0 c1 c2 c3 c4 c5 c6 c7 c8 c9 c10 c11 c12 c13 c14
  go_wp2_with fail
  refine (HC2.out _).mono ?_
  rintro e w2 ⟨rfl, b2⟩
  have HB2 := Lib.hid (HB1.out.trans (b2.mono HB1.out.size))
  have HH0 := Lib.hid (HG0.out.below b2)
  have HH1 := Lib.hid ((b2.block (w.heap.size + 1) (Array.getElem?_eq_some_iff.1 HG1.out).1).trans HG1.out)
  clear b2 HG0 HG1 HB1 HC2
  go_wp2_with fail
  refine (HP.out _ (HT.out.below HB2.out)).mono ?_
  rintro e w3 ⟨rfl, b3⟩
  have HB3 := Lib.hid (HB2.out.trans (b3.mono HB2.out.size))
  have g0 := HH0.out.below b3
  have g1 := (b3.block (w.heap.size + 1) (Array.getElem?_eq_some_iff.1 HH1.out).1).trans HH1.out
  have HL0 := Lib.hid g0
  have HL1 := Lib.hid g1
  have hl3 : w.heap.size + 1 < w3.heap.size := (Array.getElem?_eq_some_iff.1 g1).1
  have c0 := Lib.cell_of_heap g0 0
  have c2 := Lib.cell_of_heap g0 2
  simp at c0 c2
  obtain ⟨r0, r1, r2, r3, r4, r5, r6⟩ := cells7 g1
  obtain ⟨f0, f1, f2, f3, f4, f5, f6⟩ := frozen7 g1
  clear b3 HH0 HH1 HB2 g0 g1 HP
  obtain ⟨W4, hW4⟩ : ∃ W4, w3.alloc (.cells #[.string ⟨#[97, 109, 111, 117, 110, 116]⟩, .string ch] 57) = W4 := ⟨_, rfl⟩
  have b4 : Below w3.heap.size w3 W4 := by rw [← hW4]; exact (Below.refl _ w3).alloc (Nat.le_refl _) _
  have HB4 := Lib.hid (HB3.out.trans (b4.mono HB3.out.size))
  have HT4 : Hid (W4.heap[w3.heap.size]? = some (.cells #[.string ⟨#[97, 109, 111, 117, 110, 116]⟩, .string ch] 57 (0, 0))) := by rw [Hid, ← hW4]; exact heap_alloc_new w3 _
  have g1 := (b4.block (w.heap.size + 1) (Array.getElem?_eq_some_iff.1 HL1.out).1).trans HL1.out
  clear r0 r1 r2 r3 r4 r5 r6 f0 f1 f2 f3 f4 f5 f6
  obtain ⟨r0, r1, r2, r3, r4, r5, r6⟩ := cells7 g1
  obtain ⟨f0, f1, f2, f3, f4, f5, f6⟩ := frozen7 g1
  have HL4 := Lib.hid g1
  clear b4 g1 HL0 HL1 HB3
  go_wp2_with fail
  exact eff_close HL4.out HB4.out HT4.out hl3 rfl (fun W9 m0 m1 m2 m3 m4 m5 m6 => by simp [results, Tryz.results24, go_sem, m0, m1, m2, m3, m4, m5, m6])
end Go.Proofs.YtpgjmdggblnfkaaGreatDoor
