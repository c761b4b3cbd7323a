/-
  The walk of bond.Flows. (Printed by gen_bd12.py.)
  The walks of bond.quotient, back. (Printed by gen_bd13.py.)
  Plain facts for bond.Present: sizes of discounted values; the period of a day.
-/
import Derived.Test.YtcnmoobojdopgaaGreatDoorS31
import Derived.Laws.StructEq
import Derived.Test.YtcnmoobojdopgaaGreatDoorS18
set_option linter.unusedVariables false
set_option linter.unusedSimpArgs false
set_option maxHeartbeats 16000000
set_option maxRecDepth 100000
namespace Go.Proofs.YtcnmoobojdopgaaGreatDoor
open Go.RowKit Tr Go.Shelf
attribute [local go_sem] Oper.semAt_some
theorem tl_eq (a b : ByteArray) : (a.toList = b.toList) ↔ (a = b) := by
 have h := str_eq a b
 constructor
 ·intro e
  rw [e] at h
  simp at h
  exact h
 ·intro e; rw [e]
theorem eqGuard_frac (op : BinOp) (x y : Operand) (xs ys : Array Value) (w : World) : (eqGuard op 25 x y (.agg xs) (.agg ys)).run Tryz.prog w = .ok () w := run_eqGuard_agg w op _ x y xs ys (by kernel_rfl)
attribute [local go_sem] eqGuard_frac
theorem run_neq_frac (a b c d : ByteArray) (w : World) : (binOp .neq 25 (.agg #[.string a, .string b]) (.agg #[.string c, .string d])).run Tryz.prog w = .ok (.bool (!(decide (a = c) && decide (b = d)))) w := by
 have hS : Tryz.prog.underlying 25 = some (.struct (Tryz.prog.fieldsOf 25)) := by kernel_rfl
 have hp : Tryz.prog.stoodInHeld 25 = false := by kernel_rfl
 have u1 := Tryz.underlying23
 have a1 := Tryz.isAgg23
 have z1 := Tryz.sizeOf23
 rw [run_neq_struct, show (10000 : Nat) = 9999 + 1 from rfl, run_equalIn_agg w 9999 _ _ _ hS hp]
 simp only [Program.fieldsOf, Tryz.underlying25]
 go_simp
 by_cases h0 : a = c
 case neg => simp [tl_eq, h0]
 by_cases h1 : b = d
 case neg => simp [tl_eq, h0, h1]
 simp [tl_eq, h0, h1]
theorem fenc_dec (p q : Rat) : (decide (I p.num = I q.num) && decide (dn p = dn q)) = decide (p = q) := by
 by_cases h : p = q
 ·subst h; simp
 ·rw [decide_eq_false h]
  cases h1 : decide (I p.num = I q.num) <;> cases h2 : decide (dn p = dn q) <;> try rfl
  refine absurd ?_ h
  rw [← fv_enc p, ← fv_enc q, of_decide_eq_true h1, of_decide_eq_true h2]
theorem run_neq_zero (q : Rat) (w : World) : (binOp .neq 25 (.agg #[.string (I q.num), .string (dn q)]) (.agg #[.string ⟨#[]⟩, .string ⟨#[]⟩])).run Tryz.prog w = .ok (.bool (!decide (q = 0))) w := by
 rw [run_neq_frac]
 have h := fenc_dec q 0
 have h1 : I (0 : Rat).num = ⟨#[]⟩ := by rw [show (0 : Rat).num = 0 from rfl, ← zero_eq]
 have h2 : dn (0 : Rat) = ⟨#[]⟩ := by unfold dn; rw [show (0 : Rat).den = 1 from rfl, if_pos rfl]
 rw [h1, h2] at h
 rw [h]
theorem Tryz.infoFlow : (Tryz.prog.info? 43).map (fun i => (i.zero, i.size, i.bytes)) = some (some (.agg #[.int .i64 0, .string ⟨#[]⟩, .string ⟨#[]⟩]), 3, 40) := by kernel_rfl
def flowsOf (xs : List (Int × Int × Rat)) : List (Int × Rat) := xs.filterMap fun x => if x.2.2 = 0 then none else some (x.2.1, x.2.2)
def flV (l : List (Int × Rat)) : List Value := l.flatMap fun f => [.int .i64 f.1, .string (I f.2.num), .string (dn f.2)]
theorem flowsOf_snoc (xs : List (Int × Int × Rat)) (x : Int × Int × Rat) : flowsOf (xs ++ [x]) = flowsOf xs ++ (if x.2.2 = 0 then [] else [(x.2.1, x.2.2)]) := by
 unfold flowsOf
 rw [List.filterMap_append]
 congr 1
 by_cases h : x.2.2 = 0
 ·simp [h]
 ·simp [h]
theorem flowsOf_len (xs : List (Int × Int × Rat)) : (flowsOf xs).length ≤ xs.length := List.length_filterMap_le _ _
noncomputable def flowsL (i : Inst) : List (Int × Rat) := flowsOf (paysN i (perL i) (perL i).length)
def FlowsPost (w : World) (i : Inst) (e : Ending) (w' : World) : Prop :=
 Below w.heap.size w w' ∧ ((400 ≤ (cuts i.issued i.matures i.months).length ∧ e = .returned (.tuple #[.slice none 0 0, .int .i64 4])) ∨
  ((cuts i.issued i.matures i.months).length ≤ 399 ∧ ∃ v, e = .returned (.tuple #[v, .int .i64 0]) ∧ w'.ownsRow w.heap.size 43 3 v (flowsL i).length (flV (flowsL i)) ∧ ∃ A k c, v = .slice A k c))
theorem kept4 {W w1 : World} {v u : Value} {tmp o : Obj} {b BE n₀ size k : Nat} {e : TypeId} {xs : List Value} (h : W.heap[b]? = some o) (hte : ∀ cs m, o ≠ .cells cs e m) (hrow : W.ownsRow n₀ e size v k xs) (hg : (W.alloc tmp).grownBy w1 v.ownBlock) (hne : b ≠ BE) :
 (w1.setCell ⟨BE, 0, none⟩ u).heap[b]? = some o := by
 have hlt : b < W.heap.size := (Array.getElem?_eq_some_iff.1 h).1
 rw [Below.heap_setCell _ _ _ b hne]
 refine (hg.block b (by simp; omega) (Ne.symm (not_row3 h hte hrow))).trans ?_
 exact heap_alloc_keep h tmp
def FI (w : World) (B6 : Nat) (pre : List (Int × Int × Rat)) (W : World) : Prop :=
 (∃ v, Boxed W B6 36 v ∧ W.ownsRow w.heap.size 43 3 v (flowsOf pre).length (flV (flowsOf pre)) ∧ (∃ A' k' c', v = .slice A' k' c')) ∧ Below w.heap.size w W
theorem FI.own (w : World) (B6 N : Nat) (hN : w.heap.size ≤ N) : OwnFrom N (FI w B6) :=
 OwnFrom.and ((holdsRow_own w.heap.size B6 36 43 3 (fun pre => (flowsOf pre).length) (fun pre => flV (flowsOf pre)) (fun _ v => ∃ A' k' c', v = .slice A' k' c')).from _) (ownFrom_below (Nat.le_refl _) hN)
theorem bFlows_any (i : Inst) (h : BdI i) (w : World) (ht : Tabs w) : Calls Tryz.prog 13 #[i.enc] w (FlowsPost w i) := by
 refine (callsIn_wide (n := 6)).1 ?_
 have HP := hI (fun W (hW : Tabs W) => bPer_any i h W hW)
 have HH := hI h
 have HT := hI ht
 obtain ⟨i0, hi, hz0, hz1, hz2⟩ := info_parts Tryz.infoFlow
 obtain ⟨Q, hQ⟩ : ∃ Q, FlowsPost w i = Q := ⟨_, rfl⟩
 rw [hQ]
 have HQ := hI hQ
 obtain ⟨W0, hW0, hB0, hz, k0⟩ := ibox i w
 have HK0 : Hid (InstBox W0 w.heap.size i) := k0
 have HB0 := hI hB0
 have s0 : W0.heap.size = w.heap.size + 1 := hz
 have c0 := Lib.cell_of_heap k0 0
 have c1 := Lib.cell_of_heap k0 1
 have c2 := Lib.cell_of_heap k0 2
 have c3 := Lib.cell_of_heap k0 3
 have c4 := Lib.cell_of_heap k0 4
 have c5 := Lib.cell_of_heap k0 5
 have c6 := Lib.cell_of_heap k0 6
 have c7 := Lib.cell_of_heap k0 7
 have c8 := Lib.cell_of_heap k0 8
 have c9 := Lib.cell_of_heap k0 9
 have c10 := Lib.cell_of_heap k0 10
 have c11 := Lib.cell_of_heap k0 11
 have c12 := Lib.cell_of_heap k0 12
 have c13 := Lib.cell_of_heap k0 13
 have c14 := Lib.cell_of_heap k0 14
 simp [Inst.cells] at c0 c1 c2 c3 c4 c5 c6 c7 c8 c9 c10 c11 c12 c13 c14
 clear hB0 k0 hz h ht hQ
 unfold Inst.enc Inst.cells at *
 refine callsIn_of_wp_marks Tryz.func13 rfl trivial ?_ rfl
 simp only [Tryz.ntmps13, List.size_toArray, List.length_cons, List.length_nil, Nat.reduceAdd, Nat.reduceSub, Array.replicate_succ, Array.replicate_zero, List.push_toArray, List.append_toArray, List.nil_append, List.cons_append]
 gi_wp2_with fail
 refine ⟨trivial, ?_⟩
 refine (callsIn_wide.2 (HP.out _ (HT.out.below HB0.out))).mono ?_
 rintro e w1 ⟨x1, hr⟩
 have HB1 := hI (HB0.out.trans (x1.mono HB0.out.size))
 have hk1 : InstBox w1 w.heap.size i := HK0.out.below x1
 rcases hr with ⟨hl, rfl⟩ | ⟨hl, v, rfl, hrow⟩
 ·have HL := hI hl
  clear hl x1 hk1 c0 c1 c2 c3 c4 c5 c6 c7 c8 c9 c10 c11 c12 c13 c14
  gi_wp2
  refine ⟨_, results_tmp2 rfl _ _ _, ?_⟩
  rw [← HQ.out]
  exact ⟨HB1.out, .inl ⟨HL.out, rfl⟩⟩
 ·have HL := hI hl
  obtain ⟨ad, cap, cur, rfl, hnc, hbk, hob, hrd⟩ := RdP.own_box hrow (pers_ne _ _ _)
  obtain ⟨N, hN⟩ : ∃ N, (perL i).length = N := ⟨_, rfl⟩
  have hN' : (pers i.issued i.matures i.months).length = N := hN
  rw [hN'] at hnc ⊢
  have HN := hI hN
  have hN4 : N ≤ 400 := by have := pers_len i.issued i.matures i.months; omega
  have hN0 : 0 < N := by have := pers_len i.issued i.matures i.months; omega
  have HOB := hI hob
  have HRD := hI hrd
  clear c0 c1 c2 c3 c4 c5 c6 c7 c8 c9 c10 c11 c12 c13 c14
  have c0 := Lib.cell_of_heap hk1 0
  have c1 := Lib.cell_of_heap hk1 1
  have c2 := Lib.cell_of_heap hk1 2
  have c3 := Lib.cell_of_heap hk1 3
  have c4 := Lib.cell_of_heap hk1 4
  have c5 := Lib.cell_of_heap hk1 5
  have c6 := Lib.cell_of_heap hk1 6
  have c7 := Lib.cell_of_heap hk1 7
  have c8 := Lib.cell_of_heap hk1 8
  have c9 := Lib.cell_of_heap hk1 9
  have c10 := Lib.cell_of_heap hk1 10
  have c11 := Lib.cell_of_heap hk1 11
  have c12 := Lib.cell_of_heap hk1 12
  have c13 := Lib.cell_of_heap hk1 13
  have c14 := Lib.cell_of_heap hk1 14
  simp [Inst.cells] at c0 c1 c2 c3 c4 c5 c6 c7 c8 c9 c10 c11 c12 c13 c14
  have hl1 : w.heap.size < w1.heap.size := by have := x1.size; omega
  have hn1 : w1.heap.size ≠ w.heap.size := by omega
  clear hl x1 hrow hk1 hob hrd hN hN'
  gi_wp2_with fail
  refine ⟨trivial, ?_⟩
  refine (callsIn_wide.2 (bPay_any i _ _ ⟨_, _, _, rfl⟩)).mono ?_
  rintro e W3 ⟨rfl, hW3⟩
  simp only [World.size_alloc] at hW3 ⊢
  obtain ⟨W3', e3, b3, z3, q0, q1, q2⟩ := box3 w1 (.cells #[.slice none 0 0] 36) (.cells i.cells 27) (.cells #[.slice (some ad) N cap] 55)
  have eW : W3 = W3' := hW3.trans e3.symm
  clear hW3 e3
  subst eW
  obtain ⟨B6, hB6⟩ : ∃ B6, w1.heap.size = B6 := ⟨_, rfl⟩
  obtain ⟨bi, hbi⟩ : ∃ bi, w1.heap.size + 1 = bi := ⟨_, rfl⟩
  obtain ⟨bl, hbl⟩ : ∃ bl, w1.heap.size + 1 + 1 = bl := ⟨_, rfl⟩
  rw [hB6] at q0
  rw [hbi] at q1
  rw [hbl] at q2
  rw [hbl, hbi, hB6]
  have HB3 := hI (HB1.out.trans (b3.mono HB1.out.size))
  have hob3 : W3.heap[ad.block]? = some (.cells cur 60 (0, 0)) := bkeep b3 HOB.out
  have hI0 : FI w B6 [] W3 := ⟨⟨_, q0, World.ownsRow_nil _ _ _ _, ⟨_, _, _, rfl⟩⟩, HB3.out⟩
  have HSEQ := hI (pay1_seq 5 bl bi i HH.out ad N cap _ W3 (by omega) HN.out (by omega) hN0 q1 q2 hob3 HRD.out w HT.out HB3.out)
  have hadb : ad.block < w1.heap.size := (Array.getElem?_eq_some_iff.1 HOB.out).1
  have hwb : w.heap.size ≤ W3.heap.size := HB3.out.size
  have z3' : W3.heap.size = B6 + 3 := by rw [z3, hB6]
  clear q0 q1 q2 hob3 b3 z3 hn1 c0 c1 c2 c3 c4 c5 c6 c7 c8 c9 c10 c11 c12 c13 c14
  unfold Inst.cells at HSEQ
  gi_wp2
  refine wpIn_rangeFunc_ownH rfl (by omega) (gf := 107) (lb := #[.pointer (some ⟨bl, 0, none⟩), .pointer (some ⟨bi, 0, none⟩)]) rfl trivial (enters_of Tryz.func107 (by kernel_rfl) rfl)
   HSEQ.out KpL.trans (fun W l o o' hl' hl ho _ => KpL.put (by simp [Obj.isCells]) (by omega) o' hl ho) (Below.refl _ _) (fun _ => rfl) (FI w B6) (fun _ _ _ => False) (FI.own _ _ _ hwb) (fun _ => ownFrom_pure _ _) hI0
   (fun x a' W => ∃ Bp Bq, B6 < Bp ∧ B6 < Bq ∧ PBox W Bp x.1 x.2.1 ∧ W.heap[Bq]? = some (fobj x.2.2) ∧ a' = { tmps := #[.agg #[.string i.id, .int .i64 i.kind, .string i.cur, .int .i64 i.places, .int .i64 i.issued, .int .i64 i.matures, .string i.fn, .string i.fd, .string i.cn, .string i.cd, .int .i64 i.months, .int .i64 i.count, .string i.other, .string i.sn, .string i.sd], .pointer (some ⟨w.heap.size, 0, none⟩), .slice none 0 0, .int .i64 0, .slice (some ad) N cap, .int .i64 0, .pointer (some ⟨B6, 0, none⟩), .pointer (some ⟨Bp, 0, none⟩), .pointer (some ⟨Bq, 0, none⟩), .tuple #[.slice (some ad) N cap, .int .i64 0], .agg #[.string i.id, .int .i64 i.kind, .string i.cur, .int .i64 i.places, .int .i64 i.issued, .int .i64 i.matures, .string i.fn, .string i.fd, .string i.cn, .string i.cd, .int .i64 i.months, .int .i64 i.count, .string i.other, .string i.sn, .string i.sd], .tuple #[.slice (some ad) N cap, .int .i64 0], .slice (some ad) N cap, .int .i64 0, .int .i64 0, .bool false, undef, .agg #[.string i.id, .int .i64 i.kind, .string i.cur, .int .i64 i.places, .int .i64 i.issued, .int .i64 i.matures, .string i.fn, .string i.fd, .string i.cn, .string i.cd, .int .i64 i.months, .int .i64 i.count, .string i.other, .string i.sn, .string i.sd], .slice (some ad) N cap, .func (.func 107) #[] #[.pointer (some ⟨bl, 0, none⟩), .pointer (some ⟨bi, 0, none⟩)], .agg #[.int .i64 x.1, .int .i64 x.2.1], .agg #[.string (I x.2.2.num), .string (dn x.2.2)], undef, undef, undef, undef, undef, undef, undef, undef, undef, undef, undef], defers := [] })
   (fun x a' => ?hAx) ?assign ?body ?done ?stop
  case hAx =>
   rintro _ X Y row ⟨Bp, Bq, h1, h2, h3, h4, rfl⟩ hg hr
   refine ⟨Bp, Bq, h1, h2, ((own_cells (β := Unit) _ _ _ _).from _) () X Y row h3 hg hr, ((own_cells (β := Unit) _ _ _ _).from _) () X Y row h4 hg hr, rfl⟩
  case assign =>
   rintro l pre x W K ⟨⟨v, hv, hrow, hvs⟩, hB⟩ hK
   have hltv := hv.lt
   obtain ⟨W6, e6, b6, z6, k1, k2⟩ := box2 W (.cells #[.int .i64 x.1, .int .i64 x.2.1] 60) (fobj x.2.2)
   have hW6 := e6.symm
   have HF : Hid (KeepsFrom W3.heap.size W W6 ∧ KpL w.heap.size [(bi, .cells #[.string i.id, .int .i64 i.kind, .string i.cur, .int .i64 i.places, .int .i64 i.issued, .int .i64 i.matures, .string i.fn, .string i.fd, .string i.cn, .string i.cd, .int .i64 i.months, .int .i64 i.count, .string i.other, .string i.sn, .string i.sd] 27 (0, 0)), (bl, .cells #[.slice (some ad) N cap] 55 (0, 0)), (ad.block, .cells cur 60 (0, 0))] W W6 ∧ FI w B6 pre W6 ∧ PBox W6 W.heap.size x.1 x.2.1 ∧ W6.heap[W.heap.size + 1]? = some (fobj x.2.2)) := by
    refine ⟨?_, KpL.below b6 hB.size, ⟨⟨v, boxed_keep hv b6, by rw [e6]; exact (hrow.alloc _).alloc _, hvs⟩, hB.trans (b6.mono hB.size)⟩, k1, k2⟩
    rw [e6]; exact ((KeepsOthers.alloc _ _).trans (KeepsOthers.alloc _ _)).from _
   clear b6 z6 k1 k2 hv hrow hvs hB e6
   simp only [encP, fenc]
   gi_wp2
   obtain ⟨g1, g2, g3, g4, g5⟩ := HF.out
   exact hK _ _ g1 g2 g3 ⟨_, _, hltv, by omega, g4, g5, rfl⟩
  case body =>
   rintro l pre x a' W hl ⟨r, hr⟩ ⟨⟨v, hv, hrow, ⟨A', k', c', rfl⟩⟩, hB⟩ ⟨Bp, Bq, hBp, hBq, bP, bQ, rfl⟩ hlt
   have hc := hv.cell
   have hltv := hv.lt
   obtain ⟨p0, p1⟩ := bP.cells
   have q0 := Lib.cell_of_heap bQ 0
   have q1 := Lib.cell_of_heap bQ 1
   simp at q0 q1
   have hne := run_neq_zero x.2.2
   have hfl := flowsOf_len pre
   by_cases hz : x.2.2 = 0
   ·rw [decide_eq_true hz] at hne
    have HZ : Hid (flowsOf (pre ++ [x]) = flowsOf pre) := by show _ = _; rw [flowsOf_snoc, if_pos hz, List.append_nil]
    have HF := hI (And.intro hv (And.intro hrow hB))
    clear hz hv hrow hB
    gi_wp2
    obtain ⟨g1, g2, g3⟩ := HF.out
    exact ⟨KeepsFrom.refl _ _, ⟨Below.refl _ _, fun _ _ h => h⟩, ⟨⟨_, g1, by rw [HZ.out]; exact g2, ⟨_, _, _, rfl⟩⟩, g3⟩⟩
   ·rw [decide_eq_false hz] at hne
    have HZ : Hid (flowsOf (pre ++ [x]) = flowsOf pre ++ [(x.2.1, x.2.2)]) := by show _ = _; rw [flowsOf_snoc, if_neg hz]
    obtain ⟨m, hm⟩ : ∃ m, (flowsOf pre).length = m := ⟨_, rfl⟩
    rw [hm] at hrow hfl
    clear hz
    gi_wp2_with (gi_at_builtin; refine wpListIn_append_own _ rfl _ _ 36 rfl w.heap.size 43 i0 (.agg #[.int .i64 0, .string ⟨#[]⟩, .string ⟨#[]⟩]) 3 40 Tryz.underlying36 hi hz0 hz1 hz2 rfl (by decide) _ _ _ rfl (hrow.alloc _) ⟨W.heap.size, 0, none⟩ 1 1 [.int .i64 x.2.1, .string (I x.2.2.num), .string (dn x.2.2)] rfl rfl (cells_new _ _ _) (by simp [Value.oneCell']) (by unfold maxLen; omega) (by omega) (by have := hB.size; simp; omega) ?_; intro v' w1 hown' hgrow _; obtain ⟨g', cap', rfl⟩ := ownsRow_succ hown'; obtain ⟨hv1, hv2, hr2, hk2, hb2⟩ := hv.appended (by decide) hrow hB.size (by omega) hown' hgrow; have hc1 := hv1.cell; have hf1 := hv1.frozen)
    refine ⟨hk2.from _, ⟨hb2, fun y hy h => ?_⟩, ⟨⟨_, hv2, ?_, ⟨_, _, _, rfl⟩⟩, hB.trans hb2⟩⟩
    ·rcases List.mem_cons.1 hy with rfl | hy
     ·exact kept4 h (fun _ _ e => by cases e) hrow hgrow (by omega)
     ·rcases List.mem_cons.1 hy with rfl | hy
      ·exact kept4 h (fun _ _ e => by cases e) hrow hgrow (by omega)
      ·rcases List.mem_cons.1 hy with rfl | hy
       ·exact kept4 h (fun _ _ e => by cases e) hrow hgrow (by show ad.block ≠ B6; omega)
       ·cases hy
    ·rw [HZ.out, List.length_append]
     have e2 : flV (flowsOf pre ++ [(x.2.1, x.2.2)]) = flV (flowsOf pre) ++ [.int .i64 x.2.1, .string (I x.2.2.num), .string (dn x.2.2)] := by simp [flV]
     rw [e2, hm]
     exact hr2
  case done =>
   rintro D xs W hD rfl ⟨⟨v, hv, hrow, ⟨A', k', c', rfl⟩⟩, hB⟩ hK
   have hc := hv.cell
   have HF : Hid (FlowsPost w i (.returned (.tuple #[.slice A' k' c', .int .i64 0])) (W.putObj D (.deferred none))) := by
    refine ⟨hB.trans (belowK_b (w := w) (Nat.le_refl _) W D _ _ (by omega) hK rfl rfl), .inr ⟨HL.out, _, rfl, ?_, ⟨_, _, _, rfl⟩⟩⟩
    unfold flowsL
    rw [HN.out]
    exact ownsRow_putObj hrow _ hK rfl
   clear hrow hB
   gi_wp2
   refine ⟨by simp, .inl ⟨_, _, rfl, run_takeDeferred hK, ?_⟩⟩
   refine ⟨_, results_tmp2 rfl _ _ _, ?_⟩
   rw [← HQ.out]
   exact HF.out
  case stop =>
   rintro D c pre W _ _ h _
   exact h.elim
end Go.Proofs.YtcnmoobojdopgaaGreatDoor
namespace Go.Proofs.YtcnmoobojdopgaaGreatDoor
open Go.RowKit Tr Go.Shelf
abbrev dobj (q : Rat) : Obj := .cells #[.string (I q.num), .string (dn q)] 91 (0, 0)
theorem bQuot_any (n d : Int) (h0 : -9000000000000000000 ≤ n) (h1 : n ≤ 9000000000000000000) (g0 : -9000000000000000000 ≤ d) (g1 : d ≤ 9000000000000000000) (hd : d ≠ 0) (w : World) (ht : Tabs w) :
 Calls Tryz.prog 54 #[.int .i64 n, .int .i64 d] w fun e w' => e = .returned (fenc (Rat.divInt n d)) ∧ Below w.heap.size w w' := by
 have HO1 := hI (fun W (hW : Tabs W) => Of_any n (by omega) (by omega) W hW)
 have HO2 := hI (fun W (hW : Tabs W) => Of_any d (by omega) (by omega) W hW)
 have HNW := hI (fun W (hW : Tabs W) => fNewI h0 h1 g0 g1 hd W hW)
 have HT := hI ht
 obtain ⟨q, hq⟩ : ∃ q, Rat.divInt n d = q := ⟨_, rfl⟩
 rw [hq] at HNW ⊢
 clear hq h0 h1 g0 g1 hd ht
 obtain ⟨W0, hW0⟩ : ∃ W0, w.alloc fz = W0 := ⟨_, rfl⟩
 have hg : BX w [(w.heap.size, fz)] W0 := by rw [← hW0]; exact BX.push (W := w) ⟨Below.refl _ _, fun _ h => by cases h⟩ fz
 unfold fenc at HNW ⊢
 go_enter Tryz.func54, Tryz.ntmps54
 go_wp2_with fail
 refine (HO1.out _ (HT.out.below hg.1)).mono ?_
 rintro e w1 ⟨rfl, b1⟩
 have hg1 := hg.below b1
 clear hg b1 hW0
 go_wp2_with fail
 refine (HO2.out _ (HT.out.below hg1.1)).mono ?_
 rintro e w2 ⟨rfl, b2⟩
 have hg2 := hg1.below b2
 clear hg1 b2
 go_wp2_with fail
 refine (HNW.out _ (HT.out.below hg2.1)).mono ?_
 rintro e w3 ⟨rfl, b3⟩
 have hg3 := hg2.below b3
 clear hg2 b3
 have k0 := hg3.get 0 rfl
 have l0 := hg3.lt 0 rfl
 have m0 := Lib.cell_of_heap k0 0
 have m1 := Lib.cell_of_heap k0 1
 have f0 := Lib.frozen_of_heap k0 0
 have f1 := Lib.frozen_of_heap k0 1
 simp at m0 m1 f0 f1
 have ne : w3.heap.size ≠ w.heap.size := by omega
 have HB3 := hI hg3.1
 have HK0 := hI k0
 clear k0 hg3
 go_wp2_with fail
 have k2 := heap_keep1 (Go.Proofs.YtcnmoobojdopgaaGreatDoor.set2 HK0.out (.string (I q.num)) (.string (dn q))) (.cells #[.string (I q.num), .string (dn q)] 25)
 have j0 := Lib.cell_of_heap k2 0
 have j1 := Lib.cell_of_heap k2 1
 simp at j0 j1
 refine bodyPost_ret (v := .agg #[.string (I q.num), .string (dn q)]) (by simp [results, Tryz.results54, go_sem, j0, j1]) rfl ?_
 have hb := set2_below (Nat.le_refl _) HB3.out (.string (I q.num)) (.string (dn q))
 exact ⟨rfl, hb.alloc hb.size _⟩
theorem fQuoQ {p q : Rat} {a b : Nat} (hp : BdQ p a) (hq : BdQ q b) (ha : a ≤ 800000) (hb : b ≤ 800000) (h0 : q ≠ 0) (w : World) (ht : Tabs w) :
 Calls Tryz.prog 111 #[fenc p, fenc q] w fun e w' => e = .returned (.tuple #[fenc (p / q), .int .i64 0]) ∧ Below w.heap.size w w' := by
 have hn : vl (I q.num) ≠ 0 := by
  rw [vl_I]
  intro e
  exact h0 (Rat.num_eq_zero.1 e)
 have := fQuo_any (I p.num) (dn p) (I q.num) (dn q) w (Nat.le_trans hp.num (by omega)) (Nat.le_trans hp.dn (by omega)) (Nat.le_trans hq.num (by omega)) (Nat.le_trans hq.dn (by omega)) hn ht
 rwa [fv_enc, fv_enc] at this
structure BKV (w : World) (bq s : Nat) (bl : List (Nat × Obj)) (pv pa pg ps pq : Rat)  (L : Array Bool) (W : World) (s6 s7 s8 s9 s10 s11 s12 s13 s14 s15 s16 s17 s18 s19 : Value) : Prop where
 k0 : L.getD 0 false = true → s7 = .pointer (some ⟨bq, 0, none⟩)
 k1 : L.getD 1 false = true → s8 = .pointer (some ⟨bq, 0, none⟩)
 k2 : L.getD 2 false = true → s9 = .pointer (some ⟨bq, 0, none⟩)
 k3 : L.getD 3 false = true → s10 = .pointer (some ⟨bq, 0, none⟩)
 k4 : L.getD 4 false = true → s11 = .agg #[.string (I pv.num), .string (dn pv)]
 k5 : L.getD 5 false = true → s12 = .agg #[.string (I pa.num), .string (dn pa)]
 k6 : L.getD 6 false = true → s13 = .agg #[.string (I ps.num), .string (dn ps)]
 k7 : L.getD 7 false = true → s14 = .agg #[.string (I pg.num), .string (dn pg)]
 k8 : L.getD 8 false = true → s15 = .tuple #[.agg #[.string (I pq.num), .string (dn pq)], .int .i64 0]
 k9 : L.getD 9 false = true → s6 = .tuple #[.agg #[.string (I pq.num), .string (dn pq)], .int .i64 0]
 k10 : L.getD 10 false = true → s16 = .agg #[.string (I pq.num), .string (dn pq)]
 k11 : L.getD 11 false = true → s17 = .int .i64 0
 k12 : L.getD 12 false = true → s18 = .pointer (some ⟨bq, 0, none⟩)
 k13 : L.getD 13 false = true → s19 = .pointer (some ⟨bq, 0, none⟩)
 bx : BX w ((s, fobj pa) :: (s + 1, fobj pg) :: bl) W
 o14 : L.getD 14 false = false → W.heap[bq]? = some (dobj pv)
 n14 : L.getD 14 false = true → W.heap[bq]? = some (dobj pq)
 d14_4 : L.getD 14 false = true → L.getD 4 false = true
structure BKJ (w : World) (bq s : Nat) (bl : List (Nat × Obj)) (pv pa pg ps pq : Rat) (x1 x2 x3 : Value) (L : Array Bool) (a : Act) (W : World) : Prop where
 sz : L.size = 15
 fr : ∃ s6 s7 s8 s9 s10 s11 s12 s13 s14 s15 s16 s17 s18 s19 : Value, a = { tmps := #[.pointer (some ⟨bq, 0, none⟩), x1, x2, x3, .pointer (some ⟨s, 0, none⟩), .pointer (some ⟨s + 1, 0, none⟩), s6, s7, s8, s9, s10, s11, s12, s13, s14, s15, s16, s17, s18, s19], defers := [] } ∧ BKV w bq s bl pv pa pg ps pq  L W s6 s7 s8 s9 s10 s11 s12 s13 s14 s15 s16 s17 s18 s19
theorem bBack_any (w : World) (ht : Tabs w) (bq : Nat) (hbx : w.heap.size ≤ bq) (bl : List (Nat × Obj)) (pv pa pg : Rat) (K : Nat) (hK : K ≤ 100000) (b1 : BdQ pv K) (b2 : BdQ pa K) (b3 : BdQ pg K) (hg0 : pg ≠ 0) (W : World) (hW : BX w bl W) (hnb : ∀ x, x ∈ bl → x.1 ≠ bq) (hd : W.heap[bq]? = some (dobj pv)) :
 Calls Tryz.prog 53 #[.pointer (some ⟨bq, 0, none⟩), fenc pa, fenc pg] W fun e w' => (∃ v, e = .returned v) ∧ w'.heap[bq]? = some (dobj ((pv + pa) / pg)) ∧ BX w bl w' := by
 have C1 := fun V (hV : Tabs V) => fAddQ b1 b2 (by omega) (by omega) V hV
 have C2 := fun V (hV : Tabs V) => fQuoQ (p := pv + pa) (q := pg) (BdQ.add b1 b2) b3 (by omega) (by omega) hg0 V hV
 obtain ⟨pq, hpq⟩ : ∃ pq, (pv + pa) / pg = pq := ⟨_, rfl⟩
 rw [hpq] at C2 ⊢
 obtain ⟨ps, hps⟩ : ∃ ps, pv + pa = ps := ⟨_, rfl⟩
 rw [hps] at C1 C2
 have HT := hI ht
 unfold fenc at C1 C2 ⊢
 obtain ⟨W0, hW0', hB0, hz, k0, k1⟩ := box2 W (fobj pa) (fobj pg)
 have hW0 := hW0'.symm
 have hlt : bq < W.heap.size := (Array.getElem?_eq_some_iff.1 hd).1
 have hd0 : W0.heap[bq]? = some (dobj pv) := bkeep hB0 hd
 have hbl0 := hW.below hB0
 have hsW := hW.1.size
 have HAD : Hid (∀ V, BX w ((W.heap.size, fobj pa) :: (W.heap.size + 1, fobj pg) :: bl) V → Calls Tryz.prog 51 #[.agg #[.string (I pv.num), .string (dn pv)], .agg #[.string (I pa.num), .string (dn pa)]] V fun e w' => e = .returned (.agg #[.string (I ps.num), .string (dn ps)]) ∧ Below V.heap.size V w') := fun V hV => C1 V (HT.out.below hV.1)
 have HQU : Hid (∀ V, BX w ((W.heap.size, fobj pa) :: (W.heap.size + 1, fobj pg) :: bl) V → Calls Tryz.prog 111 #[.agg #[.string (I ps.num), .string (dn ps)], .agg #[.string (I pg.num), .string (dn pg)]] V fun e w' => e = .returned (.tuple #[.agg #[.string (I pq.num), .string (dn pq)], .int .i64 0]) ∧ Below V.heap.size V w') := fun V hV => C2 V (HT.out.below hV.1)
 have hne : ∀ x, x ∈ ((W.heap.size, fobj pa) :: (W.heap.size + 1, fobj pg) :: bl) → x.1 ≠ bq := fun x hx => by
  rcases List.mem_cons.1 hx with rfl | hx
  ·show W.heap.size ≠ bq; omega
  ·rcases List.mem_cons.1 hx with rfl | hx
   ·show W.heap.size + 1 ≠ bq; omega
   ·exact hnb x hx
 have hgg : BX w ((W.heap.size, fobj pa) :: (W.heap.size + 1, fobj pg) :: bl) W0 := ⟨hbl0.1, fun x hx => by
  rcases List.mem_cons.1 hx with rfl | hx
  ·exact k0
  ·rcases List.mem_cons.1 hx with rfl | hx
   ·exact k1
   ·exact hbl0.2 x hx⟩
 have a0 := Lib.cell_of_heap k0 0
 have a1 := Lib.cell_of_heap k0 1
 simp at a0 a1
 clear C1 C2 hps hpq ht hB0 hz k0 k1 hW0' hd hbl0 hW b1 b2 b3 hg0
 go_enter Tryz.func53, Tryz.ntmps53
 go_wp2_with fail
 have hg : BX w ((W.heap.size, fobj pa) :: (W.heap.size + 1, fobj pg) :: bl) W0.drew := ⟨hgg.1.drew, hgg.2⟩
 have hko14 : W0.drew.heap[bq]? = some (dobj pv) := hd0
 generalize W.heap.size = s at *
 clear hgg hd0 hW0 a0 a1
 have mixed : Tryz.prog.follows .mixedOrders = true := by kernel_rfl
 refine wp_region_any mixed (wpAny_inv (BKJ w bq s bl pv pa pg ps pq _ _ _) ?stBK ?dnBK _ _ _ _ ⟨by simp, ⟨_, _, _, _, _, _, _, _, _, _, _, _, _, _, rfl, fun h => by simp at h, fun h => by simp at h, fun h => by simp at h, fun h => by simp at h, fun h => by simp at h, fun h => by simp at h, fun h => by simp at h, fun h => by simp at h, fun h => by simp at h, fun h => by simp at h, fun h => by simp at h, fun h => by simp at h, fun h => by simp at h, fun h => by simp at h, hg, fun _ => hko14, fun h => by simp at h, fun h => by simp at h⟩⟩ (by decide))
 case dnBK =>
  intro L a w' hj hr
  have all := all_on hr hj.sz (by kernel_rfl)
  obtain ⟨s6, s7, s8, s9, s10, s11, s12, s13, s14, s15, s16, s17, s18, s19, rfl, hv⟩ := hj.fr
  have HF := hI (And.intro (hv.n14 (all 14 (by omega))) hv.bx)
  clear all hv hj hr
  go_wp2_with fail
  go_end0
  exact ⟨⟨_, rfl⟩, HF.out.1, HF.out.2.1, fun x hx => HF.out.2.2 x (List.mem_cons_of_mem _ (List.mem_cons_of_mem _ hx))⟩
 case stBK =>
  intro L a w' hj i hi
  obtain ⟨hun, o, ho, hall⟩ := mem_ready.1 hi
  have hoff := getD_off hun
  have hlt := (Array.getElem?_eq_some_iff.1 ho).1
  simp at hlt
  obtain ⟨s6, s7, s8, s9, s10, s11, s12, s13, s14, s15, s16, s17, s18, s19, rfl, hv⟩ := hj.fr
  have HV := hI hv
  have HJ := hI hj
  clear hv hj
  rcases (show i = 0 ∨ i = 1 ∨ i = 2 ∨ i = 3 ∨ i = 4 ∨ i = 5 ∨ i = 6 ∨ i = 7 ∨ i = 8 ∨ i = 9 ∨ i = 10 ∨ i = 11 ∨ i = 12 ∨ i = 13 ∨ i = 14 from by omega) with rfl | rfl | rfl | rfl | rfl | rfl | rfl | rfl | rfl | rfl | rfl | rfl | rfl | rfl | rfl
  ·simp at ho
   subst ho
   clear hall hi
   refine wpOp_hid rfl fun K' HK => ?_
   go_simp
   cases HV.out
   refine HK.out _ _ ⟨by simp [HJ.out.sz], ⟨_, _, _, _, _, _, _, _, _, _, _, _, _, _, rfl, fun _ => rfl, ?_, ?_, ?_, ?_, ?_, ?_, ?_, ?_, ?_, ?_, ?_, ?_, ?_, HV.out.bx, fun h0 => HV.out.o14 (getD_df (by decide) h0), ?_, fun h => getD_up hun (HV.out.d14_4 (getD_dn (by decide) h))⟩⟩
   all_goals exact Um (by assumption)
  ·simp at ho
   subst ho
   clear hall hi
   refine wpOp_hid rfl fun K' HK => ?_
   go_simp
   cases HV.out
   refine HK.out _ _ ⟨by simp [HJ.out.sz], ⟨_, _, _, _, _, _, _, _, _, _, _, _, _, _, rfl, ?_, fun _ => rfl, ?_, ?_, ?_, ?_, ?_, ?_, ?_, ?_, ?_, ?_, ?_, ?_, HV.out.bx, fun h0 => HV.out.o14 (getD_df (by decide) h0), ?_, fun h => getD_up hun (HV.out.d14_4 (getD_dn (by decide) h))⟩⟩
   all_goals exact Um (by assumption)
  ·simp at ho
   subst ho
   have h1x : L.getD 1 false = true := hall { on := 1, ground := Ground.data } (by simp) (by decide)
   have H1 := hI h1x
   clear hall hi h1x
   have e0 := HV.out.k1 H1.out
   subst e0
   refine wpOp_hid rfl fun K' HK => ?_
   go_simp
   cases HV.out
   refine HK.out _ _ ⟨by simp [HJ.out.sz], ⟨_, _, _, _, _, _, _, _, _, _, _, _, _, _, rfl, ?_, ?_, fun _ => rfl, ?_, ?_, ?_, ?_, ?_, ?_, ?_, ?_, ?_, ?_, ?_, HV.out.bx, fun h0 => HV.out.o14 (getD_df (by decide) h0), ?_, fun h => getD_up hun (HV.out.d14_4 (getD_dn (by decide) h))⟩⟩
   all_goals exact Um (by assumption)
  ·simp at ho
   subst ho
   have h2x : L.getD 2 false = true := hall { on := 2, ground := Ground.data } (by simp) (by decide)
   have H2 := hI h2x
   clear hall hi h2x
   have e0 := HV.out.k2 H2.out
   subst e0
   refine wpOp_hid rfl fun K' HK => ?_
   go_simp
   cases HV.out
   refine HK.out _ _ ⟨by simp [HJ.out.sz], ⟨_, _, _, _, _, _, _, _, _, _, _, _, _, _, rfl, ?_, ?_, ?_, fun _ => rfl, ?_, ?_, ?_, ?_, ?_, ?_, ?_, ?_, ?_, ?_, HV.out.bx, fun h0 => HV.out.o14 (getD_df (by decide) h0), ?_, fun h => getD_up hun (HV.out.d14_4 (getD_dn (by decide) h))⟩⟩
   all_goals exact Um (by assumption)
  ·simp at ho
   subst ho
   have h3x : L.getD 3 false = true := hall { on := 3, ground := Ground.data } (by simp) (by decide)
   have H3 := hI h3x
   clear hall hi h3x
   have e0 := HV.out.k3 H3.out
   subst e0
   have hk14 : L.getD 14 false = false := (off_or_on L 14).resolve_right (fun h => not_on hoff (HV.out.d14_4 h))
   have hk := HV.out.o14 hk14; have c0 := Lib.cell_of_heap hk 0; have c1 := Lib.cell_of_heap hk 1
   simp at c0 c1
   refine wpOp_hid rfl fun K' HK => ?_
   go_simp
   cases HV.out
   refine HK.out _ _ ⟨by simp [HJ.out.sz], ⟨_, _, _, _, _, _, _, _, _, _, _, _, _, _, rfl, ?_, ?_, ?_, ?_, fun _ => rfl, ?_, ?_, ?_, ?_, ?_, ?_, ?_, ?_, ?_, HV.out.bx, fun h0 => HV.out.o14 (getD_df (by decide) h0), ?_, fun h => getD_up hun (HV.out.d14_4 (getD_dn (by decide) h))⟩⟩
   all_goals exact Um (by assumption)
  ·simp at ho
   subst ho
   clear hall hi
   have hb := HV.out.bx.get 0 rfl; have c0 := Lib.cell_of_heap hb 0; have c1 := Lib.cell_of_heap hb 1
   simp at c0 c1
   refine wpOp_hid rfl fun K' HK => ?_
   go_simp
   cases HV.out
   refine HK.out _ _ ⟨by simp [HJ.out.sz], ⟨_, _, _, _, _, _, _, _, _, _, _, _, _, _, rfl, ?_, ?_, ?_, ?_, ?_, fun _ => rfl, ?_, ?_, ?_, ?_, ?_, ?_, ?_, ?_, HV.out.bx, fun h0 => HV.out.o14 (getD_df (by decide) h0), ?_, fun h => getD_up hun (HV.out.d14_4 (getD_dn (by decide) h))⟩⟩
   all_goals exact Um (by assumption)
  ·simp at ho
   subst ho
   have h4x : L.getD 4 false = true := hall { on := 4, ground := Ground.data } (by simp) (by decide)
   have h5x : L.getD 5 false = true := hall { on := 5, ground := Ground.data } (by simp) (by decide)
   have H4 := hI h4x
   have H5 := hI h5x
   clear hall hi h4x h5x
   have e0 := HV.out.k4 H4.out
   subst e0
   have e1 := HV.out.k5 H5.out
   subst e1
   refine wpOp_hid rfl fun K' HK => ?_
   go_simp
   refine (HAD.out _ HV.out.bx).mono ?_
   rintro e wn ⟨rfl, hbn⟩
   cases HV.out
   refine HK.out _ _ ⟨by simp [HJ.out.sz], ⟨_, _, _, _, _, _, _, _, _, _, _, _, _, _, rfl, ?_, ?_, ?_, ?_, ?_, ?_, fun _ => rfl, ?_, ?_, ?_, ?_, ?_, ?_, ?_, HV.out.bx.below hbn, fun h => bkeep hbn (HV.out.o14 (getD_df (by decide) h)), fun h => bkeep hbn (HV.out.n14 (getD_dn (by decide) h)), fun h => getD_up hun (HV.out.d14_4 (getD_dn (by decide) h))⟩⟩
   all_goals exact Um (by assumption)
  ·simp at ho
   subst ho
   clear hall hi
   have hb := HV.out.bx.get 1 rfl; have c0 := Lib.cell_of_heap hb 0; have c1 := Lib.cell_of_heap hb 1
   simp at c0 c1
   refine wpOp_hid rfl fun K' HK => ?_
   go_simp
   cases HV.out
   refine HK.out _ _ ⟨by simp [HJ.out.sz], ⟨_, _, _, _, _, _, _, _, _, _, _, _, _, _, rfl, ?_, ?_, ?_, ?_, ?_, ?_, ?_, fun _ => rfl, ?_, ?_, ?_, ?_, ?_, ?_, HV.out.bx, fun h0 => HV.out.o14 (getD_df (by decide) h0), ?_, fun h => getD_up hun (HV.out.d14_4 (getD_dn (by decide) h))⟩⟩
   all_goals exact Um (by assumption)
  ·simp at ho
   subst ho
   have h6x : L.getD 6 false = true := hall { on := 6, ground := Ground.data } (by simp) (by decide)
   have h7x : L.getD 7 false = true := hall { on := 7, ground := Ground.data } (by simp) (by decide)
   have H6 := hI h6x
   have H7 := hI h7x
   clear hall hi h6x h7x
   have e0 := HV.out.k6 H6.out
   subst e0
   have e1 := HV.out.k7 H7.out
   subst e1
   refine wpOp_hid rfl fun K' HK => ?_
   go_simp
   refine (HQU.out _ HV.out.bx).mono ?_
   rintro e wn ⟨rfl, hbn⟩
   cases HV.out
   refine HK.out _ _ ⟨by simp [HJ.out.sz], ⟨_, _, _, _, _, _, _, _, _, _, _, _, _, _, rfl, ?_, ?_, ?_, ?_, ?_, ?_, ?_, ?_, fun _ => rfl, ?_, ?_, ?_, ?_, ?_, HV.out.bx.below hbn, fun h => bkeep hbn (HV.out.o14 (getD_df (by decide) h)), fun h => bkeep hbn (HV.out.n14 (getD_dn (by decide) h)), fun h => getD_up hun (HV.out.d14_4 (getD_dn (by decide) h))⟩⟩
   all_goals exact Um (by assumption)
  ·simp at ho
   subst ho
   have h8x : L.getD 8 false = true := hall { on := 8, ground := Ground.data } (by simp) (by decide)
   have H8 := hI h8x
   clear hall hi h8x
   have e0 := HV.out.k8 H8.out
   subst e0
   refine wpOp_hid rfl fun K' HK => ?_
   go_simp
   cases HV.out
   refine HK.out _ _ ⟨by simp [HJ.out.sz], ⟨_, _, _, _, _, _, _, _, _, _, _, _, _, _, rfl, ?_, ?_, ?_, ?_, ?_, ?_, ?_, ?_, ?_, fun _ => rfl, ?_, ?_, ?_, ?_, HV.out.bx, fun h0 => HV.out.o14 (getD_df (by decide) h0), ?_, fun h => getD_up hun (HV.out.d14_4 (getD_dn (by decide) h))⟩⟩
   all_goals exact Um (by assumption)
  ·simp at ho
   subst ho
   have h9x : L.getD 9 false = true := hall { on := 9, ground := Ground.data } (by simp) (by decide)
   have H9 := hI h9x
   clear hall hi h9x
   have e0 := HV.out.k9 H9.out
   subst e0
   refine wpOp_hid rfl fun K' HK => ?_
   go_simp
   cases HV.out
   refine HK.out _ _ ⟨by simp [HJ.out.sz], ⟨_, _, _, _, _, _, _, _, _, _, _, _, _, _, rfl, ?_, ?_, ?_, ?_, ?_, ?_, ?_, ?_, ?_, ?_, fun _ => rfl, ?_, ?_, ?_, HV.out.bx, fun h0 => HV.out.o14 (getD_df (by decide) h0), ?_, fun h => getD_up hun (HV.out.d14_4 (getD_dn (by decide) h))⟩⟩
   all_goals exact Um (by assumption)
  ·simp at ho
   subst ho
   have h9x : L.getD 9 false = true := hall { on := 9, ground := Ground.data } (by simp) (by decide)
   have H9 := hI h9x
   clear hall hi h9x
   have e0 := HV.out.k9 H9.out
   subst e0
   refine wpOp_hid rfl fun K' HK => ?_
   go_simp
   cases HV.out
   refine HK.out _ _ ⟨by simp [HJ.out.sz], ⟨_, _, _, _, _, _, _, _, _, _, _, _, _, _, rfl, ?_, ?_, ?_, ?_, ?_, ?_, ?_, ?_, ?_, ?_, ?_, fun _ => rfl, ?_, ?_, HV.out.bx, fun h0 => HV.out.o14 (getD_df (by decide) h0), ?_, fun h => getD_up hun (HV.out.d14_4 (getD_dn (by decide) h))⟩⟩
   all_goals exact Um (by assumption)
  ·simp at ho
   subst ho
   have h0x : L.getD 0 false = true := hall { on := 0, ground := Ground.data } (by simp) (by decide)
   have H0 := hI h0x
   clear hall hi h0x
   have e0 := HV.out.k0 H0.out
   subst e0
   refine wpOp_hid rfl fun K' HK => ?_
   go_simp
   cases HV.out
   refine HK.out _ _ ⟨by simp [HJ.out.sz], ⟨_, _, _, _, _, _, _, _, _, _, _, _, _, _, rfl, ?_, ?_, ?_, ?_, ?_, ?_, ?_, ?_, ?_, ?_, ?_, ?_, fun _ => rfl, ?_, HV.out.bx, fun h0 => HV.out.o14 (getD_df (by decide) h0), ?_, fun h => getD_up hun (HV.out.d14_4 (getD_dn (by decide) h))⟩⟩
   all_goals exact Um (by assumption)
  ·simp at ho
   subst ho
   have h12x : L.getD 12 false = true := hall { on := 12, ground := Ground.data } (by simp) (by decide)
   have H12 := hI h12x
   clear hall hi h12x
   have e0 := HV.out.k12 H12.out
   subst e0
   refine wpOp_hid rfl fun K' HK => ?_
   go_simp
   cases HV.out
   refine HK.out _ _ ⟨by simp [HJ.out.sz], ⟨_, _, _, _, _, _, _, _, _, _, _, _, _, _, rfl, ?_, ?_, ?_, ?_, ?_, ?_, ?_, ?_, ?_, ?_, ?_, ?_, ?_, fun _ => rfl, HV.out.bx, fun h0 => HV.out.o14 (getD_df (by decide) h0), ?_, fun h => getD_up hun (HV.out.d14_4 (getD_dn (by decide) h))⟩⟩
   all_goals exact Um (by assumption)
  ·simp at ho
   subst ho
   have h13x : L.getD 13 false = true := hall { on := 13, ground := Ground.data } (by simp) (by decide)
   have h10x : L.getD 10 false = true := hall { on := 10, ground := Ground.data } (by simp) (by decide)
   have h4x : L.getD 4 false = true := hall { on := 4, ground := Ground.phase } (by simp) (by decide)
   have H13 := hI h13x
   have H10 := hI h10x
   have H4 := hI h4x
   clear hall hi h13x h10x h4x
   have e0 := HV.out.k13 H13.out
   subst e0
   have e1 := HV.out.k10 H10.out
   subst e1
   have hko := HV.out.o14 hoff
   have m0 := Lib.cell_of_heap hko 0; have m1 := Lib.cell_of_heap hko 1; have f0 := Lib.frozen_of_heap hko 0; have f1 := Lib.frozen_of_heap hko 1
   simp at m0 m1 f0 f1
   refine wpOp_hid rfl fun K' HK => ?_
   go_simp
   cases HV.out
   refine HK.out _ _ ⟨by simp [HJ.out.sz], ⟨_, _, _, _, _, _, _, _, _, _, _, _, _, _, rfl, ?_, ?_, ?_, ?_, ?_, ?_, ?_, ?_, ?_, ?_, ?_, ?_, ?_, ?_, HV.out.bx.far (b := bq) hbx hne _ _, fun h => (not_on h (getD_set_same hun)).elim, fun _ => set2 hko _ _, fun _ => getD_up hun H4.out⟩⟩
   all_goals exact Um (by assumption)
theorem BdQ.inv' {q : Rat} {k : Nat} (h : BdQ q k) (h0 : q ≠ 0) : BdQ q⁻¹ k := by
 have e : q⁻¹ = Rat.divInt q.den q.num := by rw [Rat.inv_def, ]
 rw [e]
 refine BdQ.divInt ?_ h.1 (fun x => h0 (Rat.num_eq_zero.1 x))
 have := h.2
 omega
theorem BdQ.quo {p q : Rat} {a b : Nat} (hp : BdQ p a) (hq : BdQ q b) (h0 : q ≠ 0) : BdQ (p / q) (a + b) := by
 rw [Rat.div_def]
 exact BdQ.mul hp (BdQ.inv' hq h0)
noncomputable def amtL (i : Inst) : List Rat := (paysN i (perL i) (perL i).length).map fun x => x.2.2
theorem amtL_len (i : Inst) : (amtL i).length = (perL i).length := by unfold amtL; rw [List.length_map, paysN_len]
theorem amtL_get (i : Inst) {k : Nat} (h : k < (perL i).length) : (amtL i)[k]? = some (payAt i (perL i) k).2.2 := by
 unfold amtL paysN
 rw [List.getElem?_map, List.getElem?_map, List.getElem?_range h]
 rfl
theorem amt_bd {i : Inst} (h : BdI i) {x : Rat} (hx : x ∈ amtL i) : BdQ x 80 := by
 obtain ⟨k, hk⟩ := List.getElem?_of_mem hx
 have hl : k < (perL i).length := by rw [← amtL_len]; exact (List.getElem?_eq_some_iff.1 hk).1
 rw [amtL_get i hl] at hk
 injection hk with hk
 subst hk
 obtain ⟨p, hp⟩ : ∃ p, (perL i)[k]? = some p := ⟨_, List.getElem?_eq_getElem hl⟩
 have hm := h.per (List.mem_of_getElem? hp)
 unfold payAt
 rw [List.getD_eq_getElem?_getD, hp]
 show BdQ (intQ i p.1 p.2 + _) 80
 refine BdQ.add (a := 59) (b := 20) (intQ_bd h hm.1 hm.2) ?_
 split
 ·exact fv_bd _ _ h.f1 (by have := h.f2; omega)
 ·exact BdQ.zero (by omega)
theorem pv_bd {g : Rat} (hg : BdQ g 70) (h0 : g ≠ 0) : ∀ l : List Rat, (∀ x ∈ l, BdQ x 80) → BdQ (pv g l) (151 * l.length + 1)
 | [], _ => BdQ.zero (by omega)
 | x :: r, h => by
   have ih := pv_bd hg h0 r fun y hy => h y (List.mem_cons_of_mem _ hy)
   have := BdQ.quo (BdQ.add (h x (List.mem_cons_self ..)) ih) hg h0
   rw [pv]
   exact this.mono (by rw [List.length_cons]; omega)
theorem pairs_has : ∀ (l : List Int) (a b d : Int), l.head? = some a → l.getLast? = some b → a ≤ d → d < b → ∃ p ∈ pairs l, p.1 ≤ d ∧ d < p.2
 | [], _, _, _, h, _, _, _ => by simp at h
 | [x], a, b, d, h1, h2, h3, h4 => by simp at h1 h2; omega
 | x :: y :: r, a, b, d, h1, h2, h3, h4 => by
   simp at h1
   subst h1
   rw [pairs]
   rcases Int.lt_or_le d y with h | h
   ·exact ⟨(x, y), List.mem_cons_self .., h3, h⟩
   ·obtain ⟨p, hp, h5⟩ := pairs_has (y :: r) y b d rfl (by rw [← h2]; rfl) h h4
    exact ⟨p, List.mem_cons_of_mem _ hp, h5⟩
theorem at_life {i : Inst} {d : Int} (h0 : i.issued ≤ d) (h1 : d < i.matures) : ∃ (k : Nat) (p : Int × Int), atZ (perL i) d = (k : Int) ∧ (perL i)[k]? = some p ∧ p.1 ≤ d ∧ d < p.2 := by
 rcases atZ_cases (perL i) d with h | h
 ·exact h
 ·exfalso
  obtain ⟨p, hp, h2, h3⟩ := pairs_has (ends i.issued i.matures i.months) i.issued i.matures d rfl (by unfold ends; rw [← List.cons_append]; exact List.getLast?_concat) h0 h1
  unfold atZ at h
  cases hx : (perL i).findIdx? (inP d) with
  | some k => rw [hx] at h; simp only at h; omega
  | none =>
    rw [List.findIdx?_eq_none_iff] at hx
    have := hx p hp
    unfold inP at this
    rw [decide_eq_true h2, decide_eq_true h3] at this
    cases this
noncomputable def presQ (i : Inst) (d : Int) (y : Rat) : Rat := match (perL i).findIdx? (inP d) with
 | some k => pvB (1 + y * Rat.divInt (((perL i).getD k (0, 0)).2 - d) (((perL i).getD k (0, 0)).2 - ((perL i).getD k (0, 0)).1)) (1 + y) ((amtL i).drop k)
 | none => 0
theorem presQ_some {i : Inst} {d : Int} {y : Rat} {k : Nat} {p : Int × Int} (h : atZ (perL i) d = (k : Int)) (hp : (perL i)[k]? = some p) {x : Rat} (hx : (amtL i)[k]? = some x) :
 presQ i d y = (pv (1 + y) ((amtL i).drop (k + 1)) + x) / (1 + y * Rat.divInt (p.2 - d) (p.2 - p.1)) := by
 unfold atZ at h
 unfold presQ
 cases hxx : (perL i).findIdx? (inP d) with
 | none => rw [hxx] at h; simp only at h; omega
 | some j =>
   rw [hxx] at h; simp only at h
   obtain rfl : j = k := by omega
   have e : (amtL i).drop j = x :: (amtL i).drop (j + 1) := by
    obtain ⟨hj, rfl⟩ := List.getElem?_eq_some_iff.1 hx
    exact List.drop_eq_getElem_cons hj
   simp only [List.getD_eq_getElem?_getD, hp]
   rw [e, pvB, Rat.add_comm x]
   rfl
def PresV (i : Inst) (d : Int) (y : Rat) (e : Ending) : Prop :=
 (400 ≤ (cuts i.issued i.matures i.months).length ∧ e = .returned (.tuple #[fenc 0, .int .i64 4])) ∨ ((cuts i.issued i.matures i.months).length ≤ 399 ∧
   ((¬ okDay d ∧ e = .returned (.tuple #[fenc 0, .int .i64 13])) ∨ (okDay d ∧
     ((1 + y ≤ 0 ∧ e = .returned (.tuple #[fenc 0, .int .i64 2])) ∨ (0 < 1 + y ∧
       ((¬ (i.issued ≤ d ∧ d ≤ i.matures) ∧ e = .returned (.tuple #[fenc 0, .int .i64 24])) ∨ ((i.issued ≤ d ∧ d ≤ i.matures) ∧
         ((d = i.matures ∧ e = .returned (.tuple #[fenc 0, .int .i64 0])) ∨ (d < i.matures ∧ e = .returned (.tuple #[fenc (presQ i d y), .int .i64 0]))))))))))
def PresP (w : World) (i : Inst) (d : Int) (y : Rat) (e : Ending) (w' : World) : Prop := Below w.heap.size w w' ∧ PresV i d y e
def RdF (W : World) (ad : Addr) (l : List Rat) : Prop := ad.block < W.heap.size ∧ ∀ (j : Nat) (q : Rat), l[j]? = some q → W.cell? (ad.add (j * 2)) = some (.string (I q.num)) ∧ W.cell? ⟨(ad.add (j * 2)).block, (ad.add (j * 2)).off + 1, none⟩ = some (.string (dn q))
def frV (l : List Rat) : List Value := l.flatMap fun q => [.string (I q.num), .string (dn q)]
theorem frV_get : ∀ (l : List Rat) (j : Nat) (q : Rat), l[j]? = some q → (frV l)[j * 2]? = some (.string (I q.num)) ∧ (frV l)[j * 2 + 1]? = some (.string (dn q))
 | [], j, p, h => by simp at h
 | x :: r, 0, p, h => by
   simp at h; subst h
   simp [frV]
 | x :: r, j + 1, p, h => by
   simp at h
   have := frV_get r j p h
   simp only [frV, List.flatMap_cons] at this ⊢
   rw [show (j + 1) * 2 = j * 2 + 2 from by omega]
   simpa using this
theorem RdF.own_box {W : World} {base : Nat} {v : Value} {l : List Rat} (h : W.ownsRow base 25 2 v l.length (frV l)) (hl : l ≠ []) : ∃ ad cap cur, v = .slice (some ad) l.length cap ∧ l.length ≤ cap ∧ base ≤ ad.block ∧ W.heap[ad.block]? = some (.cells cur 25 (0, 0)) ∧ ∀ W' : World, W'.heap[ad.block]? = some (.cells cur 25 (0, 0)) → RdF W' ad l := by
 rcases h.2 with ⟨_, h0⟩ | ⟨g, cap, cur, hv, hb, hg, hnc, hcm, _⟩
 ·exact absurd (List.eq_nil_of_length_eq_zero h0) hl
 ·subst hv
  refine ⟨⟨g, 0, none⟩, cap, cur, rfl, hnc, hb, hg, fun W' hW => ⟨(Array.getElem?_eq_some_iff.1 hW).1, fun j q hq => ?_⟩⟩
  have hc := h.cells (g := g) rfl
  obtain ⟨q0, q1⟩ := frV_get l j q hq
  have e0 := hc _ _ q0
  have e1 := hc _ _ q1
  rw [addr_add0] at e0 e1 ⊢
  have e : ∀ k, W'.cell? ⟨g, k, none⟩ = W.cell? ⟨g, k, none⟩ := fun k => by unfold World.cell?; rw [hW, hg]
  exact ⟨(e _).trans e0, (e _).trans e1⟩
end Go.Proofs.YtcnmoobojdopgaaGreatDoor
