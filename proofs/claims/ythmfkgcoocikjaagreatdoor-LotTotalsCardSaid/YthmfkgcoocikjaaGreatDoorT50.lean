/-
  What LotTotals leans on: parts of a slice of lots, sums of turned and cut lists.
  What LotTotals leans on behind the cut: the cut's ways, two lots appended, their sums.
-/
import Derived.Test.YthmfkgcoocikjaaGreatDoorT49
import Derived.Test.YthmfkgcoocikjaaGreatDoorR41
import Derived.Test.YthmfkgcoocikjaaGreatDoorC48
set_option linter.unusedVariables false
set_option linter.unusedSimpArgs false
namespace Go.Proofs.YthmfkgcoocikjaaGreatDoor
open Go.RowKit Tr Go.Shelf
theorem own_below {w w' : World} {base n : Nat} {v : Value} {xs : List Value} (h : w.ownsRow base 36 7 v n xs) (hb : Below w.heap.size w w') : w'.ownsRow base 36 7 v n xs := by
 refine ⟨h.1, ?_⟩
 rcases h.2 with h0 | ⟨g, cap, cur, e, h1, h2, h3⟩
 ·exact .inl h0
 ·exact .inr ⟨g, cap, cur, e, h1, (hb.block g (Array.getElem?_eq_some_iff.1 h2).1).trans h2, h3⟩
theorem lslice_hi (W : World) (ad : Addr) (m c j : Nat) (hj : j ≤ m) : (Instr.sliceAt 22 (.slice (some ad) m c) (some (.int .i64 (j : Int))) none none).run Tryz.prog W = .ok (.slice (some (if c = j then ad else ad.add (j * 7))) (m - j) (c - j)) W := by
 have ht : Tryz.prog.underlying 22 = some (.slice (Tryz.prog.elem 22)) := by kernel_rfl
 have hz : (sizeOf (Tryz.prog.elem 22)).run Tryz.prog W = .ok 7 W := by kernel_rfl
 rw [run_sliceAt_slice W _ _ _ _ _ ht, run_slice_l W _ _ _ _ ht .i64 _ (by omega) (by omega), hz]
 simp [Result.andThen, sliced]
 split <;> rfl
theorem lslice_lo (W : World) (ad : Addr) (m c j : Nat) (hj : j ≤ c) : (Instr.sliceAt 22 (.slice (some ad) m c) none (some (.int .i64 (j : Int))) none).run Tryz.prog W = .ok (.slice (some ad) j c) W := by
 have ht : Tryz.prog.underlying 22 = some (.slice (Tryz.prog.elem 22)) := by kernel_rfl
 have hz : (sizeOf (Tryz.prog.elem 22)).run Tryz.prog W = .ok 7 W := by kernel_rfl
 rw [run_sliceAt_slice W _ _ _ _ _ ht, run_slice_h W _ _ _ _ ht .i64 _ (by omega) (by omega), hz]
 have e : ad.add 0 = ad := by unfold Addr.add; simp
 simp [Result.andThen, sliced, e]
theorem RdB.take {n : Nat} {w : World} {A : Option Addr} {ls : List SLot} (h : RdB n w A ls) (k : Nat) : RdB n w A (ls.take k) := by
 intro hl
 obtain ⟨ad, e, h1, h2⟩ := h (by intro e; rw [e] at hl; simp at hl)
 exact ⟨ad, e, h1, fun j l hj => h2 j l (by rw [List.getElem?_take] at hj; split at hj; exact hj; cases hj)⟩
theorem RdB.drop {n : Nat} {w : World} {ad : Addr} {ls : List SLot} {c : Nat} (h : RdB n w (some ad) ls) (k : Nat) (hk : k ≤ ls.length) (hc : ls.length ≤ c) : RdB n w (some (if c = k then ad else ad.add (k * 7))) (ls.drop k) := by
 intro hl
 have hkl : k < ls.length := by
  rcases Nat.lt_or_ge k ls.length with h1 | h1
  ·exact h1
  ·exact absurd (List.drop_eq_nil_of_le h1) hl
 obtain ⟨a, e, h1, h2⟩ := h (by intro e; rw [e] at hkl; cases hkl)
 injection e with e
 subst e
 rw [if_neg (by omega)]
 have hs : ad.spot = none := by
  obtain ⟨y, hy⟩ : ∃ y, ls[0]? = some y := ⟨_, List.getElem?_eq_getElem (by omega)⟩
  have h0 := (h2 0 y hy).c0
  rw [show ad.add (0 * 7) = ad from by unfold Addr.add; simp] at h0
  exact none_of_cell h0
 refine ⟨_, rfl, by rw [add_block]; exact h1, fun j l hj => ?_⟩
 rw [List.getElem?_drop] at hj
 have h3 := h2 (k + j) l hj
 rw [add_none ad hs] at h3
 rw [add_none _ (by rw [add_none ad hs]), add_none ad hs]
 rw [Nat.add_mul, ← Nat.add_assoc] at h3
 exact h3
theorem sumBy_append (f : SLot → Int) (a b : List SLot) : sumBy f (a ++ b) = sumBy f a + sumBy f b := by
 have h := foldl_sumBy f b (sumBy f a)
 rw [← h]
 unfold sumBy
 rw [List.foldl_append]
theorem ownL_append (a b : List SLot) (s : ByteArray) : ownL (a ++ b) s = ownL a s ++ ownL b s := by unfold ownL; rw [List.filter_append]
theorem sum_turn (f : SLot → Int) (ls : List SLot) (k : Nat) (s : ByteArray) : sumBy f (ownL (ls.drop k ++ ls.take k) s) = sumBy f (ownL ls s) := by
 conv => rhs; rw [← List.take_append_drop k ls]
 rw [ownL_append, ownL_append, sumBy_append, sumBy_append, Int.add_comm]
theorem sum_rest (f : SLot → Int) {ls : List SLot} {k : Nat} {x : SLot} (hx : ls[k]? = some x) : sumBy f (ownL (ls.take k ++ ls.drop (k + 1)) x.1.inst) + f x = sumBy f (ownL ls x.1.inst) := by
 conv => rhs; rw [← List.take_append_drop (k + 1) ls, take_snoc hx]
 rw [ownL_append, ownL_append, ownL_snoc, if_pos rfl, sumBy_append, sumBy_append, sumBy_snoc]
 omega
end Go.Proofs.YthmfkgcoocikjaaGreatDoor
namespace Go.Proofs.YthmfkgcoocikjaaGreatDoor
open Go.RowKit Tr Go.Shelf
theorem cut_cases (l : Lot) (q : ByteArray) (hti : l.tiny) (q13 : q.size ≤ 13) :
 (∃ code : Int, code ≠ 0 ∧ ∀ W, Tabs W → Calls Tryz.prog 21 #[l.enc, .string q] W fun e w' => e = .returned (.tuple #[zeroLot.enc, zeroLot.enc, .int .i64 code]) ∧ Below W.heap.size W w') ∨
 (∃ LA LB : Lot, LA.sized ∧ LB.sized ∧ LA.inst = l.inst ∧ LB.inst = l.inst ∧ vl LA.qty + vl LB.qty = vl l.qty ∧ vl LA.cost + vl LB.cost = vl l.cost ∧ ∀ W, Tabs W → Calls Tryz.prog 21 #[l.enc, .string q] W fun e w' => e = .returned (.tuple #[LA.enc, LB.enc, .int .i64 0]) ∧ Below W.heap.size W w') := by
 have hs := hti.sized
 by_cases h : lchk l = 0
 case neg => exact .inl ⟨1, by omega, fun W hW => lCut_e1 l q hs (by omega) h W hW⟩
 have hok := lchk_zero.1 h
 by_cases hq : Can q
 case neg => exact .inl ⟨1, by omega, fun W hW => lCut_e2 l q hs (by omega) hok hq W hW⟩
 rcases Int.lt_or_le 0 (vl q) with h0 | h0
 case inr => exact .inl ⟨2, by omega, fun W hW => lCut_e3 l q hs (by omega) hok hq h0 W hW⟩
 rcases Int.lt_or_le (vl q) (vl l.qty) with h1 | h1
 case inr => exact .inl ⟨2, by omega, fun W hW => lCut_e4 l q hs (by omega) hok hq h0 h1 W hW⟩
 refine .inr ⟨cutA l q, cutB l q, ?_, ?_, rfl, rfl, ?_, ?_, fun W hW => lCut_ok l q hs hok hq (by omega) h0 h1 W hW⟩
 all_goals
  obtain ⟨z1, z2⟩ := share_bounds (t := vl l.cost) (p := vl q) (a := vl l.qty) hok.pc (by omega) hok.pq (by omega)
  have hZ : cutZ l q = shareZ (vl l.cost) (vl q) (vl l.qty) := rfl
  have hbc : (vl l.cost).natAbs < 10 ^ 13 := Nat.lt_of_lt_of_le (vl_lt l.cost) (pow_mono hti.2.1)
  have hbq : (vl l.qty).natAbs < 10 ^ 13 := Nat.lt_of_lt_of_le (vl_lt l.qty) (pow_mono hti.1)
  have s1 : (I (cutZ l q)).size ≤ 14 := I_size_le (k := 13) (by rw [hZ]; omega)
  have s2 : (I (vl l.qty - vl q)).size ≤ 14 := I_size_le (k := 13) (by omega)
  have s3 : (I (vl l.cost - cutZ l q)).size ≤ 14 := I_size_le (k := 13) (by rw [hZ]; omega)
  have hU : ∀ x : ByteArray, x.size ≤ 1000 → (cutU l x).size ≤ 1000 := by
   intro x hx
   unfold cutU
   split
   ·decide
   ·exact hx
  obtain ⟨t1, t2, t3, t4, t5⟩ := hti
 ·exact ⟨by show l.id.size ≤ _; omega, by show l.inst.size ≤ _; omega, by show q.size ≤ _; omega, by show (I _).size ≤ _; omega, hU q (by omega)⟩
 ·exact ⟨by show l.id.size ≤ _; omega, by show l.inst.size ≤ _; omega, by show (I _).size ≤ _; omega, by show (I _).size ≤ _; omega, hU _ (by omega)⟩
 ·show vl q + vl (I (vl l.qty - vl q)) = _
  rw [vl_I]; omega
 ·show vl (I (cutZ l q)) + vl (I (vl l.cost - cutZ l q)) = _
  rw [vl_I, vl_I]; omega
theorem run_app2 (W : World) (base : Nat) (v : Value) (n : Nat) (xs : List Value) (hown : W.ownsRow base 36 7 v n xs) (Bn : Nat) (LA LB : Lot) (hB : W.heap[Bn]? = some (.cells #[.string LA.id, .string LA.inst, .int .i64 LA.acq, .int .i64 LA.opn, .string LA.qty, .string LA.cost, .string LA.used, .string LB.id, .string LB.inst, .int .i64 LB.acq, .int .i64 LB.opn, .string LB.qty, .string LB.cost, .string LB.used] 36 (0, 0))) (hn : n ≤ 100000) (hb : base ≤ W.heap.size) :
 ∃ v5 w5, (Builtin.append_ #[22, 22] 22 #[v, .slice (some ⟨Bn, 0, none⟩) 2 2]).run Tryz.prog W = .ok v5 w5 ∧ w5.ownsRow base 36 7 v5 (n + 2) (xs ++ (LA.cells.toList ++ LB.cells.toList)) ∧ W.grownBy w5 v.ownBlock := by
 obtain ⟨i0, hi0, hz0, hz1, hz2⟩ := info_parts Tryz.infoLot
 obtain ⟨v5, w5, h1, h2, h3, _⟩ := run_append_own (P := Tryz.prog) W base 22 22 36 i0 _ 7 96 Tryz.underlying22 hi0 hz0 hz1 hz2 rfl (by decide) v n xs hown ⟨Bn, 0, none⟩ 2 2 (LA.cells.toList ++ LB.cells.toList) rfl
  (fun j u hu => by
    rw [addr_add0, Lib.cell_of_heap hB j, ← Array.getElem?_toList]
    exact hu)
  (fun u hu => by
    rcases List.mem_append.1 hu with hu | hu <;> simp at hu <;> rcases hu with rfl | rfl | rfl | rfl | rfl | rfl | rfl <;> rfl) (by unfold maxLen; omega) (by omega) hb
 exact ⟨v5, w5, h1, h2, h3⟩
structure XU (w : World) (x LA LB : Lot) (Bx Ba Bb : Nat) (W : World) : Prop where
 be : Below w.heap.size w W
 bx : LotBox W Bx x
 ba : LotBox W Ba LA
 bb : LotBox W Bb LB
theorem XU.below {w : World} {x LA LB : Lot} {Bx Ba Bb : Nat} {W W' : World} (h : XU w x LA LB Bx Ba Bb W) (hb : Below W.heap.size W W') : XU w x LA LB Bx Ba Bb W' :=
 ⟨h.be.trans (hb.mono h.be.size), h.bx.below hb, h.ba.below hb, h.bb.below hb⟩
theorem XU.grown {w : World} {x LA LB : Lot} {Bx Ba Bb : Nat} {W W' : World} {row : Option Nat} (h : XU w x LA LB Bx Ba Bb W) (hg : W.grownBy W' row) (hr : ∀ k, row = some k → w.heap.size ≤ k ∧ Bx ≠ k ∧ Ba ≠ k ∧ Bb ≠ k) : XU w x LA LB Bx Ba Bb W' :=
 ⟨h.be.grown hg h.be.size (fun k e => (hr k e).1), (hg.block _ h.bx.lt (fun e => (hr _ e.symm).2.1 rfl)).trans h.bx, (hg.block _ h.ba.lt (fun e => (hr _ e.symm).2.2.1 rfl)).trans h.ba, (hg.block _ h.bb.lt (fun e => (hr _ e.symm).2.2.2 rfl)).trans h.bb⟩
def LotR (W : World) (la : List SLot) (v : Value) : Prop := ∃ A c n, v = .slice A la.length c ∧ RdB n W A la ∧ n ≤ W.heap.size
theorem lotr_app {W : World} {base : Nat} {v : Value} {lb : List SLot} {sa sb : SLot} (h : W.ownsRow base 36 7 v (lb.length + 2) (flatL lb ++ (sa.1.cells.toList ++ sb.1.cells.toList))) : LotR W (lb ++ [sa, sb]) v := by
 have e : flatL (lb ++ [sa, sb]) = flatL lb ++ (sa.1.cells.toList ++ sb.1.cells.toList) := by rw [flatL_append]; simp [flatL]
 have l : (lb ++ [sa, sb]).length = lb.length + 2 := by simp
 rw [← e, ← l] at h
 obtain ⟨A, c, h1, _, _, h2⟩ := RdB.of_own h
 exact ⟨A, c, _, h1, h2, Nat.le_refl _⟩
theorem sum_two (f : SLot → Int) (lb : List SLot) (sa sb : SLot) (s : ByteArray) (ha : sa.1.inst = s) (hb : sb.1.inst = s) : sumBy f (ownL (lb ++ [sa, sb]) s) = sumBy f (ownL lb s) + (f sa + f sb) := by
 rw [show lb ++ [sa, sb] = (lb ++ [sa]) ++ [sb] from by simp, ownL_snoc, if_pos hb, ownL_snoc, if_pos ha, sumBy_snoc, sumBy_snoc, Int.add_assoc]
theorem step_append_run' {P : Program} {ops : Array Oper} {o : Oper} {a : Act} {K : Act → World → Prop} {Q : Exit → Act → World → Prop} {E : Prop} {t ty : TypeId} {sv xv v' : Value} {w w' : World} (hr : (Builtin.append_ #[t, t] ty #[sv, xv]).run P w = .ok v' w') (hgd : o.guard = none) (s x : Operand)
 (ho : o.op = .call { callee := .builtin .append, args := #[s, x], argTypes := #[t, t] }) (hty : o.type = ty) (hs : a.eval s = sv) (hx : a.eval x = xv) (h : K (a.put o.dst v') w') :
 if Region.wanted o (yielded ops a.tmps) = true then Oper.wp P o a w K Q else E := by
 subst hty
 have hw : Region.wanted o (yielded ops a.tmps) = true := by simp [Region.wanted, hgd]
 rw [if_pos hw]
 unfold Oper.wp execOp
 simp only [ho, resolve, invoke, builtin, Sem.run_bind, Sem.run_pure, Result.andThen_ok, List.map_toArray, List.map_cons, List.map_nil, hs, hx, hr]
 exact h
end Go.Proofs.YthmfkgcoocikjaaGreatDoor
