/-
  slices.IndexFunc and slices.DeleteFunc of flows, whatever the function; the walk of bond.Rest.
  What valid bonds of not too many periods answer.
  The walks of tranchelaw11.ratio, day, sign, fine.
  Flows compared as the machine does it; slices.Equal, trancheref11.SameFlows over flows.
-/
import Derived.Test.YtcnmoobojdopgaaGreatDoorS34
import Derived.Lib.SliceRun
import Derived.Test.YtcnmoobojdopgaaGreatDoorS24
import Derived.Laws.StructEq
import Derived.BigQuiet
set_option linter.unusedVariables false
set_option linter.unusedSimpArgs false
set_option maxHeartbeats 16000000
set_option maxRecDepth 100000
namespace Go.Proofs.YtcnmoobojdopgaaGreatDoor
open Go.RowKit Tr Go.Shelf
theorem wpList_store_runF {P : Program} {ops : Array Oper} {rest : List Oper} {o : Oper} {a : Act} {Q : Exit → Act → World → Prop} {t : TypeId} {pv xv : Value} {w w' : World} (hr : (Instr.storeAt t pv xv).run P w = .ok () w') (hgd : o.guard = none) (p x : Operand)
 (ho : o.op = .store t p x) (hp : a.eval p = pv) (hx : a.eval x = xv) (h : wpList P ops Q rest (a.put o.dst undef) w') : wpList P ops Q (o :: rest) a w :=
 wpList_plain hgd fun _ hK => by
  unfold Oper.wp execOp
  simp only [ho, hp, hx, Sem.run_bind, Sem.run_pure, Result.andThen_ok, hr]
  exact hK _ _ h
section
variable {α : Type}
theorem set_midF {P Q : List α} {x : α} {k : Nat} (h : P.length = k) (y : α) : (P ++ x :: Q).set k y = P ++ y :: Q := by
 subst h; rw [List.set_append_right _ _ (Nat.le_refl _), Nat.sub_self]; rfl
end
theorem add_noneF (p : Addr) (hp : p.spot = none) (n : Nat) : p.add n = ⟨p.block, p.off + n, none⟩ := by
 unfold Addr.add
 split
 ·next h => subst h; cases p; simp_all
 ·cases p; simp_all
theorem take_snocF {α : Type} {ls : List α} {k : Nat} {l : α} (h : ls[k]? = some l) : ls.take (k + 1) = ls.take k ++ [l] := by
 obtain ⟨hlt, he⟩ := List.getElem?_eq_some_iff.1 h
 rw [List.take_succ_eq_append_getElem hlt, he]
theorem splitF {α : Type} {D : List α} {k : Nat} {x : α} (h : D[k]? = some x) : ∃ P Q, D = P ++ x :: Q ∧ P.length = k := by
 obtain ⟨hk, he⟩ := List.getElem?_eq_some_iff.1 h
 refine ⟨D.take k, D.drop (k + 1), ?_, by rw [List.length_take]; omega⟩
 rw [← he, ← List.drop_eq_getElem_cons hk, List.take_append_drop]
theorem flV_append (a b : List (Int × Rat)) : flV (a ++ b) = flV a ++ flV b := by simp [flV]
theorem flV_cons (x : Int × Rat) (a : List (Int × Rat)) : flV (x :: a) = [.int .i64 x.1, .string (I x.2.num), .string (dn x.2)] ++ flV a := by simp [flV]
theorem flV_len (ls : List (Int × Rat)) : (flV ls).length = ls.length * 3 := by
 induction ls with
 | nil => rfl
 | cons x r ih => rw [flV_cons, List.length_append, ih, List.length_cons]; simp; omega
theorem flE_one (x : Int × Rat) : ∀ u ∈ [Value.int .i64 x.1, .string (I x.2.num), .string (dn x.2)], u.oneCell' = true := by
 intro u hu
 simp at hu
 rcases hu with rfl | rfl | rfl <;> rfl
structure FRow (w0 : World) (g : Nat) (sp : List Value) (D : List (Int × Rat)) (W : World) : Prop where
 row : W.heap[g]? = some (.cells (flV D ++ sp).toArray 43 (0, 0))
 gr : w0.grownBy W (some g)
 lt : g < w0.heap.size
section
variable {w0 W W' : World} {g k : Nat} {sp : List Value} {D : List (Int × Rat)} {x : Int × Rat}
theorem FRow.ltW (h : FRow w0 g sp D W) : g < W.heap.size := Nat.lt_of_lt_of_le h.lt h.gr.size
theorem FRow.below (h : FRow w0 g sp D W) (hb : Below W.heap.size W W') : FRow w0 g sp D W' :=
 ⟨(hb.block g h.ltW).trans h.row, ⟨hb.os.trans h.gr.os, hb.tape.trans h.gr.tape, hb.output.trans h.gr.output, Nat.le_trans h.gr.size hb.size, fun k hk hne => (hb.block k (Nat.lt_of_lt_of_le hk h.gr.size)).trans (h.gr.block k hk hne)⟩, h.lt⟩
theorem FRow.at (h : FRow w0 g sp D W) (hk : D[k]? = some x) : W.cell? ⟨g, k * 3, none⟩ = some (.int .i64 x.1) ∧ W.cell? ⟨g, k * 3 + 1, none⟩ = some (.string (I x.2.num)) ∧ W.cell? ⟨g, k * 3 + 2, none⟩ = some (.string (dn x.2)) := by
 obtain ⟨P, Q, rfl, hP⟩ := splitF hk
 have hl : (flV P).length = k * 3 := by rw [flV_len, hP]
 have hc : ∀ f u, f < 3 → [Value.int .i64 x.1, .string (I x.2.num), .string (dn x.2)][f]? = some u → W.cell? ⟨g, k * 3 + f, none⟩ = some u := fun f u hf hu => by
  rw [Lib.cell_of_heap h.row (k * 3 + f), List.getElem?_toArray, flV_append, flV_cons, List.append_assoc, List.getElem?_append_right (by omega), hl, Nat.add_sub_cancel_left, List.append_assoc, List.getElem?_append_left (by exact hf)]
  exact hu
 exact ⟨hc 0 _ (by omega) rfl, hc 1 _ (by omega) rfl, hc 2 _ (by omega) rfl⟩
theorem adkF {ad : Addr} (had : ad = ⟨g, 0, none⟩) (n : Nat) : ad.add n = ⟨g, n, none⟩ := by
 rw [had, add_noneF _ rfl]; simp
theorem FRow.at' {ad : Addr} (h : FRow w0 g sp D W) (had : ad = ⟨g, 0, none⟩) (hk : D[k]? = some x) : W.cell? (ad.add (k * 3)) = some (.int .i64 x.1) ∧ W.cell? ⟨(ad.add (k * 3)).block, (ad.add (k * 3)).off + 1, none⟩ = some (.string (I x.2.num)) ∧ W.cell? ⟨(ad.add (k * 3)).block, (ad.add (k * 3)).off + 2, none⟩ = some (.string (dn x.2)) := by
 rw [adkF had]; exact h.at hk
theorem FRow.put (h : FRow w0 g sp D W) (y : Int × Rat) : FRow w0 g sp (D.set k y) (W.setRow g (flV (D.set k y) ++ sp).toArray) := by
 refine ⟨setRow_heap _ g _ _ _ _ h.row, ⟨h.gr.os, h.gr.tape, h.gr.output, by simp [World.setRow]; exact h.gr.size, fun j hj hne => ?_⟩, h.lt⟩
 rw [setRow_other _ g j _ (fun e => hne (by rw [e]))]
 exact h.gr.block j hj hne
end
structure KeptF (pf : Int × Rat → Bool) (D0 : List (Int × Rat)) (i j : Nat) (D : List (Int × Rat)) : Prop where
 len : D.length = D0.length
 lt : i < j
 le : j ≤ D0.length
 fr : D.take i = (D0.take j).filter fun x => !pf x
 bk : ∀ k, j ≤ k → D[k]? = D0[k]?
theorem KeptF.start {pf : Int × Rat → Bool} {D0 : List (Int × Rat)} {k : Nat} {x : Int × Rat} (hx : D0[k]? = some x) (hp : pf x = true) (ha : ∀ y ∈ D0.take k, pf y = false) : KeptF pf D0 k (k + 1) D0 := by
 have hk := (List.getElem?_eq_some_iff.1 hx).1
 refine ⟨rfl, Nat.lt_succ_self k, hk, ?_, fun _ _ => rfl⟩
 rw [take_snocF hx, List.filter_append, List.filter_eq_self.2 (fun y hy => by rw [ha y hy]; rfl)]
 simp [hp]
theorem KeptF.done {pf : Int × Rat → Bool} {D0 D : List (Int × Rat)} {i : Nat} (h : KeptF pf D0 i D0.length D) : D.take i = D0.filter fun x => !pf x := by rw [h.fr, List.take_of_length_le (Nat.le_refl _)]
theorem KeptF.num {pf : Int × Rat → Bool} {D0 D : List (Int × Rat)} {i : Nat} (h : KeptF pf D0 i D0.length D) : (D0.filter fun x => !pf x).length = i := by rw [← h.done, List.length_take, h.len]; have := h.lt; omega
end Go.Proofs.YtcnmoobojdopgaaGreatDoor
namespace Go.Proofs.YtcnmoobojdopgaaGreatDoor
open Go.RowKit Tr Go.Shelf
abbrev Few (i : Inst) : Prop := (cuts i.issued i.matures i.months).length ≤ 399
theorem life_ok {i : Inst} (h : BdI i) {d : Int} (h1 : i.issued ≤ d) (h2 : d ≤ i.matures) : okDay d := by
 obtain ⟨a0, a1⟩ := h.ok.issued
 obtain ⟨⟨b0, b1⟩, _⟩ := h.mat
 exact ⟨by omega, by omega⟩
theorem bDirty_few {i : Inst} (h : BdI i) (hc : Few i) {d : Int} (h1 : i.issued ≤ d) (h2 : d ≤ i.matures) (fn fd : ByteArray) (s1 : fn.size ≤ 900000) (s2 : fd.size ≤ 900000) (hb : BdQ (fv fn fd) 1000) (hq : CanQ fn fd) (w : World) (ht : Tabs w) :
 Calls Tryz.prog 16 #[i.enc, .int .i64 d, .agg #[.string fn, .string fd]] w fun e w' => e = .returned (.tuple #[fenc (fv fn fd + accQ i d), .int .i64 0]) ∧ Below w.heap.size w w' := by
 refine (bDirty_any i h d fn fd s1 s2 hb hq w ht).mono ?_
 rintro e w' ⟨hb, hr⟩
 refine ⟨?_, hb⟩
 have h3 : (cuts i.issued i.matures i.months).length ≤ 399 := hc
 rcases hr with ⟨hl, _⟩ | ⟨_, ⟨hd, _⟩ | ⟨_, ⟨hd, _⟩ | ⟨_, he⟩⟩⟩
 ·omega
 ·exact absurd (life_ok h h1 h2) hd
 ·exact absurd ⟨h1, h2⟩ hd
 ·exact he
theorem bAcc_few {i : Inst} (h : BdI i) (hc : Few i) {d : Int} (h1 : i.issued ≤ d) (h2 : d ≤ i.matures) (w : World) (ht : Tabs w) : Calls Tryz.prog 14 #[i.enc, .int .i64 d] w fun e w' =>
 e = .returned (.tuple #[fenc (accQ i d), .int .i64 0]) ∧ Below w.heap.size w w' := by
 refine (bAccrued_any i h d w ht).mono ?_
 rintro e w' ⟨hb, hr⟩
 refine ⟨?_, hb⟩
 have h3 : (cuts i.issued i.matures i.months).length ≤ 399 := hc
 rcases hr with ⟨hl, _⟩ | ⟨_, ⟨hd, _⟩ | ⟨_, ⟨hd, _⟩ | ⟨_, he⟩⟩⟩
 ·omega
 ·exact absurd (life_ok h h1 h2) hd
 ·exact absurd ⟨h1, h2⟩ hd
 ·rw [Rat.zero_add] at he
  exact he
theorem bPres_few {i : Inst} (h : BdI i) (hc : Few i) {d : Int} (h1 : i.issued ≤ d) (h2 : d ≤ i.matures) (yn yd : ByteArray) (s1 : yn.size ≤ 60) (s2 : yd.size ≤ 59) (hq : CanQ yn yd) (hy : 0 < 1 + fv yn yd) (w : World) (ht : Tabs w) :
 Calls Tryz.prog 15 #[i.enc, .int .i64 d, .agg #[.string yn, .string yd]] w fun e w' => e = .returned (.tuple #[fenc (if d = i.matures then 0 else presQ i d (fv yn yd)), .int .i64 0]) ∧ Below w.heap.size w w' := by
 refine (bPresent_any i h d yn yd s1 s2 hq w ht).mono ?_
 rintro e w' ⟨hb, hr⟩
 refine ⟨?_, hb⟩
 have h3 : (cuts i.issued i.matures i.months).length ≤ 399 := hc
 rcases hr with ⟨hl, _⟩ | ⟨_, ⟨hd, _⟩ | ⟨_, ⟨hd, _⟩ | ⟨_, ⟨hd, _⟩ | ⟨_, ⟨hd, he⟩ | ⟨hd, he⟩⟩⟩⟩⟩
 ·omega
 ·exact absurd (life_ok h h1 h2) hd
 ·exact absurd hy (Rat.not_lt.2 hd)
 ·exact absurd ⟨h1, h2⟩ hd
 ·rw [if_pos hd]; exact he
 ·rw [if_neg (by omega)]; exact he
theorem bFlows_few {i : Inst} (h : BdI i) (hc : Few i) (w : World) (ht : Tabs w) : Calls Tryz.prog 13 #[i.enc] w fun e w' =>
 (∃ g c sp, e = .returned (.tuple #[.slice (some ⟨g, 0, none⟩) (flowsL i).length c, .int .i64 0]) ∧ (flowsL i).length ≤ c ∧ w.heap.size ≤ g ∧ w'.heap[g]? = some (.cells (flV (flowsL i) ++ sp).toArray 43 (0, 0))) ∧ Below w.heap.size w w' := by
 refine (bFlows_any i h w ht).mono ?_
 rintro e w' ⟨hb, hr⟩
 refine ⟨?_, hb⟩
 have h3 : (cuts i.issued i.matures i.months).length ≤ 399 := hc
 rcases hr with ⟨hl, _⟩ | ⟨_, v, rfl, how, _⟩
 ·omega
 ·have hN0 : 0 < (flowsL i).length := List.length_pos_iff.2 (flows_ne h)
  rcases how.2 with ⟨_, h0⟩ | ⟨g, c, cur, rfl, hbg, hg, hnc, _, _, ht⟩
  ·omega
  ·refine ⟨g, c, cur.toList.drop ((flowsL i).length * 3), rfl, hnc, hbg, ?_⟩
   rw [← ht, List.take_append_drop]
   exact hg
theorem ratio11_any (n d : Int) (h0 : -9000000000000000000 ≤ n) (h1 : n ≤ 9000000000000000000) (g0 : -9000000000000000000 ≤ d) (g1 : d ≤ 9000000000000000000) (hd : d ≠ 0) (w : World) (ht : Tabs w) :
 Calls Tryz.prog 10 #[.int .i64 n, .int .i64 d] w fun e w' => e = .returned (fenc (Rat.divInt n d)) ∧ Below w.heap.size w w' := by
 have HO1 := hI (fun W (hW : Tabs W) => Of_any n (by omega) (by omega) W hW)
 have HO2 := hI (fun W (hW : Tabs W) => Of_any d (by omega) (by omega) W hW)
 have HNW := hI (fun W (hW : Tabs W) => fNewI h0 h1 g0 g1 hd W hW)
 have HT := hI ht
 obtain ⟨q, hq⟩ : ∃ q, Rat.divInt n d = q := ⟨_, rfl⟩
 rw [hq] at HNW ⊢
 clear hq h0 h1 g0 g1 hd ht
 obtain ⟨W0, hW0⟩ : ∃ W0, w.alloc fz = W0 := ⟨_, rfl⟩
 have hg : BX w [(w.heap.size, fz)] W0 := by rw [← hW0]; exact BX.push (W := w) ⟨Below.refl _ _, fun _ h => by cases h⟩ fz
 unfold fenc at HNW ⊢
 go_enter Tryz.func10, Tryz.ntmps10
 go_wp2_with fail
 refine (HO1.out _ (HT.out.below hg.1)).mono ?_
 rintro e w1 ⟨rfl, b1⟩
 have hg1 := hg.below b1
 clear hg b1 hW0
 go_wp2_with fail
 refine (HO2.out _ (HT.out.below hg1.1)).mono ?_
 rintro e w2 ⟨rfl, b2⟩
 have hg2 := hg1.below b2
 clear hg1 b2
 go_wp2_with fail
 refine (HNW.out _ (HT.out.below hg2.1)).mono ?_
 rintro e w3 ⟨rfl, b3⟩
 have hg3 := hg2.below b3
 clear hg2 b3
 have k0 := hg3.get 0 rfl
 have l0 := hg3.lt 0 rfl
 have m0 := Lib.cell_of_heap k0 0
 have m1 := Lib.cell_of_heap k0 1
 have f0 := Lib.frozen_of_heap k0 0
 have f1 := Lib.frozen_of_heap k0 1
 simp at m0 m1 f0 f1
 have ne : w3.heap.size ≠ w.heap.size := by omega
 have HB3 := hI hg3.1
 have HK0 := hI k0
 clear k0 hg3
 go_wp2_with fail
 have k2 := heap_keep1 (Go.Proofs.YtcnmoobojdopgaaGreatDoor.set2 HK0.out (.string (I q.num)) (.string (dn q))) (.cells #[.string (I q.num), .string (dn q)] 25)
 have j0 := Lib.cell_of_heap k2 0
 have j1 := Lib.cell_of_heap k2 1
 simp at j0 j1
 refine bodyPost_ret (v := .agg #[.string (I q.num), .string (dn q)]) (by simp [results, Tryz.results10, go_sem, j0, j1]) rfl ?_
 have hb := set2_below (Nat.le_refl _) HB3.out (.string (I q.num)) (.string (dn q))
 exact ⟨rfl, hb.alloc hb.size _⟩
theorem day11_any (y : Int) (m : Nat) (d : Int) (hv : VDate y m d) (w : World) :
 Calls Tryz.prog 45 #[.int .i64 y, .int .i64 (m : Int), .int .i64 d] w fun e w' => e = .returned (.int .i64 (dayOf y m d)) ∧ Below w.heap.size w w' := by
 have HO := hI (dOf_any y m d hv w)
 generalize dayOf y m d = z at *
 go_enter Tryz.func45, Tryz.ntmps45
 go_wp2_with fail
 refine HO.out.mono ?_
 rintro e w1 ⟨rfl, b1⟩
 go_wp2_with fail
 go_ret
 exact ⟨rfl, b1⟩
theorem cmpz (q : Rat) : (cmpI q.num 0 = 0 ↔ q = 0) ∧ (0 < cmpI q.num 0 ↔ 0 < q) ∧ (cmpI q.num 0 < 0 ↔ q < 0) := by
 have h1 : q.num = 0 ↔ q = 0 := Rat.num_eq_zero
 have h2 : 0 < q.num ↔ 0 < q := num_pos'
 have h3 : q.num < 0 ↔ q < 0 := by
  constructor
  ·intro h
   refine Rat.not_le.1 fun k => ?_
   have := Rat.num_nonneg.2 k
   omega
  ·intro h
   refine Int.not_le.1 fun k => ?_
   exact Rat.not_le.2 h (Rat.num_nonneg.1 k)
 rw [← h1, ← h2, ← h3]
 unfold cmpI
 refine ⟨?_, ?_, ?_⟩ <;> repeat' split
 all_goals omega
def Fine11 (i : Inst) : Prop := i.tiny ∧ BdI i ∧ (cuts i.issued i.matures i.months).length ≤ 14
open Classical in
noncomputable def sameB {α : Type} (a b : α) : Bool := decide (a = b)
theorem sameB_yes {α : Type} {a b : α} (h : a = b) : sameB a b = true := by unfold sameB; simp [h]
theorem sameB_no {α : Type} {a b : α} (h : a ≠ b) : sameB a b = false := by unfold sameB; simp [h]
theorem tl_eq2 (a b : ByteArray) : (a.toList = b.toList) ↔ (a = b) := by
 have h := str_eq a b
 constructor
 ·intro e
  rw [e] at h
  simpa using h
 ·intro e; rw [e]
theorem take_same {α : Type} {l m : List α} {k : Nat} {x y : α} (h : l.take k = m.take k) (hx : l[k]? = some x) (hy : m[k]? = some y) (e : x = y) : l.take (k + 1) = m.take (k + 1) := by
 rw [take_snocF hx, take_snocF hy, h, e]
theorem ne_at {α : Type} {l m : List α} {k : Nat} {x y : α} (hx : l[k]? = some x) (hy : m[k]? = some y) (e : x ≠ y) : l ≠ m := by
 intro h
 rw [h, hy] at hx
 exact e (Option.some.inj hx).symm
def FwAt (w : World) (ad : Addr) (x : Int × Rat) : Prop := w.cell? ad = some (.int .i64 x.1) ∧ w.cell? ⟨ad.block, ad.off + 1, none⟩ = some (.string (I x.2.num)) ∧ w.cell? ⟨ad.block, ad.off + 2, none⟩ = some (.string (dn x.2))
def RdFw (n₀ : Nat) (w : World) (A : Option Addr) (ps : List (Int × Rat)) : Prop :=
 ps ≠ [] → ∃ ad : Addr, A = some ad ∧ ad.block < n₀ ∧ ∀ (j : Nat) (x : Int × Rat), ps[j]? = some x → FwAt w (ad.add (j * 3)) x
theorem FwAt.below {n₀ : Nat} {w w' : World} {ad : Addr} {x : Int × Rat} (h : FwAt w ad x) (hb : Below n₀ w w') (ha : ad.block < n₀) (hs : ad.spot = none) : FwAt w' ad x := by
 obtain ⟨b, o, s⟩ := ad
 simp only at hs ha
 subst hs
 have e : ∀ k, w'.cell? ⟨b, k, none⟩ = w.cell? ⟨b, k, none⟩ := fun k => by unfold World.cell?; rw [hb.block b ha]
 exact ⟨(e _).trans h.1, (e _).trans h.2.1, (e _).trans h.2.2⟩
theorem RdFw.below {n₀ : Nat} {w w' : World} {A : Option Addr} {ps : List (Int × Rat)} (h : RdFw n₀ w A ps) (hb : Below n₀ w w') (hs : ∀ ad, A = some ad → ad.spot = none) : RdFw n₀ w' A ps := by
 intro hl
 obtain ⟨ad, rfl, h1, h2⟩ := h hl
 refine ⟨ad, rfl, h1, fun j x hj => (h2 j x hj).below hb ?_ ?_⟩
 ·rw [add_block]; exact h1
 ·rw [add_noneF _ (hs ad rfl)]
theorem rdfw_row {w : World} {g : Nat} {ps : List (Int × Rat)} {sp : List Value} (h : w.heap[g]? = some (.cells (flV ps ++ sp).toArray 43 (0, 0))) : RdFw w.heap.size w (some ⟨g, 0, none⟩) ps := by
 intro _
 have hs : FRow w g sp ps w := ⟨h, ⟨rfl, rfl, rfl, Nat.le_refl _, fun _ _ _ => rfl⟩, (Array.getElem?_eq_some_iff.1 h).1⟩
 exact ⟨_, rfl, (Array.getElem?_eq_some_iff.1 h).1, fun j x hj => hs.at' rfl hj⟩
theorem flow_iff (x y : Int × Rat) : x = y ↔ x.1 = y.1 ∧ I x.2.num = I y.2.num ∧ dn x.2 = dn y.2 := by
 obtain ⟨a, p⟩ := x
 obtain ⟨b, q⟩ := y
 constructor
 ·intro h; injection h with h1 h2; subst h1; subst h2; exact ⟨rfl, rfl, rfl⟩
 ·rintro ⟨h1, h2, h3⟩
  have h4 : p = q := by rw [← fv_enc p, ← fv_enc q]; simp only at h2 h3; rw [h2, h3]
  simp only at h1
  rw [h1, h4]
theorem eqGuard_flow (op : BinOp) (x y : Operand) (xs ys : Array Value) (w : World) : (eqGuard op 43 x y (.agg xs) (.agg ys)).run Tryz.prog w = .ok () w := run_eqGuard_agg w op _ x y xs ys (by kernel_rfl)
attribute [local go_sem] eqGuard_flow
theorem run_neq_flow (x y : Int × Rat) (w : World) : (binOp .neq 43 (.agg #[.int .i64 x.1, .string (I x.2.num), .string (dn x.2)]) (.agg #[.int .i64 y.1, .string (I y.2.num), .string (dn y.2)])).run Tryz.prog w = .ok (.bool (!sameB x y)) w := by
 have hS : Tryz.prog.underlying 43 = some (.struct (Tryz.prog.fieldsOf 43)) := by kernel_rfl
 have hp : Tryz.prog.stoodInHeld 43 = false := by kernel_rfl
 have hS2 : Tryz.prog.underlying 25 = some (.struct (Tryz.prog.fieldsOf 25)) := by kernel_rfl
 have hp2 : Tryz.prog.stoodInHeld 25 = false := by kernel_rfl
 have u0 := Tryz.underlying22
 have a0 := Tryz.isAgg22
 have z0 := Tryz.sizeOf22
 have u1 := Tryz.underlying23
 have a1 := Tryz.isAgg23
 have z1 := Tryz.sizeOf23
 have a2 := Tryz.isAgg25
 have z2 := Tryz.sizeOf25
 rw [run_neq_struct, show (10000 : Nat) = 9998 + 1 + 1 from rfl, run_equalIn_agg w (9998 + 1) _ _ _ hS hp]
 have hin := fun (xs ys : Array Value) (w : World) => run_equalIn_agg (P := Tryz.prog) w 9998 25 xs ys hS2 hp2
 simp only [Program.fieldsOf, Tryz.underlying43, Tryz.underlying25] at hin ⊢
 go_simp
 by_cases h0 : x.1 = y.1
 case neg => rw [sameB_no (fun e => h0 (by rw [e]))]; simp [tl_eq2, h0]
 by_cases h1 : I x.2.num = I y.2.num
 case neg => rw [sameB_no (fun e => h1 (by rw [e]))]; simp [tl_eq2, h0, h1]
 by_cases h2 : dn x.2 = dn y.2
 case neg => rw [sameB_no (fun e => h2 (by rw [e]))]; simp [tl_eq2, h0, h1, h2]
 rw [sameB_yes ((flow_iff x y).2 ⟨h0, h1, h2⟩)]; simp [tl_eq2, h0, h1, h2]
theorem eqFlows_any (A1 A2 : Option Addr) (l1 l2 : List (Int × Rat)) (c1 c2 : Nat) (h1 : l1.length ≤ 1000000) (h2 : l2.length ≤ 1000000) (n1 n2 : Nat) (w : World) (r1 : RdFw n1 w A1 l1) (r2 : RdFw n2 w A2 l2) :
 Calls Tryz.prog 46 #[.slice A1 l1.length c1, .slice A2 l2.length c2] w fun e w' => e = .returned (.bool (sameB l1 l2)) ∧ ∃ m, w' = w.drewN m := by
 have R1 := hI r1
 have R2 := hI r2
 clear r1 r2
 by_cases hl : l1.length = l2.length
 case neg =>
  have tn : ((l1.length : Int) != (l2.length : Int)) = true := by rw [bne, beq_eq_false_iff_ne.2 (by omega)]; rfl
  have tn' : (l1.length != l2.length) = true := by rw [bne, beq_eq_false_iff_ne.2 hl]; rfl
  have te : ((l1.length : Int) == (l2.length : Int)) = false := beq_eq_false_iff_ne.2 (by omega)
  have te' : (l1.length == l2.length) = false := beq_eq_false_iff_ne.2 hl
  have HS := hI (sameB_no (fun e => hl (by rw [e])) : sameB l1 l2 = false)
  clear hl
  go_enter Tryz.func46, Tryz.ntmps46
  go_wp2_with fail
  go_ret
  exact ⟨by rw [HS.out]; rfl, 0, rfl⟩
 obtain ⟨n, hn⟩ : ∃ n, l1.length = n := ⟨_, rfl⟩
 rw [← hl, hn]
 have tn : ((n : Int) != (n : Int)) = false := by simp
 have HL : Hid (l1.length = n ∧ l2.length = n) := ⟨hn, hl ▸ hn⟩
 have hnn : n ≤ 1000000 := by omega
 clear hl hn h1 h2
 go_enter Tryz.func46, Tryz.ntmps46
 go_wp2_with fail
 go_loopw [5, 13] (fun _ v wr => ∃ k m : Nat, v = .int .i64 (k : Int) ∧ k ≤ n ∧ wr = w.drewN m ∧ l1.take k = l2.take k) (fun _ v _ => n - (intOf v).toNat)
 case atStart => exact ⟨0, 0, rfl, by omega, rfl, rfl⟩
 case round =>
  obtain ⟨k, m, rfl, hk, rfl, htk⟩ := hrel
  have HTK := hI htk
  clear tn htk
  rcases Nat.lt_or_ge k n with hlt | hge
  ·obtain ⟨x, hx⟩ : ∃ x, l1[k]? = some x := ⟨_, List.getElem?_eq_getElem (by rw [HL.out.1]; exact hlt)⟩
   obtain ⟨y, hy⟩ : ∃ y, l2[k]? = some y := ⟨_, List.getElem?_eq_getElem (by rw [HL.out.2]; exact hlt)⟩
   obtain ⟨a1, rfl, _, hc1⟩ := R1.out (by intro e; rw [e] at hx; cases hx)
   obtain ⟨a2, rfl, _, hc2⟩ := R2.out (by intro e; rw [e] at hy; cases hy)
   have p := hc1 k x hx
   have q := hc2 k y hy
   obtain ⟨p0, p1, p2⟩ := p
   obtain ⟨q0, q1, q2⟩ := q
   have hcx : decide ((k : Int) < (n : Int)) = true := by simp; omega
   have hb : (k : Int) < (n : Int) := by omega
   have hne := run_neq_flow x y
   by_cases he : x = y
   ·rw [sameB_yes he] at hne
    have HST := hI (take_same HTK.out hx hy he)
    clear hc1 hc2 hx hy he
    go_wp2_with fail
    go_quiet (fail)
    go_wp2_with fail
    go_roundw
    case rel => exact ⟨k + 1, m + nq, by go_num, by omega, by first | rfl | rw [World.drewN_drewN], HST.out⟩
    case measure => simp [intOf]; omega
   ·rw [sameB_no he] at hne
    have HST := hI (sameB_no (ne_at hx hy he))
    clear hc1 hc2 hx hy he
    go_wp2_with fail
    go_quiet (fail)
    go_wp2_with fail
    go_ret
    exact ⟨by rw [HST.out]; rfl, _, by first | rfl | rw [World.drewN_drewN]⟩
  ·have hcx : decide ((k : Int) < (n : Int)) = false := by simp; omega
   have HST : Hid (sameB l1 l2 = true) := sameB_yes (by have := HTK.out; rwa [List.take_of_length_le (by rw [HL.out.1]; exact hge), List.take_of_length_le (by rw [HL.out.2]; exact hge)] at this)
   go_wp2_with fail
   go_ret
   exact ⟨by rw [HST.out]; rfl, _, rfl⟩
end Go.Proofs.YtcnmoobojdopgaaGreatDoor
