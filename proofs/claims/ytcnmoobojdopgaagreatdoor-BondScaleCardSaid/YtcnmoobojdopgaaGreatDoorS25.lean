/-
  The walk of lot.CheckAll on valid lots with different ids.
  The iterator of lot.of: it gives the lots of an instrument, in their order.
  The walks of slices.AppendSeq, slices.Collect at lots, of lot.Of.
  The walks of slices.Collect at lots and of lot.Of.
  Fractions by their values; the walks of accrual.round, days, valid.
  The walks of trancheref02.Sub, Canonical, New, Floor, Compare on canonical fractions of any length. (Printed by gen_ref30.py.)
  The walk of accrual.exact.
  The walk of accrual.exact, the rest.
  The walk of trancheref03.RoundTo, to the nearest integer. (Printed by gen_ref33.py.)
  The walks of daycount.actual, bond, european, ratio, thirty.
  Fractions: New, Neg, Compare (seats of layer 19).
  A region that draws its order, inside a fence, by an invariant over what has come up.
  A region that draws its order, outside of a fence, by an invariant over what has come up.
  The walks of daycount.ratio, over, calendar.
  The walk of daycount.calendar. (Printed by gen_bd6.py.)
  The walks of trancheref19.day, GreatOne, Check, Find (their yes: a valid lot, a small one, no such id).
  The walks of instrument.plain and forward: 0 exactly where valid. (Printed by gen_ins9.py.)
  The walk of instrument.bond: 0 exactly where valid. (Printed by gen_ins9b.py.)
  The walk of instrument.bond: 0 exactly where valid. (Printed by gen_ins9b.py.)
  The walk of instrument.bond: 0 exactly where valid. (Printed by gen_ins9b.py.)
  The walk of instrument.bond: 0 exactly where valid. (Printed by gen_ins9b.py.)
  The walk of instrument.bond: 0 exactly where valid. (Printed by gen_ins9b.py.)
  The walk of instrument.bond: 0 exactly where valid. (Printed by gen_ins9b.py.)
  The walk of instrument.bond: 0 exactly where valid. (Printed by gen_ins9b.py.)
  The walk of instrument.bond: 0 exactly where valid. (Printed by gen_ins9b.py.)
-/
import Derived.Test.YtcnmoobojdopgaaGreatDoorS20
import Derived.Maps.Own
import Derived.Maps.Views
import Derived.Test.YtcnmoobojdopgaaGreatDoorS15
import Derived.Test.YtcnmoobojdopgaaGreatDoorS18
import Derived.Deep.DeepCutAuto
import Derived.Deep.RegionHeld3
import Derived.Laws.EntriesVeiled
import Derived.Test.YtcnmoobojdopgaaGreatDoorS24
import Derived.Deep.RegionWith
set_option linter.unusedVariables false
set_option linter.unusedSimpArgs false
set_option maxHeartbeats 16000000
set_option maxRecDepth 100000
namespace Go.Proofs.YtcnmoobojdopgaaGreatDoor
open Go.RowKit Tr Go.Shelf Go.Maps Go.WideMaps
structure LotAt (w : World) (p : Addr) (l : Lot) : Prop where
 c0 : w.cell? p = some (.string l.id)
 c1 : w.cell? ⟨p.block, p.off + 1, none⟩ = some (.string l.inst)
 c2 : w.cell? ⟨p.block, p.off + 2, none⟩ = some (.int .i64 l.acq)
 c3 : w.cell? ⟨p.block, p.off + 3, none⟩ = some (.int .i64 l.opn)
 c4 : w.cell? ⟨p.block, p.off + 4, none⟩ = some (.string l.qty)
 c5 : w.cell? ⟨p.block, p.off + 5, none⟩ = some (.string l.cost)
 c6 : w.cell? ⟨p.block, p.off + 6, none⟩ = some (.string l.used)
theorem LotAt.below {w w' : World} {p : Addr} {l : Lot} {B : Nat} (h : LotAt w p l) (hb : Below B w w') (hp : p.block < B) : LotAt w' p l :=
 ⟨(hb.cell hp).trans h.c0, (hb.cell (p := ⟨p.block, p.off + 1, none⟩) hp).trans h.c1, (hb.cell (p := ⟨p.block, p.off + 2, none⟩) hp).trans h.c2, (hb.cell (p := ⟨p.block, p.off + 3, none⟩) hp).trans h.c3, (hb.cell (p := ⟨p.block, p.off + 4, none⟩) hp).trans h.c4, (hb.cell (p := ⟨p.block, p.off + 5, none⟩) hp).trans h.c5, (hb.cell (p := ⟨p.block, p.off + 6, none⟩) hp).trans h.c6⟩
def RdL (w : World) (A : Option Addr) (ls : List Lot) : Prop :=
 ls ≠ [] → ∃ ad : Addr, A = some ad ∧ ad.block < w.heap.size ∧ ∀ (j : Nat) (l : Lot), ls[j]? = some l → LotAt w (ad.add (j * 7)) l
theorem RdL.below {w w' : World} {A : Option Addr} {ls : List Lot} (h : RdL w A ls) (hb : Below w.heap.size w w') : RdL w' A ls := by
 intro hl
 obtain ⟨ad, rfl, h1, h2⟩ := h hl
 exact ⟨ad, rfl, Nat.lt_of_lt_of_le h1 hb.size, fun j l hj => (h2 j l hj).below hb (by rw [add_block]; exact h1)⟩
end Go.Proofs.YtcnmoobojdopgaaGreatDoor
namespace Go.Proofs.YtcnmoobojdopgaaGreatDoor
open Go.RowKit Tr Go.Shelf
attribute [local go_sem] Oper.semAt_some
abbrev SLot := { l : Lot // l.sized }
def KpB (n₀ b : Nat) (W W' : World) : Prop := Below n₀ W W' ∧ (b < W.heap.size → W'.heap[b]? = W.heap[b]?)
theorem KpB.trans {n₀ b : Nat} {A B C : World} (h : KpB n₀ b A B) (k : KpB n₀ b B C) : KpB n₀ b A C :=
 ⟨h.1.trans k.1, fun hb => (k.2 (Nat.lt_of_lt_of_le hb h.1.size)).trans (h.2 hb)⟩
theorem KpB.put {n₀ b N : Nat} (hn : n₀ ≤ N) (hb : b < N) (W : World) (l : Nat) (o o' : Obj) (hl : N ≤ l) (h : W.heap[l]? = some o) : KpB n₀ b W (W.putObj l o') :=
 ⟨(Below.refl n₀ W).grown (grownBy_putObj' W l o') (by have := (Array.getElem?_eq_some_iff.1 h).1; omega) (fun k e => by cases e; omega), fun _ => World.putObj_heap_other (by omega)⟩
theorem KpB.below {n₀ b : Nat} {A B : World} (h : Below A.heap.size A B) (hn : n₀ ≤ A.heap.size) : KpB n₀ b A B := ⟨h.mono hn, fun hb => h.block b hb⟩
def RdB (n₀ : Nat) (w : World) (A : Option Addr) (ls : List SLot) : Prop :=
 ls ≠ [] → ∃ ad : Addr, A = some ad ∧ ad.block < n₀ ∧ ∀ (j : Nat) (l : SLot), ls[j]? = some l → LotAt w (ad.add (j * 7)) l.1
theorem RdB.below {n₀ : Nat} {w w' : World} {A : Option Addr} {ls : List SLot} (h : RdB n₀ w A ls) (hb : Below n₀ w w') : RdB n₀ w' A ls := by
 intro hl
 obtain ⟨ad, rfl, h1, h2⟩ := h hl
 exact ⟨ad, rfl, h1, fun j l hj => (h2 j l hj).below hb (by rw [add_block]; exact h1)⟩
theorem str_eq (a b : ByteArray) : (a.toList == b.toList) = decide (a = b) := by
 by_cases h : a = b
 ·subst h; simp
 ·rw [neq_toList h]; simp [h]
end Go.Proofs.YtcnmoobojdopgaaGreatDoor
namespace Go.Proofs.YtcnmoobojdopgaaGreatDoor
open Go.RowKit Tr Go.Shelf
attribute [local go_sem] Oper.semAt_some
theorem cells_new (w : World) (cs : Array Value) (t : TypeId) : ∀ j u, cs.toList[j]? = some u → (w.alloc (.cells cs t)).cell? ((⟨w.heap.size, 0, none⟩ : Addr).add j) = some u := by
 intro j u hj
 have h := heap_alloc_new w (.cells cs t)
 have e : (⟨w.heap.size, 0, none⟩ : Addr).add j = ⟨w.heap.size, j, none⟩ := by unfold Addr.add; split <;> simp_all
 rw [e, Lib.cell_of_heap h j]
 simpa using hj
end Go.Proofs.YtcnmoobojdopgaaGreatDoor
namespace Go.Proofs.YtcnmoobojdopgaaGreatDoor
open Go.RowKit Tr Go.Shelf
attribute [local go_sem] Oper.semAt_some
theorem addr_add0 (g m : Nat) : (⟨g, 0, none⟩ : Addr).add m = ⟨g, m, none⟩ := by unfold Addr.add; split <;> simp_all
end Go.Proofs.YtcnmoobojdopgaaGreatDoor
namespace Go.Proofs.YtcnmoobojdopgaaGreatDoor
open Go.RowKit Tr Go.Shelf
theorem BdQ.divInt {a b : Int} {k : Nat} (ha : a.natAbs < 10 ^ k) (hb : b.natAbs < 10 ^ k) (h0 : b ≠ 0) : BdQ (Rat.divInt a b) k := BdQ.div ha hb h0
theorem q_divInt (q : Rat) : q = Rat.divInt q.num q.den := (Rat.num_divInt_den q).symm
theorem BdQ.mul {p q : Rat} {a b : Nat} (hp : BdQ p a) (hq : BdQ q b) : BdQ (p * q) (a + b) := by
 rw [q_divInt p, q_divInt q, Rat.divInt_mul_divInt]
 refine BdQ.div (mul_lt_pow hp.1 hq.1) (mul_lt_pow (by simpa using hp.2) (by simpa using hq.2)) ?_
 have h1 := p.den_pos
 have h2 := q.den_pos
 exact Int.mul_ne_zero (by omega) (by omega)
theorem BdQ.add {p q : Rat} {a b : Nat} (hp : BdQ p a) (hq : BdQ q b) : BdQ (p + q) (a + b + 1) := by
 have h1 := p.den_pos
 have h2 := q.den_pos
 rw [q_divInt p, q_divInt q, Rat.divInt_add_divInt _ _ (by omega) (by omega)]
 refine BdQ.div ?_ ?_ (Int.mul_ne_zero (by omega) (by omega))
 ·have e1 := mul_lt_pow (x := p.num) (y := (q.den : Int)) hp.1 (by simpa using hq.2)
  have e2 := mul_lt_pow (x := q.num) (y := (p.den : Int)) hq.1 (by simpa using hp.2)
  rw [Nat.add_comm b a] at e2
  exact add_lt_pow e1 e2 (by omega) (by omega)
 ·exact Nat.lt_of_lt_of_le (mul_lt_pow (x := (p.den : Int)) (y := (q.den : Int)) (by simpa using hp.2) (by simpa using hq.2)) (pow_mono (by omega))
theorem BdQ.neg {q : Rat} {a : Nat} (hq : BdQ q a) : BdQ (-q) a := ⟨by rw [Rat.neg_num, Int.natAbs_neg]; exact hq.1, by rw [Rat.neg_den]; exact hq.2⟩
theorem BdQ.sub {p q : Rat} {a b : Nat} (hp : BdQ p a) (hq : BdQ q b) : BdQ (p - q) (a + b + 1) := by
 rw [Rat.sub_eq_add_neg]; exact hp.add hq.neg
theorem BdQ.int {z : Int} {k : Nat} (h : z.natAbs < 10 ^ k) (hk : 1 ≤ k) : BdQ (z : Rat) k := ⟨h, Nat.lt_of_lt_of_le (show 1 < 10 ^ 1 by omega) (pow_mono hk)⟩
theorem BdQ.zero {k : Nat} (hk : 1 ≤ k) : BdQ 0 k := BdQ.int (z := 0) (Nat.pow_pos (by omega)) hk
theorem fAddQ {p q : Rat} {a b : Nat} (hp : BdQ p a) (hq : BdQ q b) (ha : a ≤ 800000) (hb : b ≤ 800000) (w : World) (ht : Tabs w) :
 Calls Tryz.prog 51 #[fenc p, fenc q] w fun e w' => e = .returned (fenc (p + q)) ∧ Below w.heap.size w w' := by
 have := fAdd_any (I p.num) (dn p) (I q.num) (dn q) w (by have := hp.num; omega) (by have := hp.dn; omega) (by have := hq.num; omega) (by have := hq.dn; omega) ht
 rw [fv_enc, fv_enc] at this
 exact this
theorem fSubQ {p q : Rat} {a b : Nat} (hp : BdQ p a) (hq : BdQ q b) (ha : a ≤ 800000) (hb : b ≤ 800000) (w : World) (ht : Tabs w) :
 Calls Tryz.prog 17 #[fenc p, fenc q] w fun e w' => e = .returned (fenc (p - q)) ∧ Below w.heap.size w w' := by
 have := fSub_any (I p.num) (dn p) (I q.num) (dn q) w (by have := hp.num; omega) (by have := hp.dn; omega) (by have := hq.num; omega) (by have := hq.dn; omega) ht
 rw [fv_enc, fv_enc] at this
 exact this
theorem fMulQ {p q : Rat} {a b : Nat} (hp : BdQ p a) (hq : BdQ q b) (ha : a ≤ 800000) (hb : b ≤ 800000) (w : World) (ht : Tabs w) :
 Calls Tryz.prog 12 #[fenc p, fenc q] w fun e w' => e = .returned (fenc (p * q)) ∧ Below w.heap.size w w' := by
 have := fMul_any (I p.num) (dn p) (I q.num) (dn q) w (by have := hp.num; omega) (by have := hp.dn; omega) (by have := hq.num; omega) (by have := hq.dn; omega) ht
 rw [fv_enc, fv_enc] at this
 exact this
structure SBx (w : World) (p q : Rat) (W : World) : Prop where
 k0 : W.heap[w.heap.size]? = some (.cells #[.string (I p.num), .string (dn p)] 25 (0, 0))
 k1 : W.heap[w.heap.size + 1]? = some (.cells #[.string (I q.num), .string (dn q)] 25 (0, 0))
 k2 : W.heap[w.heap.size + 1 + 1]? = some (.cells #[.string ⟨#[]⟩, .string ⟨#[]⟩] 25 (0, 0))
 bel : Below w.heap.size w W
theorem SBx.below {w : World} {p q : Rat} {W W' : World} (h : SBx w p q W) (hb : Below W.heap.size W W') : SBx w p q W' :=
 ⟨(hb.block _ (Array.getElem?_eq_some_iff.1 h.k0).1).trans h.k0, (hb.block _ (Array.getElem?_eq_some_iff.1 h.k1).1).trans h.k1, (hb.block _ (Array.getElem?_eq_some_iff.1 h.k2).1).trans h.k2, h.bel.trans (hb.mono h.bel.size)⟩
structure EG (w : World) (i : Inst) (l : Lot) (W : World) : Prop where
 ib : InstBox W w.heap.size i
 lb : LotBox W (w.heap.size + 1) l
 rb : W.heap[w.heap.size + 1 + 1]? = some (.cells #[.string ⟨#[]⟩, .string ⟨#[]⟩] 25 (0, 0))
 be : Below w.heap.size w W
theorem EG.below {w : World} {i : Inst} {l : Lot} {W W' : World} (h : EG w i l W) (hb : Below W.heap.size W W') : EG w i l W' :=
 ⟨h.ib.below hb, h.lb.below hb, (hb.block _ (Array.getElem?_eq_some_iff.1 h.rb).1).trans h.rb, h.be.trans (hb.mono h.be.size)⟩
theorem EG.start (w : World) (i : Inst) (l : Lot) : EG w i l (((w.alloc (.cells i.cells 27)).alloc (.cells l.cells 63)).alloc (.cells #[.string ⟨#[]⟩, .string ⟨#[]⟩] 25)) := by
 obtain ⟨W0, hW0, hB, hz, k0, k1, k2⟩ := box3 w (.cells i.cells 27) (.cells l.cells 63) (.cells #[.string ⟨#[]⟩, .string ⟨#[]⟩] 25)
 rw [← hW0]
 exact ⟨k0, k1, k2, hB⟩
theorem EG.done {w : World} {i : Inst} {l : Lot} {W : World} (h : EG w i l W) (q : Rat) :
 ((W.setCell ⟨w.heap.size + 1 + 1, 0, none⟩ (.string (I q.num))).setCell ⟨w.heap.size + 1 + 1, 1, none⟩ (.string (dn q))).heap[w.heap.size + 1 + 1]? = some (.cells #[.string (I q.num), .string (dn q)] 25 (0, 0)) ∧
   Below w.heap.size w ((W.setCell ⟨w.heap.size + 1 + 1, 0, none⟩ (.string (I q.num))).setCell ⟨w.heap.size + 1 + 1, 1, none⟩ (.string (dn q))) :=
 ⟨set2 h.rb _ _, (h.be.setCell (p := ⟨w.heap.size + 1 + 1, 0, none⟩) (by simp; omega) _).setCell (p := ⟨w.heap.size + 1 + 1, 1, none⟩) (by simp; omega) _⟩
def FBox (W : World) (B : Nat) (q : Rat) : Prop := W.heap[B]? = some (.cells #[.string (I q.num), .string (dn q)] 25 (0, 0))
theorem FBox.below {W W' : World} {B : Nat} {q : Rat} (h : FBox W B q) (hb : Below W.heap.size W W') : FBox W' B q := (hb.block B (Array.getElem?_eq_some_iff.1 h).1).trans h
theorem FBox.lt {W : World} {B : Nat} {q : Rat} (h : FBox W B q) : B < W.heap.size := (Array.getElem?_eq_some_iff.1 h).1
theorem EG.lt {w : World} {i : Inst} {l : Lot} {W : World} (h : EG w i l W) : w.heap.size + 1 + 1 < W.heap.size := (Array.getElem?_eq_some_iff.1 h.rb).1
theorem EG.set2 {w : World} {i : Inst} {l : Lot} {W : World} (h : EG w i l W) {B : Nat} (hB : w.heap.size + 1 + 1 < B) (x y : Value) : EG w i l ((W.setCell ⟨B, 0, none⟩ x).setCell ⟨B, 1, none⟩ y) := by
 have k : ∀ b, b ≤ w.heap.size + 1 + 1 → ((W.setCell ⟨B, 0, none⟩ x).setCell ⟨B, 1, none⟩ y).heap[b]? = W.heap[b]? := fun b hb =>
  (Below.heap_setCell _ _ _ _ (by simp; omega)).trans (Below.heap_setCell _ _ _ _ (by simp; omega))
 exact ⟨(k _ (by omega)).trans h.ib, (k _ (by omega)).trans h.lb, (k _ (by omega)).trans h.rb, (h.be.setCell (p := ⟨B, 0, none⟩) (by simp; omega) _).setCell (p := ⟨B, 1, none⟩) (by simp; omega) _⟩
structure EF (w : World) (i : Inst) (l : Lot) (B : Nat) (q : Rat) (W : World) : Prop where
 eg : EG w i l W
 fb : FBox W B q
 lt : w.heap.size + 1 + 1 < B
theorem EF.below {w : World} {i : Inst} {l : Lot} {B : Nat} {q : Rat} {W W' : World} (h : EF w i l B q W) (hb : Below W.heap.size W W') : EF w i l B q W' := ⟨h.eg.below hb, h.fb.below hb, h.lt⟩
theorem EF.set2 {w : World} {i : Inst} {l : Lot} {B : Nat} {q : Rat} {W : World} (h : EF w i l B q W) {B' : Nat} (hB : B < B') (x y : Value) : EF w i l B q ((W.setCell ⟨B', 0, none⟩ x).setCell ⟨B', 1, none⟩ y) :=
 ⟨h.eg.set2 (by have := h.lt; omega) x y, ((Below.heap_setCell _ _ _ _ (by simp; omega)).trans (Below.heap_setCell _ _ _ _ (by simp; omega))).trans h.fb, h.lt⟩
def BX (w : World) (l : List (Nat × Obj)) (W : World) : Prop := Below w.heap.size w W ∧ ∀ x, x ∈ l → W.heap[x.1]? = some x.2
theorem BX.below {w : World} {l : List (Nat × Obj)} {W W' : World} (h : BX w l W) (hb : Below W.heap.size W W') : BX w l W' :=
 ⟨h.1.trans (hb.mono h.1.size), fun x hx => (hb.block _ (Array.getElem?_eq_some_iff.1 (h.2 x hx)).1).trans (h.2 x hx)⟩
theorem BX.push {w : World} {l : List (Nat × Obj)} {W : World} (h : BX w l W) (o : Obj) : BX w ((W.heap.size, o) :: l) (W.alloc o) := by
 have h2 := h.below ((Below.refl _ W).alloc (Nat.le_refl _) o)
 refine ⟨h2.1, fun x hx => ?_⟩
 rcases List.mem_cons.1 hx with rfl | hx
 ·exact heap_alloc_new W o
 ·exact h2.2 x hx
theorem BX.get {w : World} {l : List (Nat × Obj)} {W : World} (h : BX w l W) (k : Nat) {b : Nat} {o : Obj} (hk : l[k]? = some (b, o)) : W.heap[b]? = some o := h.2 _ (List.mem_of_getElem? hk)
theorem BX.lt {w : World} {l : List (Nat × Obj)} {W : World} (h : BX w l W) (k : Nat) {b : Nat} {o : Obj} (hk : l[k]? = some (b, o)) : b < W.heap.size := (Array.getElem?_eq_some_iff.1 (h.get k hk)).1
abbrev fobj (q : Rat) : Obj := .cells #[.string (I q.num), .string (dn q)] 25 (0, 0)
abbrev fz : Obj := .cells #[.string ⟨#[]⟩, .string ⟨#[]⟩] 25 (0, 0)
theorem BX.set2 {w : World} {l : List (Nat × Obj)} {W : World} {B : Nat} {a b : Value} {t : TypeId} {m : Nat × Nat} (h : BX w l W) (hB : w.heap.size ≤ B) (hk : W.heap[B]? = some (.cells #[a, b] t m)) (hn : ∀ x, x ∈ l → x.1 ≠ B) (x y : Value) :
 BX w ((B, .cells #[x, y] t m) :: l) ((W.setCell ⟨B, 0, none⟩ x).setCell ⟨B, 1, none⟩ y) := by
 refine ⟨set2_below hB h.1 _ _, fun z hz => ?_⟩
 rcases List.mem_cons.1 hz with rfl | hz
 ·exact Go.Proofs.YtcnmoobojdopgaaGreatDoor.set2 hk _ _
 ·exact (set2_far (hn z hz) _ _).trans (h.2 z hz)
abbrev RP (w : World) (p : Rat) (W : World) : Prop := BX w [(w.heap.size, fobj p)] W
theorem RP.two {w : World} {p : Rat} {W : World} (h : RP w p W) : W.cell? ⟨w.heap.size, 0, none⟩ = some (.string (I p.num)) ∧ W.cell? ⟨w.heap.size, 1, none⟩ = some (.string (dn p)) :=
 ⟨Lib.cell_of_heap (h.get 0 rfl) 0, Lib.cell_of_heap (h.get 0 rfl) 1⟩
theorem dcActual_any (a b : Int) (ha : okDay a) (hb : okDay b) (w : World) : Calls Tryz.prog 312 #[.int .i64 a, .int .i64 b] w fun e w' => e = .returned (.int .i64 (b - a)) ∧ w = w' := by
 obtain ⟨a0, a1⟩ := ha
 obtain ⟨b0, b1⟩ := hb
 go_enter Tryz.func312, Tryz.ntmps312
 go_wp2_with fail
 go_ret
 exact ⟨rfl, rfl⟩
def adjE (c d e : Int) : Int := if c = 4 ∨ min d 30 = 30 then min e 30 else e
theorem dcBond_any (d e : Int) (w : World) : Calls Tryz.prog 314 #[.int .i64 d, .int .i64 e] w fun r w' => r = .returned (.tuple #[.int .i64 (min d 30), .int .i64 (adjE 3 d e)]) ∧ w = w' := by
 obtain ⟨x, hx⟩ : ∃ x, min d 30 = x := ⟨_, rfl⟩
 by_cases h : x = 30
 ·have t : decide (x = 30) = true := decide_eq_true h
  have HE : Hid (adjE 3 d e = min e 30) := by unfold adjE; exact if_pos (.inr (hx.trans h))
  obtain ⟨y, hy⟩ : ∃ y, min e 30 = y := ⟨_, rfl⟩
  have t2 : (x == 30) = true := by simpa using h
  clear h
  go_enter Tryz.func314, Tryz.ntmps314
  go_wp2_with fail
  go_ret2
  exact ⟨by rw [HE.out, hy, hx]; rfl, rfl⟩
 ·have t : decide (x = 30) = false := decide_eq_false h
  have HE : Hid (adjE 3 d e = e) := by unfold adjE; exact if_neg (fun k => k.elim (by decide) (fun k => h (hx.symm.trans k)))
  have t2 : (x == 30) = false := by simpa using h
  clear h
  go_enter Tryz.func314, Tryz.ntmps314
  go_wp2_with fail
  go_ret2
  exact ⟨by rw [HE.out, hx]; rfl, rfl⟩
theorem dcEuro_any (d e : Int) (w : World) : Calls Tryz.prog 315 #[.int .i64 d, .int .i64 e] w fun r w' => r = .returned (.tuple #[.int .i64 (min d 30), .int .i64 (adjE 4 d e)]) ∧ w = w' := by
 have HE : Hid (adjE 4 d e = min e 30) := by unfold adjE; exact if_pos (.inl rfl)
 obtain ⟨x, hx⟩ : ∃ x, min d 30 = x := ⟨_, rfl⟩
 obtain ⟨y, hy⟩ : ∃ y, min e 30 = y := ⟨_, rfl⟩
 go_enter Tryz.func315, Tryz.ntmps315
 go_wp2_with fail
 go_ret2
 exact ⟨by rw [HE.out, hy, hx]; rfl, rfl⟩
structure AdjOk (c : Int) (n : Nat) : Prop where
 en : ∀ args w, (callFunc n args).run Tryz.prog w = .ok (.enter n args) w
 run : ∀ d e W, Calls Tryz.prog n #[.int .i64 d, .int .i64 e] W fun r w' => r = .returned (.tuple #[.int .i64 (min d 30), .int .i64 (adjE c d e)]) ∧ W = w'
theorem adj3 : AdjOk 3 314 := ⟨enters_of Tryz.func314 (by kernel_rfl) rfl, dcBond_any⟩
theorem adj4 : AdjOk 4 315 := ⟨enters_of Tryz.func315 (by kernel_rfl) rfl, dcEuro_any⟩
theorem dcThirty1_any (c : Int) (n B : Nat) (hn : AdjOk c n) (a b : Int) (ha : okDay a) (hb : okDay b) (w : World) (hB : Boxed w B 313 (.func (.func n) #[] #[])) :
 Calls Tryz.prog 333 #[.int .i64 a, .int .i64 b, .pointer (some ⟨B, 0, none⟩)] w fun e w' => e = .returned (.int .i64 (days30 c a b)) ∧ Below w.heap.size w w' := by
 have HA := Lib.hid (Parts_any a ha w)
 have HBB := Lib.hid (fun W => Parts_any b hb W)
 have HN := Lib.hid hn.run
 have hen := hn.en
 have HBX := Lib.hid hB
 clear ha hb hn hB
 go_enter Tryz.func333, Tryz.ntmps333
 go_wp2_with fail
 refine HA.out.mono ?_
 rintro r w1 ⟨y, m, d, rfl, hv, hd, hb1⟩
 go_wp2_with fail
 refine (HBB.out w1).mono ?_
 rintro r w2 ⟨z, k, e, rfl, hv', he, hb2⟩
 have hb12 := hb1.trans (hb2.mono hb1.size)
 have hbx2 : Boxed w2 B 313 (.func (.func n) #[] #[]) := (hb12.block _ HBX.out.lt).trans HBX.out
 have cb := hbx2.cell
 have HD : Hid (days30 c a b = 360 * (z - y) + 30 * ((k : Int) - m) + adjE c d e - min d 30) := by
  show days30 c a b = _
  rw [days30_eq hv hd hv' he]; rfl
 have HAD : Hid (adjE c d e ≤ e ∧ 1 ≤ adjE c d e) := by
  obtain ⟨_, _, _, _, x5, _⟩ := hv'
  show _ ∧ _
  unfold adjE
  split <;> omega
 obtain ⟨v1, v2, v3, v4, v5, v6⟩ := hv
 obtain ⟨u1, u2, u3, u4, u5, u6⟩ := hv'
 have l1 := lenB_pos (leapB y) m
 have l2 := lenB_pos (leapB z) k
 obtain ⟨q1, q2⟩ := HAD.out
 have HB12 := Lib.hid hb12
 clear hd he hb1 hb2 hb12 hbx2
 obtain ⟨x, hx⟩ : ∃ x, min d 30 = x := ⟨_, rfl⟩
 obtain ⟨g, hg⟩ : ∃ g, adjE c d e = g := ⟨_, rfl⟩
 have hN2 := HN.out d e w2
 rw [hx] at HD hN2
 rw [hg] at HD q1 q2 hN2
 have x1 : 1 ≤ x := by omega
 have x2 : x ≤ 30 := by omega
 clear HAD hx hg
 have HN2 := Lib.hid hN2
 clear hN2
 go_wp2_with fail
 refine HN2.out.mono ?_
 rintro r w3 ⟨rfl, rfl⟩
 go_wp2_with fail
 go_ret
 exact ⟨by rw [HD.out]; rfl, HB12.out⟩
theorem dcThirty_any (n : Nat) (w : World) : Calls Tryz.prog 313 #[.func (.func n) #[] #[]] w fun e w' => e = .returned (.func (.func 333) #[] #[.pointer (some ⟨w.heap.size, 0, none⟩)]) ∧ w' = w.alloc (.cells #[.func (.func n) #[] #[]] 313) := by
 go_enter Tryz.func313, Tryz.ntmps313
 go_wp2_with fail
 go_ret
 exact ⟨rfl, rfl⟩
theorem fNew_any (n d : ByteArray) (w : World) (s1 : n.size ≤ 3000000) (s2 : d.size ≤ 3000000) (h0 : vl d ≠ 0) (ht : Tabs w) :
 Calls Tryz.prog 42 #[.string n, .string d] w fun e w' => e = .returned (.tuple #[fenc (Rat.divInt (vl n) (vl d)), .int .i64 0]) ∧ Below w.heap.size w w' := by
 have HB := Lib.hid ((Below.refl _ w).alloc (Nat.le_refl _) (Obj.cells #[.string ⟨#[]⟩, .string ⟨#[]⟩] 25))
 have HC := Lib.hid (Compare_any d ⟨#[]⟩ (w.alloc (Obj.cells #[.string ⟨#[]⟩, .string ⟨#[]⟩] 25)) (by omega) (by show 0 ≤ _; omega))
 rw [show vl (⟨#[]⟩ : ByteArray) = 0 from by rw [zero_eq, vl_I]] at HC
 have hc : (cmpI (vl d) 0 == 0) = false := beq_eq_false_iff_ne.2 (fun h => h0 (cmpI_eq.1 h))
 obtain ⟨W0, hW0⟩ : ∃ W0, w.alloc (Obj.cells #[.string ⟨#[]⟩, .string ⟨#[]⟩] 25) = W0 := ⟨_, rfl⟩
 have hk : W0.heap[w.heap.size]? = some (Obj.cells #[.string ⟨#[]⟩, .string ⟨#[]⟩] 25) := by rw [← hW0]; exact heap_alloc_new w _
 have hs : W0.heap.size = w.heap.size + 1 := by rw [← hW0]; simp
 rw [hW0] at HB HC
 have HT := Lib.hid ht
 have HM := Lib.hid (fun W hW => made_any n d W s1 s2 h0 hW)
 generalize Rat.divInt (vl n) (vl d) = q at HM ⊢
 clear ht h0
 go_enter Tryz.func42, Tryz.ntmps42
 go_wp2_with fail
 try rw [hW0]
 refine HC.out.mono ?_
 rintro e w1 ⟨rfl, B1⟩
 have k1 := Lib.hid ((B1.block w.heap.size (by omega)).trans hk)
 have HB1 := Lib.hid (HB.out.trans (B1.mono HB.out.size))
 clear B1 HB hk HC
 go_wp2_with fail
 refine (HM.out w1 (HT.out.below HB1.out)).mono ?_
 rintro e w2 ⟨rfl, B2⟩
 have hs1 : w.heap.size < w1.heap.size := (Array.getElem?_eq_some_iff.1 k1.out).1
 have k2 := (B2.block w.heap.size hs1).trans k1.out
 have HB2 := Lib.hid (HB1.out.trans (B2.mono HB1.out.size))
 unfold fenc
 have a0 := Lib.cell_of_heap k2 0
 have a1 := Lib.cell_of_heap k2 1
 simp at a0 a1
 have f0 := Lib.frozen_of_heap k2 0
 have f1 := Lib.frozen_of_heap k2 1
 have K2 := Lib.hid k2
 clear k2 k1 B2 HB1 hc
 go_wp2_with fail
 have k3 := set2 K2.out (.string (I q.num)) (.string (dn q))
 have m0 := Lib.cell_of_heap k3 0
 have m1 := Lib.cell_of_heap k3 1
 simp at m0 m1
 refine bodyPost_ret (v := .tuple #[.agg #[.string (I q.num), .string (dn q)], .int .i64 0]) (by simp [results, Tryz.results42, go_sem, m0, m1]) rfl ?_
 exact ⟨by unfold fenc; rfl, (HB2.out.setCell (p := ⟨w.heap.size, 0, none⟩) (Nat.le_refl _) _).setCell (p := ⟨w.heap.size, 1, none⟩) (Nat.le_refl _) _⟩
theorem fCompare_any (n1 d1 n2 d2 : ByteArray) (w : World) (s1 : n1.size ≤ 900000) (s2 : d1.size ≤ 900000) (s3 : n2.size ≤ 900000) (s4 : d2.size ≤ 900000) (ht : Tabs w) :
 Calls Tryz.prog 9 #[.agg #[.string n1, .string d1], .agg #[.string n2, .string d2]] w fun e w' => e = .returned (.int .i64 (cmpI (fv n1 d1 - fv n2 d2).num 0)) ∧ Below w.heap.size w w' := by
 have HB := Lib.hid (((Below.refl _ w).alloc (Nat.le_refl _) (Obj.cells #[.string n1, .string d1] 25)).alloc (by simp) (Obj.cells #[.string n2, .string d2] 25))
 have HS := Lib.hid (fSub_any n1 d1 n2 d2 ((w.alloc (Obj.cells #[.string n1, .string d1] 25)).alloc (Obj.cells #[.string n2, .string d2] 25)) s1 s2 s3 s4 (ht.below HB.out))
 obtain ⟨W0, hW0⟩ : ∃ W0, (w.alloc (Obj.cells #[.string n1, .string d1] 25)).alloc (Obj.cells #[.string n2, .string d2] 25) = W0 := ⟨_, rfl⟩
 have hk : W0.heap[w.heap.size]? = some (Obj.cells #[.string n1, .string d1] 25) := by rw [← hW0]; exact (((Below.refl _ (w.alloc (Obj.cells #[.string n1, .string d1] 25))).alloc (Nat.le_refl _) _).block w.heap.size (by simp)).trans (heap_alloc_new w _)
 have hk2 : W0.heap[w.heap.size + 1]? = some (Obj.cells #[.string n2, .string d2] 25) := by
  rw [← hW0]
  have h := heap_alloc_new (w.alloc (Obj.cells #[.string n1, .string d1] 25)) (Obj.cells #[.string n2, .string d2] 25)
  simpa using h
 rw [hW0] at HB HS
 have b0 := Lib.cell_of_heap hk 0
 have b1 := Lib.cell_of_heap hk 1
 have c0 := Lib.cell_of_heap hk2 0
 have c1 := Lib.cell_of_heap hk2 1
 simp at b0 b1 c0 c1
 have HT := Lib.hid ht
 have bd := (BdQ.sub (fv_bd n1 d1 (k := 900001) (by omega) (by omega)) (fv_bd n2 d2 (k := 900001) (by omega) (by omega)))
 have zn := bd.num
 have zd := bd.dn
 clear ht bd
 generalize fv n1 d1 - fv n2 d2 = q at *
 unfold fenc at HS
 go_enter Tryz.func9, Tryz.ntmps9
 go_wp2_with fail
 try rw [hW0]
 refine HS.out.mono ?_
 rintro e w1 ⟨rfl, B1⟩
 have HB1 := Lib.hid (HB.out.trans (B1.mono HB.out.size))
 clear B1 HB hk hk2 b0 b1 c0 c1 HS
 go_wp2_with fail
 refine (parts_any (I q.num) (dn q) w1 (by omega)).mono ?_
 rintro e w2 ⟨rfl, B2⟩
 have HB2 := Lib.hid (HB1.out.trans (B2.mono HB1.out.size))
 clear B2 HB1
 go_wp2_with fail
 refine (Compare_any (I q.num) ⟨#[]⟩ w2 (by omega) (by show 0 ≤ _; omega)).mono ?_
 rintro e w3 ⟨rfl, B3⟩
 rw [vl_I, show vl (⟨#[]⟩ : ByteArray) = 0 from by rw [zero_eq, vl_I]]
 go_wp2_with fail
 go_ret
 exact ⟨rfl, HB2.out.trans (B3.mono HB2.out.size)⟩
def waits (L : List Bool) : Nat := (L.filter fun b => !b).length
theorem waits_set : ∀ (L : List Bool) (i : Nat), L[i]? = some false → waits (L.set i true) < waits L
 | [], i, h => by simp at h
 | b :: r, 0, h => by simp at h; subst h; simp [waits]
 | b :: r, i + 1, h => by
   simp at h
   have := waits_set r i h
   unfold waits at *
   cases b <;> simp at * <;> omega
theorem waits_zero : ∀ (L : List Bool) (i : Nat), waits L = 0 → L[i]? ≠ some false
 | [], i, _ => by simp
 | b :: r, 0, h => by cases b <;> simp [waits] at h ⊢
 | b :: r, i + 1, h => by
   simp
   refine waits_zero r i ?_
   unfold waits at *
   cases b <;> simp at h ⊢ <;> exact h
theorem getD_false {L : Array Bool} {i : Nat} (h : L.getD i true = false) : L.toList[i]? = some false := by
 rw [Array.getD_eq_getD_getElem?] at h
 rw [Array.getElem?_toList]
 cases hh : L[i]? with
 | none => rw [hh] at h; cases h
 | some b => rw [hh] at h; simp at h; rw [h]
variable {F : Fence} {n : Nat} {P : Program} {md : Region.Mode} {ops : Array Oper} {Q : Exit → Act → World → Prop}
theorem wpAnyIn_inv (J : Array Bool → Act → World → Prop)
 (hstep : ∀ L a w, J L a w → ∀ i ∈ Region.ready md ops L, wpOpIn F n P ops Q i (J (L.setIfInBounds i true)) a w)
 (hdone : ∀ L a w, J L a w → Region.ready md ops L = [] → Q .normal a w) :
 ∀ (fuel : Nat) (L : Array Bool) (a : Act) (w : World), J L a w → waits L.toList ≤ fuel → wpAnyIn F n P md ops Q fuel L a w := by
 intro fuel
 induction fuel with
 | zero =>
   intro L a w hj hw
   have hr : Region.ready md ops L = [] := by
    refine List.eq_nil_iff_forall_not_mem.2 fun i hi => ?_
    exact waits_zero L.toList i (by omega) (getD_false (mem_ready.1 hi).1)
   exact ⟨hr, hdone L a w hj hr⟩
 | succ fuel ih =>
   intro L a w hj hw
   refine ⟨fun hr => hdone L a w hj hr, fun i hi => wpOpIn_mono (fun a' w' h' => ih _ a' w' h' ?_) (hstep L a w hj i hi)⟩
   have := waits_set L.toList i (getD_false (mem_ready.1 hi).1)
   rw [Array.toList_setIfInBounds]
   omega
theorem getD_set_same {L : Array Bool} {i : Nat} (h : L.getD i true = false) : (L.setIfInBounds i true).getD i false = true := by
 have := getD_false h
 rw [Array.getElem?_toList] at this
 have hi := (Array.getElem?_eq_some_iff.1 this).1
 simp [Array.getD_eq_getD_getElem?, hi]
theorem getD_set_other {L : Array Bool} {i j : Nat} (h : i ≠ j) : (L.setIfInBounds i true).getD j false = L.getD j false := by
 simp [Array.getD_eq_getD_getElem?, Array.getElem?_setIfInBounds, h]
theorem getD_off {L : Array Bool} {i : Nat} (h : L.getD i true = false) : L.getD i false = false := by
 have := getD_false h
 rw [Array.getElem?_toList] at this
 simp [Array.getD_eq_getD_getElem?, this]
theorem getD_up {L : Array Bool} {i j : Nat} (hun : L.getD i true = false) (h : L.getD j false = true) : (L.setIfInBounds i true).getD j false = true := by
 by_cases e : i = j
 ·subst e; exact getD_set_same hun
 ·rw [getD_set_other e]; exact h
theorem getD_dn {L : Array Bool} {i j : Nat} (e : i ≠ j) (h : (L.setIfInBounds i true).getD j false = true) : L.getD j false = true := by rwa [getD_set_other e] at h
theorem getD_df {L : Array Bool} {i j : Nat} (e : i ≠ j) (h : (L.setIfInBounds i true).getD j false = false) : L.getD j false = false := by rwa [getD_set_other e] at h
theorem not_on {L : Array Bool} {i : Nat} (h : L.getD i false = false) (k : L.getD i false = true) : False := by rw [h] at k; cases k
theorem off_or_on (L : Array Bool) (i : Nat) : L.getD i false = false ∨ L.getD i false = true := by cases L.getD i false <;> simp
theorem ready_of {L : Array Bool} {i : Nat} {o : Oper} (hsz : i < L.size) (hoff : L.getD i false = false) (ho : ops[i]? = some o) (ha : ∀ e ∈ o.after, Region.binds md e = true → L.getD e.on false = true) : i ∈ Region.ready md ops L :=
 mem_ready.2 ⟨by rw [Array.getD_eq_getD_getElem?] at *; rw [Array.getElem?_eq_getElem hsz] at *; simpa using hoff, o, ho, ha⟩
theorem Um {L : Array Bool} {i j : Nat} {X : Prop} (f : L.getD j false = true → X) (e : i ≠ j := by decide) : (L.setIfInBounds i true).getD j false = true → X := fun h => f (getD_dn e h)
theorem hI {p : Prop} (h : p) : Hid p := h
theorem Hq {m : Region.Mode} {o : Oper} {L : Array Bool} (hall : ∀ e ∈ o.after, Region.binds m e = true → L.getD e.on false = true) (j : Nat) (h : (o.after.toList.any fun e => Nat.beq e.on j && Region.binds m e) = true := by decide) : Hid (L.getD j false = true) := by
 rw [List.any_eq_true] at h
 obtain ⟨e, he, h2⟩ := h
 rw [Bool.and_eq_true] at h2
 rw [← Nat.eq_of_beq_eq_true h2.1]
 exact hall e (Array.mem_toList_iff.1 he) h2.2
theorem wpOp_hid {P : Program} {ops : Array Oper} {Q : Exit → Act → World → Prop} {i : Nat} {o : Oper} {K : Act → World → Prop} {a : Act} {w : World} (ho : ops[i]? = some o) (h : ∀ K' : Act → World → Prop, Hid (∀ a w, K a w → K' a w) → if Region.wanted o (yielded ops a.tmps) = true then Oper.wp P o a w K' Q else K' (a.put o.dst undef) w) : wpOp P ops Q i K a w := wpOp_step ho fun K' hK => h K' hK
theorem Un {L : Array Bool} {i j k : Nat} {X : Prop} (f : L.getD j false = true → L.getD k false = false → X) (e : i ≠ j := by decide) (d : i ≠ k := by decide) : (L.setIfInBounds i true).getD j false = true → (L.setIfInBounds i true).getD k false = false → X := fun h g => f (getD_dn e h) (getD_df d g)
theorem Uf {L : Array Bool} {i k : Nat} {X : Prop} (f : L.getD k false = false → X) (d : i ≠ k := by decide) : (L.setIfInBounds i true).getD k false = false → X := fun g => f (getD_df d g)
def leansBack (md : Region.Mode) (ops : Array Oper) (n : Nat) : Bool :=
 (List.range n).all fun i => match ops[i]? with
   | none => false
   | some o => o.after.all fun e => !Region.binds md e || Nat.blt e.on i
theorem all_on {md : Region.Mode} {ops : Array Oper} {L : Array Bool} {n : Nat} (hr : Region.ready md ops L = []) (hsz : L.size = n) (hc : leansBack md ops n = true) : ∀ i, i < n → L.getD i false = true := by
 intro i
 induction i using Nat.strongRecOn with
 | ind i ih =>
   intro hi
   have hh := List.all_eq_true.1 hc i (List.mem_range.2 hi)
   cases ho : ops[i]? with
   | none => rw [ho] at hh; cases hh
   | some o =>
     rw [ho] at hh
     simp only [Array.all_eq_true_iff_forall_mem, Bool.or_eq_true, Bool.not_eq_true'] at hh
     refine (off_or_on L i).resolve_left fun h => ?_
     refine List.eq_nil_iff_forall_not_mem.1 hr i (ready_of (by rw [hsz]; exact hi) h ho (fun e he hbd => ?_))
     rcases hh e he with hb | hb
     ·rw [hb] at hbd; cases hbd
     ·rw [Nat.blt_eq] at hb
      exact ih e.on hb (Nat.lt_trans hb hi)
end Go.Proofs.YtcnmoobojdopgaaGreatDoor
namespace Go.Proofs.YtcnmoobojdopgaaGreatDoor
open Go.RowKit Tr Go.Shelf
variable {P : Program} {md : Region.Mode} {ops : Array Oper} {Q : Exit → Act → World → Prop}
theorem wpAny_inv (J : Array Bool → Act → World → Prop)
 (hstep : ∀ L a w, J L a w → ∀ i ∈ Region.ready md ops L, wpOp P ops Q i (J (L.setIfInBounds i true)) a w)
 (hdone : ∀ L a w, J L a w → Region.ready md ops L = [] → Q .normal a w) :
 ∀ (fuel : Nat) (L : Array Bool) (a : Act) (w : World), J L a w → waits L.toList ≤ fuel → wpAny P md ops Q fuel L a w := by
 intro fuel
 induction fuel with
 | zero =>
   intro L a w hj hw
   have hr : Region.ready md ops L = [] := by
    refine List.eq_nil_iff_forall_not_mem.2 fun i hi => ?_
    exact waits_zero L.toList i (by omega) (getD_false (mem_ready.1 hi).1)
   exact ⟨hr, hdone L a w hj hr⟩
 | succ fuel ih =>
   intro L a w hj hw
   refine ⟨fun hr => hdone L a w hj hr, fun i hi => wpOp_mono (fun a' w' h' => ih _ a' w' h' ?_) (hstep L a w hj i hi)⟩
   have := waits_set L.toList i (getD_false (mem_ready.1 hi).1)
   rw [Array.toList_setIfInBounds]
   omega
end Go.Proofs.YtcnmoobojdopgaaGreatDoor
namespace Go.Proofs.YtcnmoobojdopgaaGreatDoor
open Go.RowKit Tr Go.Shelf
theorem heap_keep1 {W : World} {k : Nat} {o : Obj} (h : W.heap[k]? = some o) (o' : Obj) : (W.alloc o').heap[k]? = some o := (Below.heap_alloc _ _ _ (Array.getElem?_eq_some_iff.1 h).1).trans h
theorem fNewI {n d : Int} (h0 : -9000000000000000000 ≤ n) (h1 : n ≤ 9000000000000000000) (g0 : -9000000000000000000 ≤ d) (g1 : d ≤ 9000000000000000000) (hd : d ≠ 0) (w : World) (ht : Tabs w) :
 Calls Tryz.prog 42 #[.string (I n), .string (I d)] w fun e w' => e = .returned (.tuple #[fenc (Rat.divInt n d), .int .i64 0]) ∧ Below w.heap.size w w' := by
 have s1 : (I n).size ≤ 20 := I_size_le (k := 19) (by omega)
 have s2 : (I d).size ≤ 20 := I_size_le (k := 19) (by omega)
 have := fNew_any (I n) (I d) w (by omega) (by omega) (by rw [vl_I]; exact hd) ht
 rwa [vl_I, vl_I] at this
theorem dcRatio_any (n d : Int) (h0 : -9000000000000000000 ≤ n) (h1 : n ≤ 9000000000000000000) (g0 : -9000000000000000000 ≤ d) (g1 : d ≤ 9000000000000000000) (hd : d ≠ 0) (w : World) (ht : Tabs w) :
 Calls Tryz.prog 332 #[.int .i64 n, .int .i64 d] w fun e w' => e = .returned (fenc (Rat.divInt n d)) ∧ Below w.heap.size w w' := by
 have HO1 := hI (fun W (hW : Tabs W) => Of_any n (by omega) (by omega) W hW)
 have HO2 := hI (fun W (hW : Tabs W) => Of_any d (by omega) (by omega) W hW)
 have HNW := hI (fun W (hW : Tabs W) => fNewI h0 h1 g0 g1 hd W hW)
 have HT := hI ht
 obtain ⟨q, hq⟩ : ∃ q, Rat.divInt n d = q := ⟨_, rfl⟩
 rw [hq] at HNW ⊢
 clear hq h0 h1 g0 g1 hd ht
 obtain ⟨W0, hW0⟩ : ∃ W0, w.alloc fz = W0 := ⟨_, rfl⟩
 have hg : BX w [(w.heap.size, fz)] W0 := by rw [← hW0]; exact BX.push (W := w) ⟨Below.refl _ _, fun _ h => by cases h⟩ fz
 unfold fenc at HNW ⊢
 go_enter Tryz.func332, Tryz.ntmps332
 go_wp2_with fail
 refine (HO1.out _ (HT.out.below hg.1)).mono ?_
 rintro e w1 ⟨rfl, b1⟩
 have hg1 := hg.below b1
 clear hg b1 hW0
 go_wp2_with fail
 refine (HO2.out _ (HT.out.below hg1.1)).mono ?_
 rintro e w2 ⟨rfl, b2⟩
 have hg2 := hg1.below b2
 clear hg1 b2
 go_wp2_with fail
 refine (HNW.out _ (HT.out.below hg2.1)).mono ?_
 rintro e w3 ⟨rfl, b3⟩
 have hg3 := hg2.below b3
 clear hg2 b3
 have k0 := hg3.get 0 rfl
 have l0 := hg3.lt 0 rfl
 have m0 := Lib.cell_of_heap k0 0
 have m1 := Lib.cell_of_heap k0 1
 have f0 := Lib.frozen_of_heap k0 0
 have f1 := Lib.frozen_of_heap k0 1
 simp at m0 m1 f0 f1
 have ne : w3.heap.size ≠ w.heap.size := by omega
 have HB3 := hI hg3.1
 have HK0 := hI k0
 clear k0 hg3
 go_wp2_with fail
 have k2 := heap_keep1 (Go.Proofs.YtcnmoobojdopgaaGreatDoor.set2 HK0.out (.string (I q.num)) (.string (dn q))) (.cells #[.string (I q.num), .string (dn q)] 25)
 have j0 := Lib.cell_of_heap k2 0
 have j1 := Lib.cell_of_heap k2 1
 simp at j0 j1
 refine bodyPost_ret (v := .agg #[.string (I q.num), .string (dn q)]) (by simp [results, Tryz.results332, go_sem, j0, j1]) rfl ?_
 have hb := set2_below (Nat.le_refl _) HB3.out (.string (I q.num)) (.string (dn q))
 exact ⟨rfl, hb.alloc hb.size _⟩
structure DaysOk (cd : Int → Int → Int) (n : Nat) (bd : Array Value) (w : World) : Prop where
 en : ∀ args w, (callFunc n args).run Tryz.prog w = .ok (.enter n args) w
 run : ∀ W, Below w.heap.size w W → ∀ a b, okDay a → okDay b → Calls Tryz.prog n (#[.int .i64 a, .int .i64 b] ++ bd) W fun e w' => e = .returned (.int .i64 (cd a b)) ∧ Below W.heap.size W w'
theorem DaysOk.below {cd : Int → Int → Int} {n : Nat} {bd : Array Value} {w w' : World} (h : DaysOk cd n bd w) (hb : Below w.heap.size w w') : DaysOk cd n bd w' := ⟨h.en, fun W hW => h.run W (hb.trans (hW.mono hb.size))⟩
theorem DaysOk.actual (w : World) : DaysOk (fun a b => b - a) 312 #[] w := ⟨enters_of Tryz.func312 (by kernel_rfl) rfl, fun W _ a b ha hb => (dcActual_any a b ha hb W).mono fun e w' ⟨h1, h2⟩ => ⟨h1, h2 ▸ Below.refl _ _⟩⟩
theorem DaysOk.thirty {c : Int} {n B : Nat} {w : World} (hn : AdjOk c n) (hB : Boxed w B 313 (.func (.func n) #[] #[])) : DaysOk (fun a b => days30 c a b) 333 #[.pointer (some ⟨B, 0, none⟩)] w :=
 ⟨enters_of Tryz.func333 (by kernel_rfl) rfl, fun W hW a b ha hb => dcThirty1_any c n B hn a b ha hb W ((hW.block _ hB.lt).trans hB)⟩
theorem bkeep {W W' : World} {k : Nat} {o : Obj} (hb : Below W.heap.size W W') (h : W.heap[k]? = some o) : W'.heap[k]? = some o := (hb.block _ (Array.getElem?_eq_some_iff.1 h).1).trans h
theorem BX.far {w : World} {l : List (Nat × Obj)} {W : World} {b : Nat} (h : BX w l W) (hB : w.heap.size ≤ b) (hn : ∀ x, x ∈ l → x.1 ≠ b) (x y : Value) : BX w l ((W.setCell ⟨b, 0, none⟩ x).setCell ⟨b, 1, none⟩ y) :=
 ⟨set2_below hB h.1 _ _, fun z hz => (set2_far (hn z hz) _ _).trans (h.2 z hz)⟩
structure OVV (w : World) (pa pb z yr : Int) (b1 b2 n : Nat) (bd : Array Value) (q : Rat)  (L : Array Bool) (W : World) (s7 s8 s9 s10 s11 s12 : Value) : Prop where
 k0 : L.getD 0 false = true → s7 = .func (.func n) #[] bd
 k1 : L.getD 1 false = true → s8 = .int .i64 pa
 k2 : L.getD 2 false = true → s9 = .int .i64 pb
 k3 : L.getD 3 false = true → s10 = .int .i64 z
 k4 : L.getD 4 false = true → s11 = .int .i64 yr
 k5 : L.getD 5 false = true → s12 = .agg #[.string (I q.num), .string (dn q)]
 bx : BX w [] W
 o6 : L.getD 6 false = false → W.heap[w.heap.size]? = some (fz)
 n6 : L.getD 6 false = true → W.heap[w.heap.size]? = some (fobj q)
structure OVJ (w : World) (pa pb z yr : Int) (b1 b2 n : Nat) (bd : Array Value) (q : Rat) (x4 x5 : Value) (L : Array Bool) (a : Act) (W : World) : Prop where
 sz : L.size = 7
 fr : ∃ s7 s8 s9 s10 s11 s12 : Value, a = { tmps := #[.int .i64 pa, .int .i64 pb, .pointer (some ⟨b1, 0, none⟩), .pointer (some ⟨b2, 0, none⟩), x4, x5, .pointer (some ⟨w.heap.size, 0, none⟩), s7, s8, s9, s10, s11, s12], defers := [] } ∧ OVV w pa pb z yr b1 b2 n bd q  L W s7 s8 s9 s10 s11 s12
theorem dcOver1_any (cd : Int → Int → Int) (n : Nat) (bd : Array Value) (b1 b2 : Nat) (yr : Int) (a b : Int) (ha : okDay a) (hb : okDay b) (w : World) (hd : DaysOk cd n bd w) (hc : (cd a b).natAbs ≤ 1000000) (hy0 : 0 < yr) (hy1 : yr ≤ 1000)
 (h1 : Boxed w b1 194 (.func (.func n) #[] bd)) (h2 : Boxed w b2 3 (.int .i64 yr)) (ht : Tabs w) :
 Calls Tryz.prog 331 #[.int .i64 a, .int .i64 b, .pointer (some ⟨b1, 0, none⟩), .pointer (some ⟨b2, 0, none⟩)] w fun e w' => e = .returned (fenc (Rat.divInt (cd a b) yr)) ∧ Below w.heap.size w w' := by
 have HD : Hid (∀ W, BX w [] W → Calls Tryz.prog n (#[.int .i64 a, .int .i64 b] ++ bd) W fun e w' => e = .returned (.int .i64 (cd a b)) ∧ Below W.heap.size W w') := fun W hW => hd.run W hW.1 a b ha hb
 have HR : Hid (∀ W, BX w [] W → Calls Tryz.prog 332 #[.int .i64 (cd a b), .int .i64 yr] W fun e w' => e = .returned (fenc (Rat.divInt (cd a b) yr)) ∧ Below W.heap.size W w') := fun W hW => dcRatio_any (cd a b) yr (by omega) (by omega) (by omega) (by omega) (by omega) W (ht.below hW.1)
 have hen := hd.en
 have HC : Hid (∀ W, BX w [] W → W.cell? ⟨b1, 0, none⟩ = some (.func (.func n) #[] bd) ∧ W.cell? ⟨b2, 0, none⟩ = some (.int .i64 yr)) := fun W hW => ⟨Boxed.cell (show Boxed W b1 194 _ from (hW.1.block _ h1.lt).trans h1), Boxed.cell (show Boxed W b2 3 _ from (hW.1.block _ h2.lt).trans h2)⟩
 obtain ⟨q, hq⟩ : ∃ q, Rat.divInt (cd a b) yr = q := ⟨_, rfl⟩
 obtain ⟨z, hz⟩ : ∃ z, cd a b = z := ⟨_, rfl⟩
 rw [hq] at HR ⊢
 rw [hz] at HR HD
 clear hq hz ha hb hd hc hy0 hy1 h1 h2 ht
 obtain ⟨W0, hW0⟩ : ∃ W0, w.alloc fz = W0 := ⟨_, rfl⟩
 have hg0 : BX w [(w.heap.size, fz)] W0 := by rw [← hW0]; exact BX.push (W := w) ⟨Below.refl _ _, fun _ h => by cases h⟩ fz
 unfold fenc at HR ⊢
 go_enter Tryz.func331, Tryz.ntmps331
 go_wp2_with fail
 have hg : BX w [] W0.drew := ⟨hg0.1.drew, fun _ h => by cases h⟩
 have hko6 : W0.drew.heap[w.heap.size]? = some fz := hg0.get 0 rfl
 clear hg0 hW0
 have mixed : Tryz.prog.follows .mixedOrders = true := by kernel_rfl
 refine wp_region_any mixed (wpAny_inv (OVJ w a b z yr b1 b2 n bd q _ _) ?stOV ?dnOV _ _ _ _ ⟨by simp, ⟨_, _, _, _, _, _, rfl, fun h => by simp at h, fun h => by simp at h, fun h => by simp at h, fun h => by simp at h, fun h => by simp at h, fun h => by simp at h, hg, fun _ => hko6, fun h => by simp at h⟩⟩ (by decide))
 case dnOV =>
  intro L a w' hj hr
  have all := all_on hr hj.sz (by kernel_rfl)
  obtain ⟨s7, s8, s9, s10, s11, s12, rfl, hv⟩ := hj.fr
  have HF := hI (And.intro (hv.n6 (all 6 (by omega))) hv.bx.1)
  clear all hv hj hr
  have j0 := Lib.cell_of_heap HF.out.1 0
  have j1 := Lib.cell_of_heap HF.out.1 1
  simp at j0 j1
  go_wp2_with fail
  refine bodyPost_ret (v := .agg #[.string (I q.num), .string (dn q)]) (by simp [results, Tryz.results331, go_sem, j0, j1]) rfl ?_
  exact ⟨rfl, HF.out.2⟩
 case stOV =>
  intro L a w' hj i hi
  obtain ⟨hun, o, ho, hall⟩ := mem_ready.1 hi
  have hoff := getD_off hun
  have hlt := (Array.getElem?_eq_some_iff.1 ho).1
  simp at hlt
  obtain ⟨s7, s8, s9, s10, s11, s12, rfl, hv⟩ := hj.fr
  have HV := hI hv
  have HJ := hI hj
  clear hv hj
  rcases (show i = 0 ∨ i = 1 ∨ i = 2 ∨ i = 3 ∨ i = 4 ∨ i = 5 ∨ i = 6 from by omega) with rfl | rfl | rfl | rfl | rfl | rfl | rfl
  all_goals simp at ho
  all_goals subst ho
  obtain ⟨c1, _⟩ := HC.out _ HV.out.bx
  rotate_left
  rotate_left
  rotate_left
  ·cases HV.out.k0 (Hq hall 0).out
   cases HV.out.k1 (Hq hall 1).out
   cases HV.out.k2 (Hq hall 2).out
   clear hall hi
   refine wpOp_hid rfl fun K' HK => ?_
   go_simp
   refine (HD.out _ HV.out.bx).mono ?_
   rintro e wn ⟨rfl, hbn⟩
   cases HV.out
   refine HK.out _ _ ⟨by simp [HJ.out.sz], ⟨_, _, _, _, _, _, rfl, ?_, ?_, ?_, fun _ => rfl, ?_, ?_, HV.out.bx.below hbn, fun h => bkeep hbn (HV.out.o6 (getD_df (by decide) h)), fun h => bkeep hbn (HV.out.n6 (getD_dn (by decide) h))⟩⟩
   all_goals exact Um (by assumption)
  obtain ⟨_, c2⟩ := HC.out _ HV.out.bx
  rotate_left
  ·cases HV.out.k3 (Hq hall 3).out
   cases HV.out.k4 (Hq hall 4).out
   clear hall hi
   refine wpOp_hid rfl fun K' HK => ?_
   go_simp
   refine (HR.out _ HV.out.bx).mono ?_
   rintro e wn ⟨rfl, hbn⟩
   cases HV.out
   refine HK.out _ _ ⟨by simp [HJ.out.sz], ⟨_, _, _, _, _, _, rfl, ?_, ?_, ?_, ?_, ?_, fun _ => rfl, HV.out.bx.below hbn, fun h => bkeep hbn (HV.out.o6 (getD_df (by decide) h)), fun h => bkeep hbn (HV.out.n6 (getD_dn (by decide) h))⟩⟩
   all_goals exact Um (by assumption)
  ·cases HV.out.k5 (Hq hall 5).out
   clear hall hi
   have hko := HV.out.o6 hoff
   have m0 := Lib.cell_of_heap hko 0; have m1 := Lib.cell_of_heap hko 1; have f0 := Lib.frozen_of_heap hko 0; have f1 := Lib.frozen_of_heap hko 1
   simp at m0 m1 f0 f1
   refine wpOp_hid rfl fun K' HK => ?_
   go_simp
   cases HV.out
   refine HK.out _ _ ⟨by simp [HJ.out.sz], ⟨_, _, _, _, _, _, rfl, ?_, ?_, ?_, ?_, ?_, ?_, HV.out.bx.far (b := w.heap.size) (by omega) (by simp <;> omega) _ _, fun h => (not_on h (getD_set_same hun)).elim, fun _ => set2 hko _ _⟩⟩
   all_goals exact Um (by assumption)
  all_goals
   clear hall hi
   refine wpOp_hid rfl fun K' HK => ?_
   go_simp
   cases HV.out
   refine HK.out _ _ ⟨by simp [HJ.out.sz], ?_⟩
   iterate 6 apply Exists.intro
   refine ⟨rfl, ?_⟩
   constructor
   all_goals first | exact Um (by assumption) | exact Un (by assumption) | exact Uf (by assumption) | exact fun _ => rfl | assumption
theorem yrs_bd {d : Int} (h : okDay d) : BdQ (yrs d) 9 := by
 obtain ⟨y, y0, y1, h2, h3⟩ := year_of h.1 h.2
 rw [yrs_of y0 y1 h2 h3]
 have hl := ylen_pos (leapB y)
 rw [bg_succ] at h3
 have e : ((d + 25567 - bg y : Int) : Rat) / (ylen (leapB y) : Rat) = Rat.divInt (d + 25567 - bg y) (ylen (leapB y)) := (Rat.divInt_eq_div _ _).symm
 rw [e]
 exact BdQ.add (a := 4) (b := 4) (BdQ.int (by omega) (by omega)) (BdQ.divInt (by omega) (by omega) (by omega))
theorem yrs_diff_bd {a b : Int} (ha : okDay a) (hb : okDay b) : BdQ (yrs a - yrs b) 19 := BdQ.sub (a := 9) (b := 9) (yrs_bd ha) (yrs_bd hb)
theorem fenc_zero : fenc 0 = .agg #[.string ⟨#[]⟩, .string ⟨#[]⟩] := by
 unfold fenc dn
 rw [show (0 : Rat).num = 0 from rfl, show (0 : Rat).den = 1 from rfl, if_pos rfl, ← zero_eq]
theorem fobj_zero : fobj 0 = fz := by
 unfold fobj fz dn
 rw [show (0 : Rat).num = 0 from rfl, show (0 : Rat).den = 1 from rfl, if_pos rfl, ← zero_eq]
theorem dLeap_any (y : Int) (h0 : 1900 ≤ y) (h1 : y ≤ 2199) (w : World) : Calls Tryz.prog 225 #[.int .i64 y] w fun e w' => e = .returned (.bool (leapB y)) ∧ w = w' := (Leap_any y (by omega) (by omega) w).mono fun e w' ⟨x, z⟩ => ⟨x, z.symm⟩
structure CAV (w : World) (e x Ln : Int) (p rq sq : Rat)  (L : Array Bool) (W : World) (s37 s38 s39 s40 s41 s42 s43 : Value) : Prop where
 k0 : L.getD 0 false = true → s37 = .agg #[.string (I p.num), .string (dn p)]
 k1 : L.getD 1 false = true → s38 = .int .i64 x
 k2 : L.getD 2 false = true → s39 = .int .i64 e
 k3 : L.getD 3 false = true → s40 = .int .i64 (x - e)
 k4 : L.getD 4 false = true → s41 = .int .i64 Ln
 k5 : L.getD 5 false = true → s42 = .agg #[.string (I rq.num), .string (dn rq)]
 k6 : L.getD 6 false = true → s43 = .agg #[.string (I sq.num), .string (dn sq)]
 bx : BX w [(w.heap.size, fz)] W
 o7 : L.getD 7 false = false → W.heap[w.heap.size + 1]? = some (fobj p)
 n7 : L.getD 7 false = true → W.heap[w.heap.size + 1]? = some (fobj sq)
 d7_0 : L.getD 7 false = true → L.getD 0 false = true
structure CAJ (w : World) (e x Ln : Int) (p rq sq : Rat) (x1 x2 x3 x4 x6 x7 x8 x9 x11 x12 x14 x15 x16 x17 x18 x19 x20 x21 x22 x23 x24 x25 x26 x27 x28 x29 x30 x31 x32 x33 x34 x35 x36 x44 x45 : Value) (L : Array Bool) (a : Act) (W : World) : Prop where
 sz : L.size = 8
 fr : ∃ s37 s38 s39 s40 s41 s42 s43 : Value, a = { tmps := #[.int .i64 e, x1, x2, x3, x4, .pointer (some ⟨w.heap.size + 1, 0, none⟩), x6, x7, x8, x9, .int .i64 Ln, x11, x12, .int .i64 x, x14, x15, x16, x17, x18, x19, x20, x21, x22, x23, x24, x25, x26, x27, x28, x29, x30, x31, x32, x33, x34, x35, x36, s37, s38, s39, s40, s41, s42, s43, x44, x45], defers := [] } ∧ CAV w e x Ln p rq sq  L W s37 s38 s39 s40 s41 s42 s43
theorem dcCal_any (a b : Int) (ha : okDay a) (hb : okDay b) (hab : a ≤ b) (w : World) (ht : Tabs w) :
 Calls Tryz.prog 316 #[.int .i64 a, .int .i64 b] w fun e w' => e = .returned (fenc (yrs b - yrs a)) ∧ Below w.heap.size w w' := by
 have HT := hI ht
 have HP := hI (fun (e : Int) (h0 : okDay e) W => Parts_any e h0 W)
 have HLP := hI (fun (y : Int) (h0 : 1900 ≤ y) (h1 : y ≤ 2199) W => dLeap_any y h0 h1 W)
 have HOF := hI (fun (y : Int) (h : VDate y 1 1) W => dOf_any y 1 1 h W)
 obtain ⟨W0, hW0⟩ : ∃ W0, w.alloc fz = W0 := ⟨_, rfl⟩
 have hg0 : BX w [(w.heap.size, fz)] W0 := by rw [← hW0]; exact BX.push (W := w) ⟨Below.refl _ _, fun _ h => by cases h⟩ fz
 have s0 : W0.heap.size = w.heap.size + 1 := by rw [← hW0]; simp
 have hg1 : BX w [(w.heap.size + 1, fobj 0), (w.heap.size, fz)] (W0.alloc (.cells #[.string ⟨#[]⟩, .string ⟨#[]⟩] 25)) := by
  have := hg0.push fz
  rw [s0] at this
  rw [fobj_zero]; exact this
 have HG0 := hI hg1
 clear hg0 hg1 ht
 go_enter Tryz.func316, Tryz.ntmps316
 go_wp2_with fail
 obtain ⟨W1, hW1⟩ : ∃ W1, W0.alloc (.cells #[.string ⟨#[]⟩, .string ⟨#[]⟩] 25) = W1 := ⟨_, rfl⟩
 have HG1 := HG0
 rw [hW1] at HG1 ⊢
 clear hW0 hW1 s0 HG0
 go_loopw [0] (fun v0 wr => ∃ (e : Int), v0 = .int .i64 e ∧ a ≤ e ∧ e ≤ b ∧ Hid (BX w [(w.heap.size + 1, fobj (yrs e - yrs a)), (w.heap.size, fz)] wr)) (fun v0 _ => (b - intOf v0).toNat)
 case atStart => exact ⟨a, rfl, Int.le_refl _, hab, by rw [show yrs a - yrs a = (0 : Rat) from by grind]; exact HG1.out⟩
 case round =>
  obtain ⟨e, rfl, hae, heb, HG⟩ := hrel
  clear HG1
  have he : okDay e := by obtain ⟨_, _⟩ := ha; obtain ⟨_, _⟩ := hb; exact ⟨by omega, by omega⟩
  rcases Int.lt_or_le e b with hlt | hge
  ·have hc : decide (e < b) = true := decide_eq_true hlt
   have HPE := hI (fun W => HP.out e he W)
   go_wp2_with fail
   refine (HPE.out _).mono ?_
   rintro r w2 ⟨y, m, d, rfl, hv, hd, hb2⟩
   have HG2 := hI (HG.out.below hb2)
   have hvd := hv
   obtain ⟨y0, y1, _, _, _, _⟩ := hvd
   have HY := hI (And.intro hv hd)
   clear hv hd hb2 HG
   go_wp2_with fail
   refine (HLP.out y y0 y1 _).mono ?_
   rintro r w3 ⟨rfl, rfl⟩
   go_upto_if 26 with fail
   go_cut [10] (fun v10 wx => v10 = .int .i64 (ylen (leapB y)) ∧ w2 = wx)
   case first =>
    cases hl : leapB y
    all_goals (go_wp2_with fail; go_meet; exact ⟨by first | rfl | (rw [hl]; rfl), rfl⟩)
   case rest =>
    obtain ⟨rfl, rfl⟩ := hcut
    have hL := ylen_pos (leapB y)
    obtain ⟨hvv, hde⟩ := HY.out
    have hiy := in_year hvv
    rw [hde, bg_succ] at hiy
    have hV1 : VDate y 1 1 := ⟨y0, y1, by omega, by omega, by omega, by have := (lenB_pos (leapB y) 1).1; omega⟩
    have hFe : dayOf y 1 1 = -25567 + bg y := by unfold dayOf; rw [show cumB (leapB y) (1 - 1) = 0 from rfl]; omega
    obtain ⟨F, hF⟩ : ∃ F, dayOf y 1 1 = F := ⟨_, rfl⟩
    have hFr := dayOf_range hV1
    have HOY := hI (HOF.out y hV1)
    rw [hF] at HOY hFr hFe
    obtain ⟨Ln, hLn⟩ : ∃ Ln, ylen (leapB y) = Ln := ⟨_, rfl⟩
    have HST := hI (fun (x : Int) (h1 : e ≤ x) (h2 : x + 25567 ≤ bg (y + 1)) (h3 : x ≤ 84005) => yrs_step y0 y1 hiy.1 h1 (by rw [bg_succ]; exact hiy.2) h2 h3)
    rw [bg_succ, hLn] at HST
    rw [hLn] at hL hiy ⊢
    obtain ⟨G, hG⟩ : ∃ G, bg y = G := ⟨_, rfl⟩
    rw [hG] at hFe hiy HST
    obtain ⟨hL1, hL2, hL3⟩ := hL
    obtain ⟨hi1, hi2⟩ := hiy
    obtain ⟨hF1, hF2⟩ := hFr
    have hbr : b ≤ 84005 := hb.2
    have hbl : -25567 ≤ b := hb.1
    have hel : -25567 ≤ e := he.1
    clear hvv hde hF hG hLn HY hV1
    go_wp2_with fail
    refine (HOY.out _).mono ?_
    rintro r w3 ⟨rfl, hb3⟩
    have HG3 := hI (HG2.out.below hb3)
    obtain ⟨x, hx⟩ : ∃ x, min b (F + Ln) = x := ⟨_, rfl⟩
    have x1 : e < x := by omega
    have x2 : x ≤ b := by omega
    have x3 : x + 25567 ≤ G + Ln := by omega
    have HSX := hI (HST.out x (by omega) x3 (by omega))
    clear hb3 HG2 hFe
    go_wp2_with fail
    have okx : okDay x := ⟨by omega, by omega⟩
    have b1 := yrs_diff_bd he ha
    have b2 : BdQ (Rat.divInt (x - e) Ln) 9 := BdQ.divInt (by omega) (by omega) (by omega)
    obtain ⟨p, hp⟩ : ∃ p, yrs e - yrs a = p := ⟨_, rfl⟩
    have HPE2 : Hid (yrs x - yrs a = p + Rat.divInt (x - e) Ln) := by
     show yrs x - yrs a = _
     rw [HSX.out, ← hp, Rat.divInt_eq_div]
     grind
    rw [hp] at b1
    have HR := hI (fun W (hW : BX w [(w.heap.size, fz)] W) => dcRatio_any (x - e) Ln (by omega) (by omega) (by omega) (by omega) (by omega) W (HT.out.below hW.1))
    obtain ⟨rq, hrq⟩ : ∃ rq, Rat.divInt (x - e) Ln = rq := ⟨_, rfl⟩
    rw [hrq] at HR b2 HPE2
    have HA := hI (fun W (hW : BX w [(w.heap.size, fz)] W) => fAddQ b1 b2 (by omega) (by omega) W (HT.out.below hW.1))
    obtain ⟨sq, hsq⟩ : ∃ sq, p + rq = sq := ⟨_, rfl⟩
    rw [hsq] at HA HPE2
    rw [hp] at HG3
    have hg : BX w [(w.heap.size, fz)] w3.drew := ⟨HG3.out.1.drew, fun z hz => HG3.out.2 z (List.mem_cons_of_mem _ hz)⟩
    have hko7 : w3.drew.heap[w.heap.size + 1]? = some (fobj p) := HG3.out.get 0 rfl
    unfold fenc at HR HA
    clear HG3 hp hrq hsq b1 b2 HST HOY hx hi1 hi2 hF1 hF2
    have mixed : Tryz.prog.follows .mixedOrders = true := by kernel_rfl
    refine wp_region_any mixed (wpAny_inv (CAJ w e x Ln p rq sq _ _ _ _ _ _ _ _ _ _ _ _ _ _ _ _ _ _ _ _ _ _ _ _ _ _ _ _ _ _ _ _ _ _ _) ?stCA ?dnCA _ _ _ _ ⟨by simp, ⟨_, _, _, _, _, _, _, rfl, fun h => by simp at h, fun h => by simp at h, fun h => by simp at h, fun h => by simp at h, fun h => by simp at h, fun h => by simp at h, fun h => by simp at h, hg, fun _ => hko7, fun h => by simp at h, fun h => by simp at h⟩⟩ (by decide))
    case dnCA =>
     intro L a w' hj hr
     have all := all_on hr hj.sz (by kernel_rfl)
     obtain ⟨s37, s38, s39, s40, s41, s42, s43, rfl, hv⟩ := hj.fr
     have HF : Hid (BX w [(w.heap.size + 1, fobj (yrs x - yrs a)), (w.heap.size, fz)] w') := by
      show BX _ _ _
      rw [HPE2.out]
      refine ⟨hv.bx.1, fun z hz => ?_⟩
      rcases List.mem_cons.1 hz with rfl | hz
      ·exact hv.n7 (all 7 (by omega))
      ·exact hv.bx.2 z hz
     clear all hv hj hr
     go_wp2_with fail
     go_roundw
     case rel => exact ⟨x, rfl, by omega, x2, HF.out⟩
     case measure => simp [intOf]; omega
    case stCA =>
     intro L a w' hj i hi
     obtain ⟨hun, o, ho, hall⟩ := mem_ready.1 hi
     have hoff := getD_off hun
     have hlt := (Array.getElem?_eq_some_iff.1 ho).1
     simp at hlt
     obtain ⟨s37, s38, s39, s40, s41, s42, s43, rfl, hv⟩ := hj.fr
     have HV := hI hv
     have HJ := hI hj
     clear hv hj
     rcases (show i = 0 ∨ i = 1 ∨ i = 2 ∨ i = 3 ∨ i = 4 ∨ i = 5 ∨ i = 6 ∨ i = 7 from by omega) with rfl | rfl | rfl | rfl | rfl | rfl | rfl | rfl
     ·simp at ho
      subst ho
      clear hall hi
      have hk7 : L.getD 7 false = false := (off_or_on L 7).resolve_right (fun h => not_on hoff (HV.out.d7_0 h))
      have hk := HV.out.o7 hk7; have c0 := Lib.cell_of_heap hk 0; have c1 := Lib.cell_of_heap hk 1
      simp at c0 c1
      refine wpOp_hid rfl fun K' HK => ?_
      go_simp
      cases HV.out
      refine HK.out _ _ ⟨by simp [HJ.out.sz], ⟨_, _, _, _, _, _, _, rfl, fun _ => rfl, ?_, ?_, ?_, ?_, ?_, ?_, HV.out.bx, fun h0 => HV.out.o7 (getD_df (by decide) h0), ?_, fun h => getD_up hun (HV.out.d7_0 (getD_dn (by decide) h))⟩⟩
      all_goals exact Um (by assumption)
     ·simp at ho
      subst ho
      clear hall hi
      refine wpOp_hid rfl fun K' HK => ?_
      go_simp
      cases HV.out
      refine HK.out _ _ ⟨by simp [HJ.out.sz], ⟨_, _, _, _, _, _, _, rfl, ?_, fun _ => rfl, ?_, ?_, ?_, ?_, ?_, HV.out.bx, fun h0 => HV.out.o7 (getD_df (by decide) h0), ?_, fun h => getD_up hun (HV.out.d7_0 (getD_dn (by decide) h))⟩⟩
      all_goals exact Um (by assumption)
     ·simp at ho
      subst ho
      clear hall hi
      refine wpOp_hid rfl fun K' HK => ?_
      go_simp
      cases HV.out
      refine HK.out _ _ ⟨by simp [HJ.out.sz], ⟨_, _, _, _, _, _, _, rfl, ?_, ?_, fun _ => rfl, ?_, ?_, ?_, ?_, HV.out.bx, fun h0 => HV.out.o7 (getD_df (by decide) h0), ?_, fun h => getD_up hun (HV.out.d7_0 (getD_dn (by decide) h))⟩⟩
      all_goals exact Um (by assumption)
     ·simp at ho
      subst ho
      have h1x : L.getD 1 false = true := hall { on := 1, ground := Ground.data } (by simp) (by decide)
      have h2x : L.getD 2 false = true := hall { on := 2, ground := Ground.data } (by simp) (by decide)
      have H1 := hI h1x
      have H2 := hI h2x
      clear hall hi h1x h2x
      have e0 := HV.out.k1 H1.out
      subst e0
      have e1 := HV.out.k2 H2.out
      subst e1
      refine wpOp_hid rfl fun K' HK => ?_
      go_simp
      cases HV.out
      refine HK.out _ _ ⟨by simp [HJ.out.sz], ⟨_, _, _, _, _, _, _, rfl, ?_, ?_, ?_, fun _ => by rw [show IntKind.i64.wrap (x - e) = x - e from by rw [IntKind.wrap_i64]; omega], ?_, ?_, ?_, HV.out.bx, fun h0 => HV.out.o7 (getD_df (by decide) h0), ?_, fun h => getD_up hun (HV.out.d7_0 (getD_dn (by decide) h))⟩⟩
      all_goals exact Um (by assumption)
     ·simp at ho
      subst ho
      clear hall hi
      refine wpOp_hid rfl fun K' HK => ?_
      go_simp
      cases HV.out
      refine HK.out _ _ ⟨by simp [HJ.out.sz], ⟨_, _, _, _, _, _, _, rfl, ?_, ?_, ?_, ?_, fun _ => rfl, ?_, ?_, HV.out.bx, fun h0 => HV.out.o7 (getD_df (by decide) h0), ?_, fun h => getD_up hun (HV.out.d7_0 (getD_dn (by decide) h))⟩⟩
      all_goals exact Um (by assumption)
     ·simp at ho
      subst ho
      have h3x : L.getD 3 false = true := hall { on := 3, ground := Ground.data } (by simp) (by decide)
      have h4x : L.getD 4 false = true := hall { on := 4, ground := Ground.data } (by simp) (by decide)
      have H3 := hI h3x
      have H4 := hI h4x
      clear hall hi h3x h4x
      have e0 := HV.out.k3 H3.out
      subst e0
      have e1 := HV.out.k4 H4.out
      subst e1
      refine wpOp_hid rfl fun K' HK => ?_
      go_simp
      refine (HR.out _ HV.out.bx).mono ?_
      rintro e wn ⟨rfl, hbn⟩
      cases HV.out
      refine HK.out _ _ ⟨by simp [HJ.out.sz], ⟨_, _, _, _, _, _, _, rfl, ?_, ?_, ?_, ?_, ?_, fun _ => rfl, ?_, HV.out.bx.below hbn, fun h => bkeep hbn (HV.out.o7 (getD_df (by decide) h)), fun h => bkeep hbn (HV.out.n7 (getD_dn (by decide) h)), fun h => getD_up hun (HV.out.d7_0 (getD_dn (by decide) h))⟩⟩
      all_goals exact Um (by assumption)
     ·simp at ho
      subst ho
      have h0x : L.getD 0 false = true := hall { on := 0, ground := Ground.data } (by simp) (by decide)
      have h5x : L.getD 5 false = true := hall { on := 5, ground := Ground.data } (by simp) (by decide)
      have H0 := hI h0x
      have H5 := hI h5x
      clear hall hi h0x h5x
      have e0 := HV.out.k0 H0.out
      subst e0
      have e1 := HV.out.k5 H5.out
      subst e1
      refine wpOp_hid rfl fun K' HK => ?_
      go_simp
      refine (HA.out _ HV.out.bx).mono ?_
      rintro e wn ⟨rfl, hbn⟩
      cases HV.out
      refine HK.out _ _ ⟨by simp [HJ.out.sz], ⟨_, _, _, _, _, _, _, rfl, ?_, ?_, ?_, ?_, ?_, ?_, fun _ => rfl, HV.out.bx.below hbn, fun h => bkeep hbn (HV.out.o7 (getD_df (by decide) h)), fun h => bkeep hbn (HV.out.n7 (getD_dn (by decide) h)), fun h => getD_up hun (HV.out.d7_0 (getD_dn (by decide) h))⟩⟩
      all_goals exact Um (by assumption)
     ·simp at ho
      subst ho
      have h6x : L.getD 6 false = true := hall { on := 6, ground := Ground.data } (by simp) (by decide)
      have h0x : L.getD 0 false = true := hall { on := 0, ground := Ground.phase } (by simp) (by decide)
      have H6 := hI h6x
      have H0 := hI h0x
      clear hall hi h6x h0x
      have e0 := HV.out.k6 H6.out
      subst e0
      have hko := HV.out.o7 hoff
      have m0 := Lib.cell_of_heap hko 0; have m1 := Lib.cell_of_heap hko 1; have f0 := Lib.frozen_of_heap hko 0; have f1 := Lib.frozen_of_heap hko 1
      simp at m0 m1 f0 f1
      refine wpOp_hid rfl fun K' HK => ?_
      go_simp
      cases HV.out
      refine HK.out _ _ ⟨by simp [HJ.out.sz], ⟨_, _, _, _, _, _, _, rfl, ?_, ?_, ?_, ?_, ?_, ?_, ?_, HV.out.bx.far (b := w.heap.size + 1) (by omega) (by simp <;> omega) _ _, fun h => (not_on h (getD_set_same hun)).elim, fun _ => set2 hko _ _, fun _ => getD_up hun H0.out⟩⟩
      all_goals exact Um (by assumption)
  ·have hc : decide (e < b) = false := decide_eq_false (by omega)
   have : e = b := by omega
   subst this
   obtain ⟨p, hp⟩ : ∃ p, yrs e - yrs a = p := ⟨_, rfl⟩
   rw [hp] at HG
   have k1 := HG.out.get 0 rfl
   have k0 := HG.out.get 1 rfl
   have c0 := Lib.cell_of_heap k1 0
   have c1 := Lib.cell_of_heap k1 1
   have m0 := Lib.cell_of_heap k0 0
   have m1 := Lib.cell_of_heap k0 1
   have f0 := Lib.frozen_of_heap k0 0
   have f1 := Lib.frozen_of_heap k0 1
   simp at c0 c1 m0 m1 f0 f1
   have HK0 := hI k0
   clear k0 k1
   go_wp2_with fail
   have k2 := Go.Proofs.YtcnmoobojdopgaaGreatDoor.set2 HK0.out (.string (I p.num)) (.string (dn p))
   have j0 := Lib.cell_of_heap k2 0
   have j1 := Lib.cell_of_heap k2 1
   simp at j0 j1
   refine bodyPost_ret (v := .agg #[.string (I p.num), .string (dn p)]) (by simp [results, Tryz.results316, go_sem, j0, j1]) rfl ?_
   exact ⟨by rw [hp]; rfl, set2_below (Nat.le_refl _) HG.out.1 _ _⟩
def Lot.tiny (l : Lot) : Prop := l.qty.size ≤ 13 ∧ l.cost.size ≤ 13 ∧ l.used.size ≤ 13 ∧ l.id.size ≤ 40 ∧ l.inst.size ≤ 40
theorem Lot.tiny.sized {l : Lot} (h : l.tiny) : l.sized := by
 obtain ⟨h1, h2, h3, h4, h5⟩ := h
 exact ⟨by omega, by omega, by omega, by omega, by omega⟩
theorem cmpI_pos {z : Int} (h : 0 < z) : decide (cmpI z 0 ≤ 0) = false := decide_eq_false (by rw [cmpI_le]; omega)
theorem cmpI_npos {z : Int} (h : ¬ 0 < z) : decide (cmpI z 0 ≤ 0) = true := decide_eq_true (by rw [cmpI_le]; omega)
theorem plain_any (i : Inst) (hs : i.sized) (w : World) : Calls Tryz.prog 211 #[i.enc] w (ChkPost w (plainOk i)) := by
 obtain ⟨W0, hW0, hB0, hz, hk⟩ := ibox i w
 obtain ⟨c0, c1, c2, c3, c4, c5, c6, c7, c8, c9, c10, c11, c12, c13, c14⟩ := cells15 hk
 have HB := Lib.hid hB0
 have HK : Hid (InstBox W0 w.heap.size i) := hk
 obtain ⟨z1, z2, z3, z4, z5, z6, z7, z8, z9⟩ := hs
 have S1 := Lib.hid (fun W => isign_any i.fn i.fd (by omega) W)
 have S2 := Lib.hid (fun W => isign_any i.cn i.cd (by omega) W)
 have S3 := Lib.hid (fun W => isign_any i.sn i.sd (by omega) W)
 clear hk hB0 hz z1 z2 z3 z4 z5 z6 z7 z8 z9
 unfold Inst.enc Inst.cells at *
 go_enter Tryz.func211, Tryz.ntmps211
 go_wp2_with fail
 refine (S1.out W0).mono ?_
 rintro e w1 ⟨rfl, b1⟩
 have hk1 := HK.out.below b1
 replace HB := Lib.hid (HB.out.trans (b1.mono HB.out.size))
 clear c0 c1 c2 c3 c4 c5 c6 c7 c8 c9 c10 c11 c12 c13 c14
 obtain ⟨c0, c1, c2, c3, c4, c5, c6, c7, c8, c9, c10, c11, c12, c13, c14⟩ := cells15 hk1
 replace HK := Lib.hid hk1
 clear b1 hk1 S1 hW0
 by_cases h1 : vl i.fn = 0
 case neg =>
  have th1 : (cmpI (vl i.fn) 0 == 0) = false := beq_eq_false_iff_ne.2 (fun e => h1 (cmpI_eq.1 e))
  have th1' : (cmpI (vl i.fn) 0 != 0) = true := by rw [bne, th1]; rfl
  have H := Lib.hid h1
  clear h1
  go_wp2_with fail
  go_ret
  exact ChkPost.bad (by decide) (fun h => H.out h.1) HB.out
 have th1 : (cmpI (vl i.fn) 0 == 0) = true := beq_iff_eq.2 (cmpI_eq.2 h1)
 have th1' : (cmpI (vl i.fn) 0 != 0) = false := by rw [bne, th1]; rfl
 have Hh1 := Lib.hid h1
 clear h1
 go_wp2_with fail
 refine (S2.out _).mono ?_
 rintro e w2 ⟨rfl, b1⟩
 have hk1 := HK.out.below b1
 replace HB := Lib.hid (HB.out.trans (b1.mono HB.out.size))
 clear c0 c1 c2 c3 c4 c5 c6 c7 c8 c9 c10 c11 c12 c13 c14
 obtain ⟨c0, c1, c2, c3, c4, c5, c6, c7, c8, c9, c10, c11, c12, c13, c14⟩ := cells15 hk1
 replace HK := Lib.hid hk1
 clear b1 hk1 S2
 by_cases h2 : vl i.cn = 0
 case neg =>
  have th2 : (cmpI (vl i.cn) 0 == 0) = false := beq_eq_false_iff_ne.2 (fun e => h2 (cmpI_eq.1 e))
  have th2' : (cmpI (vl i.cn) 0 != 0) = true := by rw [bne, th2]; rfl
  have H := Lib.hid h2
  clear h2
  go_wp2_with fail
  go_ret
  exact ChkPost.bad (by decide) (fun h => H.out h.2.1) HB.out
 have th2 : (cmpI (vl i.cn) 0 == 0) = true := beq_iff_eq.2 (cmpI_eq.2 h2)
 have th2' : (cmpI (vl i.cn) 0 != 0) = false := by rw [bne, th2]; rfl
 have Hh2 := Lib.hid h2
 clear h2
 by_cases h3 : i.months = 0
 case neg =>
  have th3 : (i.months == 0) = false := beq_eq_false_iff_ne.2 h3
  have th3' : (i.months != 0) = true := by rw [bne, th3]; rfl
  have H := Lib.hid h3
  clear h3
  go_wp2_with fail
  go_ret
  exact ChkPost.bad (by decide) (fun h => H.out h.2.2.1) HB.out
 have th3 : (i.months == 0) = true := beq_iff_eq.2 h3
 have th3' : (i.months != 0) = false := by rw [bne, th3]; rfl
 have Hh3 := Lib.hid h3
 clear h3
 by_cases h4 : i.count = 0
 case neg =>
  have th4 : (i.count == 0) = false := beq_eq_false_iff_ne.2 h4
  have th4' : (i.count != 0) = true := by rw [bne, th4]; rfl
  have H := Lib.hid h4
  clear h4
  go_wp2_with fail
  go_ret
  exact ChkPost.bad (by decide) (fun h => H.out h.2.2.2.1) HB.out
 have th4 : (i.count == 0) = true := beq_iff_eq.2 h4
 have th4' : (i.count != 0) = false := by rw [bne, th4]; rfl
 have Hh4 := Lib.hid h4
 clear h4
 go_wp2_with fail
 refine (S3.out _).mono ?_
 rintro e w3 ⟨rfl, b1⟩
 have hk1 := HK.out.below b1
 replace HB := Lib.hid (HB.out.trans (b1.mono HB.out.size))
 clear c0 c1 c2 c3 c4 c5 c6 c7 c8 c9 c10 c11 c12 c13 c14
 obtain ⟨c0, c1, c2, c3, c4, c5, c6, c7, c8, c9, c10, c11, c12, c13, c14⟩ := cells15 hk1
 replace HK := Lib.hid hk1
 clear b1 hk1 S3
 by_cases h5 : vl i.sn = 0
 case neg =>
  have th5 : (cmpI (vl i.sn) 0 == 0) = false := beq_eq_false_iff_ne.2 (fun e => h5 (cmpI_eq.1 e))
  have th5' : (cmpI (vl i.sn) 0 != 0) = true := by rw [bne, th5]; rfl
  have H := Lib.hid h5
  clear h5
  go_wp2_with fail
  go_ret
  exact ChkPost.bad (by decide) (fun h => H.out h.2.2.2.2.1) HB.out
 have th5 : (cmpI (vl i.sn) 0 == 0) = true := beq_iff_eq.2 (cmpI_eq.2 h5)
 have th5' : (cmpI (vl i.sn) 0 != 0) = false := by rw [bne, th5]; rfl
 have Hh5 := Lib.hid h5
 clear h5
 by_cases h6 : i.other = ⟨#[]⟩
 case neg =>
  have th6 : (i.other.toList == []) = false := by rw [str_empty, decide_eq_false h6]
  have H := Lib.hid h6
  clear h6
  go_wp2_with fail
  go_ret
  exact ChkPost.bad (by decide) (fun h => H.out h.2.2.2.2.2) HB.out
 have th6 : (i.other.toList == []) = true := by rw [str_empty, decide_eq_true h6]
 have Hh6 := Lib.hid h6
 clear h6
 go_wp2_with fail
 go_ret
 exact ChkPost.good ⟨Hh1.out, Hh2.out, Hh3.out, Hh4.out, Hh5.out, Hh6.out⟩ HB.out
theorem forward_any (i : Inst) (hs : i.sized) (w : World) : Calls Tryz.prog 213 #[i.enc] w (ChkPost w (fwdOk i)) := by
 obtain ⟨W0, hW0, hB0, hz, hk⟩ := ibox i w
 obtain ⟨c0, c1, c2, c3, c4, c5, c6, c7, c8, c9, c10, c11, c12, c13, c14⟩ := cells15 hk
 have HB := Lib.hid hB0
 have HK : Hid (InstBox W0 w.heap.size i) := hk
 obtain ⟨z1, z2, z3, z4, z5, z6, z7, z8, z9⟩ := hs
 have S0 := Lib.hid (fun W => isCode_any i.other (by omega) W)
 have S1 := Lib.hid (fun W => isign_any i.fn i.fd (by omega) W)
 have S2 := Lib.hid (fun W => isign_any i.cn i.cd (by omega) W)
 have S3 := Lib.hid (fun W => isign_any i.sn i.sd (by omega) W)
 clear hk hB0 hz z1 z2 z3 z4 z5 z6 z7 z8 z9
 unfold Inst.enc Inst.cells at *
 go_enter Tryz.func213, Tryz.ntmps213
 go_wp2_with fail
 refine (S0.out W0).mono ?_
 rintro e w4 ⟨rfl, b1⟩
 have hk1 := HK.out.below b1
 replace HB := Lib.hid (HB.out.trans (b1.mono HB.out.size))
 clear c0 c1 c2 c3 c4 c5 c6 c7 c8 c9 c10 c11 c12 c13 c14
 obtain ⟨c0, c1, c2, c3, c4, c5, c6, c7, c8, c9, c10, c11, c12, c13, c14⟩ := cells15 hk1
 replace HK := Lib.hid hk1
 clear b1 hk1 S0 hW0
 by_cases h1 : codeOk i.other = true
 case neg =>
  rw [Bool.not_eq_true] at h1
  rw [h1]
  have H := Lib.hid h1
  clear h1
  go_wp2_with fail
  go_ret
  exact ChkPost.bad (by decide) (fun h => by have := h.1; rw [H.out] at this; cases this) HB.out
 rw [h1]
 have Hh1 := Lib.hid h1
 clear h1
 by_cases h2 : i.other ≠ i.cur
 case neg =>
  have th2 : (i.other.toList == i.cur.toList) = true := by rw [Classical.not_not] at h2; rw [h2]; exact beq_self_eq_true _
  have H := Lib.hid h2
  clear h2
  go_wp2_with fail
  go_ret
  exact ChkPost.bad (by decide) (fun h => H.out h.2.1) HB.out
 have th2 : (i.other.toList == i.cur.toList) = false := neq_toList h2
 have Hh2 := Lib.hid h2
 clear h2
 go_wp2_with fail
 refine (S3.out _).mono ?_
 rintro e w5 ⟨rfl, b1⟩
 have hk1 := HK.out.below b1
 replace HB := Lib.hid (HB.out.trans (b1.mono HB.out.size))
 clear c0 c1 c2 c3 c4 c5 c6 c7 c8 c9 c10 c11 c12 c13 c14
 obtain ⟨c0, c1, c2, c3, c4, c5, c6, c7, c8, c9, c10, c11, c12, c13, c14⟩ := cells15 hk1
 replace HK := Lib.hid hk1
 clear b1 hk1 S3
 by_cases h3 : 0 < vl i.sn
 case neg =>
  have th3 : decide (cmpI (vl i.sn) 0 ≤ 0) = true := cmpI_npos h3
  have H := Lib.hid h3
  clear h3
  go_wp2_with fail
  go_ret
  exact ChkPost.bad (by decide) (fun h => by have := h.2.2.1; have := H.out; omega) HB.out
 have th3 : decide (cmpI (vl i.sn) 0 ≤ 0) = false := cmpI_pos h3
 have Hh3 := Lib.hid h3
 clear h3
 go_wp2_with fail
 refine (S1.out _).mono ?_
 rintro e w6 ⟨rfl, b1⟩
 have hk1 := HK.out.below b1
 replace HB := Lib.hid (HB.out.trans (b1.mono HB.out.size))
 clear c0 c1 c2 c3 c4 c5 c6 c7 c8 c9 c10 c11 c12 c13 c14
 obtain ⟨c0, c1, c2, c3, c4, c5, c6, c7, c8, c9, c10, c11, c12, c13, c14⟩ := cells15 hk1
 replace HK := Lib.hid hk1
 clear b1 hk1 S1
 by_cases h4 : vl i.fn = 0
 case neg =>
  have th4 : (cmpI (vl i.fn) 0 == 0) = false := beq_eq_false_iff_ne.2 (fun e => h4 (cmpI_eq.1 e))
  have th4' : (cmpI (vl i.fn) 0 != 0) = true := by rw [bne, th4]; rfl
  have H := Lib.hid h4
  clear h4
  go_wp2_with fail
  go_ret
  exact ChkPost.bad (by decide) (fun h => H.out h.2.2.2.1) HB.out
 have th4 : (cmpI (vl i.fn) 0 == 0) = true := beq_iff_eq.2 (cmpI_eq.2 h4)
 have th4' : (cmpI (vl i.fn) 0 != 0) = false := by rw [bne, th4]; rfl
 have Hh4 := Lib.hid h4
 clear h4
 go_wp2_with fail
 refine (S2.out _).mono ?_
 rintro e w7 ⟨rfl, b1⟩
 have hk1 := HK.out.below b1
 replace HB := Lib.hid (HB.out.trans (b1.mono HB.out.size))
 clear c0 c1 c2 c3 c4 c5 c6 c7 c8 c9 c10 c11 c12 c13 c14
 obtain ⟨c0, c1, c2, c3, c4, c5, c6, c7, c8, c9, c10, c11, c12, c13, c14⟩ := cells15 hk1
 replace HK := Lib.hid hk1
 clear b1 hk1 S2
 by_cases h5 : vl i.cn = 0
 case neg =>
  have th5 : (cmpI (vl i.cn) 0 == 0) = false := beq_eq_false_iff_ne.2 (fun e => h5 (cmpI_eq.1 e))
  have th5' : (cmpI (vl i.cn) 0 != 0) = true := by rw [bne, th5]; rfl
  have H := Lib.hid h5
  clear h5
  go_wp2_with fail
  go_ret
  exact ChkPost.bad (by decide) (fun h => H.out h.2.2.2.2.1) HB.out
 have th5 : (cmpI (vl i.cn) 0 == 0) = true := beq_iff_eq.2 (cmpI_eq.2 h5)
 have th5' : (cmpI (vl i.cn) 0 != 0) = false := by rw [bne, th5]; rfl
 have Hh5 := Lib.hid h5
 clear h5
 by_cases h6 : i.months = 0
 case neg =>
  have th6 : (i.months == 0) = false := beq_eq_false_iff_ne.2 h6
  have th6' : (i.months != 0) = true := by rw [bne, th6]; rfl
  have H := Lib.hid h6
  clear h6
  go_wp2_with fail
  go_ret
  exact ChkPost.bad (by decide) (fun h => H.out h.2.2.2.2.2.1) HB.out
 have th6 : (i.months == 0) = true := beq_iff_eq.2 h6
 have th6' : (i.months != 0) = false := by rw [bne, th6]; rfl
 have Hh6 := Lib.hid h6
 clear h6
 by_cases h7 : i.count = 0
 case neg =>
  have th7 : (i.count == 0) = false := beq_eq_false_iff_ne.2 h7
  have th7' : (i.count != 0) = true := by rw [bne, th7]; rfl
  have H := Lib.hid h7
  clear h7
  go_wp2_with fail
  go_ret
  exact ChkPost.bad (by decide) (fun h => H.out h.2.2.2.2.2.2) HB.out
 have th7 : (i.count == 0) = true := beq_iff_eq.2 h7
 have th7' : (i.count != 0) = false := by rw [bne, th7]; rfl
 have Hh7 := Lib.hid h7
 clear h7
 go_wp2_with fail
 go_ret
 exact ChkPost.good ⟨Hh1.out, Hh2.out, Hh3.out, Hh4.out, Hh5.out, Hh6.out, Hh7.out⟩ HB.out
theorem bond_a (i : Inst) (hs : i.sized) (h1 : ¬ 0 < vl i.fn) (w : World) :
 Calls Tryz.prog 212 #[i.enc] w fun e w' => e = .returned (.int .i64 2) ∧ Below w.heap.size w w' := by
 obtain ⟨W0, hW0, hB0, hz, hk⟩ := ibox i w
 obtain ⟨W1, hW1⟩ : ∃ W1, W0.alloc (.cells #[.int .i64 1, .int .i64 2, .int .i64 3, .int .i64 4, .int .i64 6, .int .i64 12] 262) = W1 := ⟨_, rfl⟩
 have hB1 : Below w.heap.size w W1 := by rw [← hW1]; exact hB0.alloc (by omega) _
 have hk1 : W1.heap[w.heap.size]? = some (.cells i.cells 27) := by rw [← hW1]; exact (Below.heap_alloc _ _ _ (by omega)).trans hk
 have hkm : W1.heap[w.heap.size + 1]? = some (.cells #[.int .i64 1, .int .i64 2, .int .i64 3, .int .i64 4, .int .i64 6, .int .i64 12] 262) := by
  rw [← hW1, ← hz]; exact heap_alloc_new W0 _
 have c6 := Lib.cell_of_heap hk1 6
 have c7 := Lib.cell_of_heap hk1 7
 have c8 := Lib.cell_of_heap hk1 8
 have c9 := Lib.cell_of_heap hk1 9
 have c10 := Lib.cell_of_heap hk1 10
 have c11 := Lib.cell_of_heap hk1 11
 have c12 := Lib.cell_of_heap hk1 12
 have c13 := Lib.cell_of_heap hk1 13
 have c14 := Lib.cell_of_heap hk1 14
 simp at c6 c7 c8 c9 c10 c11 c12 c13 c14
 have HB1 := Lib.hid hB1
 have HKM := Lib.hid hkm
 obtain ⟨z1, z2, z3, z4, z5, z6, z7, z8, z9⟩ := hs
 have hsz : W0.heap.size = w.heap.size + 1 := hz
 have q1 : decide (cmpI (vl i.fn) 0 ≤ 0) = true := decide_eq_true (by rw [cmpI_le]; omega)
 clear hk hB0 hz hk1 hkm hB1 h1
 unfold Inst.enc Inst.cells at *
 go_enter Tryz.func212, Tryz.ntmps212
 go_wp2_with fail
 first
 | go_region_with (first
    | (go_at_call_of 260 [Value.agg #[Value.string i.fn, Value.string i.fd]]; refine (isign_any i.fn i.fd (by omega) W1.drew).mono ?_; rintro e w1 ⟨rfl, b1⟩; have d6 := keepc c6 b1; have d7 := keepc c7 b1; have d8 := keepc c8 b1; have d9 := keepc c9 b1; have d10 := keepc c10 b1; have d11 := keepc c11 b1; have d12 := keepc c12 b1; have d13 := keepc c13 b1; have d14 := keepc c14 b1; have HB2 := Lib.hid (HB1.out.drew.trans (b1.mono HB1.out.size)); have HKM1 := Lib.hid ((b1.block (w.heap.size + 1) (Array.getElem?_eq_some_iff.1 HKM.out).1).trans HKM.out); clear b1))
 | fail "the region fell"
 all_goals
  go_wp2_with fail
  go_ret
  exact ⟨rfl, HB2.out⟩
theorem bond_b (i : Inst) (hs : i.sized) (h1 : 0 < vl i.fn) (h2 : ¬ 0 ≤ vl i.cn) (w : World) :
 Calls Tryz.prog 212 #[i.enc] w fun e w' => e = .returned (.int .i64 2) ∧ Below w.heap.size w w' := by
 obtain ⟨W0, hW0, hB0, hz, hk⟩ := ibox i w
 obtain ⟨W1, hW1⟩ : ∃ W1, W0.alloc (.cells #[.int .i64 1, .int .i64 2, .int .i64 3, .int .i64 4, .int .i64 6, .int .i64 12] 262) = W1 := ⟨_, rfl⟩
 have hB1 : Below w.heap.size w W1 := by rw [← hW1]; exact hB0.alloc (by omega) _
 have hk1 : W1.heap[w.heap.size]? = some (.cells i.cells 27) := by rw [← hW1]; exact (Below.heap_alloc _ _ _ (by omega)).trans hk
 have hkm : W1.heap[w.heap.size + 1]? = some (.cells #[.int .i64 1, .int .i64 2, .int .i64 3, .int .i64 4, .int .i64 6, .int .i64 12] 262) := by
  rw [← hW1, ← hz]; exact heap_alloc_new W0 _
 have c6 := Lib.cell_of_heap hk1 6
 have c7 := Lib.cell_of_heap hk1 7
 have c8 := Lib.cell_of_heap hk1 8
 have c9 := Lib.cell_of_heap hk1 9
 have c10 := Lib.cell_of_heap hk1 10
 have c11 := Lib.cell_of_heap hk1 11
 have c12 := Lib.cell_of_heap hk1 12
 have c13 := Lib.cell_of_heap hk1 13
 have c14 := Lib.cell_of_heap hk1 14
 simp at c6 c7 c8 c9 c10 c11 c12 c13 c14
 have HB1 := Lib.hid hB1
 have HKM := Lib.hid hkm
 obtain ⟨z1, z2, z3, z4, z5, z6, z7, z8, z9⟩ := hs
 have hsz : W0.heap.size = w.heap.size + 1 := hz
 have q1 : decide (cmpI (vl i.fn) 0 ≤ 0) = false := decide_eq_false (by rw [cmpI_le]; omega)
 have q2 : decide (cmpI (vl i.cn) 0 < 0) = true := decide_eq_true (by rw [cmpI_lt]; omega)
 clear hk hB0 hz hk1 hkm hB1 h1 h2
 unfold Inst.enc Inst.cells at *
 go_enter Tryz.func212, Tryz.ntmps212
 go_wp2_with fail
 first
 | go_region_with (first
    | (go_at_call_of 260 [Value.agg #[Value.string i.fn, Value.string i.fd]]; refine (isign_any i.fn i.fd (by omega) W1.drew).mono ?_; rintro e w1 ⟨rfl, b1⟩; have d6 := keepc c6 b1; have d7 := keepc c7 b1; have d8 := keepc c8 b1; have d9 := keepc c9 b1; have d10 := keepc c10 b1; have d11 := keepc c11 b1; have d12 := keepc c12 b1; have d13 := keepc c13 b1; have d14 := keepc c14 b1; have HB2 := Lib.hid (HB1.out.drew.trans (b1.mono HB1.out.size)); have HKM1 := Lib.hid ((b1.block (w.heap.size + 1) (Array.getElem?_eq_some_iff.1 HKM.out).1).trans HKM.out); clear b1)
    | (go_at_call_of 260 [Value.agg #[Value.string i.cn, Value.string i.cd]]; refine (isign_any i.cn i.cd (by omega) w1).mono ?_; rintro e w2 ⟨rfl, b2⟩; have g6 := keepc d6 b2; have g7 := keepc d7 b2; have g8 := keepc d8 b2; have g9 := keepc d9 b2; have g10 := keepc d10 b2; have g11 := keepc d11 b2; have g12 := keepc d12 b2; have g13 := keepc d13 b2; have g14 := keepc d14 b2; have HB3 := Lib.hid (HB2.out.trans (b2.mono HB2.out.size)); have HKM2 := Lib.hid ((b2.block (w.heap.size + 1) (Array.getElem?_eq_some_iff.1 HKM1.out).1).trans HKM1.out); clear b2))
 | fail "the region fell"
 all_goals
  go_wp2_with fail
  go_ret
  exact ⟨rfl, HB3.out⟩
theorem bond_c (i : Inst) (hs : i.sized) (h1 : 0 < vl i.fn) (h2 : 0 ≤ vl i.cn) (h3 : i.months ∉ monthsL) (w : World) :
 Calls Tryz.prog 212 #[i.enc] w fun e w' => e = .returned (.int .i64 2) ∧ Below w.heap.size w w' := by
 obtain ⟨W0, hW0, hB0, hz, hk⟩ := ibox i w
 obtain ⟨W1, hW1⟩ : ∃ W1, W0.alloc (.cells #[.int .i64 1, .int .i64 2, .int .i64 3, .int .i64 4, .int .i64 6, .int .i64 12] 262) = W1 := ⟨_, rfl⟩
 have hB1 : Below w.heap.size w W1 := by rw [← hW1]; exact hB0.alloc (by omega) _
 have hk1 : W1.heap[w.heap.size]? = some (.cells i.cells 27) := by rw [← hW1]; exact (Below.heap_alloc _ _ _ (by omega)).trans hk
 have hkm : W1.heap[w.heap.size + 1]? = some (.cells #[.int .i64 1, .int .i64 2, .int .i64 3, .int .i64 4, .int .i64 6, .int .i64 12] 262) := by
  rw [← hW1, ← hz]; exact heap_alloc_new W0 _
 have c6 := Lib.cell_of_heap hk1 6
 have c7 := Lib.cell_of_heap hk1 7
 have c8 := Lib.cell_of_heap hk1 8
 have c9 := Lib.cell_of_heap hk1 9
 have c10 := Lib.cell_of_heap hk1 10
 have c11 := Lib.cell_of_heap hk1 11
 have c12 := Lib.cell_of_heap hk1 12
 have c13 := Lib.cell_of_heap hk1 13
 have c14 := Lib.cell_of_heap hk1 14
 simp at c6 c7 c8 c9 c10 c11 c12 c13 c14
 have HB1 := Lib.hid hB1
 have HKM := Lib.hid hkm
 obtain ⟨z1, z2, z3, z4, z5, z6, z7, z8, z9⟩ := hs
 have hsz : W0.heap.size = w.heap.size + 1 := hz
 have q1 : decide (cmpI (vl i.fn) 0 ≤ 0) = false := decide_eq_false (by rw [cmpI_le]; omega)
 have q2 : decide (cmpI (vl i.cn) 0 < 0) = false := decide_eq_false (by rw [cmpI_lt]; omega)
 have H3 : Hid ((monthsL.take 6).contains i.months = false) := by rw [Hid, ← Bool.not_eq_true, List.contains_iff_mem]; exact h3
 clear hk hB0 hz hk1 hkm hB1 h1 h2 h3
 unfold Inst.enc Inst.cells at *
 go_enter Tryz.func212, Tryz.ntmps212
 go_wp2_with fail
 first
 | go_region_with (first
    | (go_at_call_of 260 [Value.agg #[Value.string i.fn, Value.string i.fd]]; refine (isign_any i.fn i.fd (by omega) W1.drew).mono ?_; rintro e w1 ⟨rfl, b1⟩; have d6 := keepc c6 b1; have d7 := keepc c7 b1; have d8 := keepc c8 b1; have d9 := keepc c9 b1; have d10 := keepc c10 b1; have d11 := keepc c11 b1; have d12 := keepc c12 b1; have d13 := keepc c13 b1; have d14 := keepc c14 b1; have HB2 := Lib.hid (HB1.out.drew.trans (b1.mono HB1.out.size)); have HKM1 := Lib.hid ((b1.block (w.heap.size + 1) (Array.getElem?_eq_some_iff.1 HKM.out).1).trans HKM.out); clear b1)
    | (go_at_call_of 260 [Value.agg #[Value.string i.cn, Value.string i.cd]]; refine (isign_any i.cn i.cd (by omega) w1).mono ?_; rintro e w2 ⟨rfl, b2⟩; have g6 := keepc d6 b2; have g7 := keepc d7 b2; have g8 := keepc d8 b2; have g9 := keepc d9 b2; have g10 := keepc d10 b2; have g11 := keepc d11 b2; have g12 := keepc d12 b2; have g13 := keepc d13 b2; have g14 := keepc d14 b2; have HB3 := Lib.hid (HB2.out.trans (b2.mono HB2.out.size)); have HKM2 := Lib.hid ((b2.block (w.heap.size + 1) (Array.getElem?_eq_some_iff.1 HKM1.out).1).trans HKM1.out); clear b2)
    | (go_at_call 261; refine (Tryz.slices_Contains_int (w.heap.size + 1) 0 6 6 monthsL i.months w2 (by decide) (by decide) (fun j hj => by rw [Lib.cell_of_heap HKM2.out]; match j, hj with | 0, _ => rfl | 1, _ => rfl | 2, _ => rfl | 3, _ => rfl | 4, _ => rfl | 5, _ => rfl)).mono ?_; rintro e w3 ⟨rfl, rfl⟩; rw [show (monthsL.take 6).contains i.months = false from H3.out]))
 | fail "the region fell"
 all_goals
  go_wp2_with fail
  go_ret
  exact ⟨rfl, HB3.out⟩
theorem bond_d (i : Inst) (hs : i.sized) (h1 : 0 < vl i.fn) (h2 : 0 ≤ vl i.cn) (h3 : i.months ∈ monthsL) (h4 : ¬ 1 ≤ i.count) (w : World) :
 Calls Tryz.prog 212 #[i.enc] w fun e w' => e = .returned (.int .i64 2) ∧ Below w.heap.size w w' := by
 obtain ⟨W0, hW0, hB0, hz, hk⟩ := ibox i w
 obtain ⟨W1, hW1⟩ : ∃ W1, W0.alloc (.cells #[.int .i64 1, .int .i64 2, .int .i64 3, .int .i64 4, .int .i64 6, .int .i64 12] 262) = W1 := ⟨_, rfl⟩
 have hB1 : Below w.heap.size w W1 := by rw [← hW1]; exact hB0.alloc (by omega) _
 have hk1 : W1.heap[w.heap.size]? = some (.cells i.cells 27) := by rw [← hW1]; exact (Below.heap_alloc _ _ _ (by omega)).trans hk
 have hkm : W1.heap[w.heap.size + 1]? = some (.cells #[.int .i64 1, .int .i64 2, .int .i64 3, .int .i64 4, .int .i64 6, .int .i64 12] 262) := by
  rw [← hW1, ← hz]; exact heap_alloc_new W0 _
 have c6 := Lib.cell_of_heap hk1 6
 have c7 := Lib.cell_of_heap hk1 7
 have c8 := Lib.cell_of_heap hk1 8
 have c9 := Lib.cell_of_heap hk1 9
 have c10 := Lib.cell_of_heap hk1 10
 have c11 := Lib.cell_of_heap hk1 11
 have c12 := Lib.cell_of_heap hk1 12
 have c13 := Lib.cell_of_heap hk1 13
 have c14 := Lib.cell_of_heap hk1 14
 simp at c6 c7 c8 c9 c10 c11 c12 c13 c14
 have HB1 := Lib.hid hB1
 have HKM := Lib.hid hkm
 obtain ⟨z1, z2, z3, z4, z5, z6, z7, z8, z9⟩ := hs
 have hsz : W0.heap.size = w.heap.size + 1 := hz
 have q1 : decide (cmpI (vl i.fn) 0 ≤ 0) = false := decide_eq_false (by rw [cmpI_le]; omega)
 have q2 : decide (cmpI (vl i.cn) 0 < 0) = false := decide_eq_false (by rw [cmpI_lt]; omega)
 have H3 : Hid ((monthsL.take 6).contains i.months = true) := by rw [Hid, List.contains_iff_mem]; exact h3
 have q3 : decide (i.count < 1) = true := decide_eq_true (by omega)
 clear hk hB0 hz hk1 hkm hB1 h1 h2 h3 h4
 unfold Inst.enc Inst.cells at *
 go_enter Tryz.func212, Tryz.ntmps212
 go_wp2_with fail
 first
 | go_region_with (first
    | (go_at_call_of 260 [Value.agg #[Value.string i.fn, Value.string i.fd]]; refine (isign_any i.fn i.fd (by omega) W1.drew).mono ?_; rintro e w1 ⟨rfl, b1⟩; have d6 := keepc c6 b1; have d7 := keepc c7 b1; have d8 := keepc c8 b1; have d9 := keepc c9 b1; have d10 := keepc c10 b1; have d11 := keepc c11 b1; have d12 := keepc c12 b1; have d13 := keepc c13 b1; have d14 := keepc c14 b1; have HB2 := Lib.hid (HB1.out.drew.trans (b1.mono HB1.out.size)); have HKM1 := Lib.hid ((b1.block (w.heap.size + 1) (Array.getElem?_eq_some_iff.1 HKM.out).1).trans HKM.out); clear b1)
    | (go_at_call_of 260 [Value.agg #[Value.string i.cn, Value.string i.cd]]; refine (isign_any i.cn i.cd (by omega) w1).mono ?_; rintro e w2 ⟨rfl, b2⟩; have g6 := keepc d6 b2; have g7 := keepc d7 b2; have g8 := keepc d8 b2; have g9 := keepc d9 b2; have g10 := keepc d10 b2; have g11 := keepc d11 b2; have g12 := keepc d12 b2; have g13 := keepc d13 b2; have g14 := keepc d14 b2; have HB3 := Lib.hid (HB2.out.trans (b2.mono HB2.out.size)); have HKM2 := Lib.hid ((b2.block (w.heap.size + 1) (Array.getElem?_eq_some_iff.1 HKM1.out).1).trans HKM1.out); clear b2)
    | (go_at_call 261; refine (Tryz.slices_Contains_int (w.heap.size + 1) 0 6 6 monthsL i.months w2 (by decide) (by decide) (fun j hj => by rw [Lib.cell_of_heap HKM2.out]; match j, hj with | 0, _ => rfl | 1, _ => rfl | 2, _ => rfl | 3, _ => rfl | 4, _ => rfl | 5, _ => rfl)).mono ?_; rintro e w3 ⟨rfl, rfl⟩; rw [show (monthsL.take 6).contains i.months = true from H3.out]))
 | fail "the region fell"
 all_goals
  go_wp2_with fail
  go_ret
  exact ⟨rfl, HB3.out⟩
theorem bond_e (i : Inst) (hs : i.sized) (h1 : 0 < vl i.fn) (h2 : 0 ≤ vl i.cn) (h3 : i.months ∈ monthsL) (h4 : 1 ≤ i.count) (h5 : ¬ i.count ≤ 5) (w : World) :
 Calls Tryz.prog 212 #[i.enc] w fun e w' => e = .returned (.int .i64 2) ∧ Below w.heap.size w w' := by
 obtain ⟨W0, hW0, hB0, hz, hk⟩ := ibox i w
 obtain ⟨W1, hW1⟩ : ∃ W1, W0.alloc (.cells #[.int .i64 1, .int .i64 2, .int .i64 3, .int .i64 4, .int .i64 6, .int .i64 12] 262) = W1 := ⟨_, rfl⟩
 have hB1 : Below w.heap.size w W1 := by rw [← hW1]; exact hB0.alloc (by omega) _
 have hk1 : W1.heap[w.heap.size]? = some (.cells i.cells 27) := by rw [← hW1]; exact (Below.heap_alloc _ _ _ (by omega)).trans hk
 have hkm : W1.heap[w.heap.size + 1]? = some (.cells #[.int .i64 1, .int .i64 2, .int .i64 3, .int .i64 4, .int .i64 6, .int .i64 12] 262) := by
  rw [← hW1, ← hz]; exact heap_alloc_new W0 _
 have c6 := Lib.cell_of_heap hk1 6
 have c7 := Lib.cell_of_heap hk1 7
 have c8 := Lib.cell_of_heap hk1 8
 have c9 := Lib.cell_of_heap hk1 9
 have c10 := Lib.cell_of_heap hk1 10
 have c11 := Lib.cell_of_heap hk1 11
 have c12 := Lib.cell_of_heap hk1 12
 have c13 := Lib.cell_of_heap hk1 13
 have c14 := Lib.cell_of_heap hk1 14
 simp at c6 c7 c8 c9 c10 c11 c12 c13 c14
 have HB1 := Lib.hid hB1
 have HKM := Lib.hid hkm
 obtain ⟨z1, z2, z3, z4, z5, z6, z7, z8, z9⟩ := hs
 have hsz : W0.heap.size = w.heap.size + 1 := hz
 have q1 : decide (cmpI (vl i.fn) 0 ≤ 0) = false := decide_eq_false (by rw [cmpI_le]; omega)
 have q2 : decide (cmpI (vl i.cn) 0 < 0) = false := decide_eq_false (by rw [cmpI_lt]; omega)
 have H3 : Hid ((monthsL.take 6).contains i.months = true) := by rw [Hid, List.contains_iff_mem]; exact h3
 have q3 : decide (i.count < 1) = false := decide_eq_false (by omega)
 have q4 : decide (5 < i.count) = true := decide_eq_true (by omega)
 clear hk hB0 hz hk1 hkm hB1 h1 h2 h3 h4 h5
 unfold Inst.enc Inst.cells at *
 go_enter Tryz.func212, Tryz.ntmps212
 go_wp2_with fail
 first
 | go_region_with (first
    | (go_at_call_of 260 [Value.agg #[Value.string i.fn, Value.string i.fd]]; refine (isign_any i.fn i.fd (by omega) W1.drew).mono ?_; rintro e w1 ⟨rfl, b1⟩; have d6 := keepc c6 b1; have d7 := keepc c7 b1; have d8 := keepc c8 b1; have d9 := keepc c9 b1; have d10 := keepc c10 b1; have d11 := keepc c11 b1; have d12 := keepc c12 b1; have d13 := keepc c13 b1; have d14 := keepc c14 b1; have HB2 := Lib.hid (HB1.out.drew.trans (b1.mono HB1.out.size)); have HKM1 := Lib.hid ((b1.block (w.heap.size + 1) (Array.getElem?_eq_some_iff.1 HKM.out).1).trans HKM.out); clear b1)
    | (go_at_call_of 260 [Value.agg #[Value.string i.cn, Value.string i.cd]]; refine (isign_any i.cn i.cd (by omega) w1).mono ?_; rintro e w2 ⟨rfl, b2⟩; have g6 := keepc d6 b2; have g7 := keepc d7 b2; have g8 := keepc d8 b2; have g9 := keepc d9 b2; have g10 := keepc d10 b2; have g11 := keepc d11 b2; have g12 := keepc d12 b2; have g13 := keepc d13 b2; have g14 := keepc d14 b2; have HB3 := Lib.hid (HB2.out.trans (b2.mono HB2.out.size)); have HKM2 := Lib.hid ((b2.block (w.heap.size + 1) (Array.getElem?_eq_some_iff.1 HKM1.out).1).trans HKM1.out); clear b2)
    | (go_at_call 261; refine (Tryz.slices_Contains_int (w.heap.size + 1) 0 6 6 monthsL i.months w2 (by decide) (by decide) (fun j hj => by rw [Lib.cell_of_heap HKM2.out]; match j, hj with | 0, _ => rfl | 1, _ => rfl | 2, _ => rfl | 3, _ => rfl | 4, _ => rfl | 5, _ => rfl)).mono ?_; rintro e w3 ⟨rfl, rfl⟩; rw [show (monthsL.take 6).contains i.months = true from H3.out]))
 | fail "the region fell"
 all_goals
  go_wp2_with fail
  go_ret
  exact ⟨rfl, HB3.out⟩
theorem bond_f (i : Inst) (hs : i.sized) (h1 : 0 < vl i.fn) (h2 : 0 ≤ vl i.cn) (h3 : i.months ∈ monthsL) (h4 : 1 ≤ i.count) (h5 : i.count ≤ 5) (h6 : i.other ≠ ⟨#[]⟩) (w : World) :
 Calls Tryz.prog 212 #[i.enc] w fun e w' => e = .returned (.int .i64 1) ∧ Below w.heap.size w w' := by
 obtain ⟨W0, hW0, hB0, hz, hk⟩ := ibox i w
 obtain ⟨W1, hW1⟩ : ∃ W1, W0.alloc (.cells #[.int .i64 1, .int .i64 2, .int .i64 3, .int .i64 4, .int .i64 6, .int .i64 12] 262) = W1 := ⟨_, rfl⟩
 have hB1 : Below w.heap.size w W1 := by rw [← hW1]; exact hB0.alloc (by omega) _
 have hk1 : W1.heap[w.heap.size]? = some (.cells i.cells 27) := by rw [← hW1]; exact (Below.heap_alloc _ _ _ (by omega)).trans hk
 have hkm : W1.heap[w.heap.size + 1]? = some (.cells #[.int .i64 1, .int .i64 2, .int .i64 3, .int .i64 4, .int .i64 6, .int .i64 12] 262) := by
  rw [← hW1, ← hz]; exact heap_alloc_new W0 _
 have c6 := Lib.cell_of_heap hk1 6
 have c7 := Lib.cell_of_heap hk1 7
 have c8 := Lib.cell_of_heap hk1 8
 have c9 := Lib.cell_of_heap hk1 9
 have c10 := Lib.cell_of_heap hk1 10
 have c11 := Lib.cell_of_heap hk1 11
 have c12 := Lib.cell_of_heap hk1 12
 have c13 := Lib.cell_of_heap hk1 13
 have c14 := Lib.cell_of_heap hk1 14
 simp at c6 c7 c8 c9 c10 c11 c12 c13 c14
 have HB1 := Lib.hid hB1
 have HKM := Lib.hid hkm
 obtain ⟨z1, z2, z3, z4, z5, z6, z7, z8, z9⟩ := hs
 have hsz : W0.heap.size = w.heap.size + 1 := hz
 have q1 : decide (cmpI (vl i.fn) 0 ≤ 0) = false := decide_eq_false (by rw [cmpI_le]; omega)
 have q2 : decide (cmpI (vl i.cn) 0 < 0) = false := decide_eq_false (by rw [cmpI_lt]; omega)
 have H3 : Hid ((monthsL.take 6).contains i.months = true) := by rw [Hid, List.contains_iff_mem]; exact h3
 have q3 : decide (i.count < 1) = false := decide_eq_false (by omega)
 have q4 : decide (5 < i.count) = false := decide_eq_false (by omega)
 have hoe : (i.other.toList == []) = false := by rw [str_empty, decide_eq_false h6]
 clear hk hB0 hz hk1 hkm hB1 h1 h2 h3 h4 h5 h6
 unfold Inst.enc Inst.cells at *
 go_enter Tryz.func212, Tryz.ntmps212
 go_wp2_with fail
 first
 | go_region_with (first
    | (go_at_call_of 260 [Value.agg #[Value.string i.fn, Value.string i.fd]]; refine (isign_any i.fn i.fd (by omega) W1.drew).mono ?_; rintro e w1 ⟨rfl, b1⟩; have d6 := keepc c6 b1; have d7 := keepc c7 b1; have d8 := keepc c8 b1; have d9 := keepc c9 b1; have d10 := keepc c10 b1; have d11 := keepc c11 b1; have d12 := keepc c12 b1; have d13 := keepc c13 b1; have d14 := keepc c14 b1; have HB2 := Lib.hid (HB1.out.drew.trans (b1.mono HB1.out.size)); have HKM1 := Lib.hid ((b1.block (w.heap.size + 1) (Array.getElem?_eq_some_iff.1 HKM.out).1).trans HKM.out); clear b1)
    | (go_at_call_of 260 [Value.agg #[Value.string i.cn, Value.string i.cd]]; refine (isign_any i.cn i.cd (by omega) w1).mono ?_; rintro e w2 ⟨rfl, b2⟩; have g6 := keepc d6 b2; have g7 := keepc d7 b2; have g8 := keepc d8 b2; have g9 := keepc d9 b2; have g10 := keepc d10 b2; have g11 := keepc d11 b2; have g12 := keepc d12 b2; have g13 := keepc d13 b2; have g14 := keepc d14 b2; have HB3 := Lib.hid (HB2.out.trans (b2.mono HB2.out.size)); have HKM2 := Lib.hid ((b2.block (w.heap.size + 1) (Array.getElem?_eq_some_iff.1 HKM1.out).1).trans HKM1.out); clear b2)
    | (go_at_call 261; refine (Tryz.slices_Contains_int (w.heap.size + 1) 0 6 6 monthsL i.months w2 (by decide) (by decide) (fun j hj => by rw [Lib.cell_of_heap HKM2.out]; match j, hj with | 0, _ => rfl | 1, _ => rfl | 2, _ => rfl | 3, _ => rfl | 4, _ => rfl | 5, _ => rfl)).mono ?_; rintro e w3 ⟨rfl, rfl⟩; rw [show (monthsL.take 6).contains i.months = true from H3.out]))
 | fail "the region fell"
 all_goals
  go_wp2_with fail
  go_ret
  exact ⟨rfl, HB3.out⟩
theorem bond_g (i : Inst) (hs : i.sized) (h1 : 0 < vl i.fn) (h2 : 0 ≤ vl i.cn) (h3 : i.months ∈ monthsL) (h4 : 1 ≤ i.count) (h5 : i.count ≤ 5) (h6 : i.other = ⟨#[]⟩) (h7 : vl i.sn ≠ 0) (w : World) :
 Calls Tryz.prog 212 #[i.enc] w fun e w' => e = .returned (.int .i64 1) ∧ Below w.heap.size w w' := by
 obtain ⟨W0, hW0, hB0, hz, hk⟩ := ibox i w
 obtain ⟨W1, hW1⟩ : ∃ W1, W0.alloc (.cells #[.int .i64 1, .int .i64 2, .int .i64 3, .int .i64 4, .int .i64 6, .int .i64 12] 262) = W1 := ⟨_, rfl⟩
 have hB1 : Below w.heap.size w W1 := by rw [← hW1]; exact hB0.alloc (by omega) _
 have hk1 : W1.heap[w.heap.size]? = some (.cells i.cells 27) := by rw [← hW1]; exact (Below.heap_alloc _ _ _ (by omega)).trans hk
 have hkm : W1.heap[w.heap.size + 1]? = some (.cells #[.int .i64 1, .int .i64 2, .int .i64 3, .int .i64 4, .int .i64 6, .int .i64 12] 262) := by
  rw [← hW1, ← hz]; exact heap_alloc_new W0 _
 have c6 := Lib.cell_of_heap hk1 6
 have c7 := Lib.cell_of_heap hk1 7
 have c8 := Lib.cell_of_heap hk1 8
 have c9 := Lib.cell_of_heap hk1 9
 have c10 := Lib.cell_of_heap hk1 10
 have c11 := Lib.cell_of_heap hk1 11
 have c12 := Lib.cell_of_heap hk1 12
 have c13 := Lib.cell_of_heap hk1 13
 have c14 := Lib.cell_of_heap hk1 14
 simp at c6 c7 c8 c9 c10 c11 c12 c13 c14
 have HB1 := Lib.hid hB1
 have HKM := Lib.hid hkm
 obtain ⟨z1, z2, z3, z4, z5, z6, z7, z8, z9⟩ := hs
 have hsz : W0.heap.size = w.heap.size + 1 := hz
 have q1 : decide (cmpI (vl i.fn) 0 ≤ 0) = false := decide_eq_false (by rw [cmpI_le]; omega)
 have q2 : decide (cmpI (vl i.cn) 0 < 0) = false := decide_eq_false (by rw [cmpI_lt]; omega)
 have H3 : Hid ((monthsL.take 6).contains i.months = true) := by rw [Hid, List.contains_iff_mem]; exact h3
 have q3 : decide (i.count < 1) = false := decide_eq_false (by omega)
 have q4 : decide (5 < i.count) = false := decide_eq_false (by omega)
 have hoe : (i.other.toList == []) = true := by rw [str_empty, decide_eq_true h6]
 have q5 : (cmpI (vl i.sn) 0 == 0) = false := beq_eq_false_iff_ne.2 (fun e => h7 (cmpI_eq.1 e))
 have q5' : (cmpI (vl i.sn) 0 != 0) = true := by rw [bne, q5]; rfl
 clear hk hB0 hz hk1 hkm hB1 h1 h2 h3 h4 h5 h6 h7
 unfold Inst.enc Inst.cells at *
 go_enter Tryz.func212, Tryz.ntmps212
 go_wp2_with fail
 first
 | go_region_with (first
    | (go_at_call_of 260 [Value.agg #[Value.string i.fn, Value.string i.fd]]; refine (isign_any i.fn i.fd (by omega) W1.drew).mono ?_; rintro e w1 ⟨rfl, b1⟩; have d6 := keepc c6 b1; have d7 := keepc c7 b1; have d8 := keepc c8 b1; have d9 := keepc c9 b1; have d10 := keepc c10 b1; have d11 := keepc c11 b1; have d12 := keepc c12 b1; have d13 := keepc c13 b1; have d14 := keepc c14 b1; have HB2 := Lib.hid (HB1.out.drew.trans (b1.mono HB1.out.size)); have HKM1 := Lib.hid ((b1.block (w.heap.size + 1) (Array.getElem?_eq_some_iff.1 HKM.out).1).trans HKM.out); clear b1)
    | (go_at_call_of 260 [Value.agg #[Value.string i.cn, Value.string i.cd]]; refine (isign_any i.cn i.cd (by omega) w1).mono ?_; rintro e w2 ⟨rfl, b2⟩; have g6 := keepc d6 b2; have g7 := keepc d7 b2; have g8 := keepc d8 b2; have g9 := keepc d9 b2; have g10 := keepc d10 b2; have g11 := keepc d11 b2; have g12 := keepc d12 b2; have g13 := keepc d13 b2; have g14 := keepc d14 b2; have HB3 := Lib.hid (HB2.out.trans (b2.mono HB2.out.size)); have HKM2 := Lib.hid ((b2.block (w.heap.size + 1) (Array.getElem?_eq_some_iff.1 HKM1.out).1).trans HKM1.out); clear b2)
    | (go_at_call 261; refine (Tryz.slices_Contains_int (w.heap.size + 1) 0 6 6 monthsL i.months w2 (by decide) (by decide) (fun j hj => by rw [Lib.cell_of_heap HKM2.out]; match j, hj with | 0, _ => rfl | 1, _ => rfl | 2, _ => rfl | 3, _ => rfl | 4, _ => rfl | 5, _ => rfl)).mono ?_; rintro e w3 ⟨rfl, rfl⟩; rw [show (monthsL.take 6).contains i.months = true from H3.out]))
 | fail "the region fell"
 all_goals
  go_wp2_with fail
  refine (isign_any i.sn i.sd (by omega) w3).mono ?_
  rintro e w4 ⟨rfl, b4⟩
  go_wp2_with fail
  go_ret
  exact ⟨rfl, HB3.out.trans (b4.mono HB3.out.size)⟩
theorem chk_bad {P : Program} {f : FuncId} {args : Array Value} {w : World} {n : Int} {Q : Prop} (hn : n ≠ 0) (hQ : ¬ Q) (h : Calls P f args w fun e w' => e = .returned (.int .i64 n) ∧ Below w.heap.size w w') : Calls P f args w (ChkPost w Q) :=
 h.mono (by rintro e w' ⟨rfl, hb⟩; exact ChkPost.bad hn hQ hb)
theorem chk_good {P : Program} {f : FuncId} {args : Array Value} {w : World} {Q : Prop} (hQ : Q) (h : Calls P f args w fun e w' => e = .returned (.int .i64 0) ∧ Below w.heap.size w w') : Calls P f args w (ChkPost w Q) :=
 h.mono (by rintro e w' ⟨rfl, hb⟩; exact ChkPost.good hQ hb)
theorem bond_any (i : Inst) (hs : i.sized) (w : World) : Calls Tryz.prog 212 #[i.enc] w (ChkPost w (bondOk i)) := by
 by_cases h1 : 0 < vl i.fn
 case neg => exact chk_bad (by decide) (fun h => h1 h.1) (bond_a i hs h1 w)
 by_cases h2 : 0 ≤ vl i.cn
 case neg => exact chk_bad (by decide) (fun h => h2 h.2.1) (bond_b i hs h1 h2 w)
 by_cases h3 : i.months ∈ monthsL
 case neg => exact chk_bad (by decide) (fun h => h3 h.2.2.1) (bond_c i hs h1 h2 h3 w)
 by_cases h4 : 1 ≤ i.count
 case neg => exact chk_bad (by decide) (fun h => h4 h.2.2.2.1) (bond_d i hs h1 h2 h3 h4 w)
 by_cases h5 : i.count ≤ 5
 case neg => exact chk_bad (by decide) (fun h => h5 h.2.2.2.2.1) (bond_e i hs h1 h2 h3 h4 h5 w)
 by_cases h6 : i.other = ⟨#[]⟩
 case neg => exact chk_bad (by decide) (fun h => h6 h.2.2.2.2.2.1) (bond_f i hs h1 h2 h3 h4 h5 h6 w)
 by_cases h7 : vl i.sn = 0
 case neg => exact chk_bad (by decide) (fun h => h7 h.2.2.2.2.2.2) (bond_g i hs h1 h2 h3 h4 h5 h6 h7 w)
 exact chk_good ⟨h1, h2, h3, h4, h5, h6, h7⟩ (bond_ok i hs ⟨h1, h2, h3, h4, h5, h6, h7⟩ w)
end Go.Proofs.YtcnmoobojdopgaaGreatDoor
