/-
  The walk of lot.Positions. (Printed by gen_pos2.py.)
-/
import Derived.Test.YtdnmpgoigagjmaaGreatDoorU23
import Derived.Shelf.SlIter.Nil
import Derived.Shelf.SortM.Plain
import Derived.Shelf.SortM.SortNone
import Derived.Ground.GgzProg
import Derived.Ground.SlgmProg
import Derived.Test.YtdnmpgoigagjmaaGreatDoorProg
import Derived.Test.YtdnmpgoigagjmaaGreatDoorU22
import Derived.Test.YtdnmpgoigagjmaaGreatDoorU09
set_option linter.unusedVariables false
set_option linter.unusedSimpArgs false
set_option maxHeartbeats 16000000
set_option maxRecDepth 100000
namespace Go.Proofs.YtdnmpgoigagjmaaGreatDoor
open Go.RowKit Tr Go.Shelf Go.Maps Go.Sort Go.WideMaps
def PosBox (W : World) (B : Nat) (p : Pos) : Prop := W.heap[B]? = some (.cells p.cells 80 (0, 0))
theorem PosBox.below {W W' : World} {B : Nat} {p : Pos} (h : PosBox W B p) (hb : Below W.heap.size W W') : PosBox W' B p := (hb.block B (Array.getElem?_eq_some_iff.1 h).1).trans h
theorem PosBox.lt {W : World} {B : Nat} {p : Pos} (h : PosBox W B p) : B < W.heap.size := (Array.getElem?_eq_some_iff.1 h).1
theorem ownsMapP_below {w w' : World} {P : Program} {k : TypeId} {R : Value → Option (DataW Pos × List MemPlace)} {b n : Nat} {D : DataW Pos} (h : w.ownsMap P k R b n D) (hb : Below w.heap.size w w') : w'.ownsMap P k R b n D := by
 have hlt := h.lt
 obtain ⟨es, clock, e, F, hs, hD⟩ := h
 exact ⟨es, clock, (hb.block b hlt).trans e, F, hs, hD⟩
def posPut (l : Lot) (p : Pos) (D : DataW Pos) : DataW Pos := D.put (keyS l.inst) (.held ⟨l.inst, I (vl p.qty + vl l.qty), I (vl p.cost + vl l.cost)⟩)
def PWc (l : Lot) (p : Pos) (Bx Bp : Nat) (W : World) : Prop := W.cell? ⟨Bx, 1, none⟩ = some (.string l.inst) ∧ W.cell? ⟨Bx, 4, none⟩ = some (.string l.qty) ∧ W.cell? ⟨Bx, 5, none⟩ = some (.string l.cost) ∧ W.cell? ⟨Bp, 1, none⟩ = some (.string p.qty) ∧ W.cell? ⟨Bp, 2, none⟩ = some (.string p.cost)
structure PW (w : World) (l : Lot) (p : Pos) (D : DataW Pos) (n : Nat) (Bx Bp : Nat) (W : World) : Prop where
 own : W.ownsMap Tryz.prog 9 posR w.heap.size n D
 bx : LotBox W Bx l
 bp : PosBox W Bp p
 be : Below w.heap.size w W
theorem PW.cells {w : World} {l : Lot} {p : Pos} {D : DataW Pos} {n Bx Bp : Nat} {W : World} (h : PW w l p D n Bx Bp W) : PWc l p Bx Bp W :=
 ⟨Lib.cell_of_heap h.bx 1, Lib.cell_of_heap h.bx 4, Lib.cell_of_heap h.bx 5, Lib.cell_of_heap h.bp 1, Lib.cell_of_heap h.bp 2⟩
theorem PW.below {w : World} {l : Lot} {p : Pos} {D : DataW Pos} {n Bx Bp : Nat} {W W' : World} (h : PW w l p D n Bx Bp W) (hb : Below W.heap.size W W') : PW w l p D n Bx Bp W' :=
 ⟨ownsMapP_below h.own hb, h.bx.below hb, h.bp.below hb, h.be.trans (hb.mono h.be.size)⟩
theorem PW.put {w : World} {l : Lot} {p : Pos} {D : DataW Pos} {n Bx Bp : Nat} {W : World} (h : PW w l p D n Bx Bp W) (hne : w.heap.size ≠ Bx ∧ w.heap.size ≠ Bp) (hr : n < maxLen ∧ l.inst.size ≤ maxLen) :
 ∃ w7, (Instr.mapUpdate 134 (.map (some w.heap.size)) (.string l.inst) (.agg #[.string l.inst, .string (I (vl p.qty + vl l.qty)), .string (I (vl p.cost + vl l.cost))])).run Tryz.prog W = .ok () w7 ∧ PW w l p (posPut l p D) (n + 1) Bx Bp w7 := by
 obtain ⟨w7, hup, hO7, hg7⟩ := h.own.update strKeyed Tryz.underlying134 hr.1 (keyOf_string_mk Tryz.underlying9 hr.2) (posR_enc ⟨l.inst, I (vl p.qty + vl l.qty), I (vl p.cost + vl l.cost)⟩)
 exact ⟨w7, hup, hO7, (hg7.block _ h.bx.lt (fun e => hne.1 (Option.some.inj e).symm)).trans h.bx, (hg7.block _ h.bp.lt (fun e => hne.2 (Option.some.inj e).symm)).trans h.bp, h.be.grown hg7 h.be.size (fun j hj => by cases hj; exact Nat.le_refl _)⟩
structure PosAt (w : World) (p : Addr) (x : Pos) : Prop where
 c0 : w.cell? p = some (.string x.inst)
 c1 : w.cell? ⟨p.block, p.off + 1, none⟩ = some (.string x.qty)
 c2 : w.cell? ⟨p.block, p.off + 2, none⟩ = some (.string x.cost)
theorem PosAt.below {w w' : World} {p : Addr} {x : Pos} {B : Nat} (h : PosAt w p x) (hb : Below B w w') (hp : p.block < B) : PosAt w' p x :=
 ⟨(hb.cell hp).trans h.c0, (hb.cell (p := ⟨p.block, p.off + 1, none⟩) hp).trans h.c1, (hb.cell (p := ⟨p.block, p.off + 2, none⟩) hp).trans h.c2⟩
def RdPos (n₀ : Nat) (w : World) (A : Option Addr) (ps : List Pos) : Prop :=
 ps ≠ [] → ∃ ad : Addr, A = some ad ∧ ad.block < n₀ ∧ ∀ (j : Nat) (x : Pos), ps[j]? = some x → PosAt w (ad.add (j * 3)) x
theorem RdPos.below {n₀ : Nat} {w w' : World} {A : Option Addr} {ps : List Pos} (h : RdPos n₀ w A ps) (hb : Below n₀ w w') : RdPos n₀ w' A ps := by
 intro hl
 obtain ⟨ad, rfl, h1, h2⟩ := h hl
 exact ⟨ad, rfl, h1, fun j l hj => (h2 j l hj).below hb (by rw [add_block]; exact h1)⟩
theorem RdPos.mono {n₀ n₁ : Nat} {w : World} {A : Option Addr} {ps : List Pos} (h : RdPos n₀ w A ps) (hn : n₀ ≤ n₁) : RdPos n₁ w A ps := by
 intro hl
 obtain ⟨ad, rfl, h1, h2⟩ := h hl
 exact ⟨ad, rfl, by omega, h2⟩
def flatP (ps : List Pos) : List Value := ps.flatMap fun x => x.cells.toList
theorem flatP_get : ∀ (ls : List Pos) (j : Nat) (l : Pos), ls[j]? = some l → ∀ f, f < 3 → (flatP ls)[j * 3 + f]? = l.cells[f]?
 | [], j, l, h, f, hf => by simp at h
 | x :: r, 0, l, h, f, hf => by
   simp at h
   subst h
   simp only [flatP, List.flatMap_cons]
   rw [List.getElem?_append_left (by simp [Pos.cells]; omega)]
   simp
 | x :: r, j + 1, l, h, f, hf => by
   simp at h
   have := flatP_get r j l h f hf
   simp only [flatP, List.flatMap_cons] at this ⊢
   rw [List.getElem?_append_right (by simp [Pos.cells]; omega)]
   rw [← this]
   congr 1
   simp [Pos.cells]; omega
theorem RdPos.of_own {w : World} {base : Nat} {v : Value} {ls : List Pos} (h : w.ownsRow base 80 3 v ls.length (flatP ls)) :
 ∃ A c, v = .slice A ls.length c ∧ ls.length ≤ c ∧ (∀ ad, A = some ad → base ≤ ad.block) ∧ RdPos w.heap.size w A ls := by
 rcases h.2 with ⟨rfl, h0⟩ | ⟨g, cap, cur, rfl, hb, hg, hnc, hcm, _⟩
 ·have : ls = [] := List.eq_nil_of_length_eq_zero h0
  subst this
  exact ⟨none, 0, rfl, Nat.le_refl _, (fun _ e => by cases e), fun e => absurd rfl e⟩
 ·refine ⟨_, _, rfl, hnc, fun ad e => by cases e; exact hb, fun _ => ⟨_, rfl, (Array.getElem?_eq_some_iff.1 hg).1, fun j l hj => ?_⟩⟩
  have hc := h.cells (g := g) rfl
  have q : ∀ f, f < 3 → ∀ u, l.cells[f]? = some u → w.cell? ⟨g, j * 3 + f, none⟩ = some u := by
   intro f hf u hu
   have := hc (j * 3 + f) u (by rw [flatP_get ls j l hj f hf]; exact hu)
   rwa [addr_add0] at this
  rw [addr_add0]
  exact ⟨q 0 (by omega) _ rfl, q 1 (by omega) _ rfl, q 2 (by omega) _ rfl⟩
def RdNm (n₀ : Nat) (w : World) (A : Option Addr) (ns : List (List UInt8)) : Prop := ∀ k b, ns[k]? = some b → ∃ ad : Addr, A = some ad ∧ ad.block < n₀ ∧ w.cell? (ad.add k) = some (.string (bs b))
theorem RdNm.of_own {w : World} {base : Nat} {v : Value} {ns : List (List UInt8)} (h : w.ownsRow base 9 1 v ns.length (ns.map encStr)) : ∃ A c, v = .slice A ns.length c ∧ RdNm w.heap.size w A ns := by
 rcases h.2 with ⟨rfl, h0⟩ | ⟨g, cap, cur, rfl, hb, hg, hnc, hcm, _⟩
 ·have : ns = [] := List.eq_nil_of_length_eq_zero h0
  subst this
  exact ⟨none, 0, rfl, fun k b e => by simp at e⟩
 ·refine ⟨_, _, rfl, fun k b e => ⟨_, rfl, (Array.getElem?_eq_some_iff.1 hg).1, ?_⟩⟩
  exact h.cells (g := g) rfl k _ (by rw [List.getElem?_map, e]; rfl)
theorem RdNm.below {n₀ : Nat} {w w' : World} {A : Option Addr} {ns : List (List UInt8)} (h : RdNm n₀ w A ns) (hb : Below n₀ w w') : RdNm n₀ w' A ns := by
 intro k b e
 obtain ⟨ad, rfl, h1, h2⟩ := h k b e
 exact ⟨ad, rfl, h1, (hb.cell (by rw [add_block]; exact h1)).trans h2⟩
end Go.Proofs.YtdnmpgoigagjmaaGreatDoor
