/-
  Maps in memory as functions of their keys, and a range over one under way.
-/
import Derived.Test.YtbkmhmaldljgmaaGreatDoorC16
import Derived.Maps.OwnSet
import Derived.Maps.RangeWalk
set_option linter.unusedVariables false
set_option linter.unusedSimpArgs false
set_option maxHeartbeats 16000000
set_option maxRecDepth 100000
namespace Go.Proofs.YtbkmhmaldljgmaaGreatDoor
open Go.RowKit Tr Go.Shelf Go.Maps
def vR (v : Value) : Option (DataW Value × List MemPlace) := some (.held v, [])
def Ans {α : Type} (mk : α → Lit) (D : DataW Value) (f : α → Option Value) : Prop := ∀ i, (f i = none → ∀ z, D.atKey (mk i) z = z) ∧ ∀ v, f i = some v → ∀ z, D.atKey (mk i) z = .held v
def Mp {α : Type} (k : TypeId) (mk : α → Lit) (w : World) (b n : Nat) (f : α → Option Value) : Prop :=
 ∃ D : DataW Value, w.ownsMap Tryz.prog k vR b n D ∧ Ans mk D f
theorem turned_below {w w' : World} {b B : Nat} (h : w.mapTurned w' b) (hB : B ≤ b) : Below B w w' := by
 have g := h.grown
 obtain ⟨es, c, es', c', hb, rfl⟩ := h
 have hlt := (Array.getElem?_eq_some_iff.1 hb).1
 exact ⟨g.os, g.tape, g.output, g.size, fun i hi => g.block i (by omega) (by simp; omega)⟩
theorem turned_other {w w' : World} {b : Nat} (h : w.mapTurned w' b) {i : Nat} (hi : i ≠ b) : w'.heap[i]? = w.heap[i]? := by
 obtain ⟨es, c, es', c', hb, rfl⟩ := h
 exact Go.ChangeMaps.heap_setBlock_other hb _ hi
theorem turned_size {w w' : World} {b : Nat} (h : w.mapTurned w' b) : w'.heap.size = w.heap.size := by
 obtain ⟨es, c, es', c', hb, rfl⟩ := h
 simp [Go.ChangeMaps.setBlock]
section
variable {α : Type} {k t e : TypeId} {mk : α → Lit} {w w' : World} {b n : Nat} {f : α → Option Value}
theorem Ans.has {D : DataW Value} (h : Ans mk D f) (i : α) : Maps.has D (mk i) = (f i).isSome := by
 cases hk : f i with
 | none => exact has_false_of_atKey ((h i).1 hk)
 | some v => exact has_true_of_atKey ((h i).2 v hk)
theorem Mp.made (w : World) (k : TypeId) (mk : α → Lit) : Mp k mk (w.alloc (.map #[] 0)) w.heap.size 0 (fun _ => none) :=
 ⟨_, World.ownsMap_made w _ _ _, fun _ => ⟨fun _ _ => rfl, fun _ h => by cases h⟩⟩
theorem Mp.lt (h : Mp k mk w b n f) : b < w.heap.size := by obtain ⟨D, hD, _⟩ := h; exact hD.lt
theorem Mp.is_map (h : Mp k mk w b n f) : ∃ es c, w.heap[b]? = some (.map es c) := by obtain ⟨D, ⟨es, c, hb, _⟩, _⟩ := h; exact ⟨es, c, hb⟩
theorem Mp.kept (h : Mp k mk w b n f) (hb : w'.heap[b]? = w.heap[b]?) : Mp k mk w' b n f := by
 obtain ⟨D, ⟨es, c, h1, h2⟩, h3⟩ := h
 exact ⟨D, ⟨es, c, hb.trans h1, h2⟩, h3⟩
theorem Mp.below (h : Mp k mk w b n f) {B : Nat} (hb : Below B w w') (hB : b < B) : Mp k mk w' b n f := h.kept (hb.block _ hB)
theorem Mp.look (h : Mp k mk w b n f) (K : Keyed Tryz.prog k) (ht : Tryz.prog.underlying t = some (.map k e)) {z : Value} (hz : (zeroValue e).run Tryz.prog w = .ok z w) {key : Value} {i : α} (hkey : keyOf Tryz.prog k key = some (mk i)) :
 (Instr.lookup t (.map (some b)) key false).run Tryz.prog w = .ok ((f i).getD z) w := by
 obtain ⟨D, hD, hf⟩ := h
 obtain ⟨v, ps, hr, hv⟩ := hD.lookup K ht hz (zd := .held z) (zp := []) rfl hkey
 rw [hr]
 simp only [vR, Option.some.injEq, Prod.mk.injEq] at hv
 cases hk : f i with
 | none =>
   rw [(hf i).1 hk] at hv
   rw [DataW.held.inj hv.1, Option.getD]
 | some u =>
   rw [(hf i).2 u hk] at hv
   rw [DataW.held.inj hv.1, Option.getD]
theorem Mp.look_ok (h : Mp k mk w b n f) (K : Keyed Tryz.prog k) (ht : Tryz.prog.underlying t = some (.map k e)) {z : Value} (hz : (zeroValue e).run Tryz.prog w = .ok z w) {key : Value} {i : α} (hkey : keyOf Tryz.prog k key = some (mk i)) :
 (Instr.lookup t (.map (some b)) key true).run Tryz.prog w = .ok (.tuple #[(f i).getD z, .bool (f i).isSome]) w := by
 obtain ⟨D, hD, hf⟩ := h
 obtain ⟨v, ps, hr, hv⟩ := hD.look_ok K ht hz (zd := .held z) (zp := []) rfl hkey
 rw [hr, hf.has]
 simp only [vR, Option.some.injEq, Prod.mk.injEq] at hv
 cases hk : f i with
 | none =>
   rw [(hf i).1 hk] at hv
   rw [DataW.held.inj hv.1, Option.getD]
 | some u =>
   rw [(hf i).2 u hk] at hv
   rw [DataW.held.inj hv.1, Option.getD]
theorem Mp.put (h : Mp k mk w b n f) (K : Keyed Tryz.prog k) (ht : Tryz.prog.underlying t = some (.map k e)) (hn : n < maxLen) (inj : ∀ i j, mk i = mk j → i = j) {key val : Value} {j : α} (hkey : keyOf Tryz.prog k key = some (mk j)) {f' : α → Option Value} (h1 : f' j = some val) (h2 : ∀ i, i ≠ j → f' i = f i) :
 ∃ w', (Instr.mapUpdate t (.map (some b)) key val).run Tryz.prog w = .ok () w' ∧ Mp k mk w' b (n + 1) f' ∧ w.mapTurned w' b := by
 obtain ⟨D, hD, hf⟩ := h
 obtain ⟨w', hr, hD', ht'⟩ := hD.store K ht hn hkey (val := val) (d := .held val) (ps := []) rfl
 refine ⟨w', hr, ⟨_, hD', fun i => ?_⟩, ht'⟩
 by_cases hi : i = j
 ·subst hi
  refine ⟨fun h => by rw [h1] at h; (cases h), fun v h z => ?_⟩
  rw [h1] at h; cases h
  exact atKey_put_same hD.isMap (K.key hkey) _ _
 ·refine ⟨fun h z => ?_, fun v h z => ?_⟩
  ·rw [atKey_put_other (fun e => hi (inj _ _ e))]; exact (hf i).1 (by rw [← h2 i hi]; exact h) z
  ·rw [atKey_put_other (fun e => hi (inj _ _ e))]; exact (hf i).2 v (by rw [← h2 i hi]; exact h) z
end
def isMapB : DataW Value → Bool | .map _ => true | _ => false
abbrev keyI (i : Int) : Lit := .int .i64 i
theorem wf_i64 {i : Int} (h0 : -9000000000000000000 ≤ i) (h1 : i ≤ 9000000000000000000) : (Lit.int .i64 i).wf = true := by
 simp [Lit.wf, IntKind.min, IntKind.max, IntKind.signed, IntKind.bits]
 omega
theorem keyI_inj (i j : Int) (h : keyI i = keyI j) : i = j := by injection h
def Rn (k : TypeId) (w : World) (b r n : Nat) (f : Int → Option Value) (lf : Int → Bool) (cnt : Nat) : Prop :=
 ∃ D left, w.ranges Tryz.prog k vR b r n D left cnt ∧ Ans keyI D f ∧ ∀ i, left (keyI i) = lf i
section
variable {k t e : TypeId} {w w' : World} {b r n cnt : Nat} {f : Int → Option Value} {lf : Int → Bool}
theorem Mp.range (h : Mp k keyI w b n f) (hk : Tryz.prog.underlying k = some (.int .i64)) (ht : Tryz.prog.underlying t = some (.map k e)) :
 ∃ w' cnt, (Instr.range t (.map (some b))).run Tryz.prog w = .ok (.pointer (some ⟨w.heap.size, 0, none⟩)) w' ∧ Rn k w' b w.heap.size n f (fun i => (f i).isSome) cnt ∧ Below w.heap.size w w' ∧ w'.heap.size = w.heap.size + 1 := by
 obtain ⟨D, hD, hf⟩ := h
 obtain ⟨w', hr, h1, g, hs⟩ := hD.range (int_keyed hk) ht
 exact ⟨w', _, hr, ⟨D, _, h1, hf, hf.has⟩, ⟨g.os, g.tape, g.output, g.size, fun i hi => g.block i hi (by simp)⟩, hs⟩
theorem Rn.left_eq (h : Rn k w b r n f lf cnt) : w.rangeLeft b r = cnt := by obtain ⟨D, left, h1, _⟩ := h; exact h1.left_eq
theorem Rn.next (h : Rn k w b r n f lf cnt) (hk : Tryz.prog.underlying k = some (.int .i64)) (ty : TypeId) :
 (cnt = 0 ∧ (∀ i, lf i = false) ∧ (Instr.next (.pointer (some ⟨r, 0, none⟩)) false ty).run Tryz.prog w = .ok (.tuple #[.bool false]) w) ∨
 ∃ x v w' cnt', lf x = true ∧ f x = some v ∧ (Instr.next (.pointer (some ⟨r, 0, none⟩)) false ty).run Tryz.prog w = .ok (.tuple #[.bool true, .int .i64 x, v]) w' ∧ Rn k w' b r n f (fun i => lf i && !(i == x)) cnt' ∧ cnt' < cnt ∧
  (∀ i, i ≠ r → i < w.heap.size → w'.heap[i]? = w.heap[i]?) ∧ w'.heap.size = w.heap.size ∧ (∀ B, B ≤ r → Below B w w') ∧ (Instr.entry (.pointer (some ⟨r, 0, none⟩))).run Tryz.prog w' = .ok (.tuple #[.int .i64 x, v]) w' := by
 obtain ⟨D, left, h1, hf, hl⟩ := h
 rcases h1.next (int_keyed hk) ty with ⟨h0, hl0, hrun⟩ | ⟨key, v, kl, y, w', cnt', hkey, hlk, hv, hat, hrun, hrg, hlt, hgr, hsz, hen⟩
 ·exact .inl ⟨h0, fun i => by rw [← hl]; exact hl0 _, hrun⟩
 ·obtain ⟨x, rfl, rfl, hwf⟩ := Maps.keyOf_int_inv hk hkey
  have hy : y.1 = .held v := by
   simp only [vR, Option.some.injEq] at hv
   rw [← hv]
  have hfx : f x = some v := by
   cases hc : f x with
   | none =>
     have e1 := (hf x).1 hc (.map [])
     rw [hat, hy] at e1
     exact Bool.noConfusion (congrArg isMapB e1)
   | some u =>
     have e1 := (hf x).2 u hc (.map [])
     rw [hat, hy] at e1
     rw [DataW.held.inj e1]
  have hrlt := h1.lt
  refine .inr ⟨x, v, w', cnt', by rw [← hl]; exact hlk, hfx, hrun, ⟨D, _, hrg, hf, fun i => ?_⟩, hlt, fun i hi hs => hgr.block i hs (by simp; exact fun e => hi e), hsz, fun B hB => ⟨hgr.os, hgr.tape, hgr.output, hgr.size, fun i hi => hgr.block i (by omega) (by simp; omega)⟩, hen⟩
  show (left (keyI i) && !(keyI i).sameKey (keyI x)) = _
  rw [hl]
  by_cases e : i = x
  ·subst e
   rw [WideAt.sameKey_self ((int_keyed hk).key hkey)]; simp
  ·rw [sameKey_ne (fun h => e (keyI_inj _ _ h))]; simp [e]
end
def Rx (k : TypeId) (w : World) (m : Value) (r : Nat) (f : Int → Option Value) (lf : Int → Bool) (cnt : Nat) : Prop :=
 (∃ b n, m = .map (some b) ∧ Rn k w b r n f lf cnt) ∨ (m = .map none ∧ (∀ i, lf i = false) ∧ cnt = 0 ∧ w.heap[r]? = some (.mapIter none 0 #[] 0))
def MpX (k : TypeId) (w : World) (m : Value) (f : Int → Option Value) : Prop := (∃ b n, m = .map (some b) ∧ Mp k keyI w b n f) ∨ (m = .map none ∧ ∀ i, f i = none)
def leftX (w : World) (m : Value) (r : Nat) : Nat := match m with | .map (some b) => w.rangeLeft b r | _ => 0
section
variable {k t e : TypeId} {w w' : World} {r cnt : Nat} {m : Value} {f : Int → Option Value} {lf : Int → Bool}
theorem MpX.below (h : MpX k w m f) {B : Nat} (hb : Below B w w') (hB : w.heap.size ≤ B) : MpX k w' m f := by
 rcases h with ⟨b, n, rfl, h⟩ | h
 ·exact .inl ⟨b, n, rfl, h.below hb (Nat.lt_of_lt_of_le h.lt hB)⟩
 ·exact .inr h
theorem MpX.range (h : MpX k w m f) (hk : Tryz.prog.underlying k = some (.int .i64)) (ht : Tryz.prog.underlying t = some (.map k e)) :
 ∃ w' cnt, (Instr.range t m).run Tryz.prog w = .ok (.pointer (some ⟨w.heap.size, 0, none⟩)) w' ∧ Rx k w' m w.heap.size f (fun i => (f i).isSome) cnt ∧ Below w.heap.size w w' ∧ w'.heap.size = w.heap.size + 1 := by
 rcases h with ⟨b, n, rfl, h⟩ | ⟨rfl, hf⟩
 ·obtain ⟨w', cnt, h1, h2, h3, h4⟩ := h.range hk ht
  exact ⟨w', cnt, h1, .inl ⟨b, n, rfl, h2⟩, h3, h4⟩
 ·exact ⟨_, 0, run_range_nilMap w t k e ht, .inr ⟨rfl, fun i => by simp [hf i], rfl, heap_alloc_new w _⟩, (Below.refl _ w).alloc (Nat.le_refl _) _, by simp⟩
theorem Rx.left_eq (h : Rx k w m r f lf cnt) : leftX w m r = cnt := by
 rcases h with ⟨b, n, rfl, h⟩ | ⟨rfl, _, h, _⟩
 ·exact h.left_eq
 ·exact h.symm
theorem run_next_nil (w : World) (ty : TypeId) (r : Nat) (hr : w.heap[r]? = some (.mapIter none 0 #[] 0)) :
 (Instr.next (.pointer (some ⟨r, 0, none⟩)) false ty).run Tryz.prog w = .ok (.tuple #[.bool false]) w := by
 simp only [Instr.next, getObj, Sem.run_bind, Sem.run, hr, Result.andThen]
 rfl
theorem Rx.next (h : Rx k w m r f lf cnt) (hk : Tryz.prog.underlying k = some (.int .i64)) (ty : TypeId) :
 (cnt = 0 ∧ (∀ i, lf i = false) ∧ (Instr.next (.pointer (some ⟨r, 0, none⟩)) false ty).run Tryz.prog w = .ok (.tuple #[.bool false]) w) ∨
 ∃ x v w' cnt', lf x = true ∧ f x = some v ∧ (Instr.next (.pointer (some ⟨r, 0, none⟩)) false ty).run Tryz.prog w = .ok (.tuple #[.bool true, .int .i64 x, v]) w' ∧ Rx k w' m r f (fun i => lf i && !(i == x)) cnt' ∧ cnt' < cnt ∧
  (∀ i, i ≠ r → i < w.heap.size → w'.heap[i]? = w.heap[i]?) ∧ w'.heap.size = w.heap.size ∧ (∀ B, B ≤ r → Below B w w') ∧ (Instr.entry (.pointer (some ⟨r, 0, none⟩))).run Tryz.prog w' = .ok (.tuple #[.int .i64 x, v]) w' := by
 rcases h with ⟨b, n, rfl, h⟩ | ⟨rfl, h1, h2, h3⟩
 ·rcases h.next hk ty with h | ⟨x, v, w', cnt', a1, a2, a3, a4, a5⟩
  ·exact .inl h
  ·exact .inr ⟨x, v, w', cnt', a1, a2, a3, .inl ⟨b, n, rfl, a4⟩, a5⟩
 ·exact .inl ⟨h2, h1, run_next_nil w ty r h3⟩
theorem Rx.kept (h : Rx k w m r f lf cnt) (hb : ∀ j, (j = r ∨ m = .map (some j)) → w'.heap[j]? = w.heap[j]?) : Rx k w' m r f lf cnt := by
 rcases h with ⟨b, n, rfl, D, left, ⟨es, clock, since, seen, c0, a1, a2, a3, a4, a5, a6⟩, h2⟩ | ⟨rfl, h1, h2, h3⟩
 ·exact .inl ⟨b, n, rfl, D, left, ⟨es, clock, since, seen, c0, (hb b (.inr rfl)).trans a1, a2, a3, a4, (hb r (.inl rfl)).trans a5, a6⟩, h2⟩
 ·exact .inr ⟨rfl, h1, h2, (hb r (.inl rfl)).trans h3⟩
theorem wpList_range_x {ops : Array Oper} {rest : List Oper} {o : Oper} {a : Act} {Q : Exit → Act → World → Prop} (hg : o.guard = none) (x : Operand) (t : TypeId) (hop : o.op = Op.range t x) (hk : Tryz.prog.underlying k = some (.int .i64)) (ht : Tryz.prog.underlying t = some (.map k e))
 (hm : a.eval x = m) (h : MpX k w m f)
 (hK : ∀ w' cnt, Rx k w' m w.heap.size f (fun i => (f i).isSome) cnt → Below w.heap.size w w' → w'.heap.size = w.heap.size + 1 → wpList Tryz.prog ops Q rest (a.put o.dst (.pointer (some ⟨w.heap.size, 0, none⟩))) w') :
 wpList Tryz.prog ops Q (o :: rest) a w := by
 refine wpList_plain hg fun K' hK' => ?_
 obtain ⟨w', cnt, hrun, r1, r2, r3⟩ := h.range hk ht
 unfold Oper.wp
 simp [execOp, hop, hm, hrun, Result.andThen]
 exact hK' _ _ (hK w' cnt r1 r2 r3)
end
end Go.Proofs.YtbkmhmaldljgmaaGreatDoor
