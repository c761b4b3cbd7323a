/-
  A range over a function whose iterator writes boxes of its own; the loop's body never leaves early.
  The walk of integer.Gcd.
  Fractions: the plain side, and the walks of reduced, made, parts, Of, Parts, Check.
  Fractions: the walks of the four operations.
  The walk of trancheref01.Div (divisor positive, numbers of any length).
-/
import Derived.Test.YtbkmhmaldljgmaaGreatDoorC10
import Derived.RangeFuncNested
import Derived.RangeFuncBound
import Derived.RangeFuncCalls
import Derived.RangeFuncLeaves
import Derived.Shelf.Abstract
import Derived.Shelf.RegionOpen
import Derived.OwnWalkIn
import Derived.TacticsInMore
import Derived.LoopNIn
import Derived.LoopIn
import Derived.Test.YtbkmhmaldljgmaaGreatDoorC11
import Derived.Test.YtbkmhmaldljgmaaGreatDoorC04
import Derived.Deep.DeepCutAuto
import Derived.BigQuiet
import Derived.Deep.QuietTactic
import Derived.Deep.RegionHeld3
import Derived.Test.YtbkmhmaldljgmaaGreatDoorC08
set_option linter.unusedVariables false
set_option linter.unusedSimpArgs false
set_option maxHeartbeats 16000000
set_option maxRecDepth 100000
namespace Go.Proofs.YtbkmhmaldljgmaaGreatDoor
open Go.RowKit Tr Go.Shelf
variable {F : Fence} {n : Nat} {P : Program}
def SeqM {α : Type} (F : Fence) (n : Nat) (P : Program) (g : Nat) (lb : Array Value) (encs : α → Array Value) (Kp M : World → World → Prop) (S : List α → World → Prop) (N : Nat) (w : World) : Prop :=
 ∀ (l : Nat) (J : List α → World → Prop) (W : World), Below w.heap.size w W → (∀ pre A B, J pre A → M A B → J pre B) →
  (∀ pre x W1, J pre W1 → pre.length < N → YieldAt F (n - 1) P l (encs x) W1 fun e W' => e = .returned (.bool true) ∧ J (pre ++ [x]) W' ∧ Kp W1 W') →
  J [] W →
  CallsIn F n P g (#[.func (.yield l) #[] #[]] ++ lb) W fun e W' => (∃ v, e = .returned v) ∧ ∃ xs, S xs W' ∧ J xs W'
def goesOn {α : Type} (B : Nat) (Kp : World → World → Prop) (I : List α → World → Prop) (xs : List α) (W : World) : Exit → Act → World → Prop
 | .normal, _, W' => KeepsFrom B W W' ∧ Kp W W' ∧ I xs W'
 | _, _, _ => False
theorem wpIn_rangeFunc_M {α : Type} {g : Operand} {ps : Array Tmp} {assign body : Code} {Q : Exit → Act → World → Prop} {a : Act} {w : World}
 (hro : F.round = none) (h1 : 1 ≤ n) {gf : Nat} {lb : Array Value} (hg : a.eval g = .func (.func gf) #[] lb) (hFg : F.fn gf) (eg : ∀ args w, (callFunc gf args).run P w = .ok (.enter gf args) w)
 {encs : α → Array Value} {Kp M : World → World → Prop} {S : List α → World → Prop} {N : Nat} {w0 : World} (hseq : SeqM F (n - 1) P gf lb encs Kp M S N w0)
 (hM : ∀ A B : World, M A B → ∀ (k : Nat) (o : Obj), w.heap.size ≤ k → A.heap[k]? = some o → o.isCells = false → B.heap[k]? = some o)
 (hKt : ∀ {A B C : World}, Kp A B → Kp B C → Kp A C) (hKb : ∀ (W : World) (l : Nat) (o o' : Obj), w.heap.size ≤ l → W.heap[l]? = some o → o.isCells = false → o.isWalk = false → Kp W (W.putObj l o')) (hb0 : Below w0.heap.size w0 w) (hps : ∀ x, (encs x).size = ps.size)
 (I : List α → World → Prop) (hI : OwnFrom w.heap.size I) (hIM : ∀ pre A B, I pre A → M A B → I pre B) (hS : OwnFrom w.heap.size S) (h0 : I [] w) (a₁ : α → Act)
 (hassign : ∀ (l : Nat) (x : α) (W : World) (K : Act → World → Prop), K (a₁ x) W →
   assign.wpIn (F.inRound l) (n - 1 - 1) P (Exit.then K (fun _ _ _ => False)) { tmps := (ps.zip (encs x)).foldl (fun t (p, v) => t.setIfInBounds p v) a.tmps, defers := [] } W)
 (hbody : ∀ (l : Nat) (pre : List α) (x : α) (W : World), I pre W → pre.length < N → body.wpIn (F.inRound l) (n - 1 - 1) P (goesOn w.heap.size Kp I (pre ++ [x]) W) (a₁ x) W)
 (hdone : ∀ (D : Nat) (xs : List α) (W : World), w.heap.size ≤ D → S xs W → I xs W → W.heap[D]? = some (.deferred (some [])) → Q .normal { a with defers := { target := .collected D, args := #[] } :: a.defers } W) :
 (Code.rangeFunc g ps assign body).wpIn F n P Q a w := by
 refine wpIn_rangeFunc ?_
 intro fn hfn
 rw [hro]
 obtain ⟨rec, hrec⟩ : ∃ rec : LoopState → Option Code → Loop, rec = fun st pe => { state := st, pending := pe, fn, tmps := a.tmps, params := ps, assign, body, defers := w.heap.size } := ⟨_, rfl⟩
 obtain ⟨W1, hW1⟩ : ∃ W1, (w.alloc (.deferred (some []))).alloc (.loop (rec .ready none)) = W1 := ⟨_, rfl⟩
 have hL1 : W1.heap[w.heap.size + 1]? = some (.loop (rec .ready none)) := by
  rw [← hW1]; have := World.alloc_heap_new (w.alloc (.deferred (some []))) (.loop (rec .ready none)); rwa [World.size_alloc] at this
 have hK1 : W1.heap[w.heap.size]? = some (.deferred (some [])) := by
  rw [← hW1]; exact (Below.heap_alloc _ _ _ (by simp)).trans (World.alloc_heap_new w _)
 have hI1 : I [] W1 := by rw [← hW1]; exact hI.alloc _ (hI.alloc _ h0)
 have hb1 : Below w0.heap.size w0 W1 := by
  rw [← hW1]; exact hb0.trans ((((Below.refl _ w).alloc (Nat.le_refl _) _).alloc (by simp) _).mono hb0.size)
 refine ⟨w.heap.size + 1, [{ target := .collected w.heap.size, args := #[] }], W1, { target := .fn (.func gf) lb, args := #[.func (.yield (w.heap.size + 1)) #[] #[]] }, W1, gf,
  #[.func (.yield (w.heap.size + 1)) #[] #[]] ++ lb, W1, ?_, ?_, ?_, ?_, fun _ => h1, ?_⟩
 ·rw [← hW1, hrec]; exact run_enterLoop_outer _ _ _ _ _
 ·simp only [resolve, hg]
  simp [go_sem]
 ·intro f' hf'; simp [Target.leads] at hf'; subst hf'; exact hFg
 ·simp [invoke, go_sem, eg]
 ·refine (hseq (w.heap.size + 1)
   (fun pre W => I pre W ∧ W.heap[w.heap.size + 1]? = some (.loop (rec .ready none)) ∧ W.heap[w.heap.size]? = some (.deferred (some [])))
   W1 hb1
   (fun s A B hs hm => ⟨hIM s A B hs.1 hm, hM A B hm _ _ (by omega) hs.2.1 rfl, hM A B hm _ _ (Nat.le_refl _) hs.2.2 rfl⟩)
   ?_ ⟨hI1, hL1, hK1⟩).mono ?_
  ·rintro pre x W ⟨hi, hl, hk⟩ hlen
   have hlt : w.heap.size + 1 < W.heap.size := (Array.getElem?_eq_some_iff.1 hl).1
   have hy := run_yield (P := P) (args := encs x) hl (by rw [hrec]; exact hps x)
   rw [hrec] at hy
   refine ⟨fn, _, assign, body, hy, roundIn_of_wpIn hfn (hassign _ x W _ ⟨_, run_beginRound hl (by rw [hrec]), ?_⟩)⟩
   have hl2 : (W.putObj (w.heap.size + 1) (.loop { rec .ready none with state := .busy })).heap[w.heap.size + 1]? = some (.loop { rec .ready none with state := .busy }) := World.putObj_heap_same hlt
   have hk2 : (W.putObj (w.heap.size + 1) (.loop { rec .ready none with state := .busy })).heap[w.heap.size]? = some (.deferred (some [])) := (World.putObj_heap_other (by omega)).trans hk
   have hw2 : Kp W (W.putObj (w.heap.size + 1) (.loop { rec .ready none with state := .busy })) := hKb _ _ _ _ (by omega) hl rfl rfl
   refine wpIn_mono (hbody _ pre x _ (hI.putObj _ hi (by omega) hl rfl) hlen) ?_
   have fin : ∀ (jump : Option Code) (W3 : World), KeepsFrom w.heap.size (W.putObj (w.heap.size + 1) (.loop { rec .ready none with state := .busy })) W3 →
    (Instr.endRound (w.heap.size + 1) jump).run P W3 = .ok (.bool jump.isNone) (W3.putObj (w.heap.size + 1) (.loop (rec (if jump.isNone then .ready else .done) jump))) ∧
    W3.heap[w.heap.size + 1]? = some (.loop { rec .ready none with state := .busy }) ∧
    (W3.putObj (w.heap.size + 1) (.loop (rec (if jump.isNone then .ready else .done) jump))).heap[w.heap.size + 1]? = some (.loop (rec (if jump.isNone then .ready else .done) jump)) ∧
    (W3.putObj (w.heap.size + 1) (.loop (rec (if jump.isNone then .ready else .done) jump))).heap[w.heap.size]? = some (.deferred (some [])) := fun jump W3 hk3 => by
    have hl3 := hk3.same _ _ (by omega) hl2 rfl
    have := run_endRound (P := P) jump hl3
    rw [hrec] at this ⊢
    exact ⟨this, by rw [hrec] at hl3; exact hl3, World.putObj_heap_same (Array.getElem?_eq_some_iff.1 hl3).1, (World.putObj_heap_other (by omega)).trans (hk3.same _ _ (Nat.le_refl _) hk2 rfl)⟩
   rintro e a3 W3 hp
   cases e with
   | normal =>
     obtain ⟨hk3, hkp3, hi3⟩ := hp
     obtain ⟨hr, hl3, hl4, hk4⟩ := fin none W3 hk3
     exact ⟨_, _, hr, rfl, ⟨hI.putObj _ hi3 (by omega) hl3 rfl, hl4, hk4⟩, hKt (hKt hw2 hkp3) (hKb _ _ _ _ (by omega) hl3 rfl rfl)⟩
   | ret => exact hp.elim
   | exit id => exact hp.elim
   | goto t => exact hp.elim
   | panic ch => exact hp.elim
   | outgrown => exact hp.elim
  ·rintro e W2 ⟨⟨v, rfl⟩, xs, hs, hi, hl, hk⟩
   exact ⟨none, _, by have := run_endLoop (P := P) hl (by rw [hrec]; simp); rw [hrec] at this; exact this, hdone _ xs _ (Nat.le_refl _) (hS.putObj _ hs (by omega) hl rfl) (hI.putObj _ hi (by omega) hl rfl) ((World.putObj_heap_other (by omega)).trans hk)⟩
def SB (b : Nat) (W : World) : Prop := ∃ x y z t m, W.heap[b]? = some (.cells #[.slice x y z] t m)
def KpC (b : Nat) (W W' : World) : Prop := (Below 0 W W' ∧ (SB b W → SB b W')) ∧ ∀ (k : Nat) (o : Obj), k ≠ b → W.heap[k]? = some o → o.isCells = true → W'.heap[k]? = some o
def Mv (b1 b2 : Nat) (W W' : World) : Prop := Below 0 W W' ∧ ∀ (k : Nat), k < W.heap.size → k ≠ b1 → k ≠ b2 → W'.heap[k]? = W.heap[k]?
theorem KpC.trans {b : Nat} {A B C : World} (h : KpC b A B) (k : KpC b B C) : KpC b A C := ⟨⟨h.1.1.trans k.1.1, fun s => k.1.2 (h.1.2 s)⟩, fun i o hi ho hc => k.2 i o hi (h.2 i o hi ho hc) hc⟩
theorem KpC.put {b : Nat} {W : World} {l : Nat} {o : Obj} (o' : Obj) (hl : W.heap[l]? = some o) (ho : o.isCells = false) : KpC b W (W.putObj l o') := by
 refine ⟨⟨⟨rfl, rfl, rfl, by simp [World.putObj], fun _ h => absurd h (Nat.not_lt_zero _)⟩, ?_⟩, fun k o2 _ hk hc => ?_⟩
 ·rintro ⟨x, y, z, t, m, e⟩
  refine ⟨x, y, z, t, m, ?_⟩
  rcases Nat.decEq b l with h | h
  ·exact (World.putObj_heap_other (by omega)).trans e
  ·subst h; rw [hl] at e; injection e with e; subst e; cases ho
 rcases Nat.decEq k l with h | h
 ·exact (World.putObj_heap_other (by omega)).trans hk
 ·subst h; rw [hl] at hk; injection hk with hk; subst hk; rw [ho] at hc; cases hc
theorem Mv.trans {b1 b2 : Nat} {A B C : World} (h : Mv b1 b2 A B) (k : Mv b1 b2 B C) : Mv b1 b2 A C :=
 ⟨h.1.trans k.1, fun i hi n1 n2 => (k.2 i (Nat.lt_of_lt_of_le hi h.1.size) n1 n2).trans (h.2 i hi n1 n2)⟩
theorem Mv.below {b1 b2 : Nat} {A B : World} (h : Below A.heap.size A B) : Mv b1 b2 A B := ⟨h.mono (Nat.zero_le _), fun k hk _ _ => h.block k hk⟩
theorem Mv.set {b1 b2 : Nat} (W : World) (p : Addr) (u : Value) (hp : p.block = b1 ∨ p.block = b2) : Mv b1 b2 W (W.setCell p u) :=
 ⟨⟨rfl, rfl, rfl, by simp [World.setCell], fun _ h => absurd h (Nat.not_lt_zero _)⟩, fun k _ n1 n2 => Below.heap_setCell W p u k (by omega)⟩
theorem RdM.kept {w w' : World} {A : Option Addr} {l : List Nat} (h : RdM w A l) (b : Nat → Prop) (hs : w.heap.size ≤ w'.heap.size)
 (hk : ∀ (k : Nat) (o : Obj), ¬ b k → w.heap[k]? = some o → o.isCells = true → w'.heap[k]? = some o)
 (hb : ∀ k, b k → SB k w) : RdM w' A l := by
 intro hl
 obtain ⟨ad, rfl, h1, h2⟩ := h hl
 have hnb : ¬ b ad.block := by
  intro hbb
  obtain ⟨x, y, z, t, m, e1⟩ := hb _ hbb
  have e3 := h2 0 (by cases l with | nil => exact absurd rfl hl | cons => simp)
  rw [show ad.add 0 = ad from by simp [Addr.add]] at e3
  unfold World.cell? at e3
  rw [e1] at e3
  simp only at e3
  split at e3
  ·cases e3
  ·rcases ad with ⟨bb, off, sp⟩
   cases off <;> simp at e3
 refine ⟨ad, rfl, Nat.lt_of_lt_of_le h1 hs, fun j hj => ?_⟩
 have e := h2 j hj
 have hc : ∃ o : Obj, w.heap[ad.block]? = some o ∧ o.isCells = true := by
  unfold World.cell? at e
  rw [add_block] at e
  split at e
  ·rename_i c t m hh; exact ⟨_, hh, rfl⟩
  ·cases e
 obtain ⟨o, ho, hoc⟩ := hc
 have e' := hk _ _ hnb ho hoc
 rw [← e]
 unfold World.cell?
 rw [add_block, ho, e']
end Go.Proofs.YtbkmhmaldljgmaaGreatDoor
namespace Go.Proofs.YtbkmhmaldljgmaaGreatDoor
open Go.RowKit Tr Go.Shelf
attribute [local go_sem] Oper.semAt_some
structure Two where
 A : Option Addr
 k : Nat
 c : Nat
 A' : Option Addr
 k' : Nat
 c' : Nat
def enc2 (x : Two) : Array Value := #[.slice x.A x.k x.c, .slice x.A' x.k' x.c']
def Left (bn : Nat) (wr : World) (z : Nat) : Prop := ∃ A l c, wr.cell? ⟨bn, 0, none⟩ = some (.slice A l.length c) ∧ RdM wr A l ∧ mval l = z
noncomputable def left (bn : Nat) (wr : World) : Nat := by
 classical exact if h : ∃ z, Left bn wr z then h.choose else 0
theorem left_eq {bn : Nat} {wr : World} {A : Option Addr} {l : List Nat} {c : Nat} (h1 : wr.cell? ⟨bn, 0, none⟩ = some (.slice A l.length c)) (h2 : RdM wr A l) : left bn wr = mval l := by
 have hex : ∃ z, Left bn wr z := ⟨_, A, l, c, h1, h2, rfl⟩
 unfold left
 rw [dif_pos hex]
 obtain ⟨A', l', c', e1, e2, e3⟩ := hex.choose_spec
 rw [← e3]
 rw [h1] at e1
 simp only [Option.some.injEq, Value.slice.injEq] at e1
 obtain ⟨rfl, e1, rfl⟩ := e1
 congr 1
 refine (List.ext_getElem e1 fun j j1 j2 => ?_).symm
 obtain ⟨ad, ea, _, ec⟩ := h2 (by intro e; subst e; cases j1)
 obtain ⟨ad', ea', _, ec'⟩ := e2 (by intro e; subst e; cases j2)
 rw [ea] at ea'; injection ea' with ea'; subst ea'
 have := (ec j j1).symm.trans (ec' j j2)
 simp only [Option.some.injEq, Value.int.injEq, true_and] at this
 have := Int.ofNat.inj this
 unfold gt at this
 rwa [getD_lt j1, getD_lt j2] at this
def GcdS (G : Nat) (xs : List Two) (W : World) : Prop := ∃ (pre : List Two) (x : Two) (l : List Nat), xs = pre ++ [x] ∧ x.k = l.length ∧ Dig l ∧ Norm l ∧ Mg W x.A x.c l ∧ l.length ≤ 536870000 ∧ mval l = G
theorem Mg.kept {w w' : World} {A : Option Addr} {c : Nat} {l : List Nat} (h : Mg w A c l) (b : Nat → Prop) (hs : w.heap.size ≤ w'.heap.size)
 (hk : ∀ (k : Nat) (o : Obj), ¬ b k → w.heap[k]? = some o → o.isCells = true → w'.heap[k]? = some o)
 (hb : ∀ k, b k → SB k w) : Mg w' A c l := ⟨h.1, h.2.1, h.2.2.kept b hs hk hb⟩
theorem steps1_seq (n bm bn bo : Nat) (h1 : bm ≠ bn) (h2 : bo ≠ bm) (h3 : bo ≠ bn) (A0 A1 : Option Addr) (l0 l1 : List Nat) (c0 c1 : Nat) (w : World) (hn : 1 ≤ n)
 (hb0 : Boxed w bm 98 (.slice A0 l0.length c0)) (hb1 : Boxed w bn 98 (.slice A1 l1.length c1)) (hbo : SB bo w) (d0 : Dig l0) (d1 : Dig l1) (n0 : Norm l0) (n1 : Norm l1)
 (m0 : Mg w A0 c0 l0) (m1 : Mg w A1 c1 l1) (z0 : l0.length ≤ 536870000) (z1 : l1.length ≤ 536870000) :
 SeqM Fence.wide n Tryz.prog 296 #[.pointer (some ⟨bm, 0, none⟩), .pointer (some ⟨bn, 0, none⟩)] enc2 (KpC bo) (Mv bm bn) (GcdS (Nat.gcd (mval l0) (mval l1))) (mval l1 + 2) w := by
 intro l J W hW hJ hY hJ0
 refine callsIn_of_wp Tryz.func296 rfl trivial ?_ rfl
 simp only [Tryz.ntmps296, List.size_toArray, List.length_cons, List.length_nil, Nat.reduceAdd, Nat.reduceSub, Array.replicate_succ, Array.replicate_zero, List.push_toArray, List.append_toArray, List.nil_append, List.cons_append]
 gi_wp2
 gi_loopw [] (fun wr => ∃ (pre : List Two) (A : Option Addr) (a : List Nat) (c : Nat) (A' : Option Addr) (b : List Nat) (c' : Nat), Boxed wr bm 98 (.slice A a.length c) ∧ Boxed wr bn 98 (.slice A' b.length c') ∧ SB bo wr ∧ Dig a ∧ Norm a ∧ Dig b ∧ Norm b ∧ Mg wr A c a ∧ Mg wr A' c' b ∧ a.length ≤ 536870000 ∧ b.length ≤ 536870000 ∧ Nat.gcd (mval a) (mval b) = Nat.gcd (mval l0) (mval l1) ∧ pre.length + mval b ≤ mval l1 ∧ J pre wr) (fun wr => left bn wr)
 case atStart =>
  have e0 : Boxed W bm 98 (.slice A0 l0.length c0) := (hW.block bm hb0.lt).trans hb0
  have e1 : Boxed W bn 98 (.slice A1 l1.length c1) := (hW.block bn hb1.lt).trans hb1
  refine ⟨[], A0, l0, c0, A1, l1, c1, e0, e1, ?_, d0, n0, d1, n1, m0.below hW, m1.below hW, z0, z1, rfl, by simp, hJ0⟩
  obtain ⟨x, y, z, t, m, e⟩ := hbo
  exact ⟨x, y, z, t, m, (hW.block bo (Array.getElem?_eq_some_iff.1 e).1).trans e⟩
 case round =>
  obtain ⟨pre, A, a, c, A', b, c', hm, hn', ho, da, na, db, nb, ma, mb, za, zb, hg, hp, hj⟩ := hrel
  obtain ⟨fn, tmps, assign, body, hy, hR⟩ := hY pre ⟨A, a.length, c, A', b.length, c'⟩ wr hj (by omega)
  dsimp only [enc2] at hy
  have cm := hm.cell
  have cn := hn'.cell
  gi_wp2
  refine hR.mono ?_
  rintro e W3 ⟨rfl, hj3, hk3⟩
  have bm3 : Boxed W3 bm 98 (.slice A a.length c) := hk3.2 bm _ (Ne.symm h2) hm rfl
  have bn3 : Boxed W3 bn 98 (.slice A' b.length c') := hk3.2 bn _ (Ne.symm h3) hn' rfl
  have ma3 : Mg W3 A c a := ma.kept (· = bo) hk3.1.1.size (fun k o hk h hc => hk3.2 k o hk h hc) (fun k e => by subst e; exact ho)
  have mb3 : Mg W3 A' c' b := mb.kept (· = bo) hk3.1.1.size (fun k o hk h hc => hk3.2 k o hk h hc) (fun k e => by subst e; exact ho)
  have ho3 := hk3.1.2 ho
  have HL : left bn wr = mval b := left_eq cn mb.2.2
  clear hm hn' ma mb ho hk3 hy hR cm cn
  have cm := bm3.cell
  have cn := bn3.cell
  rcases Nat.eq_zero_or_pos b.length with hb | hb
  ·have hb0 : b = [] := List.eq_nil_of_length_eq_zero hb
   subst hb0
   have hcmp : decide ((0 : Int) < ((([] : List Nat).length : Nat) : Int)) = false := rfl
   gi_wp2
   go_end0
   refine ⟨⟨_, rfl⟩, _, ⟨pre, _, a, rfl, rfl, da, na, ma3, za, ?_⟩, hj3⟩
   rw [← hg]; simp [mval]
  ·have hcmp : decide ((0 : Int) < ((b.length : Nat) : Int)) = true := by simp; omega
   have hpos : 0 < mval b := by
    rcases Nat.eq_zero_or_pos (mval b) with h | h
    ·rw [mval_eq_zero nb] at h; subst h; cases hb
    ·exact h
   have hDV := Lib.hid (divide_any A A' a b c c' W3 za zb da db na nb ma3 mb3 hpos)
   gi_wp2_with fail
   refine ⟨trivial, ?_⟩
   refine (callsIn_wide.2 hDV.out).mono ?_
   rintro e W4 ⟨A1', q, c1', A2, r, c2, rfl, ⟨_, _, dr', nr, hqr, hlt⟩, _, mr, hB⟩
   clear hDV
   have bm4 : Boxed W4 bm 98 (.slice A a.length c) := (hB.block bm bm3.lt).trans bm3
   have bn4 : Boxed W4 bn 98 (.slice A' b.length c') := (hB.block bn bn3.lt).trans bn3
   have ho4 : SB bo W4 := by
    obtain ⟨x, y, z, t, m, e⟩ := ho3
    exact ⟨x, y, z, t, m, (hB.block bo (Array.getElem?_eq_some_iff.1 e).1).trans e⟩
   have mb4 := mb3.below hB
   have hj4 := hJ _ _ _ hj3 (Mv.below hB)
   clear cm cn bm3 bn3 ma3 mb3 ho3 hj3
   have cm := bm4.cell
   have cn := bn4.cell
   have fm := bm4.frozen
   have fn' := bn4.frozen
   have HRZ : r.length ≤ 536870000 := Nat.le_trans (length_le_of_lt nr (Nat.lt_trans hlt (mval_lt db))) zb
   have hbox1 := bm4.set (.slice A' b.length c')
   have hbox2 : Boxed (W4.setCell ⟨bm, 0, none⟩ (.slice A' b.length c')) bn 98 (.slice A' b.length c') := (Below.heap_setCell _ _ _ bn (Ne.symm h1)).trans bn4
   have hbox3 := hbox2.set (.slice A2 r.length c2)
   have hbox4 : Boxed ((W4.setCell ⟨bm, 0, none⟩ (.slice A' b.length c')).setCell ⟨bn, 0, none⟩ (.slice A2 r.length c2)) bm 98 (.slice A' b.length c') := (Below.heap_setCell _ _ _ bm h1).trans hbox1
   have hkk : ∀ (k : Nat) (o : Obj), ¬ (k = bm ∨ k = bn) → W4.heap[k]? = some o → o.isCells = true → ((W4.setCell ⟨bm, 0, none⟩ (.slice A' b.length c')).setCell ⟨bn, 0, none⟩ (.slice A2 r.length c2)).heap[k]? = some o := by
    intro k o hk h _
    rw [Below.heap_setCell _ _ _ k (by simp; omega), Below.heap_setCell _ _ _ k (by simp; omega)]
    exact h
   have hsb : ∀ k, (k = bm ∨ k = bn) → SB k W4 := by
    rintro k (rfl | rfl)
    ·exact ⟨_, _, _, _, _, bm4⟩
    ·exact ⟨_, _, _, _, _, bn4⟩
   have mb5 := mb4.kept _ (w' := (W4.setCell ⟨bm, 0, none⟩ (.slice A' b.length c')).setCell ⟨bn, 0, none⟩ (.slice A2 r.length c2)) (by simp [World.setCell]) hkk hsb
   have mr5 := mr.kept _ (w' := (W4.setCell ⟨bm, 0, none⟩ (.slice A' b.length c')).setCell ⟨bn, 0, none⟩ (.slice A2 r.length c2)) (by simp [World.setCell]) hkk hsb
   have ho5 : SB bo ((W4.setCell ⟨bm, 0, none⟩ (.slice A' b.length c')).setCell ⟨bn, 0, none⟩ (.slice A2 r.length c2)) := by
    obtain ⟨x, y, z, t, m, e⟩ := ho4
    exact ⟨x, y, z, t, m, hkk bo _ (by omega) e rfl⟩
   have hj5 := hJ _ _ _ hj4 ((Mv.set W4 ⟨bm, 0, none⟩ (.slice A' b.length c') (.inl rfl)).trans (Mv.set _ ⟨bn, 0, none⟩ (.slice A2 r.length c2) (.inr rfl)))
   have hg5 : Nat.gcd (mval b) (mval r) = Nat.gcd (mval l0) (mval l1) := by
    rw [← hg, hqr, Nat.gcd_comm (mval b * mval q + mval r), Nat.mul_comm, Nat.gcd_mul_right_add_right]
   gi_wp2
   go_roundw
   case rel => exact ⟨_, A', b, c', A2, r, c2, hbox4, hbox3, ho5, db, nb, dr', nr, mb5, mr5, zb, HRZ, hg5, by simp; omega, hj5⟩
   case measure => rw [HL, left_eq hbox3.cell mr5.2.2]; exact hlt
theorem steps_any (v u : Value) (w : World) (A0 A1 : Option Addr) (k0 c0 k1 c1 : Nat) (hv : v = .slice A0 k0 c0) (hu : u = .slice A1 k1 c1) :
 Calls Tryz.prog 274 #[v, u] w fun e w' => e = .returned (.func (.func 296) #[] #[.pointer (some ⟨w.heap.size, 0, none⟩), .pointer (some ⟨w.heap.size + 1, 0, none⟩)]) ∧ w' = (w.alloc (.cells #[v] 98)).alloc (.cells #[u] 98) := by
 subst hv hu
 go_enter Tryz.func274, Tryz.ntmps274
 go_wp2_with fail
 go_ret
 exact ⟨rfl, rfl⟩
def lastv (pre : List Two) : Value := match pre.getLast? with | none => .slice none 0 0 | some x => .slice x.A x.k x.c
theorem lastv_snoc (pre : List Two) (x : Two) : lastv (pre ++ [x]) = .slice x.A x.k x.c := by simp [lastv]
theorem lastv_slice (pre : List Two) : ∃ A k c, lastv pre = .slice A k c := by
 unfold lastv; split
 ·exact ⟨_, _, _, rfl⟩
 ·exact ⟨_, _, _, rfl⟩
theorem GcdS.own (G B : Nat) : OwnFrom B (GcdS G) := by
 rintro s A B' row ⟨pre, x, l, h1, h2, h3, h4, h5, h6, h7⟩ hg hr
 refine ⟨pre, x, l, h1, h2, h3, h4, h5.kept (fun _ => False) hg.size (fun k o _ hk hc => ?_) (fun k h => h.elim), h6, h7⟩
 refine (hg.block k (Array.getElem?_eq_some_iff.1 hk).1 (fun e => ?_)).trans hk
 obtain ⟨_, o', ho', hc'⟩ := hr k e.symm
 rw [hk] at ho'; injection ho' with ho'; subst ho'; rw [hc] at hc'; cases hc'
theorem KpC.set {b : Nat} {W : World} {t : TypeId} {v : Value} (h : Boxed W b t v) (A : Option Addr) (k c : Nat) : KpC b W (W.setCell ⟨b, 0, none⟩ (.slice A k c)) :=
 ⟨⟨⟨rfl, rfl, rfl, by simp [World.setCell], fun _ h => absurd h (Nat.not_lt_zero _)⟩, fun _ => ⟨_, _, _, _, _, h.set _⟩⟩, fun k' o hk ho _ => (Below.heap_setCell _ _ _ k' hk).trans ho⟩
theorem field_num (n : Bool) (A : Option Addr) (k c : Nat) (w : World) : Sem.run Tryz.prog (Instr.field 100 (Value.agg #[.bool n, .slice A k c]) 1) w = .ok (.slice A k c) w := by
 unfold Instr.field
 simp [go_sem, asAgg]
theorem Gcd_any (a b : ByteArray) (w : World) (ha : a.size ≤ 4000000) (hb : b.size ≤ 4000000) (ht : Tabs w) :
 Calls Tryz.prog 233 #[.string a, .string b] w fun e w' => e = .returned (.string (I (Int.gcd (vl a) (vl b)))) ∧ Below w.heap.size w w' := by
 have HT := Lib.hid ht
 clear ht
 refine (callsIn_wide (n := 5)).1 ?_
 have hfn := field_num
 refine callsIn_of_wp_marks Tryz.func233 rfl trivial ?_ rfl
 simp only [Tryz.ntmps233, List.size_toArray, List.length_cons, List.length_nil, Nat.reduceAdd, Nat.reduceSub, Array.replicate_succ, Array.replicate_zero, List.push_toArray, List.append_toArray, List.nil_append, List.cons_append]
 gi_wp2_with fail
 refine ⟨trivial, ?_⟩
 have hB0 : Below w.heap.size w (w.alloc (.cells #[.slice none 0 0] 98)) := (Below.refl _ w).alloc (Nat.le_refl _) _
 have hbo := Boxed.new w 98 (.slice none 0 0)
 obtain ⟨W0, hW0⟩ : ∃ W0, w.alloc (.cells #[.slice none 0 0] 98) = W0 := ⟨_, rfl⟩
 have hsz : W0.heap.size = w.heap.size + 1 := by rw [← hW0]; simp
 rw [hW0] at hB0 hbo ⊢
 refine (callsIn_wide.2 (read_any a _ (by omega))).mono ?_
 rintro e w1 hr1
 obtain ⟨n1, A1, l1, c1, rfl, h1, hb1⟩ := hr1.num
 clear hr1
 gi_wp2_with fail
 refine ⟨trivial, ?_⟩
 refine (callsIn_wide.2 (read_any b _ (by omega))).mono ?_
 rintro e w2 hr2
 obtain ⟨n2, A2, l2, c2, rfl, h2, hb2⟩ := hr2.num
 clear hr2
 have h1' := h1.below hb2
 have hb12 := hb1.trans (hb2.mono hb1.size)
 clear h1 hb1 hb2
 gi_wp2_with fail
 refine ⟨trivial, ?_⟩
 refine (callsIn_wide.2 (steps_any _ _ _ _ _ _ _ _ _ rfl rfl)).mono ?_
 rintro e w3 ⟨rfl, hw3⟩
 gi_wp2_with fail
 have k0 := Boxed.new w2 98 (.slice A1 l1.length c1)
 have k1 := Boxed.new (w2.alloc (.cells #[.slice A1 l1.length c1] 98)) 98 (.slice A2 l2.length c2)
 have k0 := k0.alloc (.cells #[.slice A2 l2.length c2] 98)
 have hB3 : Below w2.heap.size w2 ((w2.alloc (.cells #[.slice A1 l1.length c1] 98)).alloc (.cells #[.slice A2 l2.length c2] 98)) := ((Below.refl _ _).alloc (Nat.le_refl _) _).alloc (by simp) _
 have hs3 : w3.heap.size = w2.heap.size + 2 := by rw [hw3]; simp
 rw [← hw3] at k0 k1 hB3 ⊢
 rw [World.size_alloc] at k1
 have hlt : w.heap.size < w2.heap.size := by have := hb12.size; omega
 have hbo3 : Boxed w3 w.heap.size 98 (.slice none 0 0) := (hB3.block _ hlt).trans ((hb12.block _ (by omega)).trans hbo)
 have hBw3 : Below w.heap.size w w3 := (hB0.trans (hb12.mono (by omega))).trans (hB3.mono (by omega))
 have la := vl_lt a
 have lb := vl_lt b
 have q1 := h1'.len la
 have q2 := h2.len lb
 refine wpIn_rangeFunc_M (α := Two) rfl (by omega) (gf := 296) (lb := #[.pointer (some ⟨w2.heap.size, 0, none⟩), .pointer (some ⟨w2.heap.size + 1, 0, none⟩)]) rfl trivial (enters_of Tryz.func296 (by kernel_rfl) rfl)
  (steps1_seq (5 - 1) w2.heap.size (w2.heap.size + 1) w.heap.size (by omega) (by omega) (by omega) A1 A2 l1 l2 c1 c2 w3 (by omega) k0 k1 ⟨_, _, _, _, _, hbo3⟩ h1'.1 h2.1 h1'.2.1 h2.2.1 (h1'.2.2.2.below hB3) (h2.2.2.2.below hB3) (by omega) (by omega))
  (fun A B hm k o hk ho _ => (hm.2 k (Array.getElem?_eq_some_iff.1 ho).1 (by omega) (by omega)).trans ho)
  KpC.trans (fun W l o o' _ hl hc _ => KpC.put o' hl hc) (Below.refl _ _) (fun _ => rfl)
  (fun pre W => Boxed W w.heap.size 98 (lastv pre) ∧ Below w.heap.size w W)
  (OwnFrom.and (boxed_own _ _ _ |>.from _) (ownFrom_below (Nat.le_refl _) (by omega)))
  (fun pre A B hs hm => ⟨(hm.2 _ hs.1.lt (by omega) (by omega)).trans hs.1, hs.2.trans ⟨hm.1.os, hm.1.tape, hm.1.output, hm.1.size, fun k hk => hm.2 k (Nat.lt_of_lt_of_le hk hs.2.size) (by omega) (by omega)⟩⟩)
  (GcdS.own _ _) ⟨hbo3, hBw3⟩
  (fun x => { tmps := #[Value.string a, Value.string b, undef, undef, Value.string { data := #[] },
    Value.pointer (some { block := w.heap.size, off := 0 }), .slice x.A x.k x.c, Value.string a,
    Value.agg #[Value.bool n1, Value.slice A1 l1.length c1], Value.slice A1 l1.length c1, Value.string b,
    Value.agg #[Value.bool n2, Value.slice A2 l2.length c2], Value.slice A2 l2.length c2,
    Value.func (Fn.func 296) #[]
     #[Value.pointer (some { block := w2.heap.size, off := 0 }),
      Value.pointer (some { block := w2.heap.size + 1, off := 0 })],
    .slice x.A x.k x.c, .slice x.A' x.k' x.c', undef, undef, undef, undef], defers := [] }) ?assign ?body ?done
 case assign =>
  intro l x W K hK
  simp only [enc2]
  gi_wp2
  exact hK
 case body =>
  rintro l pre x W ⟨hc, hB⟩ _
  have cc := hc.cell
  have fc := hc.frozen
  obtain ⟨A', k', c', e⟩ := lastv_slice pre
  rw [e] at cc
  gi_wp2
  refine ⟨(KeepsOthers.setCell _ _ _).from _, KpC.set hc _ _ _, ?_, hB.setCell (p := ⟨w.heap.size, 0, none⟩) (Nat.le_refl _) _⟩
  rw [lastv_snoc]
  exact hc.set _
 case done =>
  rintro D ys W hD ⟨pre, x, l, rfl, hk, d, nn, mg, hz, hv⟩ ⟨hc, hB⟩ hK
  rw [lastv_snoc, hk] at hc
  have cc := hc.cell
  have hN : Nm W false x.A l x.c ((Int.gcd (vl a) (vl b) : Nat) : Int) := by
   refine ⟨d, nn, ?_, mg⟩
   rw [hv]
   show ((Nat.gcd _ _ : Nat) : Int) = _
   rw [h1'.mval, h2.mval]; rfl
  have HX := Lib.hid (text_num false x.A l x.c _ W hN (by omega) (HT.out.below hB))
  clear d nn mg hN
  gi_wp2_with fail
  refine ⟨trivial, ?_⟩
  refine (callsIn_wide.2 HX.out).mono ?_
  rintro e w4 ⟨rfl, hb4⟩
  clear HX cc
  have hK4 : w4.heap[D]? = some (Obj.deferred (some [])) := (hb4.block D (Array.getElem?_eq_some_iff.1 hK).1).trans hK
  have hB4 := hB.trans (hb4.mono hB.size)
  gi_wp2
  refine ⟨by simp, .inl ⟨_, _, rfl, run_takeDeferred hK4, ?_⟩⟩
  exact ⟨_, results_tmp rfl _ _ _, rfl, hB4.trans (belowK_b (w := w) (Nat.le_refl _) w4 D _ _ (by omega) hK4 rfl rfl)⟩
end Go.Proofs.YtbkmhmaldljgmaaGreatDoor
namespace Go.Proofs.YtbkmhmaldljgmaaGreatDoor
open Go.RowKit Tr Go.Shelf
def one1 : ByteArray := ⟨#[49]⟩
theorem one1_eq : one1 = I 1 := by rfl
theorem zero_eq : (⟨#[]⟩ : ByteArray) = I 0 := by rfl
def dd (d : ByteArray) : ByteArray := if vl d = 0 then one1 else d
theorem dd_ne (d : ByteArray) : vl (dd d) ≠ 0 := by
 unfold dd; split
 ·rw [one1_eq, vl_I]; omega
 ·assumption
theorem dd_size (d : ByteArray) : (dd d).size ≤ d.size + 1 := by
 unfold dd; split
 ·show 1 ≤ _; omega
 ·omega
def fv (n d : ByteArray) : Rat := Rat.divInt (vl n) (vl (dd d))
def dn (q : Rat) : ByteArray := if q.den = 1 then ⟨#[]⟩ else I q.den
def fenc (q : Rat) : Value := .agg #[.string (I q.num), .string (dn q)]
theorem vl_dd_dn (q : Rat) : vl (dd (dn q)) = q.den := by
 unfold dn
 split
 ·rename_i h
  unfold dd
  rw [zero_eq, vl_I, if_pos rfl, one1_eq, vl_I, h]; rfl
 ·unfold dd
  rw [vl_I, if_neg (by have := q.den_pos; omega), vl_I]
theorem fv_enc (q : Rat) : fv (I q.num) (dn q) = q := by
 unfold fv
 rw [vl_dd_dn, vl_I]
 exact Rat.num_divInt_den q
theorem dq_pos {a b : Int} (h : 0 < b) : dq a b = a / b := by unfold dq; rw [if_pos h]
theorem red_num {a b : Int} (hb : 0 < b) : dq a (Int.gcd a b) = (Rat.divInt a b).num := by
 have hg : 0 < ((Int.gcd a b : Nat) : Int) := by
  have := Int.gcd_pos_of_ne_zero_right a (b := b) (by omega); omega
 rw [dq_pos hg, Rat.num_divInt, Int.sign_eq_one_of_pos hb, Int.one_mul, Int.gcd_comm]
theorem red_den {a b : Int} (hb : 0 < b) : dq b (Int.gcd a b) = ((Rat.divInt a b).den : Int) := by
 have hg : 0 < ((Int.gcd a b : Nat) : Int) := by
  have := Int.gcd_pos_of_ne_zero_right a (b := b) (by omega); omega
 rw [dq_pos hg, Rat.den_divInt, if_neg (by omega), Int.gcd_comm, Int.natCast_ediv]
 congr 1; omega
def BdQ (q : Rat) (k : Nat) : Prop := q.num.natAbs < 10 ^ k ∧ q.den < 10 ^ k
theorem BdQ.mono {q : Rat} {k m : Nat} (h : BdQ q k) (hk : k ≤ m) : BdQ q m :=
 ⟨Nat.lt_of_lt_of_le h.1 (Nat.pow_le_pow_right (by omega) hk), Nat.lt_of_lt_of_le h.2 (Nat.pow_le_pow_right (by omega) hk)⟩
theorem BdQ.num {q : Rat} {k : Nat} (h : BdQ q k) : (I q.num).size ≤ k + 1 := I_size_le h.1
theorem BdQ.den {q : Rat} {k : Nat} (h : BdQ q k) : (I q.den).size ≤ k + 1 := I_size_le (by simpa using h.2)
theorem BdQ.dn {q : Rat} {k : Nat} (h : BdQ q k) : (dn q).size ≤ k + 1 := by
 unfold Go.Proofs.YtbkmhmaldljgmaaGreatDoor.dn; split
 ·show 0 ≤ _; omega
 ·exact h.den
theorem BdQ.div {a b : Int} {k : Nat} (ha : a.natAbs < 10 ^ k) (hb : b.natAbs < 10 ^ k) (h0 : b ≠ 0) : BdQ (Rat.divInt a b) k := by
 constructor
 ·rw [Rat.num_divInt]
  refine Nat.lt_of_le_of_lt ?_ ha
  refine Nat.le_trans (Int.natAbs_ediv_le_natAbs _ _) ?_
  rw [Int.natAbs_mul, Int.natAbs_sign_of_ne_zero h0]; omega
 ·rw [Rat.den_divInt, if_neg h0]
  exact Nat.lt_of_le_of_lt (Nat.div_le_self _ _) hb
theorem fv_bd (n d : ByteArray) {k : Nat} (hn : n.size ≤ k) (hd : d.size + 1 ≤ k) : BdQ (fv n d) k :=
 BdQ.div (Nat.lt_of_lt_of_le (vl_lt n) (Nat.pow_le_pow_right (by omega) hn)) (Nat.lt_of_lt_of_le (vl_lt (dd d)) (Nat.pow_le_pow_right (by omega) (Nat.le_trans (dd_size d) hd))) (dd_ne d)
theorem reduced_any (n d : ByteArray) (w : World) (hn : n.size ≤ 3000000) (hd : d.size ≤ 3000000) (h0 : vl d ≠ 0) (ht : Tabs w) :
 Calls Tryz.prog 184 #[.string n, .string d] w fun e w' => e = .returned (.tuple #[.string (I (Rat.divInt (vl n) (vl d)).num), .string (I ((Rat.divInt (vl n) (vl d)).den : Int))]) ∧ Below w.heap.size w w' := by
 have HT := Lib.hid ht
 have H0 := Lib.hid h0
 clear ht h0
 have HC := Lib.hid (Compare_any d ⟨#[]⟩ w (by omega) (by show 0 ≤ _; omega))
 rw [show vl (⟨#[]⟩ : ByteArray) = 0 from by rw [zero_eq, vl_I]] at HC
 have gp : ∀ x y : Int, y ≠ 0 → Int.gcd x y ≠ 0 := fun x y h => Nat.ne_of_gt (Int.gcd_pos_of_ne_zero_right x h)
 have gs : ∀ x y : ByteArray, x.size ≤ 3000001 → y.size ≤ 3000001 → vl y ≠ 0 → (I ((Int.gcd (vl x) (vl y) : Nat) : Int)).size ≤ 3000002 := by
  intro x y _ hy h
  refine Nat.le_trans (I_size_le (k := y.size) ?_) (by omega)
  refine Nat.lt_of_le_of_lt ?_ (vl_lt y)
  simp only [Int.natAbs_natCast]
  exact Nat.le_of_dvd (by omega) (Int.gcd_dvd_natAbs_right _ _)
 go_enter Tryz.func184, Tryz.ntmps184
 go_wp2_with fail
 refine HC.out.mono ?_
 rintro e w1 ⟨rfl, B1⟩
 clear HC
 by_cases hneg : vl d < 0
 ·have hc : decide (cmpI (vl d) 0 < 0) = true := decide_eq_true (cmpI_lt.2 hneg)
  go_wp2_with fail
  refine (Neg_any n _ (by omega) (HT.out.below B1)).mono ?_
  rintro e w2 ⟨rfl, hb2⟩
  have B2 := B1.trans (hb2.mono B1.size)
  clear hb2
  go_wp2_with fail
  refine (Neg_any d _ (by omega) (HT.out.below B2)).mono ?_
  rintro e w3 ⟨rfl, hb3⟩
  have B3 := B2.trans (hb3.mono B2.size)
  clear hb3
  have sx : (I (-vl n)).size ≤ 3000001 := Nat.le_trans (I_size_le (k := n.size) (by rw [Int.natAbs_neg]; exact vl_lt n)) (by omega)
  have sy : (I (-vl d)).size ≤ 3000001 := Nat.le_trans (I_size_le (k := d.size) (by rw [Int.natAbs_neg]; exact vl_lt d)) (by omega)
  have ny : vl (I (-vl d)) ≠ 0 := by rw [vl_I]; omega
  clear hc
  go_wp2_with fail
  refine (Gcd_any (I (-vl n)) (I (-vl d)) _ (show (I (-vl n)).size ≤ 4000000 by omega) (show (I (-vl d)).size ≤ 4000000 by omega) (HT.out.below B3)).mono ?_
  rintro e w4 ⟨rfl, hb4⟩
  have B4 := B3.trans (hb4.mono B3.size)
  have g4 := gs (I (-vl n)) (I (-vl d)) (by have := (show (I (-vl n)).size ≤ 4000000 by omega); omega) (by have := (show (I (-vl d)).size ≤ 4000000 by omega); omega) ny
  have g5 : vl (I ((Int.gcd (vl (I (-vl n))) (vl (I (-vl d))) : Nat) : Int)) ≠ 0 := by rw [vl_I]; have := gp (vl (I (-vl n))) (vl (I (-vl d))) ny; omega
  clear hb4
  go_wp2_with fail
  refine (Div_any (I (-vl n)) _ _ (show (I (-vl n)).size ≤ 4000000 by omega) (by omega) g5 (HT.out.below B4)).mono ?_
  rintro e w5 ⟨rfl, hb5⟩
  have B5 := B4.trans (hb5.mono B4.size)
  clear hb5
  go_wp2_with fail
  refine (Div_any (I (-vl d)) _ _ (show (I (-vl d)).size ≤ 4000000 by omega) (by omega) g5 (HT.out.below B5)).mono ?_
  rintro e w6 ⟨rfl, hb6⟩
  have B6 := B5.trans (hb6.mono B5.size)
  clear hb6
  go_wp2_with fail
  go_ret2
  refine ⟨?_, B6⟩
  rw [vl_I, vl_I, vl_I, red_num (by omega), red_den (by omega), Rat.neg_divInt_neg]
  rfl
 ·have hc : decide (cmpI (vl d) 0 < 0) = false := decide_eq_false (fun h => hneg (cmpI_lt.1 h))
  go_wp2_with fail
  refine (Gcd_any n d _ (show n.size ≤ 4000000 by omega) (show d.size ≤ 4000000 by omega) (HT.out.below B1)).mono ?_
  rintro e w4 ⟨rfl, hb4⟩
  have B4 := B1.trans (hb4.mono B1.size)
  have g4 := gs n d (by have := (show n.size ≤ 4000000 by omega); omega) (by have := (show d.size ≤ 4000000 by omega); omega) H0.out
  have g5 : vl (I ((Int.gcd (vl n) (vl d) : Nat) : Int)) ≠ 0 := by rw [vl_I]; have := gp (vl n) (vl d) H0.out; omega
  clear hb4
  go_wp2_with fail
  refine (Div_any n _ _ (show n.size ≤ 4000000 by omega) (by omega) g5 (HT.out.below B4)).mono ?_
  rintro e w5 ⟨rfl, hb5⟩
  have B5 := B4.trans (hb5.mono B4.size)
  clear hb5
  go_wp2_with fail
  refine (Div_any d _ _ (show d.size ≤ 4000000 by omega) (by omega) g5 (HT.out.below B5)).mono ?_
  rintro e w6 ⟨rfl, hb6⟩
  have B6 := B5.trans (hb6.mono B5.size)
  clear hb6
  go_wp2_with fail
  go_ret2
  refine ⟨?_, B6⟩
  have := H0.out
  rw [vl_I, red_num (by omega), red_den (by omega)]
  rfl
theorem toList_one (z : Int) : ((I z).toList == [49]) = decide (z = 1) := by
 rw [show ([49] : List UInt8) = (I 1).toList from by rw [Lib.toList_data]; rfl]
 by_cases h : z = 1
 ·subst h; simp
 ·rw [neq_toList (fun e => h (I_inj e))]; simp [h]
theorem set2 {w : World} {b : Nat} {x y : Value} {t : TypeId} {m : Nat × Nat} (h : w.heap[b]? = some (.cells #[x, y] t m)) (x' y' : Value) :
 ((w.setCell ⟨b, 0, none⟩ x').setCell ⟨b, 1, none⟩ y').heap[b]? = some (.cells #[x', y'] t m) := by
 simp [World.setCell, Array.getElem?_modify, h]
theorem made_any (n d : ByteArray) (w : World) (hn : n.size ≤ 3000000) (hd : d.size ≤ 3000000) (h0 : vl d ≠ 0) (ht : Tabs w) :
 Calls Tryz.prog 135 #[.string n, .string d] w fun e w' => e = .returned (fenc (Rat.divInt (vl n) (vl d))) ∧ Below w.heap.size w w' := by
 have HB := Lib.hid ((Below.refl _ w).alloc (Nat.le_refl _) (Obj.cells #[.string ⟨#[]⟩, .string ⟨#[]⟩] 25))
 have HR := Lib.hid (reduced_any n d _ hn hd h0 (ht.below HB.out))
 obtain ⟨W0, hW0⟩ : ∃ W0, w.alloc (Obj.cells #[.string ⟨#[]⟩, .string ⟨#[]⟩] 25) = W0 := ⟨_, rfl⟩
 have hk : W0.heap[w.heap.size]? = some (Obj.cells #[.string ⟨#[]⟩, .string ⟨#[]⟩] 25) := by rw [← hW0]; exact heap_alloc_new w _
 have hs : W0.heap.size = w.heap.size + 1 := by rw [← hW0]; simp
 rw [hW0] at HB HR
 generalize hq : Rat.divInt (vl n) (vl d) = q at HR ⊢
 clear h0 ht hq
 go_enter Tryz.func135, Tryz.ntmps135
 go_wp2_with fail
 try rw [hW0]
 refine HR.out.mono ?_
 rintro e w1 ⟨rfl, B1⟩
 clear HR
 have k1 := (B1.block w.heap.size (by omega)).trans hk
 have a0 := Lib.cell_of_heap k1 0
 have a1 := Lib.cell_of_heap k1 1
 simp at a0 a1
 have f0 := Lib.frozen_of_heap k1 0
 have HB1 := Lib.hid (HB.out.trans (B1.mono HB.out.size))
 clear B1 HB hk hs
 have f1 := Lib.frozen_of_heap k1 1
 have hone := toList_one (q.den : Int)
 have K1 := Lib.hid k1
 clear k1
 by_cases hq : q.den = 1
 ·rw [decide_eq_true (by rw [hq]; rfl)] at hone
  have HQ := Lib.hid hq
  clear hq
  go_wp2_with fail
  have k2 := set2 K1.out (.string (I q.num)) (.string ⟨#[]⟩)
  have m0 := Lib.cell_of_heap k2 0
  have m1 := Lib.cell_of_heap k2 1
  simp at m0 m1
  refine bodyPost_ret (v := .agg #[.string (I q.num), .string ⟨#[]⟩]) (by simp [results, Tryz.results135, go_sem, m0, m1]) rfl ?_
  refine ⟨?_, (HB1.out.setCell (p := ⟨w.heap.size, 0, none⟩) (Nat.le_refl _) _).setCell (p := ⟨w.heap.size, 1, none⟩) (Nat.le_refl _) _⟩
  unfold fenc dn
  rw [if_pos HQ.out]
 ·rw [decide_eq_false (by omega)] at hone
  go_wp2_with fail
  have k2 := set2 K1.out (.string (I q.num)) (.string (I (q.den : Int)))
  have m0 := Lib.cell_of_heap k2 0
  have m1 := Lib.cell_of_heap k2 1
  simp at m0 m1
  refine bodyPost_ret (v := .agg #[.string (I q.num), .string (I (q.den : Int))]) (by simp [results, Tryz.results135, go_sem, m0, m1]) rfl ?_
  refine ⟨?_, (HB1.out.setCell (p := ⟨w.heap.size, 0, none⟩) (Nat.le_refl _) _).setCell (p := ⟨w.heap.size, 1, none⟩) (Nat.le_refl _) _⟩
  unfold fenc dn
  rw [if_neg hq]
theorem parts_any (n d : ByteArray) (w : World) (hd : d.size ≤ 3000000) :
 Calls Tryz.prog 136 #[.agg #[.string n, .string d]] w fun e w' => e = .returned (.tuple #[.string n, .string (dd d)]) ∧ Below w.heap.size w w' := by
 have HB := Lib.hid ((Below.refl _ w).alloc (Nat.le_refl _) (Obj.cells #[.string n, .string d] 25))
 have HC := Lib.hid (Compare_any d ⟨#[]⟩ (w.alloc (Obj.cells #[.string n, .string d] 25)) (by omega) (by show 0 ≤ _; omega))
 rw [show vl (⟨#[]⟩ : ByteArray) = 0 from by rw [zero_eq, vl_I]] at HC
 obtain ⟨W0, hW0⟩ : ∃ W0, w.alloc (Obj.cells #[.string n, .string d] 25) = W0 := ⟨_, rfl⟩
 have hk : W0.heap[w.heap.size]? = some (Obj.cells #[.string n, .string d] 25) := by rw [← hW0]; exact heap_alloc_new w _
 have hs : W0.heap.size = w.heap.size + 1 := by rw [← hW0]; simp
 rw [hW0] at HB HC
 have b0 := Lib.cell_of_heap hk 0
 have b1 := Lib.cell_of_heap hk 1
 simp at b0 b1
 go_enter Tryz.func136, Tryz.ntmps136
 go_wp2_with fail
 try rw [hW0]
 refine HC.out.mono ?_
 rintro e w1 ⟨rfl, B1⟩
 clear HC
 have a0 : w1.cell? ⟨w.heap.size, 0, none⟩ = some (.string n) := (B1.cell (by simp; omega)).trans b0
 have a1 : w1.cell? ⟨w.heap.size, 1, none⟩ = some (.string d) := (B1.cell (by simp; omega)).trans b1
 have HB1 := Lib.hid (HB.out.trans (B1.mono HB.out.size))
 clear B1 HB hk hs b0 b1
 by_cases h0 : vl d = 0
 ·have hc : (cmpI (vl d) 0 == 0) = true := beq_iff_eq.2 (cmpI_eq.2 h0)
  go_wp2_with fail
  go_ret2
  refine ⟨?_, HB1.out⟩
  unfold dd; rw [if_pos h0]; rfl
 ·have hc : (cmpI (vl d) 0 == 0) = false := beq_eq_false_iff_ne.2 (fun h => h0 (cmpI_eq.1 h))
  go_wp2_with fail
  go_quiet (fail)
  go_wp2_with fail
  go_ret2
  refine ⟨?_, below_drewN HB1.out _⟩
  unfold dd; rw [if_neg h0]; rfl
def MulBox (w : World) (B : Nat) : Prop := w.heap[B]? = some (.cells #[.func (.func 166) #[] #[]] 79 (0, 0))
theorem MulBox.below {w w' : World} {B : Nat} (h : MulBox w B) (hb : Below w.heap.size w w') : MulBox w' B := (hb.block B (Array.getElem?_eq_some_iff.1 h).1).trans h
theorem MulBox.drew {w : World} {B : Nat} (h : MulBox w B) : MulBox w.drew B := h
theorem MulBox.cell {w : World} {B : Nat} (h : MulBox w B) : w.cell? ⟨B, 0, none⟩ = some (.func (.func 166) #[] #[]) := by simp [World.cell?, show w.heap[B]? = _ from h]
def OpPost (w : World) (x y : Int) (e : Ending) (w' : World) : Prop := e = .returned (.tuple #[.string (I x), .string (I y)]) ∧ Below w.heap.size w w'
theorem mul_size {a b : ByteArray} {k m : Nat} (ha : a.size ≤ k) (hb : b.size ≤ m) : (I (vl a * vl b)).size ≤ k + m + 1 := by
 refine I_size_le ?_
 rw [Int.natAbs_mul, Nat.pow_add]
 refine Nat.lt_of_lt_of_le (Nat.mul_lt_mul_of_lt_of_le (vl_lt a) (Nat.le_of_lt (vl_lt b)) (Nat.pow_pos (by omega))) ?_
 exact Nat.mul_le_mul (Nat.pow_le_pow_right (by omega) ha) (Nat.pow_le_pow_right (by omega) hb)
theorem op3_any (a b c d : ByteArray) (w : World) (B : Nat) (ha : a.size ≤ 1000000) (hb : b.size ≤ 1000000) (hc : c.size ≤ 1000000) (hd : d.size ≤ 1000000) (hB : MulBox w B) (ht : Tabs w) :
 Calls Tryz.prog 218 #[.string a, .string b, .string c, .string d, .pointer (some ⟨B, 0, none⟩)] w (OpPost w (vl a * vl c) (vl b * vl d)) := by
 have HT := Lib.hid ht
 have HB := Lib.hid hB
 have k0 := hB.cell
 clear ht hB
 go_enter Tryz.func218, Tryz.ntmps218
 go_wp2_with fail
 go_region_held3 (fun W => W.cell? ⟨B, 0, none⟩ = some (.func (.func 166) #[] #[]))
  (first | assumption | (go_simp; done))
  (first
    | (go_at_call_of 166 [Value.string a, Value.string c]; refine (Mul_any a c w.drew (by omega) (by omega) (HT.out.below (Below.refl _ w).drew)).mono ?_; rintro e w1 ⟨rfl, hb1⟩; have k1 := (HB.out.drew.below hb1).cell; have B1 := (Below.refl w.heap.size w).drew.trans (hb1.mono (Nat.le_refl _)); clear hb1)
    | (go_at_call_of 166 [Value.string b, Value.string d]; refine (Mul_any b d w1 (by omega) (by omega) (HT.out.below B1)).mono ?_; rintro e w2 ⟨rfl, hb2⟩; have B2 := B1.trans (hb2.mono B1.size); have k2 := (HB.out.below B2).cell; clear hb2))
 go_wp2_with fail
 go_ret2
 exact ⟨rfl, B2⟩
theorem op4_any (a b c d : ByteArray) (w : World) (B : Nat) (ha : a.size ≤ 1000000) (hb : b.size ≤ 1000000) (hc : c.size ≤ 1000000) (hd : d.size ≤ 1000000) (hB : MulBox w B) (ht : Tabs w) :
 Calls Tryz.prog 219 #[.string a, .string b, .string c, .string d, .pointer (some ⟨B, 0, none⟩)] w (OpPost w (vl a * vl d) (vl b * vl c)) := by
 have HT := Lib.hid ht
 have HB := Lib.hid hB
 have k0 := hB.cell
 clear ht hB
 go_enter Tryz.func219, Tryz.ntmps219
 go_wp2_with fail
 go_region_held3 (fun W => W.cell? ⟨B, 0, none⟩ = some (.func (.func 166) #[] #[]))
  (first | assumption | (go_simp; done))
  (first
    | (go_at_call_of 166 [Value.string a, Value.string d]; refine (Mul_any a d w.drew (by omega) (by omega) (HT.out.below (Below.refl _ w).drew)).mono ?_; rintro e w1 ⟨rfl, hb1⟩; have k1 := (HB.out.drew.below hb1).cell; have B1 := (Below.refl w.heap.size w).drew.trans (hb1.mono (Nat.le_refl _)); clear hb1)
    | (go_at_call_of 166 [Value.string b, Value.string c]; refine (Mul_any b c w1 (by omega) (by omega) (HT.out.below B1)).mono ?_; rintro e w2 ⟨rfl, hb2⟩; have B2 := B1.trans (hb2.mono B1.size); have k2 := (HB.out.below B2).cell; clear hb2))
 go_wp2_with fail
 go_ret2
 exact ⟨rfl, B2⟩
theorem op1_any (a b c d : ByteArray) (w : World) (B : Nat) (ha : a.size ≤ 1000000) (hb : b.size ≤ 1000000) (hc : c.size ≤ 1000000) (hd : d.size ≤ 1000000) (hB : MulBox w B) (ht : Tabs w) :
 Calls Tryz.prog 216 #[.string a, .string b, .string c, .string d, .pointer (some ⟨B, 0, none⟩)] w (OpPost w (vl a * vl d + vl c * vl b) (vl b * vl d)) := by
 have HT := Lib.hid ht
 have HB := Lib.hid hB
 have k0 := hB.cell
 clear ht hB
 go_enter Tryz.func216, Tryz.ntmps216
 go_wp2_with fail
 go_region_held3 (fun W => W.cell? ⟨B, 0, none⟩ = some (.func (.func 166) #[] #[]))
  (first | assumption | (go_simp; done))
  (first
    | (go_at_call_of 166 [Value.string a, Value.string d]; refine (Mul_any a d w.drew (by omega) (by omega) (HT.out.below (Below.refl _ w).drew)).mono ?_; rintro e w1 ⟨rfl, hb1⟩; have k1 := (HB.out.drew.below hb1).cell; have B1 := (Below.refl w.heap.size w).drew.trans (hb1.mono (Nat.le_refl _)); clear hb1)
    | (go_at_call_of 166 [Value.string c, Value.string b]; refine (Mul_any c b w1 (by omega) (by omega) (HT.out.below B1)).mono ?_; rintro e w2 ⟨rfl, hb2⟩; have B2 := B1.trans (hb2.mono B1.size); have k2 := (HB.out.below B2).cell; clear hb2)
    | (go_at_call_of 28 [Value.string (I (vl a * vl d)), Value.string (I (vl c * vl b))]; refine (Add_any (I (vl a * vl d)) (I (vl c * vl b)) w2 (Nat.le_trans (mul_size (k := 1000000) (m := 1000000) (by omega) (by omega)) (by omega)) (Nat.le_trans (mul_size (k := 1000000) (m := 1000000) (by omega) (by omega)) (by omega)) (HT.out.below B2)).mono ?_; rintro e w3 ⟨rfl, hb3⟩; have B3 := B2.trans (hb3.mono B2.size); have k3 := (HB.out.below B3).cell; clear hb3)
    | (go_at_call_of 166 [Value.string b, Value.string d]; refine (Mul_any b d w3 (by omega) (by omega) (HT.out.below B3)).mono ?_; rintro e w4 ⟨rfl, hb4⟩; have B4 := B3.trans (hb4.mono B3.size); have k4 := (HB.out.below B4).cell; clear hb4))
 go_wp2_with fail
 go_ret2
 refine ⟨?_, B4⟩
 rw [vl_I, vl_I]; rfl
theorem op2_any (a b c d : ByteArray) (w : World) (B : Nat) (ha : a.size ≤ 1000000) (hb : b.size ≤ 1000000) (hc : c.size ≤ 1000000) (hd : d.size ≤ 1000000) (hB : MulBox w B) (ht : Tabs w) :
 Calls Tryz.prog 217 #[.string a, .string b, .string c, .string d, .pointer (some ⟨B, 0, none⟩)] w (OpPost w (vl a * vl d - vl c * vl b) (vl b * vl d)) := by
 have HT := Lib.hid ht
 have HB := Lib.hid hB
 have k0 := hB.cell
 clear ht hB
 go_enter Tryz.func217, Tryz.ntmps217
 go_wp2_with fail
 go_region_held3 (fun W => W.cell? ⟨B, 0, none⟩ = some (.func (.func 166) #[] #[]))
  (first | assumption | (go_simp; done))
  (first
    | (go_at_call_of 166 [Value.string a, Value.string d]; refine (Mul_any a d w.drew (by omega) (by omega) (HT.out.below (Below.refl _ w).drew)).mono ?_; rintro e w1 ⟨rfl, hb1⟩; have k1 := (HB.out.drew.below hb1).cell; have B1 := (Below.refl w.heap.size w).drew.trans (hb1.mono (Nat.le_refl _)); clear hb1)
    | (go_at_call_of 166 [Value.string c, Value.string b]; refine (Mul_any c b w1 (by omega) (by omega) (HT.out.below B1)).mono ?_; rintro e w2 ⟨rfl, hb2⟩; have B2 := B1.trans (hb2.mono B1.size); have k2 := (HB.out.below B2).cell; clear hb2)
    | (go_at_call_of 26 [Value.string (I (vl a * vl d)), Value.string (I (vl c * vl b))]; refine (Sub_any (I (vl a * vl d)) (I (vl c * vl b)) w2 (Nat.le_trans (mul_size (k := 1000000) (m := 1000000) (by omega) (by omega)) (by omega)) (Nat.le_trans (mul_size (k := 1000000) (m := 1000000) (by omega) (by omega)) (by omega)) (HT.out.below B2)).mono ?_; rintro e w3 ⟨rfl, hb3⟩; have B3 := B2.trans (hb3.mono B2.size); have k3 := (HB.out.below B3).cell; clear hb3)
    | (go_at_call_of 166 [Value.string b, Value.string d]; refine (Mul_any b d w3 (by omega) (by omega) (HT.out.below B3)).mono ?_; rintro e w4 ⟨rfl, hb4⟩; have B4 := B3.trans (hb4.mono B3.size); have k4 := (HB.out.below B4).cell; clear hb4))
 go_wp2_with fail
 go_ret2
 refine ⟨?_, B4⟩
 rw [vl_I, vl_I]; rfl
structure XD (w : World) (P : Nat) (na : Bool) (v1 : Value) (A2 : Option Addr) (l2 : List Nat) (c2 : Nat) (aq ar : Addr) (q r : List Nat) (W : World) : Prop where
 k0 : W.heap[P]? = some (.cells #[.bool na, v1] 150 (0, 0))
 k1 : W.heap[P + 1]? = some (.cells #[.bool false, .slice A2 l2.length c2] 150 (0, 0))
 r2 : RdN W A2 l2
 rq : RdN W (some aq) q
 rr : RdN W (some ar) r
 bel : Below w.heap.size w W
theorem XD.lt {w : World} {P : Nat} {na : Bool} {v1 : Value} {A2 : Option Addr} {l2 : List Nat} {c2 : Nat} {aq ar : Addr} {q r : List Nat} {W : World} (h : XD w P na v1 A2 l2 c2 aq ar q r W) : P + 1 < W.heap.size := (Array.getElem?_eq_some_iff.1 h.k1).1
theorem set2_far {W : World} {B k : Nat} (hk : k ≠ B) (x y : Value) : ((W.setCell ⟨B, 0, none⟩ x).setCell ⟨B, 1, none⟩ y).heap[k]? = W.heap[k]? := by
 rw [Below.heap_setCell _ _ _ _ (by simpa using hk), Below.heap_setCell _ _ _ _ (by simpa using hk)]
theorem set2_below {w W : World} {B : Nat} (hb : w.heap.size ≤ B) (h : Below w.heap.size w W) (x y : Value) : Below w.heap.size w ((W.setCell ⟨B, 0, none⟩ x).setCell ⟨B, 1, none⟩ y) :=
 (h.setCell (p := ⟨B, 0, none⟩) hb _).setCell (p := ⟨B, 1, none⟩) hb _
end Go.Proofs.YtbkmhmaldljgmaaGreatDoor
