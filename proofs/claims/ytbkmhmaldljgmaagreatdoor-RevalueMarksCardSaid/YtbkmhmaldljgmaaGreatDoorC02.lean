/-
  What the walks of this seat share: magnitudes in memory.
  The walk of (magnitude).cut.
  The walk of (magnitude).compare.
  The walks of trancheref01.trim, group: slices of int.
  A stable sort, plainly: insertion, stable merges, and that merging sorted parts sorts the whole.
  The steps of slices.SortStableFunc on a list, plainly: exchanges, the states of the insertion sort, rotation, the searches of symMerge, chunks.
  Plain: a total divided by weights, the greatest remainders first (allocate.Split, trancheref04.Split).
-/
import Derived.Test.YtbkmhmaldljgmaaGreatDoorProg
import Derived.Test.YtbkmhmaldljgmaaGreatDoorC01
import Derived.WalkKit
import Derived.WalkSpells
import Derived.WalkLawsBesides
import Derived.Deep.QuietTactic
import Derived.BigQuiet
import Derived.Lib.Hide
import Derived.Deep.Draws
import Derived.KernelRfl
import Derived.Maps.AppendAt
set_option linter.unusedVariables false
set_option linter.unusedSimpArgs false
set_option maxHeartbeats 16000000
set_option maxRecDepth 100000
namespace Go.Proofs.YtbkmhmaldljgmaaGreatDoor
open Go.RowKit Tr
theorem add_block (a : Addr) (n : Nat) : (a.add n).block = a.block := by unfold Addr.add; split <;> rfl
def gt (l : List Nat) (k : Nat) : Nat := l.getD k 0
def RdM (w : World) (A : Option Addr) (l : List Nat) : Prop :=
 l ≠ [] → ∃ ad : Addr, A = some ad ∧ ad.block < w.heap.size ∧ ∀ j, j < l.length → w.cell? (ad.add j) = some (.int .u64 (gt l j))
theorem RdM.nil (w : World) (A : Option Addr) : RdM w A [] := fun h => absurd rfl h
theorem RdM.below {w w' : World} {A : Option Addr} {l : List Nat} (h : RdM w A l) (hb : Below w.heap.size w w') : RdM w' A l := by
 intro hl
 obtain ⟨ad, rfl, h1, h2⟩ := h hl
 exact ⟨ad, rfl, Nat.lt_of_lt_of_le h1 hb.size, fun j hj => (hb.cell (by rw [add_block]; exact h1)).trans (h2 j hj)⟩
theorem RdM.take {w : World} {A : Option Addr} {l : List Nat} (h : RdM w A l) (k : Nat) : RdM w A (l.take k) := by
 intro hl
 obtain ⟨ad, rfl, h1, h2⟩ := h (fun e => hl (by rw [e]; simp))
 refine ⟨ad, rfl, h1, fun j hj => ?_⟩
 rw [List.length_take] at hj
 rw [h2 j (by omega)]
 unfold gt
 rw [List.getD_eq_getElem?_getD, List.getD_eq_getElem?_getD, List.getElem?_take_of_lt (by omega)]
def U (x : Nat) : Value := .int .u64 (x : Int)
def OwnM (w : World) (g : Nat) (l : List Nat) (sp : List Value) : Prop := w.heap[g]? = some (.cells (l.map U ++ sp).toArray 128 (0, 0))
section
variable {w w' : World} {g : Nat} {l : List Nat} {sp : List Value}
theorem OwnM.lt (h : OwnM w g l sp) : g < w.heap.size := by
 rcases Nat.lt_or_ge g w.heap.size with hlt | hge
 ·exact hlt
 ·unfold OwnM at h; rw [Array.getElem?_eq_none hge] at h; cases h
theorem OwnM.cell (h : OwnM w g l sp) {k : Nat} (hk : k < l.length) : w.cell? ⟨g, k, none⟩ = some (.int .u64 (gt l k)) := by
 rw [cell_of_row w g k _ _ (0, 0) h]
 simp only [List.getElem?_toArray]
 rw [List.getElem?_append_left (by simpa using hk)]
 simp [gt, U, hk]
theorem OwnM.frozen (h : OwnM w g l sp) (k : Nat) : w.frozen? ⟨g, k, none⟩ = false := by
 unfold OwnM at h
 simp [World.frozen?, h]
theorem OwnM.drew (h : OwnM w g l sp) : OwnM w.drew g l sp := h
theorem OwnM.drewN (h : OwnM w g l sp) (n : Nat) : OwnM (w.drewN n) g l sp := h
theorem OwnM.alloc (h : OwnM w g l sp) (o : Obj) : OwnM (w.alloc o) g l sp := (Below.heap_alloc w o g h.lt).trans h
theorem OwnM.set (h : OwnM w g l sp) {k : Nat} (hk : k < l.length) (x : Nat) : OwnM (w.setCell ⟨g, k, none⟩ (.int .u64 (x : Int))) g (l.set k x) sp := by
 unfold OwnM at h ⊢
 simp only [World.setCell, Array.getElem?_modify, h, if_true, Option.map_some]
 congr 2
 rw [List.setIfInBounds_toArray, List.set_append_left _ _ (by simpa using hk), List.map_set]; rfl
theorem OwnM.set' (h : OwnM w g l sp) {k : Nat} (hk : k < l.length) {z : Int} (x : Nat) (hz : z = x) : OwnM (w.setCell ⟨g, k, none⟩ (.int .u64 z)) g (l.set k x) sp := by
 subst hz; exact h.set hk x
theorem OwnM.cell_sp {s : Value} (h : OwnM w g l (s :: sp)) : w.cell? ⟨g, l.length, none⟩ = some s := by
 rw [cell_of_row w g _ _ _ (0, 0) h]
 simp
theorem OwnM.push {s : Value} (h : OwnM w g l (s :: sp)) {z : Int} (x : Nat) (hz : z = x) : OwnM (w.setCell ⟨g, l.length, none⟩ (.int .u64 z)) g (l ++ [x]) sp := by
 subst hz
 unfold OwnM at h ⊢
 simp only [World.setCell, Array.getElem?_modify, h, if_true, Option.map_some]
 congr 2
 rw [List.setIfInBounds_toArray]
 rw [List.set_append_right _ _ (by simp)]
 simp [U]
theorem OwnM.far (h : OwnM w g l sp) {p : Addr} (hp : g ≠ p.block) (u : Value) : OwnM (w.setCell p u) g l sp := (Below.heap_setCell w p u g hp).trans h
theorem OwnM.below {B : Nat} (h : OwnM w g l sp) (hb : Below B w w') (hg : g < B) : OwnM w' g l sp := (hb.block g hg).trans h
theorem OwnM.rd (h : OwnM w g l sp) : RdM w (some ⟨g, 0, none⟩) l := by
 intro _
 refine ⟨_, rfl, h.lt, fun j hj => ?_⟩
 have := h.cell hj
 unfold Addr.add
 split
 ·rename_i h0; subst h0; exact this
 ·simpa using this
end
theorem OwnM.owns {w : World} {g : Nat} {l : List Nat} {sp : List Value} (h : OwnM w g l sp) {base cap : Nat} (hb : base ≤ g) (hc : l.length + sp.length = cap) (hm : cap ≤ maxLen) :
 w.ownsRow base 128 1 (.slice (some ⟨g, 0, none⟩) l.length cap) l.length (l.map U) :=
 ⟨by simp, .inr ⟨g, cap, _, rfl, hb, h, by omega, hm, by simp; omega, by simp⟩⟩
theorem RdM.of_own {w : World} {base : Nat} {e : TypeId} {A : Option Addr} {n c : Nat} {l : List Nat} (h : w.ownsRow base e 1 (.slice A n c) n (l.map U)) : n = l.length ∧ n ≤ c ∧ RdM w A l := by
 have hn : n = l.length := by have := h.1; simpa using this.symm
 refine ⟨hn, ?_, fun hl => ?_⟩
 ·rcases h.2 with ⟨h', _⟩ | ⟨g', cap', cur, h', _, hg, hnc, _⟩
  ·simp at h'; omega
  ·simp only [Value.slice.injEq] at h'; omega
 ·rcases h.2 with ⟨h', _⟩ | ⟨g', cap', cur, h', _, hg, _⟩
  ·exact absurd (List.eq_nil_of_length_eq_zero (by simp at h'; omega)) hl
  ·simp only [Value.slice.injEq, true_and] at h'
   obtain ⟨rfl, rfl⟩ := h'
   have hlt : g' < w.heap.size := by
    rcases Nat.lt_or_ge g' w.heap.size with h | h
    ·exact h
    ·rw [Array.getElem?_eq_none h] at hg; cases hg
   refine ⟨_, rfl, hlt, fun j hj => ?_⟩
   have hc := h.cells (g := g') rfl j (.int .u64 (gt l j)) (by simp [gt, U, hj])
   exact hc
theorem OwnM.of_owns {w : World} {base : Nat} {v : Value} {n : Nat} {l : List Nat} (h : w.ownsRow base 128 1 v n (l.map U)) (hpos : 0 < l.length) :
 ∃ (g cap : Nat) (sp : List Value), v = .slice (some ⟨g, 0, none⟩) l.length cap ∧ base ≤ g ∧ l.length ≤ cap ∧ cap ≤ maxLen ∧ OwnM w g l sp := by
 have hn : n = l.length := by have := h.1; simpa using this.symm
 rcases h.2 with ⟨h', h''⟩ | ⟨g', cap', cur, h', hb, hg, hnc, hcm, hcs, htake⟩
 ·omega
 ·subst hn
  refine ⟨g', cap', cur.toList.drop l.length, h', hb, hnc, hcm, ?_⟩
  unfold OwnM
  rw [hg, ← htake, Nat.mul_one, List.take_append_drop]
def Fresh (w : World) (A : Option Addr) (c : Nat) : Prop := (A = none → c = 0) ∧ ∀ ad : Addr, A = some ad → w.heap.size ≤ ad.block
theorem Fresh.some_ {w : World} {g o c : Nat} (h : w.heap.size ≤ g) : Fresh w (some ⟨g, o, none⟩) c := ⟨(fun h => by cases h), fun ad e => by injection e with e; rw [← e]; exact h⟩
theorem RdM.far {w : World} {A : Option Addr} {l : List Nat} (h : RdM w A l) {p : Addr} (hp : ∀ ad : Addr, A = some ad → ad.block ≠ p.block) (u : Value) : RdM (w.setCell p u) A l := by
 intro hl
 obtain ⟨ad, rfl, h1, h2⟩ := h hl
 refine ⟨ad, rfl, by simpa [World.setCell] using h1, fun j hj => ?_⟩
 rw [World.cell?_setCell_other _ _ _ _ (fun e => hp ad rfl (by rw [← add_block ad j, ← e]))]
 exact h2 j hj
def MagPost (w : World) (P : List Nat → Prop) (e : Ending) (w' : World) : Prop :=
 ∃ (A : Option Addr) (r : List Nat) (c : Nat), e = .returned (.slice A r.length c) ∧ r.length ≤ c ∧ P r ∧ Fresh w A c ∧ RdM w' A r ∧ Below w.heap.size w w'
def OwnPost (w : World) (P : List Nat → Prop) (e : Ending) (w' : World) : Prop :=
 ∃ (g : Nat) (r : List Nat) (sp : List Value), e = .returned (.slice (some ⟨g, 0, none⟩) r.length (r.length + sp.length)) ∧ r.length + sp.length ≤ 2147483648 ∧ P r ∧ OwnM w' g r sp ∧ w.heap.size ≤ g ∧ Below w.heap.size w w'
theorem OwnPost.mag {w : World} {P : List Nat → Prop} {e : Ending} {w' : World} (h : OwnPost w P e w') : MagPost w P e w' := by
 obtain ⟨g, r, sp, rfl, _, hp, ho, hg, hb⟩ := h
 exact ⟨_, r, _, rfl, by omega, hp, Fresh.some_ hg, ho.rd, hb⟩
theorem set_mid {p l : List Nat} {k : Nat} (h : p.length = k) (hk : k < l.length) (z : Nat) : (p ++ l.drop k).set k z = (p ++ [z]) ++ l.drop (k + 1) := by
 rw [List.drop_eq_getElem_cons hk, set_append_mid _ _ _ _ _ h]; simp
theorem set_set (l : List Nat) (k x y : Nat) : (l.set k x).set k y = l.set k y := by simp
def lenOf : Value → Nat | .slice _ n _ => n | _ => 0
theorem below_drewN {B : Nat} {a w : World} (h : Below B a w) (n : Nat) : Below B a (w.drewN n) := ⟨h.os, h.tape, h.output, h.size, h.block⟩
theorem cells15 {W : World} {b : Nat} {x0 x1 x2 x3 x4 x5 x6 x7 x8 x9 x10 x11 x12 x13 x14 : Value} {t : TypeId} {m : Nat × Nat} (h : W.heap[b]? = some (.cells #[x0, x1, x2, x3, x4, x5, x6, x7, x8, x9, x10, x11, x12, x13, x14] t m)) : W.cell? ⟨b, 0, none⟩ = some x0 ∧ W.cell? ⟨b, 1, none⟩ = some x1 ∧ W.cell? ⟨b, 2, none⟩ = some x2 ∧ W.cell? ⟨b, 3, none⟩ = some x3 ∧ W.cell? ⟨b, 4, none⟩ = some x4 ∧ W.cell? ⟨b, 5, none⟩ = some x5 ∧ W.cell? ⟨b, 6, none⟩ = some x6 ∧ W.cell? ⟨b, 7, none⟩ = some x7 ∧ W.cell? ⟨b, 8, none⟩ = some x8 ∧ W.cell? ⟨b, 9, none⟩ = some x9 ∧ W.cell? ⟨b, 10, none⟩ = some x10 ∧ W.cell? ⟨b, 11, none⟩ = some x11 ∧ W.cell? ⟨b, 12, none⟩ = some x12 ∧ W.cell? ⟨b, 13, none⟩ = some x13 ∧ W.cell? ⟨b, 14, none⟩ = some x14 := by
 refine ⟨?_, ?_, ?_, ?_, ?_, ?_, ?_, ?_, ?_, ?_, ?_, ?_, ?_, ?_, ?_⟩ <;> simp [World.cell?, h]
theorem cells7 {W : World} {b : Nat} {x0 x1 x2 x3 x4 x5 x6 : Value} {t : TypeId} {m : Nat × Nat} (h : W.heap[b]? = some (.cells #[x0, x1, x2, x3, x4, x5, x6] t m)) : W.cell? ⟨b, 0, none⟩ = some x0 ∧ W.cell? ⟨b, 1, none⟩ = some x1 ∧ W.cell? ⟨b, 2, none⟩ = some x2 ∧ W.cell? ⟨b, 3, none⟩ = some x3 ∧ W.cell? ⟨b, 4, none⟩ = some x4 ∧ W.cell? ⟨b, 5, none⟩ = some x5 ∧ W.cell? ⟨b, 6, none⟩ = some x6 := by
 refine ⟨?_, ?_, ?_, ?_, ?_, ?_, ?_⟩ <;> simp [World.cell?, h]
theorem frozen7 {W : World} {b : Nat} {o : Array Value} {t : TypeId} (h : W.heap[b]? = some (.cells o t (0, 0))) : W.frozen? ⟨b, 0, none⟩ = false ∧ W.frozen? ⟨b, 1, none⟩ = false ∧ W.frozen? ⟨b, 2, none⟩ = false ∧ W.frozen? ⟨b, 3, none⟩ = false ∧ W.frozen? ⟨b, 4, none⟩ = false ∧ W.frozen? ⟨b, 5, none⟩ = false ∧ W.frozen? ⟨b, 6, none⟩ = false := by
 refine ⟨?_, ?_, ?_, ?_, ?_, ?_, ?_⟩ <;> simp [World.frozen?, h]
end Go.Proofs.YtbkmhmaldljgmaaGreatDoor
namespace Go.Proofs.YtbkmhmaldljgmaaGreatDoor
open Go.RowKit Tr
theorem cutz_take_succ {l : List Nat} {k : Nat} (hk : k < l.length) (h : gt l k = 0) : cutz (l.take (k + 1)) = cutz (l.take k) := by
 rw [take_succ_getD l k hk, show l.getD k 0 = 0 from h, cutz_snoc_zero]
theorem cutz_take_done {l : List Nat} {k : Nat} (hk : k < l.length) (h : gt l k ≠ 0) : cutz (l.take (k + 1)) = l.take (k + 1) := by
 refine cutz_of_norm ?_
 rw [take_succ_getD l k hk]; exact norm_snoc h
theorem cut_any (A : Option Addr) (l : List Nat) (c : Nat) (w : World) (hm : l.length ≤ 1073741824) (hc : l.length ≤ c) (hr : RdM w A l) :
 Calls Tryz.prog 85 #[.slice A l.length c] w fun e w' => e = .returned (.slice A (cutz l).length c) ∧ w = w' := by
 have HR := Lib.hid hr
 clear hr
 go_enter Tryz.func85, Tryz.ntmps85
 go_wp2_with fail
 go_loop [0] (fun v => ∃ k : Nat, k ≤ l.length ∧ v = .slice A k c ∧ Hid (cutz (l.take k) = cutz l)) (fun v => lenOf v)
 case atStart => exact ⟨_, Nat.le_refl _, rfl, by simp [Hid]⟩
 case round =>
  obtain ⟨k, hk, rfl, HC⟩ := hrel
  rcases Nat.eq_zero_or_pos k with h0 | h0
  ·subst h0
   have HC' : Hid ((cutz l).length = 0) := by have := HC.out; simp only [List.take_zero] at this; rw [Hid, ← this]; rfl
   clear HC
   go_wp2
   go_ret
   exact ⟨by rw [HC'.out]; rfl, rfl⟩
  ·obtain ⟨j, rfl⟩ : ∃ j, k = j + 1 := ⟨k - 1, by omega⟩
   obtain ⟨ad, rfl, _, hcell⟩ := HR.out (by rintro rfl; simp at hk)
   have hcj := hcell j (by omega)
   clear hcell HR
   by_cases hz : gt l j = 0
   ·have HC' : Hid (cutz (l.take j) = cutz l) := by rw [Hid, ← HC.out, cutz_take_succ (by omega) hz]
    rw [hz] at hcj
    have HZ := Lib.hid hz
    clear hz HC
    go_wp2
    go_round
    case rel => exact ⟨j, by omega, by go_num, HC'⟩
    case measure => simp [lenOf]
   ·have HC' : Hid ((cutz l).length = j + 1) := by rw [Hid, ← HC.out, cutz_take_done (by omega) hz]; simp; omega
    have hz' : ((gt l j : Int) == 0) = false := by simpa using hz
    have HZ := Lib.hid hz
    clear hz HC
    go_wp2
    go_ret
    exact ⟨by rw [HC'.out]; rfl, rfl⟩
def Sgn (r : Int) (a b : Nat) : Prop := (r < 0 ↔ a < b) ∧ (0 < r ↔ b < a) ∧ -2147483648 ≤ r ∧ r ≤ 2147483648
def CmpPost (w : World) (a b : Nat) (e : Ending) (w' : World) : Prop := ∃ r : Int, e = .returned (.int .i64 r) ∧ Sgn r a b ∧ ∃ q, w' = w.drewN q
theorem sgn_len {l m : List Nat} (hl : Dig l) (hm : Dig m) (nl : Norm l) (nm : Norm m) (h : l.length ≠ m.length) (b1 : l.length ≤ 1073741824) (b2 : m.length ≤ 1073741824) :
 Sgn ((l.length : Int) - m.length) (mval l) (mval m) := by
 rcases Nat.lt_or_ge l.length m.length with h1 | h1
 ·have := mval_lt_of_length hl nm h1
  refine ⟨?_, ?_, ?_, ?_⟩ <;> omega
 ·have := mval_lt_of_length hm nl (show m.length < l.length by omega)
  refine ⟨?_, ?_, ?_, ?_⟩ <;> omega
theorem drop_step {l m : List Nat} {k : Nat} (hk : k < l.length) (hlen : l.length = m.length) (h : l.drop (k + 1) = m.drop (k + 1)) (e : gt l k = gt m k) : l.drop k = m.drop k := by
 rw [List.drop_eq_getElem_cons hk, List.drop_eq_getElem_cons (show k < m.length by omega), h]
 have e' : l.getD k 0 = m.getD k 0 := e
 rw [getD_lt hk, getD_lt (show k < m.length by omega)] at e'
 rw [e']
theorem compare_any (A A' : Option Addr) (l m : List Nat) (c c' : Nat) (w : World) (b1 : l.length ≤ 1073741824) (b2 : m.length ≤ 1073741824)
 (hl : Dig l) (hm : Dig m) (nl : Norm l) (nm : Norm m) (hr : RdM w A l) (hr' : RdM w A' m) :
 Calls Tryz.prog 83 #[.slice A l.length c, .slice A' m.length c'] w (CmpPost w (mval l) (mval m)) := by
 have HR := Lib.hid hr
 have HR' := Lib.hid hr'
 have HL := Lib.hid hl
 have HM := Lib.hid hm
 by_cases hlen : l.length = m.length
 ·have hne : (l.length != m.length) = false := by simp [hlen]
  have hne' : ((l.length : Int) != (m.length : Int)) = false := by simp [hlen]
  have HLEN := Lib.hid hlen
  clear hlen hr hr' nl nm hl hm
  go_enter Tryz.func83, Tryz.ntmps83
  go_wp2_with fail
  go_loopw [5] (fun i wr => ∃ k : Nat, k ≤ l.length ∧ i = .int .i64 ((k : Int) - 1) ∧ Hid (l.drop k = m.drop k) ∧ ∃ q, wr = w.drewN q) (fun i _ => (intOf i + 1).toNat)
  case atStart => exact ⟨l.length, Nat.le_refl _, rfl, by simp [Hid, HLEN.out], 0, rfl⟩
  case round =>
   obtain ⟨k, hk, rfl, HD, q, rfl⟩ := hrel
   rcases Nat.eq_zero_or_pos k with h0 | h0
   ·subst h0
    go_wp2_with fail
    go_ret
    refine ⟨0, rfl, ?_, q, rfl⟩
    have h := HD.out
    simp only [List.drop_zero] at h
    subst h
    exact ⟨by omega, by omega, by omega, by omega⟩
   ·obtain ⟨j, rfl⟩ : ∃ j, k = j + 1 := ⟨k - 1, by omega⟩
    obtain ⟨ad, rfl, _, hcell⟩ := HR.out (by rintro rfl; simp at hk)
    have hlen := HLEN.out
    obtain ⟨ad', rfl, _, hcell'⟩ := HR'.out (by rintro rfl; simp only [List.length_nil] at hlen; omega)
    have hcj := hcell j (by omega)
    have hcj' := hcell' j (by omega)
    have b3 : j < m.length := by omega
    clear hcell hcell' HR HR' hlen
    have hi : ((j + 1 : Nat) : Int) - 1 = (j : Int) := by omega
    rw [hi]
    rcases Nat.lt_trichotomy (gt l j) (gt m j) with ht | ht | ht
    ·have h1 : decide (gt l j < gt m j) = true := by simp; omega
     go_wp2_with fail
     go_quiet (fail)
     go_wp2_with fail
     go_ret
     refine ⟨-1, rfl, ?_, _, World.drewN_drewN _ _ _⟩
     have := mval_lt_of_top (HL.out) j (by omega) HLEN.out HD.out ht
     exact ⟨by omega, by omega, by omega, by omega⟩
    ·have h1 : decide (gt l j < gt m j) = false := by simp; omega
     have h2 : decide (gt m j < gt l j) = false := by simp; omega
     have HT := Lib.hid ht
     clear ht
     go_wp2_with fail
     go_quiet (fail)
     go_wp2_with fail
     go_quiet (fail)
     go_wp2_with fail
     go_roundw
     case rel => exact ⟨j, by omega, by go_num, by have := HLEN.out; exact drop_step (by omega) this HD.out HT.out, _, rfl⟩
     case measure => simp [intOf]
    ·have h1 : decide (gt l j < gt m j) = false := by simp; omega
     have h2 : decide (gt m j < gt l j) = true := by simp; omega
     go_wp2_with fail
     go_quiet (fail)
     go_wp2_with fail
     go_quiet (fail)
     go_wp2_with fail
     go_ret
     refine ⟨1, rfl, ?_, _, by rw [World.drewN_drewN, World.drewN_drewN]⟩
     have hlen := HLEN.out
     have := mval_lt_of_top (HM.out) j (by omega) HLEN.out.symm HD.out.symm ht
     exact ⟨by omega, by omega, by omega, by omega⟩
 ·have hne : (l.length != m.length) = true := by simp [hlen]
  have hne' : ((l.length : Int) != (m.length : Int)) = true := by simp; omega
  have HS := Lib.hid (sgn_len hl hm nl nm hlen b1 b2)
  clear hlen hr hr' nl nm hl hm
  go_enter Tryz.func83, Tryz.ntmps83
  go_wp2_with fail
  go_ret
  exact ⟨_, rfl, HS.out, 0, rfl⟩
def RdN (w : World) (A : Option Addr) (l : List Nat) : Prop :=
 l ≠ [] → ∃ ad : Addr, A = some ad ∧ ad.block < w.heap.size ∧ ∀ j, j < l.length → w.cell? (ad.add j) = some (.int .i64 (gt l j))
theorem RdN.nil (w : World) (A : Option Addr) : RdN w A [] := fun h => absurd rfl h
theorem RdN.take {w : World} {A : Option Addr} {l : List Nat} (h : RdN w A l) (k : Nat) : RdN w A (l.take k) := by
 intro hl
 obtain ⟨ad, rfl, h1, h2⟩ := h (fun e => hl (by rw [e]; simp))
 refine ⟨ad, rfl, h1, fun j hj => ?_⟩
 rw [List.length_take] at hj
 rw [h2 j (by omega)]
 unfold gt
 rw [List.getD_eq_getElem?_getD, List.getD_eq_getElem?_getD, List.getElem?_take_of_lt (by omega)]
theorem cutz_is_take (l : List Nat) : cutz l = l.take (cutz l).length := by
 unfold cutz
 have h := List.dropWhile_suffix (l := l.reverse) (· == 0)
 obtain ⟨t, ht⟩ := h
 have : l = (l.reverse.dropWhile (· == 0)).reverse ++ t.reverse := by
  rw [← List.reverse_append, ht, List.reverse_reverse]
 have h2 : ((l.reverse.dropWhile (· == 0)).reverse ++ t.reverse).take (l.reverse.dropWhile (· == 0)).reverse.length = (l.reverse.dropWhile (· == 0)).reverse := List.take_left
 rw [← this] at h2
 exact h2.symm
end Go.Proofs.YtbkmhmaldljgmaaGreatDoor
namespace Go.Proofs.YtbkmhmaldljgmaaGreatDoor
section
variable {α : Type} (lt : α → α → Bool)
structure Weak : Prop where
 irr : ∀ a, lt a a = false
 inc : ∀ a b c, lt a b = false → lt b c = false → lt a c = false
 asy : ∀ a b, lt a b = true → lt b a = false
theorem Weak.tr {lt : α → α → Bool} (h : Weak lt) {a b c : α} (h1 : lt a b = true) (h2 : lt b c = true) : lt a c = true := by
 cases h3 : lt a c
 ·have := h.inc a c b h3 (h.asy b c h2)
  rw [h1] at this; cases this
 ·rfl
theorem Weak.lt_le {lt : α → α → Bool} (h : Weak lt) {a b c : α} (h1 : lt a b = true) (h2 : lt c b = false) : lt a c = true := by
 cases h3 : lt a c
 ·have := h.inc a c b h3 h2
  rw [h1] at this; cases this
 ·rfl
def insB (x : α) : List α → List α
 | [] => [x]
 | y :: r => if lt x y = true then x :: y :: r else y :: insB x r
def ssort (l : List α) : List α := l.foldl (fun acc x => insB lt x acc) []
theorem ssort_nil : ssort lt ([] : List α) = [] := rfl
theorem ssort_snoc (l : List α) (x : α) : ssort lt (l ++ [x]) = insB lt x (ssort lt l) := by unfold ssort; rw [List.foldl_append]; rfl
def mrg : List α → List α → List α
 | [], r => r
 | x :: l, [] => x :: l
 | x :: l, y :: r => if lt y x = true then y :: mrg (x :: l) r else x :: mrg l (y :: r)
theorem mrg_nil (l : List α) : mrg lt l [] = l := by cases l <;> simp [mrg]
theorem nil_mrg (r : List α) : mrg lt [] r = r := by simp [mrg]
theorem mrg_cons (x y : α) (l r : List α) : mrg lt (x :: l) (y :: r) = if lt y x = true then y :: mrg lt (x :: l) r else x :: mrg lt l (y :: r) := by rw [mrg]
theorem mrg_one (l : List α) (x : α) : mrg lt l [x] = insB lt x l := by
 induction l with
 | nil => simp [mrg, insB]
 | cons y l ih =>
   rw [mrg_cons, insB]
   split
   ·rw [mrg_nil]
   ·rw [ih]
theorem insB_mrg (hw : Weak lt) (x : α) : ∀ (l r : List α), insB lt x (mrg lt l r) = mrg lt l (insB lt x r)
 | [], r => by rw [nil_mrg, nil_mrg]
 | a :: l, [] => by rw [mrg_nil, insB, mrg_one]
 | a :: l, b :: r => by
   rw [mrg_cons]
   cases hba : lt b a
   ·rw [if_neg Bool.false_ne_true, insB]
    cases hxa : lt x a
    ·rw [if_neg Bool.false_ne_true, insB_mrg hw x l (b :: r), insB]
     cases hxb : lt x b
     ·rw [if_neg Bool.false_ne_true, mrg_cons, hba, if_neg Bool.false_ne_true]
     ·rw [if_pos rfl, mrg_cons, hxa, if_neg Bool.false_ne_true]
    ·rw [if_pos rfl, insB]
     have hxb : lt x b = true := hw.lt_le hxa hba
     rw [hxb, if_pos rfl, mrg_cons, hxa, if_pos rfl, mrg_cons, hba, if_neg Bool.false_ne_true]
   ·rw [if_pos rfl, insB, insB]
    cases hxb : lt x b
    ·rw [if_neg Bool.false_ne_true, if_neg Bool.false_ne_true, insB_mrg hw x (a :: l) r, mrg_cons, hba, if_pos rfl]
    ·rw [if_pos rfl, if_pos rfl, mrg_cons, hw.tr hxb hba, if_pos rfl, mrg_cons, hba, if_pos rfl]
termination_by l r => l.length + r.length
theorem ssort_append (hw : Weak lt) (l r : List α) : ssort lt (l ++ r) = mrg lt (ssort lt l) (ssort lt r) := by
 have h : ∀ n (r : List α), r.length = n → ssort lt (l ++ r) = mrg lt (ssort lt l) (ssort lt r) := by
  intro n
  induction n with
  | zero => intro r h; rw [List.eq_nil_of_length_eq_zero h, List.append_nil, ssort_nil, mrg_nil]
  | succ n ih =>
    intro r h
    have hne : r ≠ [] := by intro e; rw [e] at h; cases h
    rw [← List.dropLast_concat_getLast hne, ← List.append_assoc, ssort_snoc, ssort_snoc, ih _ (by rw [List.length_dropLast, h]; rfl), insB_mrg lt hw]
 exact h _ r rfl
def AscS (l : List α) : Prop := l.Pairwise fun a b => lt b a = false
theorem insB_perm (x : α) (l : List α) : (insB lt x l).Perm (x :: l) := by
 induction l with
 | nil => exact List.Perm.refl _
 | cons y l ih =>
   rw [insB]
   split
   ·exact List.Perm.refl _
   ·exact (List.Perm.cons y ih).trans (List.Perm.swap x y l)
theorem ssort_perm (l : List α) : (ssort lt l).Perm l := by
 have h : ∀ n (l : List α), l.length = n → (ssort lt l).Perm l := by
  intro n
  induction n with
  | zero => intro l h; rw [List.eq_nil_of_length_eq_zero h]; exact List.Perm.refl _
  | succ n ih =>
    intro l h
    have hne : l ≠ [] := by intro e; rw [e] at h; cases h
    rw [← List.dropLast_concat_getLast hne, ssort_snoc]
    exact (insB_perm lt _ _).trans ((List.Perm.cons _ (ih _ (by rw [List.length_dropLast, h]; rfl))).trans (List.perm_append_singleton _ _).symm)
 exact h _ l rfl
theorem insB_mem {x y : α} {l : List α} : y ∈ insB lt x l ↔ y = x ∨ y ∈ l := by rw [(insB_perm lt x l).mem_iff, List.mem_cons]
theorem insB_asc (hw : Weak lt) {x : α} {l : List α} (h : AscS lt l) : AscS lt (insB lt x l) := by
 unfold AscS at *
 induction l with
 | nil => exact List.pairwise_singleton _ _
 | cons y l ih =>
   rw [List.pairwise_cons] at h
   rw [insB]
   cases hxy : lt x y
   ·rw [if_neg Bool.false_ne_true, List.pairwise_cons]
    refine ⟨fun z hz => ?_, ih h.2⟩
    rcases (insB_mem lt).1 hz with rfl | hz
    ·exact hxy
    ·exact h.1 z hz
   ·rw [if_pos rfl, List.pairwise_cons]
    refine ⟨fun z hz => ?_, List.pairwise_cons.2 h⟩
    rcases List.mem_cons.1 hz with rfl | hz
    ·exact hw.asy _ _ hxy
    ·exact hw.inc z y x (h.1 z hz) (hw.asy _ _ hxy)
theorem ssort_asc (hw : Weak lt) (l : List α) : AscS lt (ssort lt l) := by
 have h : ∀ (l acc : List α), AscS lt acc → AscS lt (l.foldl (fun acc x => insB lt x acc) acc) := by
  intro l
  induction l with
  | nil => intro acc h; exact h
  | cons x l ih => intro acc h; exact ih _ (insB_asc lt hw h)
 exact h l [] List.Pairwise.nil
theorem insB_at (x : α) : ∀ (l1 l2 : List α), (∀ y ∈ l1, lt x y = false) → (∀ y, l2.head? = some y → lt x y = true) → insB lt x (l1 ++ l2) = l1 ++ x :: l2
 | [], [], _, _ => rfl
 | [], b :: l2, _, h2 => by rw [List.nil_append, insB, h2 b rfl, if_pos rfl]; rfl
 | a :: l1, l2, h1, h2 => by
   rw [List.cons_append, insB, h1 a (List.mem_cons_self ..), if_neg Bool.false_ne_true, insB_at x l1 l2 (fun y hy => h1 y (List.mem_cons_of_mem _ hy)) h2]; rfl
end
end Go.Proofs.YtbkmhmaldljgmaaGreatDoor
namespace Go.Proofs.YtbkmhmaldljgmaaGreatDoor
section
variable {α : Type}
def swp (D : List α) (i j : Nat) : List α :=
 match D[i]?, D[j]? with
 | some x, some y => (D.set i y).set j x
 | _, _ => D
theorem swp_len (D : List α) (i j : Nat) : (swp D i j).length = D.length := by unfold swp; split <;> simp
theorem swp_at {D : List α} {i j : Nat} {x y : α} (hx : D[i]? = some x) (hy : D[j]? = some y) : swp D i j = (D.set i y).set j x := by unfold swp; rw [hx, hy]
theorem swp_mem {D : List α} {i j : Nat} {z : α} (h : z ∈ swp D i j) : z ∈ D := by
 unfold swp at h
 split at h
 ·next x y hx hy =>
  rcases List.mem_or_eq_of_mem_set h with h | rfl
  ·rcases List.mem_or_eq_of_mem_set h with h | rfl
   ·exact h
   ·exact List.mem_of_getElem? hy
  ·exact List.mem_of_getElem? hx
 ·exact h
theorem at_mid' {P Q : List α} {x : α} {k : Nat} (h : P.length = k) : (P ++ x :: Q)[k]? = some x := by subst h; simp
theorem set_mid' {P Q : List α} {x : α} {k : Nat} (h : P.length = k) (y : α) : (P ++ x :: Q).set k y = P ++ y :: Q := by
 subst h; rw [List.set_append_right _ _ (Nat.le_refl _), Nat.sub_self]; rfl
theorem swp_far (P M Q : List α) (x y : α) {i j : Nat} (hi : P.length = i) (hj : i + 1 + M.length = j) : swp (P ++ x :: (M ++ y :: Q)) i j = P ++ y :: (M ++ x :: Q) := by
 have e : ∀ z : α, P ++ z :: (M ++ y :: Q) = (P ++ z :: M) ++ y :: Q := fun z => by simp
 have l : ∀ z : α, (P ++ z :: M).length = j := fun z => by simp; omega
 have h1 : (P ++ x :: (M ++ y :: Q))[i]? = some x := at_mid' hi
 have h2 : (P ++ x :: (M ++ y :: Q))[j]? = some y := by rw [e]; exact at_mid' (l x)
 rw [swp_at h1 h2, set_mid' hi, e, set_mid' (l y)]
 simp
theorem swp_rev (P M Q : List α) (x y : α) {i j : Nat} (hi : P.length = i) (hj : i + 1 + M.length = j) : swp (P ++ x :: (M ++ y :: Q)) j i = P ++ y :: (M ++ x :: Q) := by
 have e : ∀ z : α, P ++ z :: (M ++ y :: Q) = (P ++ z :: M) ++ y :: Q := fun z => by simp
 have l : ∀ z : α, (P ++ z :: M).length = j := fun z => by simp; omega
 have h1 : (P ++ x :: (M ++ y :: Q))[i]? = some x := at_mid' hi
 have h2 : (P ++ x :: (M ++ y :: Q))[j]? = some y := by rw [e]; exact at_mid' (l x)
 rw [swp_at h2 h1, e, set_mid' (l x), show (P ++ x :: M) ++ x :: Q = P ++ x :: (M ++ x :: Q) from by simp, set_mid' hi]
def Sh (X S : List α) (x : α) (Y : List α) (k : Nat) (D : List α) (p : α → Prop) : Prop :=
 ∃ U V, D = X ++ (U ++ x :: (V ++ Y)) ∧ U ++ V = S ∧ X.length + U.length = k ∧ ∀ y ∈ V, p y
theorem Sh.at {X S Y D : List α} {x : α} {k : Nat} {p : α → Prop} (h : Sh X S x Y k D p) : D[k]? = some x := by
 obtain ⟨U, V, rfl, _, hk, _⟩ := h
 rw [← List.append_assoc]
 exact at_mid' (by simp; omega)
theorem Sh.down {X S Y D : List α} {x y : α} {k : Nat} {p : α → Prop} (h : Sh X S x Y k D p) (hk : X.length < k) (hy : D[k - 1]? = some y) (hp : p y) : Sh X S x Y (k - 1) (swp D k (k - 1)) p := by
 obtain ⟨U, V, rfl, rfl, hl, hV⟩ := h
 have hne : U ≠ [] := by intro e; subst e; simp at hl; omega
 obtain ⟨U', z, rfl⟩ : ∃ U' z, U = U' ++ [z] := ⟨_, _, (List.dropLast_concat_getLast hne).symm⟩
 simp at hl
 have e : X ++ ((U' ++ [z]) ++ x :: (V ++ Y)) = (X ++ U') ++ z :: ([] ++ x :: (V ++ Y)) := by simp
 have hl' : (X ++ U').length = k - 1 := by simp; omega
 rw [e] at hy ⊢
 rw [at_mid' hl'] at hy
 injection hy with hy
 subst hy
 rw [swp_rev (X ++ U') [] (V ++ Y) z x hl' (by simp; omega)]
 refine ⟨U', z :: V, by simp, by simp, by omega, fun w hw => ?_⟩
 rcases List.mem_cons.1 hw with rfl | hw
 ·exact hp
 ·exact hV w hw
theorem Sh.prev {X S Y D : List α} {x : α} {k : Nat} {p : α → Prop} (h : Sh X S x Y k D p) (hk : X.length < k) : ∃ y, D[k - 1]? = some y ∧ y ∈ S := by
 obtain ⟨U, V, rfl, rfl, hl, hV⟩ := h
 have hne : U ≠ [] := by intro e; subst e; simp at hl; omega
 obtain ⟨U', z, rfl⟩ : ∃ U' z, U = U' ++ [z] := ⟨_, _, (List.dropLast_concat_getLast hne).symm⟩
 simp at hl
 refine ⟨z, ?_, by simp⟩
 rw [show X ++ ((U' ++ [z]) ++ x :: (V ++ Y)) = (X ++ U') ++ z :: ([] ++ x :: (V ++ Y)) from by simp]
 exact at_mid' (by simp; omega)
def swR (D : List α) (a b : Nat) : Nat → List α
 | 0 => D
 | n + 1 => swp (swR D a b n) (a + n) (b + n)
theorem swR_part (P A M B Q : List α) (hab : A.length = B.length) {a b : Nat} (ha : P.length = a) (hb : a + A.length + M.length = b) : ∀ n, n ≤ A.length →
 swR (P ++ (A ++ (M ++ (B ++ Q)))) a b n = P ++ (B.take n ++ (A.drop n ++ (M ++ (A.take n ++ (B.drop n ++ Q)))))
 | 0, _ => by simp [swR]
 | n + 1, hn => by
   rw [swR, swR_part P A M B Q hab ha hb n (by omega)]
   have e1 : A.drop n = A[n] :: A.drop (n + 1) := List.drop_eq_getElem_cons (by omega)
   have e2 : B.drop n = B[n] :: B.drop (n + 1) := List.drop_eq_getElem_cons (by omega)
   have e3 : A.take (n + 1) = A.take n ++ [A[n]] := List.take_succ_eq_append_getElem (by omega)
   have e4 : B.take (n + 1) = B.take n ++ [B[n]] := List.take_succ_eq_append_getElem (by omega)
   rw [e1, e2, e3, e4]
   generalize hA2 : A.drop (n + 1) = A2
   generalize hB2 : B.drop (n + 1) = B2
   generalize hA1 : A.take n = A1
   generalize hB1 : B.take n = B1
   generalize A[n] = x
   generalize B[n] = y
   have l1 : A2.length = A.length - (n + 1) := by rw [← hA2, List.length_drop]
   have l2 : A1.length = n := by rw [← hA1, List.length_take]; omega
   have l3 : B1.length = n := by rw [← hB1, List.length_take]; omega
   have e : P ++ (B1 ++ (x :: A2 ++ (M ++ (A1 ++ (y :: B2 ++ Q))))) = (P ++ B1) ++ x :: ((A2 ++ (M ++ A1)) ++ y :: (B2 ++ Q)) := by simp
   rw [e, swp_far (P ++ B1) (A2 ++ (M ++ A1)) (B2 ++ Q) x y (by simp; omega) (by simp; omega)]
   simp
theorem swR_all (P A M B Q : List α) (hab : A.length = B.length) {a b n : Nat} (ha : P.length = a) (hb : a + A.length + M.length = b) (hn : A.length = n) :
 swR (P ++ (A ++ (M ++ (B ++ Q)))) a b n = P ++ (B ++ (M ++ (A ++ Q))) := by
 rw [swR_part P A M B Q hab ha hb n (by omega), List.take_of_length_le (by omega), List.drop_eq_nil_of_le (by omega), List.take_of_length_le (by omega), List.drop_eq_nil_of_le (by omega)]
 simp
def RotSt (T : List α) (m i j : Nat) (D : List α) : Prop :=
 ∃ X A B Y, D = X ++ (A ++ (B ++ Y)) ∧ T = X ++ (B ++ (A ++ Y)) ∧ A.length = i ∧ B.length = j ∧ X.length + i = m ∧ 0 < i ∧ 0 < j
theorem RotSt.left {T D : List α} {m i j : Nat} (h : RotSt T m i j D) (hij : j < i) : RotSt T m (i - j) j (swR D (m - i) m j) := by
 obtain ⟨X, A, B, Y, rfl, rfl, hA, hB, hX, h1, h2⟩ := h
 obtain ⟨A1, A2, rfl, l1⟩ : ∃ A1 A2, A = A1 ++ A2 ∧ A1.length = j := ⟨A.take j, A.drop j, (List.take_append_drop _ _).symm, by rw [List.length_take]; omega⟩
 simp at hA
 rw [show X ++ (A1 ++ A2 ++ (B ++ Y)) = X ++ (A1 ++ (A2 ++ (B ++ Y))) from by simp, swR_all X A1 A2 B Y (by omega) (by omega) (by omega) l1]
 exact ⟨X ++ B, A2, A1, Y, by simp, by simp, by omega, l1, by simp; omega, by omega, h2⟩
structure BSt (p : Nat → Bool) (lo hi i j : Nat) : Prop where
 l : lo ≤ i
 m : i ≤ j
 r : j ≤ hi
 pl : i = lo ∨ p (i - 1) = true
 pr : j = hi ∨ p j = false
theorem BSt.yes {p : Nat → Bool} {lo hi i j h : Nat} (s : BSt p lo hi i j) (h1 : i ≤ h) (h2 : h < j) (hp : p h = true) : BSt p lo hi (h + 1) j :=
 ⟨by have := s.l; omega, h2, s.r, .inr (by rw [Nat.add_sub_cancel]; exact hp), s.pr⟩
theorem BSt.no {p : Nat → Bool} {lo hi i j h : Nat} (s : BSt p lo hi i j) (h1 : i ≤ h) (h2 : h < j) (hp : p h = false) : BSt p lo hi i h :=
 ⟨s.l, h1, by have := s.r; omega, s.pl, .inr hp⟩
variable (lt : α → α → Bool)
def ltAt (D : List α) (u v : Nat) : Bool := match D[u]?, D[v]? with | some x, some y => lt x y | _, _ => false
theorem ltAt_of {D : List α} {u v : Nat} {x y : α} (hx : D[u]? = some x) (hy : D[v]? = some y) : ltAt lt D u v = lt x y := by unfold ltAt; rw [hx, hy]
theorem asc_split {l1 l2 : List α} : AscS lt (l1 ++ l2) ↔ AscS lt l1 ∧ AscS lt l2 ∧ ∀ x ∈ l1, ∀ y ∈ l2, lt y x = false := by unfold AscS; rw [List.pairwise_append]
theorem asc_last {l : List α} {z : α} (h : AscS lt (l ++ [z])) : ∀ y ∈ l, lt z y = false := fun y hy => ((asc_split lt).1 h).2.2 y hy z (by simp)
theorem Sh.stop (hw : Weak lt) {X S Y D : List α} {x : α} {k : Nat} (ha : AscS lt S) (h : Sh X S x Y k D (fun y => lt x y = true)) (hs : k = X.length ∨ ltAt lt D k (k - 1) = false) : D = X ++ (insB lt x S ++ Y) := by
 have hat := h.at
 have hpv := h.prev
 obtain ⟨U, V, rfl, rfl, hl, hV⟩ := h
 have hins : insB lt x (U ++ V) = U ++ x :: V := by
  refine insB_at lt x U V (fun y hy => ?_) (fun y hy => hV y (List.mem_of_head? hy))
  have hne : U ≠ [] := by intro e; rw [e] at hy; cases hy
  have hk : X.length < k := by have := List.length_pos_iff.2 hne; omega
  rcases hs with hs | hs
  ·omega
  obtain ⟨z, hz, _⟩ := hpv hk
  rw [ltAt_of lt hat hz] at hs
  obtain ⟨U', z', rfl⟩ : ∃ U' z, U = U' ++ [z] := ⟨_, _, (List.dropLast_concat_getLast hne).symm⟩
  have hz' : (X ++ ((U' ++ [z']) ++ x :: (V ++ Y)))[k - 1]? = some z' := by
   rw [show X ++ ((U' ++ [z']) ++ x :: (V ++ Y)) = (X ++ U') ++ z' :: (x :: (V ++ Y)) from by simp]
   simp at hl
   exact at_mid' (by simp; omega)
  rw [hz'] at hz
  injection hz with hz
  subst hz
  rcases List.mem_append.1 hy with hy | hy
  ·refine hw.inc x z' y hs ?_
   rw [asc_split] at ha
   exact asc_last lt ha.1 y hy
  ·rw [List.mem_singleton] at hy; subst hy; exact hs
 rw [hins]
 simp
def sortSeg (D : List α) (a b : Nat) : List α := D.take a ++ (ssort lt ((D.take b).drop a) ++ D.drop b)
theorem sortSeg_self (D : List α) (a : Nat) : sortSeg lt D a a = D := by
 unfold sortSeg
 rw [List.drop_eq_nil_of_le (by rw [List.length_take]; omega), ssort_nil, List.nil_append, List.take_append_drop]
theorem sortSeg_one {D : List α} {a : Nat} (h : a < D.length) : sortSeg lt D a (a + 1) = D := by
 unfold sortSeg
 have e : (D.take (a + 1)).drop a = [D[a]] := by
  rw [List.take_succ_eq_append_getElem h, List.drop_append_of_le_length (by rw [List.length_take]; omega), List.drop_eq_nil_of_le (by rw [List.length_take]; omega), List.nil_append]
 rw [e, show ssort lt [D[a]] = [D[a]] from rfl]
 rw [List.singleton_append, ← List.drop_eq_getElem_cons h, List.take_append_drop]
theorem sortSeg_start {D : List α} {a i : Nat} {x : α} (hai : a ≤ i) (hi : D[i]? = some x) :
 Sh (D.take a) (ssort lt ((D.take i).drop a)) x (D.drop (i + 1)) i (sortSeg lt D a i) (fun y => lt x y = true) := by
 have hlt : i < D.length := (List.getElem?_eq_some_iff.1 hi).1
 have hd : D.drop i = x :: D.drop (i + 1) := by
  rw [List.drop_eq_getElem_cons hlt]; congr 1
  rw [List.getElem?_eq_getElem hlt] at hi; exact Option.some.inj hi
 refine ⟨ssort lt ((D.take i).drop a), [], ?_, by simp, ?_, fun y hy => by cases hy⟩
 ·unfold sortSeg; rw [hd]; rfl
 ·rw [(ssort_perm lt _).length_eq, List.length_take, List.length_drop, List.length_take]; omega
theorem sortSeg_step {D : List α} {a i : Nat} {x : α} (hai : a ≤ i) (hi : D[i]? = some x) :
 D.take a ++ (insB lt x (ssort lt ((D.take i).drop a)) ++ D.drop (i + 1)) = sortSeg lt D a (i + 1) := by
 have hlt : i < D.length := (List.getElem?_eq_some_iff.1 hi).1
 unfold sortSeg
 have e : (D.take (i + 1)).drop a = (D.take i).drop a ++ [x] := by
  rw [List.take_succ_eq_append_getElem hlt, List.drop_append_of_le_length (by rw [List.length_take]; omega)]
  congr 2
  rw [List.getElem?_eq_getElem hlt] at hi; exact Option.some.inj hi
 rw [e, ssort_snoc]
end
end Go.Proofs.YtbkmhmaldljgmaaGreatDoor
namespace Go.Proofs.YtbkmhmaldljgmaaGreatDoor
def bf (r : Nat → Int) (i k : Nat) : Bool := decide (r k < r i ∨ (r i = r k ∧ i < k))
theorem bf_iff {r : Nat → Int} {i k : Nat} : bf r i k = true ↔ (r k < r i ∨ (r i = r k ∧ i < k)) := by unfold bf; exact decide_eq_true_iff
theorem bf_not {r : Nat → Int} {i k : Nat} : bf r i k = false ↔ ¬ (r k < r i ∨ (r i = r k ∧ i < k)) := by unfold bf; exact decide_eq_false_iff_not
theorem bf_weak (r : Nat → Int) : Weak (bf r) where
 irr a := by rw [bf_not]; omega
 inc a b c h1 h2 := by rw [bf_not] at *; omega
 asy a b h := by rw [bf_iff] at h; rw [bf_not]; omega
theorem bf_total {r : Nat → Int} {i k : Nat} (h : i ≠ k) (h1 : bf r i k = false) : bf r k i = true := by rw [bf_not] at h1; rw [bf_iff]; omega
def rk (r : Nat → Int) (n i : Nat) : Nat := (List.range n).countP (fun k => bf r k i)
def ords (r : Nat → Int) (n : Nat) : List Nat := ssort (bf r) (List.range n)
theorem ords_perm (r : Nat → Int) (n : Nat) : (ords r n).Perm (List.range n) := ssort_perm _ _
theorem ords_len (r : Nat → Int) (n : Nat) : (ords r n).length = n := by rw [(ords_perm r n).length_eq, List.length_range]
theorem ords_nodup (r : Nat → Int) (n : Nat) : (ords r n).Nodup := (ords_perm r n).nodup_iff.2 List.nodup_range
theorem ords_mem {r : Nat → Int} {n i : Nat} : i ∈ ords r n ↔ i < n := by rw [(ords_perm r n).mem_iff, List.mem_range]
theorem ords_at {r : Nat → Int} {n p i : Nat} (h : (ords r n)[p]? = some i) : rk r n i = p := by
 have ha : AscS (bf r) (ords r n) := ssort_asc (bf r) (bf_weak r) _
 have hn := ords_nodup r n
 have hp := (List.getElem?_eq_some_iff.1 h).1
 unfold rk
 rw [← (ords_perm r n).countP_eq]
 have e : ords r n = (ords r n).take p ++ (i :: (ords r n).drop (p + 1)) := by
  have h2 := List.drop_eq_getElem_cons hp
  rw [(List.getElem?_eq_some_iff.1 h).2] at h2
  rw [← h2, List.take_append_drop]
 have hl : ((ords r n).take p).length = p := by rw [List.length_take]; omega
 generalize (ords r n).take p = P at e hl
 generalize (ords r n).drop (p + 1) = Q at e
 rw [e] at ha hn
 rw [e, List.countP_append, List.countP_cons]
 unfold AscS at ha
 rw [List.pairwise_append] at ha
 rw [List.nodup_append] at hn
 obtain ⟨_, a2, a3⟩ := ha
 obtain ⟨_, n2, n3⟩ := hn
 have h1 : P.countP (fun k => bf r k i) = P.length := List.countP_eq_length.2 (fun x hx => bf_total (fun e => n3 x hx i (List.mem_cons_self ..) e.symm) (a3 x hx i (List.mem_cons_self ..)))
 have h2 : Q.countP (fun k => bf r k i) = 0 := List.countP_eq_zero.2 (fun x hx => by
  rw [List.pairwise_cons] at a2
  rw [a2.1 x hx]; exact Bool.false_ne_true)
 rw [h1, h2, hl, (bf_weak r).irr i]
 simp
theorem rk_inj {r : Nat → Int} {n i k : Nat} (hi : i < n) (hk : k < n) (h : rk r n i = rk r n k) : i = k := by
 obtain ⟨p, hp⟩ := List.mem_iff_getElem?.1 (ords_mem (r := r).2 hi)
 obtain ⟨q, hq⟩ := List.mem_iff_getElem?.1 (ords_mem (r := r).2 hk)
 rw [ords_at hp, ords_at hq] at h
 subst h
 rw [hp] at hq
 exact Option.some.inj hq
def cur (r : Nat → Int) (S : Int) (n j i : Nat) : Int := r i - (if rk r n i < j then S else 0)
def sumN (f : Nat → Int) : Nat → Int
 | 0 => 0
 | n + 1 => sumN f n + f n
theorem sumN_add (f g : Nat → Int) : ∀ n, sumN (fun i => f i + g i) n = sumN f n + sumN g n
 | 0 => rfl
 | n + 1 => by rw [sumN, sumN, sumN, sumN_add f g n]; omega
theorem sumN_mul (c : Int) (f : Nat → Int) : ∀ n, sumN (fun i => c * f i) n = c * sumN f n
 | 0 => by simp [sumN]
 | n + 1 => by rw [sumN, sumN, sumN_mul c f n, Int.mul_add]
theorem sumN_congr {f g : Nat → Int} : ∀ n, (∀ i, i < n → f i = g i) → sumN f n = sumN g n
 | 0, _ => rfl
 | n + 1, h => by rw [sumN, sumN, sumN_congr n (fun i hi => h i (by omega)), h n (by omega)]
theorem sumN_bound {f : Nat → Int} {S : Int} : ∀ n, (∀ i, i < n → 0 ≤ f i ∧ f i ≤ S) → 0 ≤ sumN f n ∧ sumN f n ≤ (n : Int) * S
 | 0, _ => by simp [sumN]
 | n + 1, h => by
   obtain ⟨h1, h2⟩ := sumN_bound n (fun i hi => h i (by omega))
   have h3 := h n (by omega)
   rw [sumN, Int.natCast_add, Int.add_mul]
   omega
def flo (t : Int) (w : Nat → Int) (S : Int) (i : Nat) : Int := t * w i / S
def rsts (t : Int) (w : Nat → Int) (S : Int) (i : Nat) : Int := t * w i % S
def missN (t : Int) (w : Nat → Int) (S : Int) (n : Nat) : Int := t - sumN (flo t w S) n
def shr (t : Int) (w : Nat → Int) (S : Int) (n i : Nat) : Int := flo t w S i + (if (rk (rsts t w S) n i : Int) < missN t w S n then 1 else 0)
theorem rsts_bd {t : Int} {w : Nat → Int} {S : Int} (hS : 0 < S) (i : Nat) : 0 ≤ rsts t w S i ∧ rsts t w S i < S := ⟨Int.emod_nonneg _ (by omega), Int.emod_lt_of_pos _ hS⟩
theorem miss_bd {t : Int} {w : Nat → Int} {n : Nat} (hS : 0 < sumN w n) : 0 ≤ missN t w (sumN w n) n ∧ missN t w (sumN w n) n < n := by
 obtain ⟨S, hSS⟩ : ∃ S, sumN w n = S := ⟨_, rfl⟩
 rw [hSS] at hS ⊢
 have hn : 0 < n := by
  rcases Nat.eq_zero_or_pos n with h | h
  ·subst h; rw [show sumN w 0 = 0 from rfl] at hSS; omega
  ·exact h
 have e : S * missN t w S n = sumN (rsts t w S) n := by
  unfold missN
  have e1 : sumN (fun i => S * flo t w S i + rsts t w S i) n = sumN (fun i => t * w i) n := sumN_congr n (fun i _ => by unfold flo rsts; exact Int.mul_ediv_add_emod _ _)
  rw [sumN_add, sumN_mul, sumN_mul, hSS] at e1
  rw [Int.mul_sub, Int.mul_comm S t]
  omega
 obtain ⟨b1, b2⟩ := sumN_bound (f := rsts t w S) (S := S - 1) n (fun i _ => by have := rsts_bd (t := t) (w := w) hS i; omega)
 constructor
 ·refine Int.not_lt.1 fun h => ?_
  have : S * missN t w S n < 0 := Int.mul_neg_of_pos_of_neg hS h
  omega
 ·refine Int.not_le.1 fun h => ?_
  have h2 : S * (n : Int) ≤ S * missN t w S n := Int.mul_le_mul_of_nonneg_left h (by omega)
  rw [Int.mul_sub] at b2
  have h3 : (n : Int) * S = S * (n : Int) := Int.mul_comm _ _
  omega
end Go.Proofs.YtbkmhmaldljgmaaGreatDoor
