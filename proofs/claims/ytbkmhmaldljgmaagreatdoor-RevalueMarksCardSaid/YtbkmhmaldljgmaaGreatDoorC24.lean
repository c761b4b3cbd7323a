/-
  fact.between, and the closures of fact.kinds that describe a kind.
  The closures of fact.kinds that give a kind with one amount, and one whose other field is a code.
-/
import Derived.Test.YtbkmhmaldljgmaaGreatDoorC16
import Derived.Test.YtbkmhmaldljgmaaGreatDoorC23
import Derived.Test.YtbkmhmaldljgmaaGreatDoorC02
import Derived.Test.YtbkmhmaldljgmaaGreatDoorC08
import Derived.Laws.EntriesVeiled
import Derived.Deep.Upon
set_option linter.unusedVariables false
set_option linter.unusedSimpArgs false
set_option maxHeartbeats 16000000
set_option maxRecDepth 100000
namespace Go.Proofs.YtbkmhmaldljgmaaGreatDoor
open Go.RowKit Tr Go.Shelf Go.Maps
def CloAt (w : World) (v : Value) (p q : Bool) : Prop := ∃ b1 b2 : Nat, v = .func (.func 278) #[] #[.pointer (some ⟨b1, 0, none⟩), .pointer (some ⟨b2, 0, none⟩)] ∧ w.heap[b1]? = some (.cells #[.bool p] 4) ∧ w.heap[b2]? = some (.cells #[.bool q] 4)
theorem CloAt.stp {w w' : World} {v : Value} {p q : Bool} {b : Option Nat} (h : CloAt w v p q) (hs : Stp b w w') : CloAt w' v p q := by
 obtain ⟨b1, b2, e, h1, h2⟩ := h
 exact ⟨b1, b2, e, hs.cells h1, hs.cells h2⟩
theorem CloAt.below {w w' : World} {v : Value} {p q : Bool} (h : CloAt w v p q) (hs : Below w.heap.size w w') : CloAt w' v p q := h.stp (Stp.of_below hs)
def kcells (s : ByteArray) (c : Int) (h : Nat → Bool) (nm : Value) (cd : Bool) : Array Value := #[.string s, .int .i64 c, .bool (h 0), .bool (h 1), .bool (h 2), .bool (h 3), .bool (h 4), .bool (h 5), .bool (h 6), .bool (h 7), .bool (h 8), .bool (h 9), .bool (h 10), .bool (h 11), .bool (h 12), nm, .bool cd]
theorem kcells_set (s : ByteArray) (c : Int) (h : Nat → Bool) (nm : Value) (cd : Bool) {x : Nat} (hx : x < 13) : (kcells s c h nm cd).setIfInBounds (2 + x) (.bool true) = kcells s c (fun i => if i = x then true else h i) nm cd := by
 rcases (show x = 0 ∨ x = 1 ∨ x = 2 ∨ x = 3 ∨ x = 4 ∨ x = 5 ∨ x = 6 ∨ x = 7 ∨ x = 8 ∨ x = 9 ∨ x = 10 ∨ x = 11 ∨ x = 12 from by omega) with rfl | rfl | rfl | rfl | rfl | rfl | rfl | rfl | rfl | rfl | rfl | rfl | rfl
 all_goals rfl
theorem kcells_congr {s : ByteArray} {c : Int} {h h' : Nat → Bool} {nm : Value} {cd : Bool} (e : ∀ i, i < 13 → h i = h' i) : kcells s c h nm cd = kcells s c h' nm cd := by
 unfold kcells
 rw [e 0 (by decide), e 1 (by decide), e 2 (by decide), e 3 (by decide), e 4 (by decide), e 5 (by decide), e 6 (by decide), e 7 (by decide), e 8 (by decide), e 9 (by decide), e 10 (by decide), e 11 (by decide), e 12 (by decide)]
theorem kcells_one (s : ByteArray) (c : Int) (h : Nat → Bool) (x : Option Nat) (cd : Bool) : ∀ u ∈ (kcells s c h (.map x) cd).toList, u.oneCell' = true := by
 intro u hu
 simp [kcells] at hu
 repeat' (rcases hu with rfl | hu)
 all_goals first | rfl | (subst hu; rfl)
abbrev kzero : Obj := .cells (kcells ⟨#[]⟩ 0 (fun _ => false) (.map none) false) 247 (0, 0)
theorem wpList_store_runK {P : Program} {ops : Array Oper} {rest : List Oper} {o : Oper} {a : Act} {Q : Exit → Act → World → Prop} {t : TypeId} {pv xv : Value} {w w' : World} (hr : (Instr.storeAt t pv xv).run P w = .ok () w') (hgd : o.guard = none) (p x : Operand)
 (ho : o.op = .store t p x) (hp : a.eval p = pv) (hx : a.eval x = xv) (h : wpList P ops Q rest (a.put o.dst undef) w') : wpList P ops Q (o :: rest) a w :=
 wpList_plain hgd fun _ hK => by
  unfold Oper.wp execOp
  simp only [ho, hp, hx, Sem.run_bind, Sem.run_pure, Result.andThen_ok, hr]
  exact hK _ _ h
theorem run_store_rowK (W : World) (B n : Nat) (t : TypeId) (cur vals : Array Value) (hz : (sizeOf t).run Tryz.prog W = .ok n W) (hB : W.heap[B]? = some (.cells cur t (0, 0))) (hc : cur.size = n) (hv : vals.size = n) (h1 : ∀ u ∈ vals.toList, u.oneCell' = true) :
 (Instr.storeAt t (.pointer (some ⟨B, 0, none⟩)) (.agg vals)).run Tryz.prog W = .ok () (W.setRow B vals) := by
 have hs := run_storeCells_at (P := Tryz.prog) B 0 t vals.toList 0 cur W hB (by simp [hc, hv]) h1
 simp only [Nat.zero_add, List.take_zero, List.nil_append, Array.length_toList] at hs
 rw [List.drop_eq_nil_of_le (by simp [hc, hv]), List.append_nil, Array.toArray_toList] at hs
 unfold Instr.storeAt storeVar
 simp only [Sem.run_bind, Instr.sureAddr, Sem.run_pure, Result.andThen_ok, hz]
 rw [if_neg (by show ¬ vals.size ≠ n; exact fun h => h hv)]
 exact hs
theorem below_setRowK {B0 B : Nat} {w W : World} (h : Below B0 w W) (hB : B0 ≤ B) (vals : Array Value) : Below B0 w (W.setRow B vals) :=
 ⟨h.os, h.tape, h.output, by simp [World.setRow]; exact h.size, fun k hk => by rw [setRow_other _ B k _ (by omega)]; exact h.block k hk⟩
theorem between_any (p q : Bool) (w : World) : Calls Tryz.prog 245 #[.bool p, .bool q] w fun e w' => ∃ v, e = .returned v ∧ CloAt w' v p q ∧ Below w.heap.size w w' := by
 obtain ⟨W0, hW0', hB0, hz, k0, k1⟩ := box2 w (.cells #[.bool p] 4) (.cells #[.bool q] 4)
 have hW0 := hW0'.symm
 have H : Hid (CloAt W0 (.func (.func 278) #[] #[.pointer (some ⟨w.heap.size, 0, none⟩), .pointer (some ⟨w.heap.size + 1, 0, none⟩)]) p q ∧ Below w.heap.size w W0) := ⟨⟨_, _, rfl, k0, k1⟩, hB0⟩
 clear hW0' hB0 hz k0 k1
 go_enter Tryz.func245, Tryz.ntmps245
 go_wp2_with fail
 go_ret
 exact ⟨_, rfl, H.out⟩
theorem build_kind (s : ByteArray) (c : Int) (x : Option Nat) (W : World) : (Instr.build 247 #[(0, .string s), (1, .int .i64 c), (3, .map x)]).run Tryz.prog W = .ok (.agg (kcells s c (fun _ => false) (.map x) false)) W := run_build W _ _ _ (by kernel_rfl)
attribute [local go_sem] build_kind
structure OfW (w : World) (s : ByteArray) (c : Int) (x : Option Nat) (hs : Nat → Bool) (W : World) : Prop where
 kb : W.heap[w.heap.size + 1]? = some (.cells (kcells s c hs (.map x) false) 247 (0, 0))
 zb : W.heap[w.heap.size]? = some kzero
 bl : Below w.heap.size w W
theorem OfW.below {w : World} {s : ByteArray} {c : Int} {x : Option Nat} {hs : Nat → Bool} {W W' : World} (h : OfW w s c x hs W) (hb : Below (w.heap.size + 2) W W') : OfW w s c x hs W' :=
 ⟨(hb.block _ (by omega)).trans h.kb, (hb.block _ (by omega)).trans h.zb, h.bl.trans (hb.mono (by omega))⟩
theorem OfW.set {w : World} {s : ByteArray} {c : Int} {x : Option Nat} {hs : Nat → Bool} {W : World} (h : OfW w s c x hs W) {y : Nat} (hy : y < 13) : OfW w s c x (fun i => if i = y then true else hs i) (W.setCell ⟨w.heap.size + 1, 2 + y, none⟩ (.bool true)) := by
 refine ⟨?_, (Below.heap_setCell _ _ _ _ (by simp)).trans h.zb, h.bl.setCell (p := ⟨w.heap.size + 1, 2 + y, none⟩) (by simp) _⟩
 have hk := h.kb
 simp only [World.setCell, Array.getElem?_modify, hk, if_true, Option.map_some]
 rw [← kcells_set s c hs (.map x) false hy]
 rfl
theorem kcells_at (s : ByteArray) (c : Int) (h : Nat → Bool) (nm : Value) (cd : Bool) {x : Nat} (hx : x < 13) : (kcells s c h nm cd)[2 + x]? = some (.bool (h x)) := by
 rcases (show x = 0 ∨ x = 1 ∨ x = 2 ∨ x = 3 ∨ x = 4 ∨ x = 5 ∨ x = 6 ∨ x = 7 ∨ x = 8 ∨ x = 9 ∨ x = 10 ∨ x = 11 ∨ x = 12 from by omega) with rfl | rfl | rfl | rfl | rfl | rfl | rfl | rfl | rfl | rfl | rfl | rfl | rfl
 all_goals rfl
theorem OfW.cell {w : World} {s : ByteArray} {c : Int} {x : Option Nat} {hs : Nat → Bool} {W : World} (h : OfW w s c x hs W) {y : Nat} (hy : y < 13) : W.cell? ⟨w.heap.size + 1, 2 + y, none⟩ = some (.bool (hs y)) ∧ W.frozen? ⟨w.heap.size + 1, 2 + y, none⟩ = false := by
 refine ⟨?_, Lib.frozen_of_heap h.kb _⟩
 rw [Lib.cell_of_heap h.kb, kcells_at _ _ _ _ _ hy]
theorem of_any (s : ByteArray) (c : Int) (x : Option Nat) (g : Int → Option Value) (ad : Addr) (l : List Nat) (w : World)
 (hm : MpX 3 w (.map x) g) (hg : ∀ i, g i ≠ none → ∃ j : Nat, i = j ∧ j < 13) (hl : RdN w (some ad) l) (hl13 : ∀ y ∈ l, y < 13) (hn : l ≠ []) (hlen : l.length ≤ 1000) :
 Calls Tryz.prog 246 #[.string s, .int .i64 c, .map x, .slice (some ad) l.length l.length] w fun e w' => e = .returned (.agg (kcells s c (fun i => (g (i : Int)).isSome || l.contains i) (.map x) false)) ∧ Below w.heap.size w w' := by
 obtain ⟨ad', e, hblk, hcell⟩ := hl hn
 cases e
 obtain ⟨W0, hW0', hB0, hz, k0, k1⟩ := box2 w (.cells #[.string ⟨#[]⟩, .int .i64 0, .bool false, .bool false, .bool false, .bool false, .bool false, .bool false, .bool false, .bool false, .bool false, .bool false, .bool false, .bool false, .bool false, .map none, .bool false] 247) (.cells #[.string ⟨#[]⟩, .int .i64 0, .bool false, .bool false, .bool false, .bool false, .bool false, .bool false, .bool false, .bool false, .bool false, .bool false, .bool false, .bool false, .bool false, .map none, .bool false] 247)
 have hW0 := hW0'.symm
 have hrun := run_store_rowK W0 (w.heap.size + 1) 17 247 _ #[.string s, .int .i64 c, .bool false, .bool false, .bool false, .bool false, .bool false, .bool false, .bool false, .bool false, .bool false, .bool false, .bool false, .bool false, .bool false, .map x, .bool false] (by kernel_rfl) k1 rfl rfl (kcells_one s c (fun _ => false) x false)
 obtain ⟨W1, hW1⟩ : ∃ W1, W0.setRow (w.heap.size + 1) #[.string s, .int .i64 c, .bool false, .bool false, .bool false, .bool false, .bool false, .bool false, .bool false, .bool false, .bool false, .bool false, .bool false, .bool false, .bool false, .map x, .bool false] = W1 := ⟨_, rfl⟩
 rw [hW1] at hrun
 have hO : OfW w s c x (fun _ => false) W1 := by
  refine ⟨?_, ?_, ?_⟩
  ·rw [← hW1]; exact setRow_heap W0 _ _ _ _ _ k1
  ·rw [← hW1]; exact (setRow_other _ _ _ _ (by omega)).trans k0
  ·rw [← hW1]; exact below_setRowK hB0 (by omega) _
 have hsz : W1.heap.size = w.heap.size + 2 := by rw [← hW1]; simp [World.setRow, hz]
 have HX : Hid (∀ j, x = some j → j < w.heap.size) := by
  intro j hj
  rcases hm with ⟨b, n, e, h⟩ | ⟨e, _⟩
  ·injection e with e; rw [hj] at e; injection e with e; rw [e]; exact h.lt
  ·injection e with e; rw [hj] at e; cases e
 have HM : Hid (MpX 3 W1 (.map x) g) := hm.below hO.bl (Nat.le_refl _)
 have HO := hI hO
 have HSZ := hI hsz
 have HC := hI hcell
 have HBK := hI hblk
 have HG := hI hg
 have HL := hI hl13
 clear hW0' hB0 hz k0 k1 hW1 hO hsz hm hcell hblk hg hl13 hl hn
 go_enter Tryz.func246, Tryz.ntmps246
 go_wp2_with (first | (refine wpList_store_runK hrun rfl _ _ rfl rfl rfl ?_) | (at_range; refine wpList_range_x (k := 3) (e := 287) rfl _ _ rfl Tryz.underlying3 Tryz.underlying245 rfl HM.out ?_; intro w2 cnt0 HR HB2 HS2) | fail)
 go_frame
 clear hW0 hrun
 have HR' := hI HR
 have HB2' := hI HB2
 have HS2' := hI HS2
 clear HR HB2 HS2
 go_loopw [10] (fun _ wr => ∃ (lf : Int → Bool) (cnt : Nat) (hs : Nat → Bool), Rx 3 wr (.map x) W1.heap.size g lf cnt ∧ OfW w s c x hs wr ∧ (∀ i : Nat, hs i = ((g (i : Int)).isSome && !lf i)) ∧ wr.heap.size = w.heap.size + 3) (fun _ wr => leftX wr (.map x) W1.heap.size)
 case atStart => exact ⟨_, _, fun _ => false, HR'.out, HO.out.below (by rw [← HSZ.out]; exact HB2'.out), fun i => by simp, by rw [HS2'.out, HSZ.out]⟩
 case round =>
  obtain ⟨lf, cnt, hs, hR, hO, hh, hz⟩ := hrel
  rcases hR.next Tryz.underlying3 0 with ⟨h0, hl0, hrun⟩ | ⟨y, v, w3, cnt', hly, hgy, hrun, hR', hlt, hoth, hsz3, hbel, hen⟩
  ·have HO3 := hI hO
   have HH := hI hh
   have HL0 := hI hl0
   clear hR hO hh hz h0 hl0
   obtain ⟨wo, hwo⟩ : ∃ wo, wo = wr := ⟨_, rfl⟩
   go_wp2_with fail
   generalize hwo2 : wr = w4 at *
   clear hwo2 hwo hrun
   go_loopw [28, 12] (fun v28 _ wr => ∃ (k : Nat) (hs' : Nat → Bool), v28 = .int .i64 (k : Int) ∧ k ≤ l.length ∧ OfW w s c x hs' wr ∧ ∀ i : Nat, hs' i = ((g (i : Int)).isSome || (l.take k).contains i)) (fun v28 _ _ => l.length - (intOf v28).toNat)
   case atStart => exact ⟨0, hs, rfl, by omega, HO3.out, fun i => by rw [HH.out, HL0.out]; simp⟩
   case round =>
    obtain ⟨k, hs', rfl, hk, hO, hh⟩ := hrel
    have HO5 := hI hO
    have HH5 := hI hh
    rcases Nat.lt_or_ge k l.length with hlt | hge
    ·have c1 : decide ((k : Int) < (l.length : Int)) = true := decide_eq_true (by omega)
     have c2 : (k : Int) < (l.length : Int) := by omega
     have hy : gt l k < 13 := HL.out _ (by unfold gt; rw [List.getD_eq_getElem?_getD, List.getElem?_eq_getElem hlt]; exact List.getElem_mem hlt)
     have hck : wr.cell? (ad.add k) = some (.int .i64 (gt l k)) := (hO.bl.cell (by rw [add_block]; exact HBK.out)).trans (HC.out k hlt)
     obtain ⟨y, hy0⟩ : ∃ y, gt l k = y := ⟨_, rfl⟩
     rw [hy0] at hy hck
     have HY0 := hI hy0
     obtain ⟨d1, d2⟩ := hO.cell hy
     have b1 : (0 : Int) ≤ (y : Int) := by omega
     have b2 : (y : Int) < 13 := by omega
     clear hO hh hy0
     go_wp2_with fail
     go_roundw
     case rel =>
      refine ⟨k + 1, _, by go_num, by omega, HO5.out.set hy, fun i => ?_⟩
      rw [List.take_succ_eq_append_getElem hlt, List.contains_eq_any_beq, List.any_append, ← List.contains_eq_any_beq]
      have e1 : l[k] = y := by
       have := HY0.out
       unfold gt at this
       rw [List.getD_eq_getElem?_getD, List.getElem?_eq_getElem hlt] at this
       simpa using this
      rw [e1]
      by_cases e : i = y
      ·subst e; simp
      ·rw [if_neg e, HH5.out i]
       have : (i == y) = false := by simp; exact e
       simp [this]
     case measure => simp [intOf]; omega
    ·have c1 : decide ((k : Int) < (l.length : Int)) = false := decide_eq_false (by omega)
     have hkl : k = l.length := by omega
     clear hO hh
     have hrun2 := run_store_rowK wr w.heap.size 17 247 _ (kcells s c hs' (.map x) false) (by kernel_rfl) HO5.out.zb rfl rfl (kcells_one _ _ _ _ _)
     obtain ⟨w6, hw6⟩ : ∃ w6, wr.setRow w.heap.size (kcells s c hs' (.map x) false) = w6 := ⟨_, rfl⟩
     rw [hw6] at hrun2
     have HK6 : Hid (w6.heap[w.heap.size]? = some (.cells (kcells s c hs' (.map x) false) 247 (0, 0)) ∧ Below w.heap.size w w6) := by
      refine ⟨?_, ?_⟩
      ·rw [← hw6]; exact setRow_heap wr _ _ _ _ _ HO5.out.zb
      ·rw [← hw6]; exact below_setRowK HO5.out.bl (Nat.le_refl _) _
     clear hw6
     go_wp2_with (first | (refine wpList_store_runK hrun2 rfl _ _ rfl rfl rfl ?_) | (refine wpList_load_row rfl _ _ rfl (w.heap.size + 1) rfl _ _ (0, 0) _ HO5.out.kb Tryz.underlying247 rfl (by kernel_rfl) ?_) | fail)
     refine bodyPost_ret (results_cell_row rfl _ _ w.heap.size _ _ (0, 0) _ rfl HK6.out.1 Tryz.underlying247 rfl (by kernel_rfl)) rfl ?_
     refine ⟨?_, HK6.out.2⟩
     rw [kcells_congr (h' := fun i => (g (i : Int)).isSome || l.contains i)]
     intro i _
     rw [HH5.out i, hkl, List.take_length]
  ·obtain ⟨n, rfl, hn13⟩ := HG.out y (by rw [hgy]; simp)
   have b1 : (0 : Int) ≤ (n : Int) := by omega
   have b2 : (n : Int) < 13 := by omega
   have HO3 : Hid (OfW w s c x hs w3) := hO.below (hbel _ (by have := HSZ.out; omega))
   obtain ⟨d1, d2⟩ := HO3.out.cell hn13
   have hR4 : Rx 3 (w3.setCell ⟨w.heap.size + 1, 2 + n, none⟩ (.bool true)) (.map x) W1.heap.size g (fun i => lf i && !(i == (n : Int))) cnt' := by
    refine hR'.kept (fun j hj => Below.heap_setCell _ _ _ _ ?_)
    rcases hj with rfl | hj
    ·have := HSZ.out; show _ ≠ w.heap.size + 1; omega
    ·injection hj with hj
     have := HX.out j hj
     show _ ≠ w.heap.size + 1; omega
   have HEND : Hid ((∃ (lf : Int → Bool) (cnt : Nat) (hs : Nat → Bool), Rx 3 (w3.setCell ⟨w.heap.size + 1, 2 + n, none⟩ (.bool true)) (.map x) W1.heap.size g lf cnt ∧ OfW w s c x hs (w3.setCell ⟨w.heap.size + 1, 2 + n, none⟩ (.bool true)) ∧ (∀ i : Nat, hs i = ((g (i : Int)).isSome && !lf i)) ∧ (w3.setCell ⟨w.heap.size + 1, 2 + n, none⟩ (.bool true)).heap.size = w.heap.size + 3) ∧
    leftX (w3.setCell ⟨w.heap.size + 1, 2 + n, none⟩ (.bool true)) (.map x) W1.heap.size < leftX wr (.map x) W1.heap.size) := by
    refine ⟨⟨_, _, _, hR4, HO3.out.set hn13, fun i => ?_, by rw [← hz, ← hsz3]; simp [World.setCell]⟩, by rw [hR4.left_eq, hR.left_eq]; exact hlt⟩
    by_cases e : i = n
    ·subst e; simp [hgy]
    ·rw [if_neg e, hh i]
     have : ((i : Int) == (n : Int)) = false := beq_eq_false_iff_ne.2 (by omega)
     rw [this]; simp
   clear hR hO hh hz hR' hR4 hlt hoth hsz3 hbel hgy hly
   go_wp2_with fail
   exact HEND.out
end Go.Proofs.YtbkmhmaldljgmaaGreatDoor
namespace Go.Proofs.YtbkmhmaldljgmaaGreatDoor
open Go.RowKit Tr Go.Shelf Go.Maps
theorem code_any (s : ByteArray) (c : Int) (h : Nat → Bool) (x : Option Nat) (w : World) :
 Calls Tryz.prog 248 #[.agg (kcells s c h (.map x) false)] w fun e w' => e = .returned (.agg (kcells s c h (.map x) true)) ∧ Below w.heap.size w w' := by
 show Calls _ _ #[.agg #[.string s, .int .i64 c, .bool (h 0), .bool (h 1), .bool (h 2), .bool (h 3), .bool (h 4), .bool (h 5), .bool (h 6), .bool (h 7), .bool (h 8), .bool (h 9), .bool (h 10), .bool (h 11), .bool (h 12), .map x, .bool false]] w _
 obtain ⟨W0, hW0', hB0, hz, k0, k1⟩ := box2 w (.cells #[.string s, .int .i64 c, .bool (h 0), .bool (h 1), .bool (h 2), .bool (h 3), .bool (h 4), .bool (h 5), .bool (h 6), .bool (h 7), .bool (h 8), .bool (h 9), .bool (h 10), .bool (h 11), .bool (h 12), .map x, .bool false] 247) (.cells #[.string ⟨#[]⟩, .int .i64 0, .bool false, .bool false, .bool false, .bool false, .bool false, .bool false, .bool false, .bool false, .bool false, .bool false, .bool false, .bool false, .bool false, .map none, .bool false] 247)
 have hW0 := hW0'.symm
 obtain ⟨W1, hW1⟩ : ∃ W1, W0.setCell ⟨w.heap.size, 16, none⟩ (.bool true) = W1 := ⟨_, rfl⟩
 have j0 : W1.heap[w.heap.size]? = some (.cells (kcells s c h (.map x) true) 247 (0, 0)) := by
  rw [← hW1]
  simp only [World.setCell, Array.getElem?_modify, k0, if_true, Option.map_some]
  rfl
 have j1 : W1.heap[w.heap.size + 1]? = some kzero := by rw [← hW1]; exact (Below.heap_setCell _ _ _ _ (by simp)).trans k1
 have hrun := run_store_rowK W1 (w.heap.size + 1) 17 247 _ (kcells s c h (.map x) true) (by kernel_rfl) j1 rfl rfl (kcells_one _ _ _ _ _)
 obtain ⟨W2, hW2⟩ : ∃ W2, W1.setRow (w.heap.size + 1) (kcells s c h (.map x) true) = W2 := ⟨_, rfl⟩
 rw [hW2] at hrun
 have hB1 : Below w.heap.size w W1 := by rw [← hW1]; exact hB0.setCell (p := ⟨w.heap.size, 16, none⟩) (by simp) _
 have HK : Hid (W2.heap[w.heap.size + 1]? = some (.cells (kcells s c h (.map x) true) 247 (0, 0)) ∧ Below w.heap.size w W2) := by
  refine ⟨?_, ?_⟩
  ·rw [← hW2]; exact setRow_heap W1 _ _ _ _ _ j1
  ·rw [← hW2]; exact below_setRowK hB1 (by omega) _
 have c16 := Lib.cell_of_heap k0 16
 have f16 := Lib.frozen_of_heap k0 16
 simp at c16
 have HJ := hI j0
 clear hW0' hB0 hz k0 k1 j0 j1 hW2 hB1
 go_enter Tryz.func248, Tryz.ntmps248
 go_wp2_with (first | (refine wpList_store_runK hrun rfl _ _ rfl rfl rfl ?_) | (refine wpList_load_row rfl _ _ rfl w.heap.size rfl _ _ (0, 0) _ HJ.out Tryz.underlying247 rfl (by kernel_rfl) ?_) | fail)
 refine bodyPost_ret (results_cell_row rfl _ _ (w.heap.size + 1) _ _ (0, 0) _ rfl HK.out.1 Tryz.underlying247 rfl (by kernel_rfl)) rfl ?_
 exact ⟨rfl, HK.out.2⟩
theorem amount_any (s : ByteArray) (b1 b3 : Nat) (v : Value) (w : World) (h1 : w.heap[b1]? = some (.cells #[v] 287 (0, 0))) (h3 : w.heap[b3]? = some (.cells #[.func (.func 246) #[] #[]] 289 (0, 0))) (hv : CloAt w v true false) :
 Calls Tryz.prog 247 #[.string s, .pointer (some ⟨b3, 0, none⟩), .pointer (some ⟨b1, 0, none⟩)] w fun e w' => ∃ b g, e = .returned (.agg (kcells s 2 (fun f => f == 2 || f == 5) (.map (some b)) false)) ∧ w.heap.size ≤ b ∧ b < w'.heap.size ∧ Mp 3 keyI w' b 1 g ∧ g 5 = some v ∧ (∀ x, x ≠ 5 → g x = none) ∧ Below w.heap.size w w' := by
 obtain ⟨W1, hW1⟩ : ∃ W1, w.alloc (.cells #[.string ⟨#[]⟩, .int .i64 0, .bool false, .bool false, .bool false, .bool false, .bool false, .bool false, .bool false, .bool false, .bool false, .bool false, .bool false, .bool false, .bool false, .map none, .bool false] 247) = W1 := ⟨_, rfl⟩
 have hB1 : Below w.heap.size w W1 := by rw [← hW1]; exact (Below.refl _ w).alloc (Nat.le_refl _) _
 have hz1 : W1.heap.size = w.heap.size + 1 := by rw [← hW1]; simp
 have k1 : W1.heap[w.heap.size]? = some kzero := by rw [← hW1]; exact heap_alloc_new w _
 have e1 : W1.heap[b1]? = some (.cells #[v] 287 (0, 0)) := (hB1.block _ (Array.getElem?_eq_some_iff.1 h1).1).trans h1
 have e3 : W1.heap[b3]? = some (.cells #[.func (.func 246) #[] #[]] 289 (0, 0)) := (hB1.block _ (Array.getElem?_eq_some_iff.1 h3).1).trans h3
 obtain ⟨W2, hW2⟩ : ∃ W2, W1.alloc (.map #[] 0) = W2 := ⟨_, rfl⟩
 have hM2 : Mp 3 keyI W2 W1.heap.size 0 (fun _ => none) := by rw [← hW2]; exact Mp.made W1 _ _
 have hB2 : Below W1.heap.size W1 W2 := by rw [← hW2]; exact (Below.refl _ W1).alloc (Nat.le_refl _) _
 have e1' : W2.heap[b1]? = some (.cells #[v] 287 (0, 0)) := (hB2.block _ (Array.getElem?_eq_some_iff.1 e1).1).trans e1
 obtain ⟨W3, hput, hM3, htn⟩ := hM2.put (key := .int .i64 5) (val := v) (j := (5 : Int)) (e := 287) (t := 245) (int_keyed Tryz.underlying3) Tryz.underlying245 (by unfold maxLen; omega) keyI_inj
  (keyOf_int_mk Tryz.underlying3 (by decide)) (f' := fun y => if y = 5 then some v else none) (by simp) (fun y hy => by simp [hy])
 have hB3 : Below w.heap.size w W3 := (hB1.trans (hB2.mono (by omega))).trans (turned_below htn (by omega))
 have c1 := Lib.cell_of_heap e1 0
 have c1' := Lib.cell_of_heap e1' 0
 have c3 := Lib.cell_of_heap e3 0
 simp at c1 c1' c3
 obtain ⟨W4, hW4⟩ : ∃ W4, W3.alloc (.cells #[.int .i64 2] 3) = W4 := ⟨_, rfl⟩
 have hB4 : Below W3.heap.size W3 W4 := by rw [← hW4]; exact (Below.refl _ W3).alloc (Nat.le_refl _) _
 have k4 : W4.heap[W3.heap.size]? = some (.cells (([2] : List Nat).map fun (x : Nat) => Value.int .i64 (x : Int)).toArray 3 (0, 0)) := by rw [← hW4]; exact heap_alloc_new W3 _
 have hz2 : W2.heap.size = w.heap.size + 2 := by rw [← hW2]; simp [hz1]
 have hz3 : W3.heap.size = w.heap.size + 2 := by rw [turned_size htn, hz2]
 have hM4 : Mp 3 keyI W4 W1.heap.size 1 (fun y => if y = 5 then some v else none) := hM3.below hB4 hM3.lt
 have hb4 : Below w.heap.size w W4 := hB3.trans (hB4.mono (by omega))
 have kz : W4.heap[w.heap.size]? = some kzero := by
  rw [hB4.block _ (by omega), turned_other htn (by omega), hB2.block _ (by omega)]
  exact k1
 have hmk : (Instr.makeMap 245 none).run Tryz.prog W1 = .ok (.map (some W1.heap.size)) W2 := by rw [← hW2]; exact run_makeMap ..
 have HO := hI (of_any s 2 (some W1.heap.size) (fun y => if y = 5 then some v else none) ⟨W3.heap.size, 0, none⟩ [2] W4 (.inl ⟨_, 1, rfl, hM4⟩) (fun i hi => by
  by_cases e : i = 5
  ·exact ⟨5, by omega, by omega⟩
  ·simp [e] at hi) (fun _ => ⟨_, rfl, (Array.getElem?_eq_some_iff.1 k4).1, fun j hj => by
    have : j = 0 := by simp at hj; exact hj
    subst this
    exact Lib.cell_of_heap k4 0⟩) (by simp) (by simp) (by simp))
 have HM4 := hI hM4
 have HB4 := hI hb4
 have HKZ := hI kz
 have HSZ := hI (show w.heap.size < W4.heap.size from (Array.getElem?_eq_some_iff.1 kz).1)
 have HZ1 := hI hz1
 have bld : (Instr.buildSlice 66 1 #[(0, .int .i64 2)]).run Tryz.prog W3 = .ok (.slice (some ⟨W3.heap.size, 0, none⟩) 1 1) W4 := by rw [← hW4]; kernel_rfl
 clear hB1 hz1 k1 e1 e3 hM2 hB2 e1' hM3 htn hB3 hB4 k4 hz2 hz3 hM4 hb4 kz h1 h3 hW2
 go_enter Tryz.func247, Tryz.ntmps247
 go_wp2_with fail
 refine HO.out.mono ?_
 rintro e w5 ⟨rfl, hb5⟩
 have k5 : w5.heap[w.heap.size]? = some kzero := (hb5.block _ HSZ.out).trans HKZ.out
 have hrun := run_store_rowK w5 w.heap.size 17 247 _ (kcells s 2 (fun i => (if (i : Int) = 5 then some v else none).isSome || [2].contains i) (.map (some W1.heap.size)) false) (by kernel_rfl) k5 rfl rfl (kcells_one _ _ _ _ _)
 obtain ⟨w6, hw6⟩ : ∃ w6, w5.setRow w.heap.size (kcells s 2 (fun i => (if (i : Int) = 5 then some v else none).isSome || [2].contains i) (.map (some W1.heap.size)) false) = w6 := ⟨_, rfl⟩
 rw [hw6] at hrun
 have hb5w : Below w.heap.size w w5 := HB4.out.trans (hb5.mono HB4.out.size)
 have HF : Hid (w6.heap[w.heap.size]? = some (.cells (kcells s 2 (fun i => (if (i : Int) = 5 then some v else none).isSome || [2].contains i) (.map (some W1.heap.size)) false) 247 (0, 0)) ∧ Mp 3 keyI w6 W1.heap.size 1 (fun y => if y = 5 then some v else none) ∧ Below w.heap.size w w6) := by
  refine ⟨?_, ?_, ?_⟩
  ·rw [← hw6]; exact setRow_heap w5 _ _ _ _ _ k5
  ·have h5 := HM4.out.below hb5 HM4.out.lt
   refine h5.kept ?_
   rw [← hw6]; exact setRow_other _ _ _ _ (by have := HZ1.out; omega)
  ·rw [← hw6]; exact below_setRowK hb5w (Nat.le_refl _) _
 clear hw6 hb5w k5 hb5
 go_wp2_with (first | (refine wpList_store_runK hrun rfl _ _ rfl rfl rfl ?_) | fail)
 refine bodyPost_ret (results_cell_row rfl _ _ w.heap.size _ _ (0, 0) _ rfl HF.out.1 Tryz.underlying247 rfl (by kernel_rfl)) rfl ?_
 refine ⟨W1.heap.size, _, ?_, by have := HZ1.out; omega, HF.out.2.1.lt, HF.out.2.1, by simp, fun x hx => by simp [hx], HF.out.2.2⟩
 rw [kcells_congr (h' := fun f => f == 2 || f == 5)]
 intro i hi
 rcases (show i = 0 ∨ i = 1 ∨ i = 2 ∨ i = 3 ∨ i = 4 ∨ i = 5 ∨ i = 6 ∨ i = 7 ∨ i = 8 ∨ i = 9 ∨ i = 10 ∨ i = 11 ∨ i = 12 from by omega) with rfl | rfl | rfl | rfl | rfl | rfl | rfl | rfl | rfl | rfl | rfl | rfl | rfl
 all_goals rfl
end Go.Proofs.YtbkmhmaldljgmaaGreatDoor
