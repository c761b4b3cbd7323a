/-
  What relief.Take holds while it takes.
  slices.IndexFunc and slices.DeleteFunc of lots, whatever the function.
  The walk of relief.Take.
  The walks of relief.Cost, relief.Check.
  The example of the chapter on relief, plainly.
  tranchelaw20.awake returns true.
  Picks compared as the machine does it; slices.Equal over picks; tranchelaw20.great. (Printed by gen_eqk.py.)
  What is left and what is taken have together all quantities and costs; the closures of ReliefConserves.
-/
import Derived.Test.YtdnmpgoigagjmaaGreatDoorL37
import Derived.Test.YtdnmpgoigagjmaaGreatDoorL41
import Derived.Test.YtdnmpgoigagjmaaGreatDoorL27
import Derived.Test.YtdnmpgoigagjmaaGreatDoorL21
import Derived.Test.YtdnmpgoigagjmaaGreatDoorL14
import Derived.Test.YtdnmpgoigagjmaaGreatDoorL35
import Derived.Test.YtdnmpgoigagjmaaGreatDoorL36
import Derived.Test.YtdnmpgoigagjmaaGreatDoorL38
import Derived.Test.YtdnmpgoigagjmaaGreatDoorL30
import Derived.Laws.StructEq
import Derived.Test.YtdnmpgoigagjmaaGreatDoorL24
set_option linter.unusedVariables false
set_option linter.unusedSimpArgs false
set_option maxHeartbeats 16000000
set_option maxRecDepth 100000
namespace Go.Proofs.YtdnmpgoigagjmaaGreatDoor
open Go.RowKit Tr Go.Shelf
noncomputable def takE (lz : List Lot) (ps : List Pk) : Int := open Classical in if lall lz ≠ 0 then 1 else posE lz none [] ps
theorem takE_all {lz : List Lot} (h : lall lz ≠ 0) (ps : List Pk) : takE lz ps = 1 := by unfold takE; rw [if_pos h]
theorem takE_pos {lz : List Lot} (h : lall lz = 0) (ps : List Pk) : takE lz ps = posE lz none [] ps := by unfold takE; rw [if_neg (fun y => y h)]
def TakPost (w : World) (lz : List Lot) (ps : List Pk) (e : Ending) (w' : World) : Prop :=
 ∃ (A1 : Option Addr) (c1 : Nat) (r1 : List SLot) (A2 : Option Addr) (c2 : Nat) (r2 : List SLot), e = .returned (.tuple #[.slice A1 r1.length c1, .slice A2 r2.length c2, .int .i64 (takE lz ps)]) ∧ Below w.heap.size w w' ∧ RdB w'.heap.size w' A1 r1 ∧ RdB w'.heap.size w' A2 r2 ∧ r1.length ≤ c1 ∧ r2.length ≤ c2 ∧
  (A1 = none → r1.length = 0 ∧ c1 = 0) ∧ (A2 = none → r2.length = 0 ∧ c2 = 0) ∧ (takE lz ps ≠ 0 → r1 = [] ∧ r2 = []) ∧ (takE lz ps = 0 → r1.map Subtype.val = restR lz ps ∧ r2.map Subtype.val = takenR lz ps)
theorem takPost_no {w w' : World} {lz : List Lot} {ps : List Pk} {E : Int} (h : takE lz ps = E) (h0 : E ≠ 0) (hb : Below w.heap.size w w') : TakPost w lz ps (.returned (.tuple #[.slice none 0 0, .slice none 0 0, .int .i64 E])) w' :=
 ⟨none, 0, [], none, 0, [], by rw [h]; rfl, hb, (fun e => absurd rfl e), (fun e => absurd rfl e), Nat.le_refl _, Nat.le_refl _, (fun _ => ⟨rfl, rfl⟩), (fun _ => ⟨rfl, rfl⟩), (fun _ => ⟨rfl, rfl⟩), fun e => absurd (h.symm.trans e) h0⟩
theorem SRow.self {V : Lot → Prop} {w0 W : World} {g : Nat} {sp : List Value} {D : List Lot} (h : SRow V w0 g sp D W) : SRow V W g sp D W := ⟨h.row, h.ok, ⟨rfl, rfl, rfl, Nat.le_refl _, fun _ _ _ => rfl⟩, h.ltW⟩
theorem SRow.kept {V : Lot → Prop} {W W' : World} {g : Nat} {sp : List Value} {D : List Lot} (h : SRow V W g sp D W) {row : Option Nat} (hg : W.grownBy W' row) (hne : row ≠ some g) : SRow V W' g sp D W' :=
 ⟨(hg.block g h.lt (fun e => hne e.symm)).trans h.row, h.ok, ⟨rfl, rfl, rfl, Nat.le_refl _, fun _ _ _ => rfl⟩, Nat.lt_of_lt_of_le h.lt hg.size⟩
theorem SRow.stay {V : Lot → Prop} {W W' : World} {g : Nat} {sp : List Value} {D : List Lot} (h : SRow V W g sp D W) (hb : Below W.heap.size W W') : SRow V W' g sp D W' :=
 h.kept (row := none) ⟨hb.os, hb.tape, hb.output, hb.size, fun k hk _ => hb.block k hk⟩ (by simp)
theorem SRow.rdb {V : Lot → Prop} {w0 W : World} {g : Nat} {sp : List Value} {D : List Lot} (h : SRow V w0 g sp D W) : RdB' W.heap.size W (some ⟨g, 0, none⟩) D :=
 fun _ => ⟨_, rfl, h.ltW, fun j l hj => by rw [addr_add0]; exact h.at hj⟩
theorem own_grown {w w' : World} {base n : Nat} {v : Value} {xs : List Value} {row : Option Nat} (h : w.ownsRow base 49 7 v n xs) (hg : w.grownBy w' row) (hne : v.ownBlock = none ∨ v.ownBlock ≠ row) : w'.ownsRow base 49 7 v n xs := h.kept hg hne
theorem run_app_lot (w : World) (base : Nat) (v : Value) (n : Nat) (xs : List Value) (x : Lot) (B cB : Nat) (hown : w.ownsRow base 49 7 v n xs) (hx : LotBox w B x) (hn : n ≤ 100000) (hb : base ≤ w.heap.size) :
 ∃ v' w', (Builtin.append_ #[22, 22] 22 #[v, .slice (some ⟨B, 0, none⟩) 1 cB]).run Tryz.prog w = .ok v' w' ∧
  w'.ownsRow base 49 7 v' (n + 1) (xs ++ x.cells.toList) ∧ w.grownBy w' v.ownBlock ∧ ∀ g, g < w.heap.size → v.ownBlock ≠ some g → v'.ownBlock ≠ some g := by
 obtain ⟨i0, hi0, hz0, hz1, hz2⟩ := info_parts Tryz.infoLot
 obtain ⟨g', cap, w', h1, h2, h3, h4, _⟩ := run_append_lies (P := Tryz.prog) w 22 22 base 49 i0 _ 7 96 Tryz.underlying22 hi0 hz0 hz1 hz2 rfl (by decide) v n xs hown ⟨B, 0, none⟩ 1 cB x.cells.toList rfl (lotbox_src hx) (lotcells_one x) (by decide) (by unfold maxLen; omega) (by omega) hb w.heap.size rfl
 refine ⟨_, w', h1, h2, h3, fun g hg hne e => ?_⟩
 have e2 : g' = g := by simpa [Value.ownBlock] using e
 rcases h4 with h4 | h4
 ·exact hne (by rw [h4, e2])
 ·omega
theorem two_boxes (w : World) (a b : Lot) : ∃ W1 W2 W3 W4, w.alloc (.cells #[.string ⟨#[]⟩, .string ⟨#[]⟩, .int .i64 0, .int .i64 0, .string ⟨#[]⟩, .string ⟨#[]⟩, .string ⟨#[]⟩] 49) = W1 ∧ W1.alloc (.cells #[.string ⟨#[]⟩, .string ⟨#[]⟩, .int .i64 0, .int .i64 0, .string ⟨#[]⟩, .string ⟨#[]⟩, .string ⟨#[]⟩] 49) = W2 ∧
 (Instr.storeAt 49 (.pointer (some ⟨w.heap.size, 0, none⟩)) a.enc).run Tryz.prog W2 = .ok () W3 ∧ (Instr.storeAt 49 (.pointer (some ⟨W1.heap.size, 0, none⟩)) b.enc).run Tryz.prog W3 = .ok () W4 ∧ LotBox W4 w.heap.size a ∧ LotBox W4 W1.heap.size b ∧ Below w.heap.size w W4 ∧ W1.heap.size = w.heap.size + 1 := by
 obtain ⟨W1, hW1⟩ : ∃ W1, w.alloc (.cells #[.string ⟨#[]⟩, .string ⟨#[]⟩, .int .i64 0, .int .i64 0, .string ⟨#[]⟩, .string ⟨#[]⟩, .string ⟨#[]⟩] 49) = W1 := ⟨_, rfl⟩
 obtain ⟨W2, hW2⟩ : ∃ W2, W1.alloc (.cells #[.string ⟨#[]⟩, .string ⟨#[]⟩, .int .i64 0, .int .i64 0, .string ⟨#[]⟩, .string ⟨#[]⟩, .string ⟨#[]⟩] 49) = W2 := ⟨_, rfl⟩
 have hs : W1.heap.size = w.heap.size + 1 := by rw [← hW1, World.size_alloc]
 have hb1 : Below w.heap.size w W1 := by rw [← hW1]; exact (Below.refl _ w).alloc (Nat.le_refl _) _
 have hb2 : Below W1.heap.size W1 W2 := by rw [← hW2]; exact (Below.refl _ W1).alloc (Nat.le_refl _) _
 have k1 : W1.heap[w.heap.size]? = some (.cells #[.string ⟨#[]⟩, .string ⟨#[]⟩, .int .i64 0, .int .i64 0, .string ⟨#[]⟩, .string ⟨#[]⟩, .string ⟨#[]⟩] 49 (0, 0)) := by rw [← hW1]; exact heap_alloc_new w _
 have k1' := (hb2.block _ (by omega)).trans k1
 have k2 : W2.heap[W1.heap.size]? = some (.cells #[.string ⟨#[]⟩, .string ⟨#[]⟩, .int .i64 0, .int .i64 0, .string ⟨#[]⟩, .string ⟨#[]⟩, .string ⟨#[]⟩] 49 (0, 0)) := by rw [← hW2]; exact heap_alloc_new W1 _
 have r3 := run_store_row W2 w.heap.size 7 49 _ a.cells (by kernel_rfl) k1' rfl rfl (lotcells_one a)
 have k3 : (W2.setRow w.heap.size a.cells).heap[W1.heap.size]? = _ := (setRow_other _ _ _ _ (by omega)).trans k2
 have r4 := run_store_row (W2.setRow w.heap.size a.cells) W1.heap.size 7 49 _ b.cells (by kernel_rfl) k3 rfl rfl (lotcells_one b)
 refine ⟨W1, W2, _, _, hW1, hW2, r3, r4, ?_, ?_, ?_, hs⟩
 ·exact (setRow_other _ _ _ _ (by omega)).trans (setRow_heap _ _ _ _ _ _ k1')
 ·exact setRow_heap _ _ _ _ _ _ k3
 ·exact below_setRow (below_setRow (hb1.trans (hb2.mono hb1.size)) (Nat.le_refl _) _) (by omega) _
theorem flatV_one' (x : Lot) : flatV [x] = x.cells.toList := by rw [flatV_cons, flatV_nil, List.append_nil]
structure TkS (w : World) (lz : List Lot) (ps : List Pk) (k g : Nat) (v9 : Value) (W : World) : Prop where
 row : ∃ sp, SRow Lot.mid W g sp (restR lz (ps.take k)) W
 own : W.ownsRow w.heap.size 49 7 v9 k (flatV (takenR lz (ps.take k)))
 ne : v9.ownBlock ≠ some g
 be : Below w.heap.size w W
 ge : w.heap.size ≤ g
theorem TkS.below {w : World} {lz : List Lot} {ps : List Pk} {k g : Nat} {v9 : Value} {W W' : World} (h : TkS w lz ps k g v9 W) (hb : Below W.heap.size W W') : TkS w lz ps k g v9 W' := by
 obtain ⟨sp, hr⟩ := h.row
 exact ⟨⟨sp, hr.stay hb⟩, own_below h.own hb, h.ne, h.be.trans (hb.mono h.be.size), h.ge⟩
theorem run_clear_lots (w : World) (b o n c : Nat) (hc : ∀ j, j < n * 7 → (w.cell? ⟨b, o + j, none⟩).isSome = true) (hf : ∀ j, j < n * 7 → w.frozen? ⟨b, o + j, none⟩ = false) :
 ∃ zs : List Value, zs.length = n * 7 ∧ ∀ ty : TypeId, (Builtin.clear_ #[22] ty #[.slice (some ⟨b, o, none⟩) n c]).run Tryz.prog w = .ok (.tuple #[]) (w.setCells b o zs) := by
 obtain ⟨z, hz, hv⟩ := zeroLot_cells
 have e : z.cells = #[.string ⟨#[]⟩, .string ⟨#[]⟩, .int .i64 0, .int .i64 0, .string ⟨#[]⟩, .string ⟨#[]⟩, .string ⟨#[]⟩] := by
  apply Array.toList_inj.1
  rw [hz]
 obtain ⟨zs, hzs⟩ : ∃ zs, (Builtin.zeroCells z.cells n).toList = zs := ⟨_, rfl⟩
 have hl : zs.length = n * 7 := by rw [← hzs, e]; unfold Builtin.zeroCells; simp
 have h1 : ∀ u ∈ zs, u.oneCell' = true := by
  intro u hu
  rw [← hzs, e] at hu
  unfold Builtin.zeroCells at hu
  rw [Array.toList_map] at hu
  obtain ⟨i, _, rfl⟩ := List.mem_map.1 hu
  have hi : i % 7 < 7 := Nat.mod_lt _ (by decide)
  show (#[Value.string ⟨#[]⟩, .string ⟨#[]⟩, .int .i64 0, .int .i64 0, .string ⟨#[]⟩, .string ⟨#[]⟩, .string ⟨#[]⟩][i % 7]!).oneCell' = true
  generalize i % 7 = k at hi
  rcases (show k = 0 ∨ k = 1 ∨ k = 2 ∨ k = 3 ∨ k = 4 ∨ k = 5 ∨ k = 6 from by omega) with rfl | rfl | rfl | rfl | rfl | rfl | rfl <;> rfl
 refine ⟨zs, hl, fun ty => ?_⟩
 have hst := run_storeCells_cells (P := Tryz.prog) b o zs 0 w (by rw [hl]; simpa using hc) (by rw [hl]; simpa using hf) h1
 simp only [Nat.add_zero] at hst
 have ht : Tryz.prog.underlying 22 = some (.slice 49) := Tryz.underlying22
 cases n with
 | zero =>
   obtain rfl : zs = [] := List.eq_nil_of_length_eq_zero (by simpa using hl)
   have e0 : w.setCells b o [] = w := rfl
   simp [Builtin.clear_, run_underlying ht, e0]
 | succ n => simp [Builtin.clear_, run_underlying ht, hv, hzs, hst]
structure PrdS (V : Lot → Prop) (pf : Lot → Bool) (f : Nat) (bd : Array Value) (w0 : World) (g : Nat) : Prop where
 en : ∀ args w, (callFunc f args).run Tryz.prog w = .ok (.enter f args) w
 run : ∀ W, w0.grownBy W (some g) → ∀ a, V a → Calls Tryz.prog f (#[a.enc] ++ bd) W fun e w' => e = .returned (.bool (pf a)) ∧ Below W.heap.size W w'
def IdxL (pf : Lot → Bool) (D : List Lot) (z : Int) : Prop := (∃ (k : Nat) (x : Lot), z = (k : Int) ∧ D[k]? = some x ∧ pf x = true ∧ ∀ y ∈ D.take k, pf y = false) ∨ (z = -1 ∧ ∀ y ∈ D, pf y = false)
theorem idxS_any (V : Lot → Prop) (pf : Lot → Bool) (f : Nat) (bd : Array Value) (w0 : World) (g N c : Nat) (sp : List Value) (D : List Lot) (hN : D.length = N) (hm : N ≤ 1000000) (w : World) (hrow : SRow V w0 g sp D w) (hp : PrdS V pf f bd w0 g) :
 Calls Tryz.prog 85 #[.slice (some ⟨g, 0, none⟩) N c, .func (.func f) #[] bd] w fun e w' => (∃ z : Int, e = .returned (.int .i64 z) ∧ IdxL pf D z) ∧ Below w.heap.size w w' := by
 obtain ⟨ad, had⟩ : ∃ ad : Addr, ad = ⟨g, 0, none⟩ := ⟨_, rfl⟩
 rw [← had]
 have HAD := hI had
 have HROW := hI hrow
 have HNN := hI hN
 have HC := hI hp
 have hen := hp.en
 clear had hrow hN hp
 go_enter Tryz.func85, Tryz.ntmps85
 go_wp2_with fail
 go_loopw [5, 8] (fun _ v wr => ∃ k : Nat, v = .int .i64 (k : Int) ∧ k ≤ N ∧ (∀ x ∈ D.take k, pf x = false) ∧ Below w.heap.size w wr) (fun _ v _ => N - (intOf v).toNat)
 case atStart => exact ⟨0, rfl, by omega, fun p hp => by simp at hp, Below.refl _ _⟩
 case round =>
  obtain ⟨k, rfl, hk, hno, hb⟩ := hrel
  have HNO := hI hno
  have HB := hI hb
  clear hno hb
  rcases Nat.lt_or_ge k N with hlt | hge
  ·obtain ⟨p, hp⟩ : ∃ p, D[k]? = some p := ⟨_, List.getElem?_eq_getElem (by rw [HNN.out]; exact hlt)⟩
   have hcx : decide ((k : Int) < (N : Int)) = true := by simp; omega
   have hrw := HROW.out.below HB.out
   obtain ⟨c0, c1, c2, c3, c4, c5, c6⟩ := hrw.at' HAD.out hp
   have HTK := hI (take_snoc hp)
   have HP := hI hp
   have hcl := HC.out.run _ hrw.gr p (HROW.out.ok p (List.mem_of_getElem? hp))
   unfold Lot.enc Lot.cells at hcl
   have HCL := hI hcl
   clear hp hcl hrw
   go_wp2_with fail
   refine HCL.out.mono ?_
   rintro e w1 ⟨rfl, b1⟩
   have HB1 := hI (HB.out.trans (b1.mono HB.out.size))
   clear b1 HCL c0 c1 c2 c3 c4 c5 c6
   cases hpp : pf p
   case true =>
    have HF : Hid (IdxL pf D (k : Int)) := .inl ⟨k, p, rfl, HP.out, hpp, HNO.out⟩
    clear hpp
    go_wp2_with fail
    go_ret
    exact ⟨⟨_, rfl, HF.out⟩, HB1.out⟩
   case false =>
    have HE := hI hpp
    clear hpp
    go_wp2_with fail
    go_roundw
    case rel =>
     refine ⟨k + 1, by go_num, by omega, fun x hx => ?_, HB1.out⟩
     rw [HTK.out, List.mem_append] at hx
     rcases hx with hx | hx
     ·exact HNO.out x hx
     ·rw [List.mem_singleton] at hx; subst hx; exact HE.out
    case measure => simp [intOf]; omega
  ·have hcx : decide ((k : Int) < (N : Int)) = false := by simp; omega
   have HF : Hid (IdxL pf D (-1)) := .inr ⟨rfl, fun x hx => HNO.out x (by rw [List.take_of_length_le (by rw [HNN.out]; exact hge)]; exact hx)⟩
   go_wp2_with fail
   go_ret
   exact ⟨⟨_, rfl, HF.out⟩, HB.out⟩
theorem idxS_none (A : Option Addr) (c : Nat) (fv : Value) (w : World) :
 Calls Tryz.prog 85 #[.slice A 0 c, fv] w fun e w' => e = .returned (.int .i64 (-1)) ∧ w' = w := by
 go_enter Tryz.func85, Tryz.ntmps85
 go_wp2_with fail
 go_loopw [5, 8] (fun _ v wr => v = .int .i64 0 ∧ wr = w) (fun _ _ _ => 0)
 case atStart => exact ⟨rfl, rfl⟩
 case round =>
  obtain ⟨rfl, rfl⟩ := hrel
  go_wp2_with fail
  go_ret
  exact ⟨rfl, rfl⟩
structure KeptD (pf : Lot → Bool) (D0 : List Lot) (i j : Nat) (D : List Lot) : Prop where
 len : D.length = D0.length
 lt : i < j
 le : j ≤ D0.length
 fr : D.take i = (D0.take j).filter fun x => !pf x
 bk : ∀ k, j ≤ k → D[k]? = D0[k]?
theorem KeptD.start {pf : Lot → Bool} {D0 : List Lot} {k : Nat} {x : Lot} (hx : D0[k]? = some x) (hp : pf x = true) (ha : ∀ y ∈ D0.take k, pf y = false) : KeptD pf D0 k (k + 1) D0 := by
 have hk := (List.getElem?_eq_some_iff.1 hx).1
 refine ⟨rfl, Nat.lt_succ_self k, hk, ?_, fun _ _ => rfl⟩
 rw [take_snoc hx, List.filter_append, List.filter_eq_self.2 (fun y hy => by rw [ha y hy]; rfl)]
 simp [hp]
theorem KeptD.skip {pf : Lot → Bool} {D0 D : List Lot} {i j : Nat} {x : Lot} (h : KeptD pf D0 i j D) (hx : D0[j]? = some x) (hp : pf x = true) : KeptD pf D0 i (j + 1) D := by
 have hk := (List.getElem?_eq_some_iff.1 hx).1
 refine ⟨h.len, by have := h.lt; omega, hk, ?_, fun k hk => h.bk k (by omega)⟩
 rw [take_snoc hx, List.filter_append, h.fr]
 simp [hp]
theorem KeptD.keep {pf : Lot → Bool} {D0 D : List Lot} {i j : Nat} {x : Lot} (h : KeptD pf D0 i j D) (hx : D0[j]? = some x) (hp : pf x = false) : KeptD pf D0 (i + 1) (j + 1) (D.set i x) := by
 have hk := (List.getElem?_eq_some_iff.1 hx).1
 have hi : i < D.length := by rw [h.len]; have := h.lt; omega
 refine ⟨by rw [List.length_set, h.len], by have := h.lt; omega, hk, ?_, fun k hk => ?_⟩
 ·have e : (D.set i x)[i]? = some x := by rw [List.getElem?_set_self hi]
  rw [take_snoc e, take_snoc hx, List.filter_append, ← h.fr, List.take_set_of_le (Nat.le_refl _)]
  simp [hp]
 ·rw [List.getElem?_set_ne (by have := h.lt; omega)]; exact h.bk k (by omega)
theorem KeptD.done {pf : Lot → Bool} {D0 D : List Lot} {i : Nat} (h : KeptD pf D0 i D0.length D) : D.take i = D0.filter fun x => !pf x := by rw [h.fr, List.take_of_length_le (Nat.le_refl _)]
theorem KeptD.num {pf : Lot → Bool} {D0 D : List Lot} {i : Nat} (h : KeptD pf D0 i D0.length D) : (D0.filter fun x => !pf x).length = i := by rw [← h.done, List.length_take, h.len]; have := h.lt; omega
theorem delF_any (V : Lot → Prop) (pf : Lot → Bool) (f : Nat) (bd : Array Value) (w0 : World) (g N c : Nat) (sp : List Value) (D0 R : List Lot) (hF : (D0.filter fun x => !pf x) = R) (hN : D0.length = N) (hm : N ≤ 1000000) (hc : N ≤ c) (w : World) (hrow : SRow V w0 g sp D0 w) (hp : PrdS V pf f bd w0 g) :
 Calls Tryz.prog 63 #[.slice (some ⟨g, 0, none⟩) N c, .func (.func f) #[] bd] w fun e w' => ∃ sp', e = .returned (.slice (some ⟨g, 0, none⟩) R.length c) ∧ SRow V w0 g sp' R w' := by
 obtain ⟨ad, had⟩ : ∃ ad : Addr, ad = ⟨g, 0, none⟩ := ⟨_, rfl⟩
 have hix := idxS_any V pf f bd w0 g N c sp D0 hN hm w hrow hp
 rw [← had] at hix ⊢
 have HIX := hI hix
 have HAD := hI had
 have HROW := hI hrow
 have HNN := hI hN
 have HC := hI hp
 have HFF := hI hF
 have hen := hp.en
 obtain ⟨M, hM⟩ : ∃ M, R.length = M := ⟨_, rfl⟩
 rw [hM]
 have HM := hI hM
 clear had hrow hN hp hix hF hM
 go_enter Tryz.func63, Tryz.ntmps63
 go_wp2_with fail
 refine HIX.out.mono ?_
 rintro e w1 ⟨⟨z, rfl, hz⟩, b1⟩
 have HR1 := hI (HROW.out.below b1)
 clear b1 HIX HROW
 rcases hz with ⟨k, x, rfl, hk, hx, hno⟩ | ⟨rfl, hno⟩
 case inr =>
  have hf : R = D0 := HFF.out.symm.trans (List.filter_eq_self.2 (fun y hy => by rw [hno y hy]; rfl))
  have HE : Hid (M = N) := by rw [Hid, ← HM.out, hf]; exact HNN.out
  have HRE : Hid (SRow V w0 g sp R w1) := by rw [hf]; exact HR1.out
  have t1 : ((-1 : Int) == (-1 : Int)) = true := rfl
  clear hno hf
  go_wp2_with fail
  go_ret
  exact ⟨sp, by rw [HE.out]; rfl, HRE.out⟩
 have HK0 := hI (KeptD.start hk hx hno)
 have hkl : k < N := by rw [← HNN.out]; exact (List.getElem?_eq_some_iff.1 hk).1
 have t1 : ((k : Int) == (-1 : Int)) = false := beq_eq_false_iff_ne.2 (by omega)
 clear hk hx hno
 go_wp2_with fail
 clear t1
 go_loopw [5, 6] (fun v u wr => ∃ (i j : Nat) (D : List Lot), v = .int .i64 (i : Int) ∧ u = .int .i64 (j : Int) ∧ KeptD pf D0 i j D ∧ SRow V w0 g sp D wr) (fun _ u _ => N - (intOf u).toNat)
 case atStart => exact ⟨k, k + 1, D0, rfl, by go_num, HK0.out, HR1.out⟩
 case round =>
  obtain ⟨i, j, D, rfl, rfl, hkd, hr⟩ := hrel
  have HKD := hI hkd
  have HR := hI hr
  have hjl := hkd.le
  have hij := hkd.lt
  have hdl := hkd.len
  rw [HNN.out] at hjl hdl
  clear hkd hr HK0 HR1
  have hil : (i : Int) < (N : Int) := by omega
  have hil2 : i < N := by omega
  rcases Nat.lt_or_ge j N with hlt | hge
  ·obtain ⟨y, hy⟩ : ∃ y, D0[j]? = some y := ⟨_, List.getElem?_eq_getElem (by rw [HNN.out]; exact hlt)⟩
   have hcx : decide ((j : Int) < (N : Int)) = true := by simp; omega
   have HY0 := hI hy
   have HY : Hid (D[j]? = some y) := (HKD.out.bk j (Nat.le_refl _)).trans hy
   obtain ⟨z, hz⟩ : ∃ z, D[i]? = some z := ⟨_, List.getElem?_eq_getElem (by rw [hdl]; exact hil2)⟩
   have HZ := hI hz
   obtain ⟨c0, c1, c2, c3, c4, c5, c6⟩ := HR.out.at' HAD.out HY.out
   obtain ⟨W5, hW5, b5, k5⟩ := lbox y wr
   have HR5 := hI (HR.out.below b5)
   have HB5 : Hid (LotBox W5 wr.heap.size y) := k5
   have d0 := Lib.cell_of_heap k5 0; have d1 := Lib.cell_of_heap k5 1; have d2 := Lib.cell_of_heap k5 2; have d3 := Lib.cell_of_heap k5 3; have d4 := Lib.cell_of_heap k5 4; have d5 := Lib.cell_of_heap k5 5; have d6 := Lib.cell_of_heap k5 6
   simp [Lot.cells] at d0 d1 d2 d3 d4 d5 d6
   have hcl := fun W (h : SRow V w0 g sp D W) => HC.out.run W h.gr y (h.ok y (List.mem_of_getElem? HY.out))
   unfold Lot.enc Lot.cells at hcl
   have HCL := hI hcl
   unfold Lot.cells at hW5
   clear hcl b5 k5 hy hz hdl
   go_wp2_with fail
   refine (HCL.out _ HR5.out).mono ?_
   rintro e w2 ⟨rfl, b2⟩
   have HR2 := hI (HR5.out.below b2)
   have HB2 := hI (HB5.out.below b2)
   clear b2 HCL c0 c1 c2 c3 c4 c5 c6 d0 d1 d2 d3 d4 d5 d6 hW5 HR5 HB5
   cases hpp : pf y
   case true =>
    have HKN := hI (HKD.out.skip HY0.out hpp)
    clear hpp
    go_wp2_with fail
    go_roundw
    case rel => exact ⟨i, j + 1, D, rfl, by go_num, HKN.out, HR2.out⟩
    case measure => simp [intOf]; omega
   case false =>
    have HKN := hI (HKD.out.keep HY0.out hpp)
    obtain ⟨wn, hrun, hrow⟩ := HR2.out.st HAD.out HZ.out (HR2.out.ok y (List.mem_of_getElem? HY.out))
    have HRN := hI hrow
    have x0 := Lib.cell_of_heap HB2.out 0
    have x1 := Lib.cell_of_heap HB2.out 1
    have x2 := Lib.cell_of_heap HB2.out 2
    have x3 := Lib.cell_of_heap HB2.out 3
    have x4 := Lib.cell_of_heap HB2.out 4
    have x5 := Lib.cell_of_heap HB2.out 5
    have x6 := Lib.cell_of_heap HB2.out 6
    simp [Lot.cells] at x0 x1 x2 x3 x4 x5 x6
    clear hpp hrow
    go_wp2_with (refine wpList_store_run hrun rfl _ _ rfl rfl rfl ?_)
    go_roundw
    case rel => exact ⟨i + 1, j + 1, D.set i y, by go_num, by go_num, HKN.out, HRN.out⟩
    case measure => simp [intOf]; omega
  ·have hjN : j = N := by omega
   have hkd := HKD.out
   rw [hjN, ← HNN.out] at hkd
   have hM : M = i := by rw [← HM.out, ← HFF.out]; exact hkd.num
   have hR : D.take i = R := by rw [← HFF.out]; exact hkd.done
   subst hM
   have hcx : decide ((j : Int) < (N : Int)) = false := by simp; omega
   have hpl : (flatV (D.take M)).length = M * 7 := by rw [flatV_len, List.length_take, hdl, Nat.min_eq_left (by omega)]
   have hql : (flatV (D.drop M)).length = (N - M) * 7 := by rw [flatV_len, List.length_drop, hdl]
   have hrow := HR.out.row
   have e1 : flatV D = flatV (D.take M) ++ flatV (D.drop M) := by rw [← flatV_append, List.take_append_drop]
   rw [e1, List.append_assoc] at hrow
   obtain ⟨zs, hzl, hcl0⟩ := run_clear_lots wr g (M * 7) (N - M) (c - M)
    (fun t ht => by rw [Lib.cell_of_heap hrow (M * 7 + t), List.getElem?_toArray, List.getElem?_append_right (by omega), List.getElem?_append_left (by omega), List.getElem?_eq_getElem (by omega)]; rfl)
    (fun t ht => Lib.frozen_of_heap hrow _)
   have hrow2 := heap_setCells_mid zs wr g (M * 7) (flatV (D.take M)) (flatV (D.drop M)) sp _ hrow hpl (by rw [hql, hzl])
   obtain ⟨W2, hW2⟩ : ∃ W2, wr.setCells g (M * 7) zs = W2 := ⟨_, rfl⟩
   have hg2 : wr.grownBy W2 (some g) := by rw [← hW2]; exact grown_setCells _ _ _ _
   rw [hW2] at hrow2 hcl0
   have hgr := HR.out.gr
   have hfin : SRow V w0 g (zs ++ sp) R W2 := by
    refine ⟨?_, fun y hy => HR.out.ok y (List.mem_of_mem_take (by rw [hR]; exact hy)), ⟨hg2.os.trans hgr.os, hg2.tape.trans hgr.tape, hg2.output.trans hgr.output, Nat.le_trans hgr.size hg2.size, fun k hk hne => (hg2.block k (Nat.lt_of_lt_of_le hk hgr.size) hne).trans (hgr.block k hk hne)⟩, HR.out.lt⟩
    rw [← hR]
    exact hrow2
   have HFIN := hI hfin
   have hcl : ∀ ty, (Builtin.clear_ #[22] ty #[.slice (some ⟨g, M * 7, none⟩) (N - M) (c - M)]).run Tryz.prog wr = .ok (.tuple #[]) W2 := hcl0
   have hs1 : ∀ W, (Instr.sliceAt 22 (.slice (some ad) N c) (some (.int .i64 (M : Int))) none none).run Tryz.prog W = .ok (.slice (some ⟨g, M * 7, none⟩) (N - M) (c - M)) W := fun W => by
    rw [lslice_hi W ad N c M (by omega), if_neg (by omega), adk HAD.out]
   have hs2 : ∀ W, (Instr.sliceAt 22 (.slice (some ad) N c) none (some (.int .i64 (M : Int))) none).run Tryz.prog W = .ok (.slice (some ad) M c) W := fun W => lslice_lo W ad N c M (by omega)
   clear hkd hR hpl hql hrow e1 hzl hrow2 hW2 hg2 hgr hfin hcl0 hdl
   go_wp2_with fail
   go_ret
   exact ⟨_, rfl, HFIN.out⟩
theorem Take20_any (n₀ : Nat) (A : Option Addr) (ls : List SLot) (c : Nat) (hc : ls.length ≤ c) (hlen : ls.length ≤ 10000) (hti : ∀ l ∈ ls, l.1.tiny) (Ap : Option Addr) (ps : List Pk) (cp : Nat) (hpl : ps.length ≤ 10000) (hcp : ps.length ≤ cp) (hps : ∀ p ∈ ps, p.qty.size ≤ 1000) (h13 : posE (ls.map Subtype.val) none [] ps = 0 → ∀ p ∈ ps, p.qty.size ≤ 13) (w : World)
 (hR : RdB n₀ w A ls) (hn : n₀ ≤ w.heap.size) (hA : A = none → ls.length = 0 ∧ c = 0) (hK : RdK n₀ w Ap ps) (ht : Tabs w) :
 Calls Tryz.prog 20 #[.slice A ls.length c, .slice Ap ps.length cp] w (TakPost w (ls.map Subtype.val) ps) := by
 obtain ⟨lz, hlz⟩ : ∃ lz, ls.map Subtype.val = lz := ⟨_, rfl⟩
 have hlzn : lz.length = ls.length := by rw [← hlz, List.length_map]
 have htz : ∀ l ∈ lz, l.tiny := fun l hl => by rw [← hlz] at hl; obtain ⟨y, hy, rfl⟩ := List.mem_map.1 hl; exact hti y hy
 have HCA := hI (lCheckAll_any A c (ls.map Subtype.val) (by rw [List.length_map]; exact hc) (by rw [List.length_map]; omega) w ((hR.rdb').rdl hn) (fun l hl => by obtain ⟨y, _, rfl⟩ := List.mem_map.1 hl; exact y.2) ht)
 have HPO := fun W (hW : Below w.heap.size w W) => possible_any n₀ A ls c (by omega) none (.pointer none) Ap ps cp hpl hcp hps W (hR.below (hW.mono hn)) (Nat.le_trans hn hW.size) (hK.below (hW.mono hn)) (.inl ⟨rfl, rfl⟩)
 have HCL := fun W (hW : Below w.heap.size w W) => cloneLots_own A ls c n₀ W (hR.below (hW.mono hn)) (Nat.le_trans hn hW.size) (by omega) hA
 have hfl : flatL ls = flatV lz := by rw [← hlz, flatV_val]
 rw [hfl] at HCL
 rw [List.length_map] at HCA
 rw [hlz] at HCA HPO h13 ⊢
 obtain ⟨N, hN⟩ : ∃ N, ls.length = N := ⟨_, rfl⟩
 obtain ⟨P, hP⟩ : ∃ P, ps.length = P := ⟨_, rfl⟩
 rw [hN] at HCA HPO HCL hlzn ⊢
 rw [hP] at HPO ⊢
 replace HPO := hI HPO
 replace HCL := hI HCL
 have HKP := hI hK
 have HNn := hI hn
 have HT := hI ht
 have HTZ := hI htz
 have H13 := hI h13
 have HPZ := hI hps
 have HLN := hI hlzn
 have HP := hI hP
 have hPl : P ≤ 10000 := by omega
 have hNl : N ≤ 10000 := by omega
 clear hR hn hA hK ht hti htz hc hlen hpl hcp h13 hlz hlzn hfl hps hN hP
 go_enter Tryz.func20, Tryz.ntmps20
 go_wp2_with fail
 refine HCA.out.mono ?_
 rintro e w1 ⟨rfl, b1⟩
 have HB1 := hI b1
 clear b1 HCA
 by_cases h0 : lall lz = 0
 case neg =>
  have t1 : (lall lz == 0) = false := beq_eq_false_iff_ne.2 h0
  have t2 : (lall lz != 0) = true := by rw [bne, t1]; rfl
  have HE := hI (takE_all h0 ps)
  clear h0
  go_wp2_with fail
  go_ret3
  exact takPost_no HE.out (by decide) HB1.out
 have H0 := hI h0
 rw [h0]
 clear h0
 have HPOS := hI (HPO.out w1 HB1.out)
 clear HPO
 go_wp2_with fail
 refine HPOS.out.mono ?_
 rintro e w2 ⟨rfl, b2⟩
 have HB2 := hI (HB1.out.trans (b2.mono HB1.out.size))
 clear b2 HPOS HB1
 by_cases hpo : posE lz none [] ps = 0
 case neg =>
  have HE := hI (And.intro (takE_pos H0.out ps) hpo)
  generalize posE lz none [] ps = z at hpo HE ⊢
  have t1 : (z == 0) = false := beq_eq_false_iff_ne.2 hpo
  have t2 : (z != 0) = true := by rw [bne, t1]; rfl
  clear hpo
  go_wp2_with fail
  go_ret3
  exact takPost_no HE.out.1 HE.out.2 HB2.out
 have HE : Hid (takE lz ps = 0) := (takE_pos H0.out ps).trans hpo
 have HOK := hI ((posE_zero lz none ps []).1 hpo).2
 have HQ13 := hI (H13.out hpo)
 rw [hpo]
 clear hpo H13
 have HCLC := hI (HCL.out w2 HB2.out)
 clear HCL
 go_wp2_with fail
 refine HCLC.out.mono ?_
 rintro e w3 ⟨v, rfl, hown, b3⟩
 have HB3 := hI (HB2.out.trans (b3.mono HB2.out.size))
 have HOWN := hI (own_mono hown HB2.out.size)
 clear hown b3 HCLC HB2
 have hall := (lall_zero lz).1 H0.out
 have HALL := hI hall
 rcases Nat.eq_zero_or_pos P with hp0 | hpp
 ·subst hp0
  have HPS : Hid (ps = []) := List.eq_nil_of_length_eq_zero HP.out
  have hfin : TakPost w lz ps (.returned (.tuple #[v, .slice none 0 0, .int .i64 0])) w3 := by
   obtain ⟨sl, hsl⟩ := sl_of lz (fun l hl => (HTZ.out l hl).sized)
   have hln : sl.length = N := by rw [← HLN.out, ← hsl, List.length_map]
   have ho := HOWN.out
   rw [← hsl, flatV_val, ← hln] at ho
   have hnil : ∀ A1 c1, v = .slice A1 sl.length c1 → A1 = none → sl.length = 0 ∧ c1 = 0 := fun A1 c1 hv h1 => by
    rcases ho.2 with ⟨h, h2⟩ | ⟨g, cap, cur, h, _⟩
    ·rw [h] at hv; injection hv with _ _ h3; exact ⟨h2, h3.symm⟩
    ·rw [h] at hv; injection hv with h3 _ _; rw [h1] at h3; cases h3
   obtain ⟨A1, c1, rfl, hc1, _, hr1⟩ := RdB.of_own ho
   exact ⟨A1, c1, sl, none, 0, [], by rw [HE.out]; rfl, HB3.out, hr1, (fun e => absurd rfl e), hc1, Nat.le_refl _, hnil A1 c1 rfl, (fun _ => ⟨rfl, rfl⟩), (fun h => absurd HE.out h), fun _ => ⟨by rw [HPS.out, restR_nil, hsl], by rw [HPS.out]; rfl⟩⟩
  have HFIN := hI hfin
  clear hfin hall
  go_wp2_with fail
  refine wp_loop_rounds 1 ?_
  rw [rounds_succ]
  go_wp2_with fail
  go_ret3
  exact HFIN.out
 ·have hNp : 0 < N := by
   obtain ⟨p, hp⟩ : ∃ p, ps[0]? = some p := ⟨_, List.getElem?_eq_getElem (by rw [HP.out]; exact hpp)⟩
   obtain ⟨x, hx⟩ := HOK.out.ok p (List.mem_of_getElem? hp)
   have := (lotOf_mem hx.lot).1
   rw [← HLN.out]
   exact List.length_pos_of_mem this
  obtain ⟨g, cap, rfl, hbg, hgl⟩ := HOWN.out.form hNp
  have hcap : N ≤ cap ∧ cap ≤ maxLen ∧ ∃ sp, w3.heap[g]? = some (.cells (flatV lz ++ sp).toArray 49 (0, 0)) := by
   rcases HOWN.out.2 with ⟨h, _⟩ | ⟨g', cap', cur, h, _, hg, hnc, hcm, _, ht⟩
   ·simp at h
   ·simp at h
    obtain ⟨rfl, rfl⟩ := h
    refine ⟨hnc, hcm, cur.toList.drop (N * 7), ?_⟩
    rw [← ht, List.take_append_drop]
    exact hg
  obtain ⟨hcap1, hcap2, sp0, hrow0⟩ := hcap
  have hS0 : TkS w lz ps 0 g (.slice none 0 0) w3 := ⟨⟨sp0, by rw [List.take_zero, restR_nil]; exact ⟨hrow0, fun x hx => (HTZ.out x hx).mid, ⟨rfl, rfl, rfl, Nat.le_refl _, fun _ _ _ => rfl⟩, hgl⟩⟩, World.ownsRow_nil _ _ _ _, by simp [Value.ownBlock], HB3.out, hbg⟩
  have HS0 := hI hS0
  have HL0 : Hid ((restR lz (ps.take 0)).length = N) := by rw [Hid, List.take_zero, restR_nil, HLN.out]
  have hcapm : cap ≤ 9223372036854775807 := by unfold maxLen at hcap2; omega
  clear hall hbg hgl hcap2 hrow0 hS0 HOWN HB3
  go_wp2_with fail
  go_loopw [8, 9, 31] (fun v8 v9 v wr => ∃ (k M : Nat) (t9 : Value), t9 = v9 ∧ v = .int .i64 (k : Int) ∧ k ≤ P ∧ v8 = .slice (some ⟨g, 0, none⟩) M cap ∧ M ≤ cap ∧ M ≤ N ∧ (restR lz (ps.take k)).length = M ∧ TkS w lz ps k g t9 wr) (fun _ _ v _ => P - (intOf v).toNat)
  case atStart => exact ⟨0, N, _, rfl, rfl, Nat.zero_le _, rfl, hcap1, Nat.le_refl _, HL0.out, HS0.out⟩
  case round =>
   clear HS0 HL0 hcap1
   obtain ⟨k, M, t9, rfl, rfl, hkP, rfl, hMc, hMN, hlen, hS⟩ := hrel
   have HLEN := hI hlen
   have HS := hI hS
   clear hlen hS
   rcases Nat.lt_or_ge k P with hlt | hge
   ·obtain ⟨p, hp⟩ : ∃ p, ps[k]? = some p := ⟨_, List.getElem?_eq_getElem (by rw [HP.out]; exact hlt)⟩
    obtain ⟨ad, rfl, had, hcell⟩ := HKP.out (by intro e; rw [e] at hp; cases hp)
    have hcx : decide ((k : Int) < (P : Int)) = true := by simp; omega
    obtain ⟨c0, c1⟩ := (hcell k p hp).below (HS.out.be.mono HNn.out) (by rw [add_block]; exact had)
    have htk := take_snoc hp
    have hpm := List.mem_of_getElem? hp
    obtain ⟨x, hx⟩ := HOK.out.ok p hpm
    have hxm := (lotOf_mem hx.lot).1
    have hxo := lchk_zero.1 (HALL.out.ok x hxm)
    have hnin : p.lot ∉ (ps.take k).map Pk.lot := by
     have hd := HOK.out.nd
     have h2 : ps = ps.take k ++ p :: ps.drop (k + 1) := by
      obtain ⟨h1, h2⟩ := List.getElem?_eq_some_iff.1 hp
      rw [← h2, ← List.drop_eq_getElem_cons h1, List.take_append_drop]
     rw [h2, List.map_append, List.map_cons, List.nodup_append] at hd
     exact fun hm => hd.2.2 _ hm _ (List.mem_cons_self ..) rfl
    obtain ⟨Pr, Q, e1, e2, e3⟩ := restR_step HALL.out.nd hx.lot hnin
    have e4 := tknO_some hx.lot
    have HX := hI hx
    have HPM := hI hpm
    have HXO := hI hxo
    have HXT := hI (HTZ.out x hxm)
    have HTKN : Hid (takenR lz (ps.take (k + 1)) = takenR lz (ps.take k) ++ [tknO lz p]) := by rw [Hid, htk, takenR_snoc]
    have HE1 := hI e1
    have HE3 : Hid (restR lz (ps.take (k + 1)) = Pr ++ (if x.qty = p.qty then [] else [cutB x p.qty]) ++ Q) := by rw [Hid, htk]; exact e3
    have HE4 := hI e4
    obtain ⟨W5, hW5⟩ : ∃ W5, wr.alloc (.cells p.cells 43) = W5 := ⟨_, rfl⟩
    have b5 : Below wr.heap.size wr W5 := by rw [← hW5]; exact (Below.refl _ wr).alloc (Nat.le_refl _) _
    have k5 : PkBox W5 wr.heap.size p := by rw [← hW5]; exact heap_alloc_new wr _
    have HS5 := hI (HS.out.below b5)
    have HK5 := hI k5
    obtain ⟨sp5, hr5⟩ := HS5.out.row
    have hfi := lFind_any W5.heap.size (some ⟨g, 0, none⟩) (restR lz (ps.take k)) cap p.lot (by rw [HLEN.out]; omega) W5 hr5.rdb (Nat.le_refl _)
    rw [HLEN.out, e2] at hfi
    have HFI := hI hfi
    obtain ⟨i, hi⟩ : ∃ i, Pr.length = i := ⟨_, rfl⟩
    have hiM : i < M := by rw [← HLEN.out, e1, List.length_append, List.length_cons]; omega
    have HIX : Hid ((restR lz (ps.take k))[i]? = some x) := by rw [Hid, e1, ← hi, List.getElem?_append_right (Nat.le_refl _), Nat.sub_self]; rfl
    rw [hi] at HFI
    have HI := hI hi
    have d0 := Lib.cell_of_heap k5 0
    simp [Pk.cells] at d0
    clear b5 k5 hr5 hfi hcell hp htk hpm hx hxm hxo hnin e1 e2 e3 e4 had hi HS
    unfold Pk.cells at hW5
    go_wp2_with fail
    refine HFI.out.mono ?_
    rintro e w6 ⟨rfl, b6⟩
    have HS6 := hI (HS5.out.below b6)
    have HK6 := hI (HK5.out.below b6)
    clear b6 HS5 HK5 HFI d0 c0 c1
    obtain ⟨sp6, hr6⟩ := HS6.out.row
    obtain ⟨ad2, had2⟩ : ∃ ad2 : Addr, ad2 = ⟨g, 0, none⟩ := ⟨_, rfl⟩
    rw [← had2]
    obtain ⟨c0, c1, c2, c3, c4, c5, c6⟩ := hr6.at' had2 HIX.out
    obtain ⟨W7, hW7⟩ : ∃ W7, w6.alloc (.cells x.cells 49) = W7 := ⟨_, rfl⟩
    have b7 : Below w6.heap.size w6 W7 := by rw [← hW7]; exact (Below.refl _ w6).alloc (Nat.le_refl _) _
    have k7 : LotBox W7 w6.heap.size x := by rw [← hW7]; exact heap_alloc_new w6 _
    have HS7 := hI (HS6.out.below b7)
    have HK7 := hI (HK6.out.below b7)
    have HX7 := hI k7
    have p1 := Lib.cell_of_heap HK7.out 1
    have x0 := Lib.cell_of_heap k7 0
    have x1 := Lib.cell_of_heap k7 1
    have x2 := Lib.cell_of_heap k7 2
    have x3 := Lib.cell_of_heap k7 3
    have x4 := Lib.cell_of_heap k7 4
    have x5 := Lib.cell_of_heap k7 5
    have x6 := Lib.cell_of_heap k7 6
    simp [Pk.cells, Lot.cells] at p1 x0 x1 x2 x3 x4 x5 x6
    have HAD := hI had2
    have hse := str_eq x.qty p.qty
    clear b7 k7 hr6 had2 HS6 HK6
    unfold Lot.cells at hW7
    by_cases hq : x.qty = p.qty
    ·have t1 : (x.qty.toList == p.qty.toList) = true := by rw [hse]; exact decide_eq_true hq
     have HQ := hI hq
     clear hq hse
     obtain ⟨W8, hW8⟩ : ∃ W8, W7.alloc (.cells x.cells 49) = W8 := ⟨_, rfl⟩
     have b8 : Below W7.heap.size W7 W8 := by rw [← hW8]; exact (Below.refl _ W7).alloc (Nat.le_refl _) _
     have k8 : LotBox W8 W7.heap.size x := by rw [← hW8]; exact heap_alloc_new W7 _
     have hS8 := HS7.out.below b8
     obtain ⟨v9', w9, r9, o9, g9, l9⟩ := run_app_lot W8 w.heap.size _ k _ x W7.heap.size 1 hS8.own k8 (by omega) hS8.be.size
     obtain ⟨sp8, hr8⟩ := hS8.row
     have hr9 := hr8.kept g9 (fun e => hS8.ne e)
     have hb9 : Below w.heap.size w w9 := hS8.be.grown g9 hS8.be.size (fun k e => (hS8.own.lt k e).1)
     have hne9 := l9 g hr8.lt hS8.ne
     have HD := hI (delLots_any Lot.mid w9 g M cap i (i + 1) rfl sp8 _ HLEN.out hMc hcapm hiM w9 hr9)
     have HR9 : Hid (w9.ownsRow w.heap.size 49 7 v9' (k + 1) (flatV (takenR lz (ps.take (k + 1)))) ∧ v9'.ownBlock ≠ some g ∧ Below w.heap.size w w9 ∧ w.heap.size ≤ g) := by
      refine ⟨?_, hne9, hb9, hS8.ge⟩
      rw [HTKN.out, HE4.out, if_pos HQ.out, flatV_append, flatV_one']
      exact o9
     clear b8 k8 hS8 o9 g9 l9 hr8 hr9 hb9 hne9 HS7 HX7 HK7
     unfold Lot.cells at hW8
     rw [← HAD.out] at HD
     go_wp2_with (at_builtin; refine Lib.wpList_append_run _ rfl _ _ _ _ rfl _ _ rfl rfl _ _ r9 ?_)
     refine HD.out.mono ?_
     rintro e w10 ⟨rfl, sp', hr10⟩
     have hfin : (restR lz (ps.take (k + 1))).length = M - 1 ∧ TkS w lz ps (k + 1) g v9' w10 := by
      obtain ⟨q1, q2, q3, q4⟩ := HR9.out
      have hD : (restR lz (ps.take k)).take i ++ (restR lz (ps.take k)).drop (i + 1) = restR lz (ps.take (k + 1)) := by
       rw [HE3.out, if_pos HQ.out, HE1.out, ← HI.out, List.take_left, show Pr ++ x :: Q = (Pr ++ [x]) ++ Q from by simp, show Pr.length + 1 = (Pr ++ [x]).length from by simp, List.drop_left]
       simp
      rw [hD] at hr10
      refine ⟨?_, ⟨⟨sp', hr10.self⟩, own_grown q1 hr10.gr (.inr q2), q2, q3.grown hr10.gr q3.size (fun k e => by injection e with e; rw [← e]; exact q4), q4⟩⟩
      have h1 := HLEN.out
      rw [HE1.out, List.length_append, List.length_cons] at h1
      rw [HE3.out, if_pos HQ.out, List.length_append, List.length_append]
      simp; omega
     have HFIN := hI hfin
     clear hr10 hfin HD r9 HR9 c0 c1 c2 c3 c4 c5 c6 p1 x0 x1 x2 x3 x4 x5 x6
     rw [HAD.out]
     go_wp2_with fail
     go_roundw
     case rel => exact ⟨k + 1, M - 1, _, rfl, by go_num, by omega, rfl, by omega, by omega, HFIN.out.1, HFIN.out.2⟩
     case measure => simp [intOf]; omega
    ·have t1 : (x.qty.toList == p.qty.toList) = false := by rw [hse]; exact decide_eq_false hq
     have hlt2 := pk_lt HXO.out HX.out hq
     have HQ := hI hq
     have hsz2 := cut_sizes HXT.out HXO.out (HQ13.out p HPM.out) HX.out.pos hlt2
     obtain ⟨LA, hLA⟩ : ∃ LA, cutA x p.qty = LA := ⟨_, rfl⟩
     obtain ⟨LB, hLB⟩ : ∃ LB, cutB x p.qty = LB := ⟨_, rfl⟩
     have hcut := lCut_ok x p.qty HXT.out.sized HXO.out HX.out.can (HPZ.out p HPM.out) HX.out.pos hlt2 W7 (HT.out.below HS7.out.be)
     rw [hLA, hLB] at hcut hsz2
     have HSZ2 := hI hsz2
     have HLA : Hid (tknO lz p = LA) := by rw [Hid, HE4.out, if_neg HQ.out, hLA]
     have HLB : Hid (restR lz (ps.take (k + 1)) = Pr ++ [LB] ++ Q) := by rw [Hid, HE3.out, if_neg HQ.out, hLB]
     unfold Lot.enc Lot.cells at hcut
     have HCUT := hI hcut
     clear hq hse hlt2 hsz2 hcut hLA hLB
     go_wp2_with fail
     refine HCUT.out.mono ?_
     rintro e w8 ⟨rfl, b8⟩
     have HS8 := hI (HS7.out.below b8)
     clear b8 HCUT HS7 HX7 HK7 c0 c1 c2 c3 c4 c5 c6 p1 x0 x1 x2 x3 x4 x5 x6
     obtain ⟨W9, W10, W11, W12, hW9, hW10, r11, r12, kA, kB, b12, hz9⟩ := two_boxes w8 LA LB
     obtain ⟨z9, hz⟩ : ∃ z9, W9.heap.size = z9 := ⟨_, rfl⟩
     rw [hz] at r12 kB hz9
     have hS12 := HS8.out.below b12
     have a0 := Lib.cell_of_heap kA 0
     have a1 := Lib.cell_of_heap kA 1
     have a2 := Lib.cell_of_heap kA 2
     have a3 := Lib.cell_of_heap kA 3
     have a4 := Lib.cell_of_heap kA 4
     have a5 := Lib.cell_of_heap kA 5
     have a6 := Lib.cell_of_heap kA 6
     simp [Lot.cells] at a0 a1 a2 a3 a4 a5 a6
     obtain ⟨W13, hW13⟩ : ∃ W13, W12.alloc (.cells LA.cells 49) = W13 := ⟨_, rfl⟩
     have b13 : Below W12.heap.size W12 W13 := by rw [← hW13]; exact (Below.refl _ W12).alloc (Nat.le_refl _) _
     have k13 : LotBox W13 W12.heap.size LA := by rw [← hW13]; exact heap_alloc_new W12 _
     have hS13 := hS12.below b13
     obtain ⟨v9', w14, r14, o14, g14, l14⟩ := run_app_lot W13 w.heap.size _ k _ LA W12.heap.size 1 hS13.own k13 (by omega) hS13.be.size
     obtain ⟨sp13, hr13⟩ := hS13.row
     have hr14 := hr13.kept g14 (fun e => hS13.ne e)
     have hb14 : Below w.heap.size w w14 := hS13.be.grown g14 hS13.be.size (fun k e => (hS13.own.lt k e).1)
     have hne14 := l14 g hr13.lt hS13.ne
     have kB14 : LotBox w14 z9 LB := by
      have hzl := kB.lt
      have h1 : W13.heap[z9]? = some (.cells LB.cells 49 (0, 0)) := (b13.block z9 hzl).trans kB
      refine (g14.block z9 (Nat.lt_of_lt_of_le hzl b13.size) (fun e => ?_)).trans h1
      have := (HS8.out.own.lt _ e.symm).2
      omega
     have y0 := Lib.cell_of_heap kB14 0
     have y1 := Lib.cell_of_heap kB14 1
     have y2 := Lib.cell_of_heap kB14 2
     have y3 := Lib.cell_of_heap kB14 3
     have y4 := Lib.cell_of_heap kB14 4
     have y5 := Lib.cell_of_heap kB14 5
     have y6 := Lib.cell_of_heap kB14 6
     simp [Lot.cells] at y0 y1 y2 y3 y4 y5 y6
     obtain ⟨w15, r15, hr15⟩ := hr14.st HAD.out HIX.out HSZ2.out.2
     have hfin : (restR lz (ps.take (k + 1))).length = M ∧ TkS w lz ps (k + 1) g v9' w15 := by
      have hD : (restR lz (ps.take k)).set i LB = restR lz (ps.take (k + 1)) := by
       rw [HLB.out, HE1.out, ← HI.out, List.set_append_right _ _ (Nat.le_refl _), Nat.sub_self]
       simp
      have hl : (restR lz (ps.take (k + 1))).length = M := by rw [← hD, List.length_set]; exact HLEN.out
      rw [hD] at hr15
      refine ⟨hl, ⟨⟨_, hr15.self⟩, own_grown ?_ hr15.gr (.inr hne14), hne14, hb14.grown hr15.gr hb14.size (fun k e => by injection e with e; rw [← e]; exact hS13.ge), hS13.ge⟩⟩
      rw [HTKN.out, HLA.out, flatV_append, flatV_one']
      exact o14
     have HFIN := hI hfin
     clear hS12 hS13 b12 b13 k13 kA kB kB14 o14 g14 l14 hr13 hr14 hb14 hne14 hr15 hfin HS8 hz9
     unfold Lot.enc Lot.cells at r11 r12
     unfold Lot.cells at hW13
     go_wp2_with (first | (at_builtin; refine Lib.wpList_append_run _ rfl _ _ _ _ rfl _ _ rfl rfl _ _ r14 ?_) | (refine wpList_store_run r11 rfl _ _ rfl rfl rfl ?_) | (refine wpList_store_run r12 rfl _ _ rfl rfl rfl ?_) | (refine wpList_store_run r15 rfl _ _ rfl rfl rfl ?_))
     clear r11 r12 r14 r15 a0 a1 a2 a3 a4 a5 a6 y0 y1 y2 y3 y4 y5 y6
     try rw [HAD.out]
     go_roundw
     case rel => exact ⟨k + 1, M, _, rfl, by go_num, by omega, rfl, by omega, by omega, HFIN.out.1, HFIN.out.2⟩
     case measure => simp [intOf]; omega
   ·have hcx : decide ((k : Int) < (P : Int)) = false := by simp; omega
    have hfin : TakPost w lz ps (.returned (.tuple #[.slice (some ⟨g, 0, none⟩) M cap, t9, .int .i64 0])) wr := by
     have hkp : ps.take k = ps := List.take_of_length_le (by rw [HP.out]; exact hge)
     obtain ⟨⟨sp, hr⟩, ho, hne, hbe, hgg⟩ := HS.out
     have hl := HLEN.out
     rw [hkp] at hr ho hl
     obtain ⟨s1, hs1⟩ := sl_of (restR lz ps) (fun l hl => (hr.ok l hl).sized)
     obtain ⟨s2, hs2⟩ := sl_of (takenR lz ps) (fun l hl => (taken_mid HALL.out HTZ.out HOK.out HQ13.out hl).sized)
     have hl1 : s1.length = M := by rw [← hl, ← hs1, List.length_map]
     have hl2 : s2.length = k := by
      have h : (takenR lz ps).length = ps.length := by unfold takenR; rw [List.length_map]
      rw [← hs2, List.length_map] at h
      have := HP.out
      omega
     rw [← hs2, flatV_val, ← hl2] at ho
     have hnil : ∀ A1 c1, t9 = .slice A1 s2.length c1 → A1 = none → s2.length = 0 ∧ c1 = 0 := fun A1 c1 hv h1 => by
      rcases ho.2 with ⟨h, h2⟩ | ⟨g, cap, cur, h, _⟩
      ·rw [h] at hv; injection hv with _ _ h3; exact ⟨h2, h3.symm⟩
      ·rw [h] at hv; injection hv with h3 _ _; rw [h1] at h3; cases h3
     obtain ⟨A2, c2, rfl, hc2, _, hr2⟩ := RdB.of_own ho
     refine ⟨_, cap, s1, A2, c2, s2, by rw [HE.out, hl1], hbe, ?_, hr2, by rw [hl1]; exact hMc, hc2, (fun h => by cases h), hnil A2 c2 rfl, (fun h => absurd HE.out h), fun _ => ⟨hs1, hs2⟩⟩
     intro hne1
     obtain ⟨ad, e, h1, h2⟩ := hr.rdb (by rw [← hs1]; intro h; exact hne1 (List.map_eq_nil_iff.1 h))
     exact ⟨ad, e, h1, fun j l hj => h2 j l.1 (by rw [← hs1, List.getElem?_map, hj]; rfl)⟩
    have HFIN := hI hfin
    clear hfin
    go_wp2_with fail
    go_ret3
    exact HFIN.out
theorem cost_size (n : Nat) (hn : 1000 ≤ n) (sl : List SLot) (h : sl.length ≤ 10000) : (I (sumL (fun l => vl l.cost) (sl.map Subtype.val))).size ≤ n + 6 := by
 suffices hh : (sumL (fun l => vl l.cost) (sl.map Subtype.val)).natAbs < 10 ^ (5 + n) by
  have := I_size_le hh
  omega
 rw [← sumL_own]
 have h1 := sumBy_bd (f := fun x : SLot => vl x.1.cost) (K := 10 ^ n) (fun x => Nat.lt_of_lt_of_le (vl_lt x.1.cost) (pow_mono (Nat.le_trans x.2.2.2.2.1 hn))) sl
 rw [Nat.pow_add]
 have h0 : 0 < (10 : Nat) ^ n := Nat.pow_pos (by decide)
 generalize (10 : Nat) ^ n = K at *
 have h2 : sl.length * K ≤ 10000 * K := Nat.mul_le_mul_right _ h
 omega
noncomputable def cstZ (lz : List Lot) (ps : List Pk) : Int := if takE lz ps = 0 then sumL (fun l => vl l.cost) (takenR lz ps) else 0
theorem sumL_take {f : Lot → Int} {l : List Lot} {k : Nat} {x : Lot} (h : l[k]? = some x) : sumL f (l.take (k + 1)) = sumL f (l.take k) + f x := by
 rw [take_snoc h, sumL_append, sumL_cons, sumL_nil]; omega
theorem Cost20_any (n₀ : Nat) (A : Option Addr) (ls : List SLot) (c : Nat) (hc : ls.length ≤ c) (hlen : ls.length ≤ 10000) (hti : ∀ l ∈ ls, l.1.tiny) (Ap : Option Addr) (ps : List Pk) (cp : Nat) (hpl : ps.length ≤ 10000) (hcp : ps.length ≤ cp) (hps : ∀ p ∈ ps, p.qty.size ≤ 1000) (h13 : posE (ls.map Subtype.val) none [] ps = 0 → ∀ p ∈ ps, p.qty.size ≤ 13) (w : World)
 (hR : RdB n₀ w A ls) (hn : n₀ ≤ w.heap.size) (hA : A = none → ls.length = 0 ∧ c = 0) (hK : RdK n₀ w Ap ps) (ht : Tabs w) :
 Calls Tryz.prog 18 #[.slice A ls.length c, .slice Ap ps.length cp] w fun e w' => e = .returned (.tuple #[.string (I (cstZ (ls.map Subtype.val) ps)), .int .i64 (takE (ls.map Subtype.val) ps)]) ∧ Below w.heap.size w w' := by
 have HTK := hI (Take20_any n₀ A ls c hc hlen hti Ap ps cp hpl hcp hps h13 w hR hn hA hK ht)
 have HT := hI ht
 obtain ⟨lz, hlz⟩ : ∃ lz, ls.map Subtype.val = lz := ⟨_, rfl⟩
 rw [hlz] at HTK ⊢
 have hPl := hpl
 have HHP : Hid (ps.length ≤ 10000) := hpl
 clear hR hn hA hK ht hti hc hlen hpl hcp hps h13 hlz hPl
 go_enter Tryz.func18, Tryz.ntmps18
 go_wp2_with fail
 refine HTK.out.mono ?_
 rintro e w1 ⟨A1, c1, r1, A2, c2, r2, rfl, b1, _, hr2, _, _, _, _, h0, h1⟩
 have HB1 := hI b1
 have HR2 := hI hr2
 have hrl : r2.length ≤ 10000 := by
  have := HHP.out
  by_cases hz : takE lz ps = 0
  ·have h := congrArg List.length (h1 hz).2
   unfold takenR at h
   rw [List.length_map, List.length_map] at h
   omega
  ·rw [(h0 hz).2]; exact Nat.zero_le _
 have hcs : sumL (fun l => vl l.cost) (r2.map Subtype.val) = cstZ lz ps := by
  unfold cstZ
  by_cases hz : takE lz ps = 0
  ·rw [if_pos hz, (h1 hz).2]
  ·rw [if_neg hz, (h0 hz).2]; rfl
 have HCS := hI hcs
 obtain ⟨zE, hzE⟩ : ∃ z, takE lz ps = z := ⟨_, rfl⟩
 rw [hzE]
 have HZE := hI hzE
 obtain ⟨M, hM⟩ : ∃ M, r2.length = M := ⟨_, rfl⟩
 rw [hM] at hrl ⊢
 have HM := hI hM
 clear b1 hr2 h0 h1 hcs HTK hM hzE
 go_wp2_with fail
 go_loopw [9, 21] (fun v9 v wr => ∃ k : Nat, v = .int .i64 (k : Int) ∧ k ≤ M ∧ v9 = .string (I (sumL (fun l => vl l.cost) ((r2.map Subtype.val).take k))) ∧ Below w1.heap.size w1 wr) (fun _ v _ => M - (intOf v).toNat)
 case atStart => exact ⟨0, rfl, Nat.zero_le _, rfl, Below.refl _ _⟩
 case round =>
  obtain ⟨k, rfl, hk, rfl, hb⟩ := hrel
  have HB := hI hb
  clear hb
  rcases Nat.lt_or_ge k M with hlt | hge
  ·obtain ⟨y, hy⟩ : ∃ y, r2[k]? = some y := ⟨_, List.getElem?_eq_getElem (by rw [HM.out]; exact hlt)⟩
   obtain ⟨ad, rfl, had, hcell⟩ := HR2.out (by intro e; rw [e] at hy; cases hy)
   have hcx : decide ((k : Int) < (M : Int)) = true := by simp; omega
   obtain ⟨c0, c1', c2', c3, c4, c5, c6⟩ := (hcell k y hy).below HB.out (by rw [add_block]; exact had)
   have hym : (r2.map Subtype.val)[k]? = some y.1 := by rw [List.getElem?_map, hy]; rfl
   have HTK := hI (sumL_take (f := fun l => vl l.cost) hym)
   obtain ⟨z, hz⟩ : ∃ z, sumL (fun l => vl l.cost) ((r2.map Subtype.val).take k) = z := ⟨_, rfl⟩
   have hzs : (I z).size ≤ 4000000 := by
    rw [← hz, ← List.map_take]
    have := cost_size 1000 (Nat.le_refl _) (r2.take k) (by rw [List.length_take]; omega)
    omega
   rw [hz]
   have HZ := hI hz
   obtain ⟨W5, hW5⟩ : ∃ W5, wr.alloc (.cells y.1.cells 49) = W5 := ⟨_, rfl⟩
   have b5 : Below wr.heap.size wr W5 := by rw [← hW5]; exact (Below.refl _ wr).alloc (Nat.le_refl _) _
   have k5 : LotBox W5 wr.heap.size y.1 := by rw [← hW5]; exact heap_alloc_new wr _
   have HB5 := hI (HB.out.trans (b5.mono HB.out.size))
   have d5 := Lib.cell_of_heap k5 5
   simp [Lot.cells] at d5
   have hadd := Add_any (I z) y.1.cost W5 hzs (by have := y.2.2.2.2.1; omega) (HT.out.below (HB1.out.trans (HB5.out.mono HB1.out.size)))
   rw [vl_I] at hadd
   have HADD := hI hadd
   clear b5 k5 hcell hy hym had hadd hz hzs
   unfold Lot.cells at hW5
   go_wp2_with fail
   refine HADD.out.mono ?_
   rintro e w6 ⟨rfl, b6⟩
   have HB6 := hI (HB5.out.trans (b6.mono HB5.out.size))
   clear b6 HADD d5 c0 c1' c2' c3 c4 c5 c6
   go_wp2_with fail
   go_roundw
   case rel => exact ⟨k + 1, by go_num, by omega, by rw [HTK.out, HZ.out], HB6.out⟩
   case measure => simp [intOf]; omega
  ·have hcx : decide ((k : Int) < (M : Int)) = false := by simp; omega
   have he : sumL (fun l => vl l.cost) ((r2.map Subtype.val).take k) = cstZ lz ps := by rw [List.take_of_length_le (by rw [List.length_map, HM.out]; exact hge)]; exact HCS.out
   rw [he]
   clear he
   go_wp2_with fail
   go_ret2
   exact ⟨by rw [HZE.out]; rfl, HB1.out.trans (HB.out.mono HB1.out.size)⟩
def la : Lot := ⟨⟨#[97, 47, 49]⟩, ⟨#[97, 98, 99]⟩, 1, 1, ⟨#[49, 48]⟩, ⟨#[49, 48, 48]⟩, ⟨#[]⟩⟩
def lb : Lot := ⟨⟨#[98, 47, 49]⟩, ⟨#[97, 98, 99]⟩, 2, 2, ⟨#[49, 48]⟩, ⟨#[51, 48, 48]⟩, ⟨#[]⟩⟩
def lc : Lot := ⟨⟨#[99, 47, 49]⟩, ⟨#[97, 98, 99]⟩, 2, 2, ⟨#[49, 48]⟩, ⟨#[50, 48, 48]⟩, ⟨#[]⟩⟩
def abc : ByteArray := ⟨#[97, 98, 99]⟩
def q15 : ByteArray := ⟨#[49, 53]⟩
theorem la_tiny : la.tiny := ⟨by decide, by decide, by decide, by decide, by decide⟩
theorem lb_tiny : lb.tiny := ⟨by decide, by decide, by decide, by decide, by decide⟩
theorem lc_tiny : lc.tiny := ⟨by decide, by decide, by decide, by decide, by decide⟩
theorem la_ok : la.ok where
 id := by kernel_rfl
 inst := by decide
 acq := by unfold okDay; decide
 opn := by unfold okDay; decide
 ord := by decide
 cq := by unfold Can; decide
 cc := by unfold Can; decide
 cu := by unfold Can; decide
 pq := by decide
 pc := by decide
 us := .inl rfl
theorem lb_ok : lb.ok where
 id := by kernel_rfl
 inst := by decide
 acq := by unfold okDay; decide
 opn := by unfold okDay; decide
 ord := by decide
 cq := by unfold Can; decide
 cc := by unfold Can; decide
 cu := by unfold Can; decide
 pq := by decide
 pc := by decide
 us := .inl rfl
theorem lc_ok : lc.ok where
 id := by kernel_rfl
 inst := by decide
 acq := by unfold okDay; decide
 opn := by unfold okDay; decide
 ord := by decide
 cq := by unfold Can; decide
 cc := by unfold Can; decide
 cu := by unfold Can; decide
 pq := by decide
 pc := by decide
 us := .inl rfl
def s3 : List SLot := [⟨la, la_tiny.sized⟩, ⟨lb, lb_tiny.sized⟩, ⟨lc, lc_tiny.sized⟩]
def l3 : List Lot := [la, lb, lc]
theorem s3_l3 : s3.map Subtype.val = l3 := rfl
theorem l3_all : AllOk l3 := by
 refine ⟨by decide, fun l hl => ?_, ?_⟩
 ·unfold l3 at hl
  simp at hl
  rcases hl with rfl | rfl | rfl
  ·exact lchk_zero.2 la_ok
  ·exact lchk_zero.2 lb_ok
  ·exact lchk_zero.2 lc_ok
 ·show List.Nodup [la.id, lb.id, lc.id]
  simp [la, lb, lc]
theorem l3_lall : lall l3 = 0 := (lall_zero l3).2 l3_all
theorem own3 : ownB l3 abc = l3 := by kernel_rfl
theorem q15_vl : vl q15 = 15 := by decide
theorem tot3 : totQ l3 = 30 := by kernel_rfl
def wz (k : Nat) : Int := if k = 0 then 250 else if k = 1 then 350 else if k = 2 then 400 else 200
theorem wz_is (k : Nat) (hk : k < 4) : sumL (fun l => vl l.cost) (takenR l3 (pksOf (chsSt l3 ((k : Int) + 1) 15 []).1)) = wz k := by
 rcases (show k = 0 ∨ k = 1 ∨ k = 2 ∨ k = 3 from by omega) with rfl | rfl | rfl | rfl
 ·kernel_rfl
 ·kernel_rfl
 ·kernel_rfl
 ·kernel_rfl
theorem chs3 (k : Nat) (hk : k < 4) : chsE l3 abc q15 ((k : Int) + 1) [] = 0 :=
 chsE_ok l3_lall (by unfold Can; decide) (fun h => Bool.false_ne_true h.2) (by omega) (by rw [q15_vl]; decide) (by rw [own3, q15_vl, tot3]; decide)
theorem inv3 (k : Nat) : InvA l3 15 (chsSt l3 ((k : Int) + 1) 15 []) := InvA.chs l3_all.nd (fun x hx => (lchk_zero.1 (l3_all.ok x hx)).pq) (by decide) _ _
theorem pos3 (k : Nat) : posE l3 none [] (pksOf (chsSt l3 ((k : Int) + 1) 15 []).1) = 0 :=
 (posE_zero _ _ _ _).2 ⟨fun p _ h => (by simp at h), (inv3 k).pks l3_all.nd (s := abc) (fun x hx => ⟨hx, by unfold l3 at hx; simp at hx; rcases hx with rfl | rfl | rfl <;> rfl⟩) none (fun t e => by cases e)⟩
theorem tak3 (k : Nat) : takE l3 (pksOf (chsSt l3 ((k : Int) + 1) 15 []).1) = 0 := (takE_pos l3_lall _).trans (pos3 k)
theorem cst3 (k : Nat) (hk : k < 4) : cstZ l3 (pksOf (chsSt l3 ((k : Int) + 1) 15 []).1) = wz k := by unfold cstZ; rw [if_pos (tak3 k), wz_is k hk]
theorem size3 (k : Nat) : ∀ p ∈ pksOf (chsSt l3 ((k : Int) + 1) 15 []).1, p.qty.size ≤ 3 := by
 intro p hp
 obtain ⟨a, ha, rfl⟩ := List.mem_map.1 hp
 have h := inv3 k
 obtain ⟨x, hx, e⟩ := h.sub a ha
 have h1 := h.le x hx
 rw [e, amt_mem h.nd ha] at h1
 have h2 := h.pos a ha
 have hq : vl x.qty = 10 ∧ x.qty.size = 2 := by unfold l3 at hx; simp at hx; rcases hx with rfl | rfl | rfl <;> decide
 have := I_size_in (a := x.qty) (Int.le_of_lt h2) h1
 show (I a.2).size ≤ 3
 omega
theorem len3 (k : Nat) : (pksOf (chsSt l3 ((k : Int) + 1) 15 []).1).length ≤ 10000 := by
 have key : ∀ (S : List Lot) (st : Am × Int), (tkAll S st).1.length ≤ st.1.length + S.length := by
  intro S
  induction S with
  | nil => intro st; exact Nat.le_refl _
  | cons x r ih =>
    intro st
    have h1 := ih (tk st x (vl x.qty))
    have h2 := tk_len st x (vl x.qty)
    show (tkAll r (tk st x (vl x.qty))).1.length ≤ _
    rw [List.length_cons]; omega
 unfold pksOf
 rw [List.length_map]
 unfold chsSt
 have h1 := key (ordP ((k : Int) + 1) l3) (if (k : Int) + 1 = 5 then [].foldl (tkP l3) ([], 15) else ([], 15))
 have h2 := (ordP_perm ((k : Int) + 1) l3).length_eq
 have h3 : l3.length = 3 := rfl
 have h4 : (if (k : Int) + 1 = 5 then ([] : List Pk).foldl (tkP l3) ([], (15 : Int)) else ([], 15)).1.length = 0 := by split <;> rfl
 omega
theorem I250 : I 250 = ⟨#[50, 53, 48]⟩ := by decide
theorem I350 : I 350 = ⟨#[51, 53, 48]⟩ := by decide
theorem I400 : I 400 = ⟨#[52, 48, 48]⟩ := by decide
theorem I200 : I 200 = ⟨#[50, 48, 48]⟩ := by decide
theorem awake20_any (w : World) (ht : Tabs w) : Calls Tryz.prog 15 #[] w fun e w' => e = .returned (.bool true) ∧ Below w.heap.size w w' := by
 obtain ⟨W0, hW0⟩ : ∃ W0, w.alloc (.cells #[.string ⟨#[97, 47, 49]⟩, .string ⟨#[97, 98, 99]⟩, .int .i64 1, .int .i64 1, .string ⟨#[49, 48]⟩, .string ⟨#[49, 48, 48]⟩, .string ⟨#[]⟩, .string ⟨#[98, 47, 49]⟩, .string ⟨#[97, 98, 99]⟩, .int .i64 2, .int .i64 2, .string ⟨#[49, 48]⟩, .string ⟨#[51, 48, 48]⟩, .string ⟨#[]⟩, .string ⟨#[99, 47, 49]⟩, .string ⟨#[97, 98, 99]⟩, .int .i64 2, .int .i64 2, .string ⟨#[49, 48]⟩, .string ⟨#[50, 48, 48]⟩, .string ⟨#[]⟩] 49) = W0 := ⟨_, rfl⟩
 have k0 : W0.heap[w.heap.size]? = some (.cells (flatV l3).toArray 49 (0, 0)) := by rw [← hW0]; exact heap_alloc_new w _
 have b0 : Below w.heap.size w W0 := by rw [← hW0]; exact (Below.refl _ w).alloc (Nat.le_refl _) _
 obtain ⟨W1, hW1⟩ : ∃ W1, W0.alloc (.cells #[.string ⟨#[50, 53, 48]⟩, .string ⟨#[51, 53, 48]⟩, .string ⟨#[52, 48, 48]⟩, .string ⟨#[50, 48, 48]⟩] 25) = W1 := ⟨_, rfl⟩
 have k1 : W1.heap[W0.heap.size]? = some (.cells #[.string ⟨#[50, 53, 48]⟩, .string ⟨#[51, 53, 48]⟩, .string ⟨#[52, 48, 48]⟩, .string ⟨#[50, 48, 48]⟩] 25 (0, 0)) := by rw [← hW1]; exact heap_alloc_new W0 _
 have b1 : Below W0.heap.size W0 W1 := by rw [← hW1]; exact (Below.refl _ W0).alloc (Nat.le_refl _) _
 have HB1 := hI (b0.trans (b1.mono b0.size))
 have k0' := (b1.block _ (Array.getElem?_eq_some_iff.1 k0).1).trans k0
 have hrow : SRow (fun _ => True) W1 w.heap.size [] l3 W1 := ⟨by rw [List.append_nil]; exact k0', fun _ _ => trivial, ⟨rfl, rfl, rfl, Nat.le_refl _, fun _ _ _ => rfl⟩, (Array.getElem?_eq_some_iff.1 k0').1⟩
 have hrd : RdB W1.heap.size W1 (some ⟨w.heap.size, 0, none⟩) s3 := fun _ => ⟨_, rfl, hrow.lt, fun j l hj => by rw [addr_add0]; exact hrow.at (by rw [← s3_l3, List.getElem?_map, hj]; rfl)⟩
 have HRD := hI hrd
 have HK1 := hI k1
 have HT := hI ht
 have hti : ∀ l ∈ s3, l.1.tiny := by intro l hl; unfold s3 at hl; simp at hl; rcases hl with rfl | rfl | rfl; exact la_tiny; exact lb_tiny; exact lc_tiny
 have HCH := hI (fun (k : Nat) (W : World) (hW : Below W1.heap.size W1 W) => Choose20_any W1.heap.size (some ⟨w.heap.size, 0, none⟩) s3 3 (by decide) (by decide) abc q15 (by decide) ((k : Int) + 1) none [] 0 (by decide) (fun p h => by cases h) W (hrd.below hW) hW.size (fun h => by cases h) (RdK.nil _ _ _) (ht.below (HB1.out.trans (hW.mono HB1.out.size))))
 have HCO := hI (fun (k : Nat) (hk : k < 4) (A : Option Addr) (c n : Nat) (hc : (pksOf (chsSt l3 ((k : Int) + 1) 15 []).1).length ≤ c) (W : World) (hW : Below W1.heap.size W1 W) (hn : n ≤ W.heap.size) (hK : RdK n W A (pksOf (chsSt l3 ((k : Int) + 1) 15 []).1)) =>
  Cost20_any W.heap.size (some ⟨w.heap.size, 0, none⟩) s3 3 (by decide) (by decide) hti A _ c (len3 k) hc (fun p hp => by have := size3 k p hp; omega) (fun _ p hp => by have := size3 k p hp; omega) W (fun h => by obtain ⟨ad, e, h1, h2⟩ := hrd.below hW h; exact ⟨ad, e, Nat.lt_of_lt_of_le h1 hW.size, h2⟩) (Nat.le_refl _) (fun h => by cases h) (hK.mono hn) (ht.below (HB1.out.trans (hW.mono HB1.out.size))))
 rw [s3_l3, show s3.length = 3 from rfl] at HCH HCO
 clear k0 b0 k1 b1 k0' hrow hrd hti ht
 go_enter Tryz.func15, Tryz.ntmps15
 go_wp2_with fail
 go_loopw [14] (fun v wr => ∃ k : Nat, v = .int .i64 (k : Int) ∧ k ≤ 4 ∧ Below W1.heap.size W1 wr) (fun v _ => 4 - (intOf v).toNat)
 case atStart => exact ⟨0, rfl, Nat.zero_le _, Below.refl _ _⟩
 case round =>
  obtain ⟨k, rfl, hk, hb⟩ := hrel
  have HB := hI hb
  clear hb
  rcases Nat.lt_or_ge k 4 with hlt | hge
  ·have hcx : decide ((k : Int) < (4 : Int)) = true := by simp; omega
   have hcell : wr.cell? ⟨W0.heap.size, k, none⟩ = some (.string (I (wz k))) := by
    have h := (HB.out.block _ (Array.getElem?_eq_some_iff.1 HK1.out).1).trans HK1.out
    rw [Lib.cell_of_heap h k]
    rcases (show k = 0 ∨ k = 1 ∨ k = 2 ∨ k = 3 from by omega) with rfl | rfl | rfl | rfl
    ·show some (Value.string _) = some (Value.string (I 250)); rw [I250]
    ·show some (Value.string _) = some (Value.string (I 350)); rw [I350]
    ·show some (Value.string _) = some (Value.string (I 400)); rw [I400]
    ·show some (Value.string _) = some (Value.string (I 200)); rw [I200]
   have hchs := HCH.out k wr HB.out
   have HC := hI hchs
   have HLT := hI hlt
   obtain ⟨zw, hzw⟩ : ∃ z, wz k = z := ⟨_, rfl⟩
   rw [hzw] at hcell
   have HZW := hI hzw
   clear hchs hzw
   go_wp2_with fail
   refine HC.out.mono ?_
   rintro e w2 ⟨A, c, res, rfl, b2, hk2, hc2, _, hres⟩
   have hr := hres (chs3 k HLT.out)
   rw [own3, q15_vl] at hr
   subst hr
   rw [chs3 k HLT.out]
   have HB2 := hI (HB.out.trans (b2.mono HB.out.size))
   have hco := HCO.out k HLT.out A c w2.heap.size hc2 w2 HB2.out (Nat.le_refl _) hk2
   rw [tak3, cst3 k HLT.out, HZW.out] at hco
   have HCC := hI hco
   generalize (pksOf (chsSt l3 ((k : Int) + 1) 15 []).1).length = n at HCC ⊢
   clear b2 hk2 hc2 hres hco HC hcell
   go_wp2_with fail
   refine HCC.out.mono ?_
   rintro e w3 ⟨rfl, b3⟩
   have HB3 := hI (HB2.out.trans (b3.mono HB2.out.size))
   clear b3 HCC
   go_wp2_with fail
   go_roundw
   case rel => exact ⟨k + 1, by go_num, by omega, HB3.out⟩
   case measure => simp [intOf]; omega
  ·have hcx : decide ((k : Int) < (4 : Int)) = false := by simp; omega
   go_wp2_with fail
   go_ret
   exact ⟨rfl, HB1.out.trans (HB.out.mono HB1.out.size)⟩
theorem eqGuard_pick (op : BinOp) (x y : Operand) (xs ys : Array Value) (w : World) : (eqGuard op 43 x y (.agg xs) (.agg ys)).run Tryz.prog w = .ok () w := run_eqGuard_agg w op _ x y xs ys (by kernel_rfl)
attribute [local go_sem] eqGuard_pick
def bigP (p : Pk) : Bool := decide (24 < p.lot.size) || decide (13 < p.qty.size)
theorem bigP_no {p : Pk} (h : bigP p = false) : p.lot.size ≤ 24 ∧ p.qty.size ≤ 13 := by
 unfold bigP at h
 simp at h
 exact h
theorem bigClo_any (p : Pk) (w : World) : Calls Tryz.prog 64 #[p.enc] w fun e w' => e = .returned (.bool (bigP p)) ∧ Below w.heap.size w w' := by
 obtain ⟨W0, hW0⟩ : ∃ W0, w.alloc (.cells p.cells 43) = W0 := ⟨_, rfl⟩
 have hb : Below w.heap.size w W0 := by rw [← hW0]; exact (Below.refl _ w).alloc (Nat.le_refl _) _
 have k1 : PkBox W0 w.heap.size p := by rw [← hW0]; exact heap_alloc_new w _
 have d0 := Lib.cell_of_heap k1 0
 have d1 := Lib.cell_of_heap k1 1
 simp [Pk.cells] at d0 d1
 have HB := hI hb
 obtain ⟨b, hbp⟩ : ∃ b, bigP p = b := ⟨_, rfl⟩
 rw [hbp]
 have HE := hI hbp
 clear k1 hb hbp
 unfold Pk.cells at hW0
 unfold Pk.enc Pk.cells
 by_cases h1 : 24 < p.lot.size
 ·have t1 : decide ((24 : Int) < (p.lot.size : Int)) = true := decide_eq_true (by omega)
  have t2 : decide ((p.lot.size : Int) > 24) = true := t1
  have HD : Hid (b = true) := by rw [Hid, ← HE.out]; unfold bigP; rw [decide_eq_true h1]; rfl
  clear h1
  go_enter Tryz.func64, Tryz.ntmps64
  go_wp2_with fail
  go_ret
  exact ⟨by rw [HD.out]; rfl, HB.out⟩
 ·have t1 : decide ((24 : Int) < (p.lot.size : Int)) = false := decide_eq_false (by omega)
  have t2 : decide ((p.lot.size : Int) > 24) = false := t1
  by_cases h2 : 13 < p.qty.size
  ·have t3 : decide ((13 : Int) < (p.qty.size : Int)) = true := decide_eq_true (by omega)
   have t4 : decide ((p.qty.size : Int) > 13) = true := t3
   have HD : Hid (b = true) := by rw [Hid, ← HE.out]; unfold bigP; rw [decide_eq_false h1, decide_eq_true h2]; rfl
   clear h1 h2
   go_enter Tryz.func64, Tryz.ntmps64
   go_wp2_with fail
   go_ret
   exact ⟨by rw [HD.out]; rfl, HB.out⟩
  ·have t3 : decide ((13 : Int) < (p.qty.size : Int)) = false := decide_eq_false (by omega)
   have t4 : decide ((p.qty.size : Int) > 13) = false := t3
   have HD : Hid (b = false) := by rw [Hid, ← HE.out]; unfold bigP; rw [decide_eq_false h1, decide_eq_false h2]; rfl
   clear h1 h2
   go_enter Tryz.func64, Tryz.ntmps64
   go_wp2_with fail
   go_ret
   exact ⟨by rw [HD.out]; rfl, HB.out⟩
structure Sml (ls : List Lot) (ps : List Pk) (s q : ByteArray) : Prop where
 len : (ls.length ≤ 12 ∨ 999 ≤ ls.length) ∧ ls.length ≤ 1002
 tiny : ∀ l ∈ ls, l.tiny
 pl : ps.length ≤ 8
 s : s.size ≤ 24
 q : q.size ≤ 13
 p : ∀ p ∈ ps, p.lot.size ≤ 24 ∧ p.qty.size ≤ 13
theorem great20_any (n₀ : Nat) (A : Option Addr) (ls : List Lot) (c : Nat) (hlm : ls.length ≤ 9223372036854775807) (Ap : Option Addr) (ps : List Pk) (cp : Nat) (hpm : ps.length ≤ 9223372036854775807) (s q : ByteArray) (w : World) (hR : RdL w A ls) (hK : RdK n₀ w Ap ps) (hn : n₀ ≤ w.heap.size) :
 Calls Tryz.prog 13 #[.slice A ls.length c, .slice Ap ps.length cp, .string s, .string q] w (GreatPost w (Sml ls ps s q)) := by
 have HG := hI (rGreat19_len A ls c hlm w hR)
 have HBC := fun (h : ps.length ≤ 8) W (hW : Below w.heap.size w W) => hasPicks_any bigP 64 #[] n₀ Ap ps cp (by omega) W (hK.below (hW.mono hn)) (Nat.le_trans hn hW.size) ⟨enters_of Tryz.func64 (by kernel_rfl) rfl, fun W2 _ p _ => bigClo_any p W2⟩
 obtain ⟨N, hN⟩ : ∃ N, ls.length = N := ⟨_, rfl⟩
 obtain ⟨P, hP⟩ : ∃ P, ps.length = P := ⟨_, rfl⟩
 rw [hN] at HG ⊢
 rw [hP] at HBC ⊢
 replace HBC := hI HBC
 have HN := hI hN
 have HP := hI hP
 clear hR hK hlm hpm hN hP
 go_enter Tryz.func13, Tryz.ntmps13
 go_wp2_with fail
 refine HG.out.mono ?_
 rintro e w1 ⟨b, rfl, hb, b1⟩
 have HB1 := hI b1
 clear b1 HG
 cases b
 case true =>
  clear hb
  go_wp2_with fail
  go_ret
  exact ⟨true, rfl, (fun h => by cases h), HB1.out⟩
 have HL := hI (hb rfl)
 clear hb
 by_cases h1 : 8 < P
 ·have t1 : decide ((8 : Int) < (P : Int)) = true := decide_eq_true (by omega)
  have t2 : decide ((P : Int) > 8) = true := t1
  clear h1
  go_wp2_with fail
  go_ret
  exact ⟨true, rfl, (fun h => by cases h), HB1.out⟩
 have t1 : decide ((8 : Int) < (P : Int)) = false := decide_eq_false (by omega)
 have t2 : decide ((P : Int) > 8) = false := t1
 by_cases h2 : 24 < s.size
 ·have t3 : decide ((24 : Int) < (s.size : Int)) = true := decide_eq_true (by omega)
  have t4 : decide ((s.size : Int) > 24) = true := t3
  clear h1 h2
  go_wp2_with fail
  go_ret
  exact ⟨true, rfl, (fun h => by cases h), HB1.out⟩
 have t3 : decide ((24 : Int) < (s.size : Int)) = false := decide_eq_false (by omega)
 have t4 : decide ((s.size : Int) > 24) = false := t3
 by_cases h3 : 13 < q.size
 ·have t5 : decide ((13 : Int) < (q.size : Int)) = true := decide_eq_true (by omega)
  have t6 : decide ((q.size : Int) > 13) = true := t5
  clear h1 h2 h3
  go_wp2_with fail
  go_ret
  exact ⟨true, rfl, (fun h => by cases h), HB1.out⟩
 have t5 : decide ((13 : Int) < (q.size : Int)) = false := decide_eq_false (by omega)
 have t6 : decide ((q.size : Int) > 13) = false := t5
 have HS : Hid (P ≤ 8 ∧ s.size ≤ 24 ∧ q.size ≤ 13) := ⟨by omega, by omega, by omega⟩
 have HC := hI (HBC.out HS.out.1 w1 HB1.out)
 clear h1 h2 h3 HBC
 go_wp2_with fail
 refine HC.out.mono ?_
 rintro e w2 ⟨rfl, b2⟩
 have HB2 := hI (HB1.out.trans (b2.mono HB1.out.size))
 clear b2 HC
 obtain ⟨z, hz⟩ : ∃ z, ps.any bigP = z := ⟨_, rfl⟩
 rw [hz]
 have HZ := hI hz
 clear hz
 go_wp2_with fail
 go_ret
 refine ⟨z, rfl, (fun h => ?_), HB2.out⟩
 subst h
 exact ⟨by rw [HN.out]; exact ⟨HL.out.1, HL.out.2.1⟩, HL.out.2.2, by rw [HP.out]; exact HS.out.1, HS.out.2.1, HS.out.2.2, fun p hp => bigP_no (by have := List.any_eq_false.1 HZ.out p hp; cases hb : bigP p; rfl; exact (this hb).elim)⟩
end Go.Proofs.YtdnmpgoigagjmaaGreatDoor
namespace Go.Proofs.YtdnmpgoigagjmaaGreatDoor
open Go.RowKit Tr Go.Shelf
def pickd (ps : List Pk) (x : Lot) : Bool := ps.any fun p => decide (p.lot = x.id)
theorem cons_sum {sl r1 r2 : List SLot} {ps : List Pk} {io : Option ByteArray} (hid : ((sl.map Subtype.val).map Lot.id).Nodup) (hp : PksOk (sl.map Subtype.val) io ps) (e1 : r1.map Subtype.val = restR (sl.map Subtype.val) ps) (e2 : r2.map Subtype.val = takenR (sl.map Subtype.val) ps) (s : ByteArray) :
 sumBy qtyOf (ownL r1 s) + sumBy qtyOf (ownL r2 s) = sumBy qtyOf (ownL sl s) ∧ sumBy costOf (ownL r1 s) + sumBy costOf (ownL r2 s) = sumBy costOf (ownL sl s) := by
 have hq : ∀ l : List SLot, sumBy qtyOf (ownL l s) = sumL (fun l => vl l.qty) (ownB (l.map Subtype.val) s) := fun l => by
  rw [← ownB_own]; exact sumL_own (fun l => vl l.qty) (ownL l s)
 have hc : ∀ l : List SLot, sumBy costOf (ownL l s) = sumL (fun l => vl l.cost) (ownB (l.map Subtype.val) s) := fun l => by
  rw [← ownB_own]; exact sumL_own (fun l => vl l.cost) (ownL l s)
 rw [hq, hq, hq, hc, hc, hc, e1, e2]
 exact ⟨take_sum _ cutSum_qty hid hp s, take_sum _ cutSum_cost hid hp s⟩
theorem posL_at {ls : List SLot} {k : Nat} {p : Pos} (h : (posL ls)[k]? = some p) : ∃ s, p = posOf ls s := by
 unfold posL at h
 rw [List.getElem?_map] at h
 cases hb : (names ls)[k]? with
 | none => rw [hb] at h; cases h
 | some b => rw [hb] at h; injection h with h; exact ⟨_, h.symm⟩
theorem insts_le : ∀ ls : List SLot, (insts ls).length ≤ ls.length
 | [] => Nat.le_refl _
 | x :: r => by
   have h := insts_le r
   unfold insts
   split
   ·rw [List.length_cons]; omega
   ·rw [List.length_cons, List.length_cons]; omega
theorem posL_len_le (ls : List SLot) : (posL ls).length ≤ ls.length := by
 rw [posL_len]
 unfold names
 rw [List.length_mergeSort]
 exact insts_le ls
theorem qsum_size (l : List SLot) (h : l.length ≤ 1002) (s : ByteArray) : (I (sumBy qtyOf (ownL l s))).size ≤ 4000000 := by
 obtain ⟨K, hK⟩ : ∃ K : Nat, K = 1000 := ⟨_, rfl⟩
 have := sumBy_size (qty_lt hK) (ownL l s) (Nat.lt_of_le_of_lt (List.length_filter_le _ _) (by omega))
 omega
theorem csum_size (l : List SLot) (h : l.length ≤ 1002) (s : ByteArray) : (I (sumBy costOf (ownL l s))).size ≤ 4000000 := by
 obtain ⟨K, hK⟩ : ∃ K : Nat, K = 1000 := ⟨_, rfl⟩
 have := sumBy_size (cost_lt hK) (ownL l s) (Nat.lt_of_le_of_lt (List.length_filter_le _ _) (by omega))
 omega
theorem cons2_any (x : Lot) (Bx : Nat) (p : Pk) (w : World) (h : LotBox w Bx x) :
 Calls Tryz.prog 62 #[p.enc, .pointer (some ⟨Bx, 0, none⟩)] w fun e w' => e = .returned (.bool (decide (p.lot = x.id))) ∧ Below w.heap.size w w' := by
 obtain ⟨W0, hW0⟩ : ∃ W0, w.alloc (.cells p.cells 43) = W0 := ⟨_, rfl⟩
 have hb : Below w.heap.size w W0 := by rw [← hW0]; exact (Below.refl _ w).alloc (Nat.le_refl _) _
 have k1 : PkBox W0 w.heap.size p := by rw [← hW0]; exact heap_alloc_new w _
 have k0 : LotBox W0 Bx x := h.below hb
 have c0 := Lib.cell_of_heap k0 0
 have d0 := Lib.cell_of_heap k1 0
 simp [Lot.cells, Pk.cells] at c0 d0
 have hse := str_eq p.lot x.id
 have HB := hI hb
 clear k0 k1 h hb
 unfold Pk.cells at hW0
 unfold Pk.enc Pk.cells
 go_enter Tryz.func62, Tryz.ntmps62
 go_wp2_with fail
 go_ret
 exact ⟨rfl, HB.out⟩
theorem cons2_is (x : Lot) (Bx : Nat) (w : World) (ps : List Pk) (h : LotBox w Bx x) : PkClo (fun p => decide (p.lot = x.id)) 62 #[.pointer (some ⟨Bx, 0, none⟩)] w ps :=
 ⟨enters_of Tryz.func62 (by kernel_rfl) rfl, fun W hW p _ => cons2_any x Bx p W (h.below hW)⟩
def PBox (W : World) (B : Nat) (v : Value) : Prop := W.heap[B]? = some (.cells #[v] 23 (0, 0))
theorem PBox.below {W W' : World} {B : Nat} {v : Value} (h : PBox W B v) (hb : Below W.heap.size W W') : PBox W' B v := (hb.block B (Array.getElem?_eq_some_iff.1 h).1).trans h
theorem PBox.lt {W : World} {B : Nat} {v : Value} (h : PBox W B v) : B < W.heap.size := (Array.getElem?_eq_some_iff.1 h).1
theorem cons1_any (n₀ : Nat) (Ap : Option Addr) (ps : List Pk) (cp : Nat) (hpl : ps.length ≤ 1000000) (Bp : Nat) (x : Lot) (w : World) (hK : RdK n₀ w Ap ps) (hn : n₀ ≤ w.heap.size) (hb : PBox w Bp (.slice Ap ps.length cp)) :
 Calls Tryz.prog 60 #[x.enc, .pointer (some ⟨Bp, 0, none⟩)] w fun e w' => e = .returned (.bool (pickd ps x)) ∧ Below w.heap.size w w' := by
 obtain ⟨W0, hW0⟩ : ∃ W0, w.alloc (.cells x.cells 49) = W0 := ⟨_, rfl⟩
 have hb0 : Below w.heap.size w W0 := by rw [← hW0]; exact (Below.refl _ w).alloc (Nat.le_refl _) _
 have k1 : LotBox W0 w.heap.size x := by rw [← hW0]; exact heap_alloc_new w _
 have k0 : PBox W0 Bp (.slice Ap ps.length cp) := hb.below hb0
 have c0 := Lib.cell_of_heap k0 0
 simp at c0
 have HH := fun W (hW : Below W0.heap.size W0 W) => hasPicks_any (fun p => decide (p.lot = x.id)) 62 #[.pointer (some ⟨w.heap.size, 0, none⟩)] n₀ Ap ps cp hpl W (hK.below ((hb0.trans (hW.mono hb0.size)).mono hn)) (Nat.le_trans hn (Nat.le_trans hb0.size hW.size)) (cons2_is x w.heap.size W ps (k1.below hW))
 have hpk : ps.any (fun p => decide (p.lot = x.id)) = pickd ps x := rfl
 rw [hpk] at HH
 have HHH := hI HH
 have HB := hI hb0
 obtain ⟨P, hP⟩ : ∃ P, ps.length = P := ⟨_, rfl⟩
 rw [hP] at c0 HHH
 clear k0 k1 hb hb0 HH hK hn hpl hP hpk
 unfold Lot.cells at hW0
 unfold Lot.enc Lot.cells
 go_enter Tryz.func60, Tryz.ntmps60
 go_wp2_with fail
 refine (HHH.out _ (Below.refl _ _)).mono ?_
 rintro e w1 ⟨rfl, b1⟩
 have HB1 := hI (HB.out.trans (b1.mono HB.out.size))
 clear b1
 go_wp2_with fail
 go_ret
 exact ⟨rfl, HB1.out⟩
theorem cons1_is (V : Lot → Prop) (n₀ : Nat) (Ap : Option Addr) (ps : List Pk) (cp : Nat) (hpl : ps.length ≤ 1000000) (Bp g : Nat) (w0 : World) (hK : RdK n₀ w0 Ap ps) (hn : n₀ ≤ w0.heap.size) (hb : PBox w0 Bp (.slice Ap ps.length cp)) (hng : n₀ ≤ g) (hBg : Bp ≠ g) :
 PrdS V (pickd ps) 60 #[.pointer (some ⟨Bp, 0, none⟩)] w0 g := by
 refine ⟨enters_of Tryz.func60 (by kernel_rfl) rfl, fun W hW a _ => ?_⟩
 refine cons1_any n₀ Ap ps cp hpl Bp a W (fun hl => ?_) (Nat.le_trans hn hW.size) ((hW.block Bp hb.lt (fun e => hBg (by injection e))).trans hb)
 obtain ⟨ad, rfl, h1, h2⟩ := hK hl
 refine ⟨ad, rfl, h1, fun j p hj => ?_⟩
 have hk := hW.block ad.block (Nat.lt_of_lt_of_le h1 hn) (fun e => by injection e with e; omega)
 have h3 := h2 j p hj
 exact ⟨(World.cell?_of_block (by rw [add_block]; exact hk)).trans h3.c0, (World.cell?_of_block (a := ⟨(ad.add (j * 2)).block, (ad.add (j * 2)).off + 1, none⟩) (by show _ = _; rw [add_block]; exact hk)).trans h3.c1⟩
theorem delF_none (A : Option Addr) (c : Nat) (fv : Value) (w : World) : Calls Tryz.prog 63 #[.slice A 0 c, fv] w fun e w' => e = .returned (.slice A 0 c) ∧ w' = w := by
 have HI := hI (idxS_none A c fv w)
 go_enter Tryz.func63, Tryz.ntmps63
 go_wp2_with fail
 refine HI.out.mono ?_
 rintro e w1 ⟨rfl, rfl⟩
 have t1 : ((-1 : Int) == (-1 : Int)) = true := rfl
 go_wp2_with fail
 go_ret
 exact ⟨rfl, rfl⟩
theorem delOwn_any (pf : Lot → Bool) (f : Nat) (bd : Array Value) (n : Nat) (sl : List SLot) (R : List Lot) (hR : ((sl.map Subtype.val).filter fun x => !pf x) = R) (v : Value) (N : Nat) (hN : sl.length = N) (hl : N ≤ 100000) (w W : World) (how : W.ownsRow n 49 7 v N (flatL sl)) (hb : Below w.heap.size w W) (hn : w.heap.size ≤ n)
 (hp : ∀ g, n ≤ g → g < W.heap.size → PrdS (fun l => l.sized) pf f bd W g) :
 ∃ (A : Option Addr) (c : Nat), v = .slice A N c ∧ Calls Tryz.prog 63 #[.slice A N c, .func (.func f) #[] bd] W fun e w' => ∃ A' c', e = .returned (.slice A' R.length c') ∧ RdB' w'.heap.size w' A' R ∧ Below w.heap.size w w' := by
 rcases Nat.eq_zero_or_pos N with h0 | hpos
 ·subst h0
  have hnil : sl = [] := List.eq_nil_of_length_eq_zero hN
  subst hnil
  obtain rfl : R = [] := hR.symm
  obtain ⟨A', c', rfl, _⟩ : ∃ A' c', v = .slice A' 0 c' ∧ True := by
   rcases how.2 with ⟨rfl, _⟩ | ⟨g, cap, cur, rfl, _⟩
   ·exact ⟨_, _, rfl, trivial⟩
   ·exact ⟨_, _, rfl, trivial⟩
  refine ⟨A', c', rfl, (delF_none A' c' _ W).mono ?_⟩
  rintro e w' ⟨rfl, rfl⟩
  exact ⟨A', c', rfl, fun h => absurd rfl h, hb⟩
 ·obtain ⟨g, cap, rfl, hbg, hgl⟩ := how.form hpos
  obtain ⟨sp, hrow, hnc⟩ : ∃ sp, W.heap[g]? = some (.cells (flatV (sl.map Subtype.val) ++ sp).toArray 49 (0, 0)) ∧ N ≤ cap := by
   rcases how.2 with ⟨h, _⟩ | ⟨g', cap', cur, h, _, hg, hnc, _, _, ht⟩
   ·simp at h
   ·simp at h
    obtain ⟨rfl, rfl⟩ := h
    refine ⟨cur.toList.drop (N * 7), ?_, hnc⟩
    rw [flatV_val, ← ht, List.take_append_drop]
    exact hg
  have hs : SRow (fun l => l.sized) W g sp (sl.map Subtype.val) W := ⟨hrow, fun x hx => by
   obtain ⟨y, hy, rfl⟩ := List.mem_map.1 hx
   exact y.2, ⟨rfl, rfl, rfl, Nat.le_refl _, fun _ _ _ => rfl⟩, hgl⟩
  refine ⟨_, _, rfl, (delF_any _ pf f bd W g N cap sp _ R hR (by rw [List.length_map, hN]) (by omega) hnc W hs (hp g hbg hgl)).mono ?_⟩
  rintro e w' ⟨sp', rfl, hr⟩
  exact ⟨_, _, rfl, hr.rdb, hb.grown hr.gr hb.size fun k e => by injection e with e; rw [← e]; exact Nat.le_trans hn hbg⟩
end Go.Proofs.YtdnmpgoigagjmaaGreatDoor
