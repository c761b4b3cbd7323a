/-
  The walk of (relief.entry).sort.
  The reference of relief: add.
  lot.Of, and what a nil slice is.
-/
import Derived.Test.YtjlakdocjpmblaaGreatDoorK33
import Derived.Test.YtjlakdocjpmblaaGreatDoorK31
import Derived.Test.YtjlakdocjpmblaaGreatDoorK34
import Derived.Deep.AppendLies
import Derived.Test.YtjlakdocjpmblaaGreatDoorK35
import Derived.Test.YtjlakdocjpmblaaGreatDoorK25
import Derived.Test.YtjlakdocjpmblaaGreatDoorK20
set_option linter.unusedVariables false
set_option linter.unusedSimpArgs false
set_option maxHeartbeats 16000000
set_option maxRecDepth 100000
namespace Go.Proofs.YtjlakdocjpmblaaGreatDoor
open Go.RowKit Tr Go.Shelf
theorem revLots_none (A : Option Addr) (c : Nat) (w : World) :
 Calls Tryz.prog 67 #[.slice A 0 c] w fun e w' => e = .returned (.tuple #[]) ∧ w' = w := by
 go_enter Tryz.func67, Tryz.ntmps67
 go_wp2_with fail
 refine wp_loop_rounds 1 ?_
 rw [rounds_succ]
 go_wp2_with fail
 go_end0
 exact ⟨rfl, rfl⟩
def LotsPostN (w : World) (ls : List SLot) (e : Ending) (w' : World) : Prop := ∃ A c, e = .returned (.slice A ls.length c) ∧ ls.length ≤ c ∧ (∀ ad, A = some ad → w.heap.size ≤ ad.block) ∧ RdB w'.heap.size w' A ls ∧ Below w.heap.size w w' ∧ (A = none → ls.length = 0 ∧ c = 0)
def ordB (lt : Lot → Lot → Bool) (rev : Bool) (D : List Lot) : List Lot := if rev = true then (ssort lt D).reverse else ssort lt D
theorem sl_of : ∀ D : List Lot, (∀ x ∈ D, x.sized) → ∃ sl : List SLot, sl.map Subtype.val = D
 | [], _ => ⟨[], rfl⟩
 | x :: r, h => by
   obtain ⟨sl, e⟩ := sl_of r (fun y hy => h y (List.mem_cons_of_mem _ hy))
   exact ⟨⟨x, h x (List.mem_cons_self ..)⟩ :: sl, by rw [List.map_cons, e]⟩
theorem SRow.sl {w0 W : World} {g N : Nat} {sp : List Value} {D : List Lot} (h : SRow okL w0 g sp D W) (hN : D.length = N) : ∃ sl : List SLot, sl.map Subtype.val = D ∧ sl.length = N ∧ RdB W.heap.size W (some ⟨g, 0, none⟩) sl := by
 obtain ⟨sl, e⟩ := sl_of D (fun x hx => (h.ok x hx).1)
 refine ⟨sl, e, by rw [← hN, ← e, List.length_map], fun _ => ⟨_, rfl, h.ltW, fun j l hj => ?_⟩⟩
 rw [addr_add0]
 refine h.at ?_
 rw [← e, List.getElem?_map, hj]
 rfl
theorem esort_gen (nm : ByteArray) (f : Nat) (bd : Array Value) (rev : Bool) (cf : Lot → Lot → Int) (lt : Lot → Lot → Bool) (hw : Weak lt) (hlt : ∀ x y, okL x → okL y → decide (cf x y < 0) = lt x y)
 (n₀ : Nat) (A : Option Addr) (ls : List SLot) (c : Nat) (hlen : ls.length ≤ 100000) (w : World) (hR : RdB n₀ w A ls) (hn : n₀ ≤ w.heap.size) (hA : A = none → ls.length = 0 ∧ c = 0) (hq : ∀ l ∈ ls, 0 < vl l.1.qty)
 (hC : ∀ W g, Below w.heap.size w W → w.heap.size ≤ g → CmpS okL cf f bd W g) :
 Calls Tryz.prog 29 #[.agg #[.string nm, .func (.func f) #[] bd, .bool rev], .slice A ls.length c] w fun e w' => ∃ sl : List SLot, sl.map Subtype.val = ordB lt rev (ls.map Subtype.val) ∧ LotsPostN w sl e w' := by
 obtain ⟨W0, hW0⟩ : ∃ W0, w.alloc (.cells #[.string nm, .func (.func f) #[] bd, .bool rev] 57) = W0 := ⟨_, rfl⟩
 have hb0 : Below w.heap.size w W0 := by rw [← hW0]; exact (Below.refl _ w).alloc (Nat.le_refl _) _
 have k0 : W0.heap[w.heap.size]? = some (.cells #[.string nm, .func (.func f) #[] bd, .bool rev] 57 (0, 0)) := by rw [← hW0]; exact heap_alloc_new w _
 have HCLO := hI (cloneLots_own A ls c n₀ W0 (hR.below (hb0.mono hn)) (Nat.le_trans hn hb0.size) hlen hA)
 obtain ⟨N, hN⟩ : ∃ N, ls.length = N := ⟨_, rfl⟩
 rw [hN] at HCLO hlen ⊢
 have HN := hI hN
 have HB0 := hI hb0
 have HK0 := hI k0
 have HC := hI hC
 have HLT := hI hlt
 have HWK := hI hw
 have HQ := hI hq
 clear hR hn hA hb0 k0 hC hlt hw hq hN
 go_enter Tryz.func29, Tryz.ntmps29
 go_wp2_with fail
 refine HCLO.out.mono ?_
 rintro e w1 ⟨v, rfl, hown, b1⟩
 have HO := hI hown
 have hk1 := (b1.block w.heap.size (Array.getElem?_eq_some_iff.1 HK0.out).1).trans HK0.out
 have HK1 := hI hk1
 have HB1 := hI (HB0.out.trans (b1.mono HB0.out.size))
 have c1 := Lib.cell_of_heap hk1 1
 have c2 := Lib.cell_of_heap hk1 2
 simp at c1 c2
 clear hown b1 HCLO hk1
 rcases Nat.eq_zero_or_pos N with h0 | hpos
 ·subst h0
  obtain ⟨A', c', rfl, _⟩ : ∃ A' c', v = .slice A' 0 c' ∧ True := by
   rcases HO.out.2 with ⟨rfl, _⟩ | ⟨g, cap, cur, rfl, _⟩
   ·exact ⟨_, _, rfl, trivial⟩
   ·exact ⟨_, _, rfl, trivial⟩
  have HS := hI (sortStable_none A' c' f bd w1)
  have HL0 : Hid (ls = []) := List.eq_nil_of_length_eq_zero HN.out
  have hfin : LotsPostN w [] (.returned (.slice A' 0 c')) w1 := ⟨A', c', rfl, Nat.zero_le _, fun ad e => by
   rcases HO.out.2 with ⟨h, _⟩ | ⟨g, cap, cur, h, hg, _⟩
   ·injection h with h1 _ _; rw [h1] at e; cases e
   ·injection h with h1 _ _; rw [h1] at e; injection e with e; rw [← e]; exact Nat.le_trans HB0.out.size hg, fun h => absurd rfl h, HB1.out, fun h0 => by
   rcases HO.out.2 with ⟨h, _⟩ | ⟨g, cap, cur, h, hg, _⟩
   ·injection h with _ _ h3; exact ⟨rfl, h3⟩
   ·injection h with h1 _ _; rw [h1] at h0; cases h0⟩
  have HFIN := hI hfin
  have HE : Hid ([] = ordB lt rev (ls.map Subtype.val)) := by rw [HL0.out]; unfold ordB; cases rev <;> rfl
  clear hfin
  go_wp2_with fail
  refine HS.out.mono ?_
  rintro e w2 ⟨rfl, rfl⟩
  cases rev
  ·go_wp2_with fail
   go_ret
   exact ⟨[], HE.out, HFIN.out⟩
  ·have HRV := hI (revLots_none A' c' w2)
   go_wp2_with fail
   refine HRV.out.mono ?_
   rintro e w3 ⟨rfl, rfl⟩
   go_wp2_with fail
   go_ret
   exact ⟨[], HE.out, HFIN.out⟩
 ·obtain ⟨g, cap, rfl, hbg, hgl⟩ := HO.out.form hpos
  obtain ⟨D, hD⟩ : ∃ D, ls.map Subtype.val = D := ⟨_, rfl⟩
  have hDN : D.length = N := by rw [← hD, List.length_map, HN.out]
  obtain ⟨sp, hrow⟩ : ∃ sp, w1.heap[g]? = some (.cells (flatV D ++ sp).toArray 48 (0, 0)) := by
   rcases HO.out.2 with ⟨h, _⟩ | ⟨g', cap', cur, h, _, hg, _, _, _, ht⟩
   ·simp at h
   ·simp at h
    obtain ⟨rfl, _⟩ := h
    refine ⟨cur.toList.drop (N * 7), ?_⟩
    rw [← hD, flatV_val, ← ht, List.take_append_drop]
    exact hg
  have hcap : N ≤ cap := by
   rcases HO.out.2 with ⟨h, _⟩ | ⟨g', cap', cur, h, _, hg, hnc, _⟩
   ·simp at h
   ·simp at h
    omega
  have hgw : w.heap.size ≤ g := Nat.le_trans HB0.out.size hbg
  have hgne : w.heap.size ≠ g := by
   have := (Array.getElem?_eq_some_iff.1 HK0.out).1
   omega
  have hs : SRow okL w1 g sp D w1 := ⟨hrow, fun x hx => by
   rw [← hD] at hx
   obtain ⟨y, hy, rfl⟩ := List.mem_map.1 hx
   exact ⟨y.2, HQ.out y hy⟩, ⟨rfl, rfl, rfl, Nat.le_refl _, fun _ _ _ => rfl⟩, hgl⟩
  have HS := hI (sortStable_any okL cf lt HWK.out w1 g N cap f bd HLT.out (HC.out w1 g HB1.out hgw) sp D hDN hlen w1 hs)
  have HDD := hI hD
  have HDN := hI hDN
  have HG : Hid (w.heap.size ≤ g ∧ w.heap.size ≠ g ∧ N ≤ cap) := ⟨hgw, hgne, hcap⟩
  clear hD hDN hrow hcap hgw hgne hs hbg hgl HC HLT
  go_wp2_with fail
  refine HS.out.mono ?_
  rintro e w2 ⟨rfl, hr2⟩
  have HR2 := hI hr2
  have hk2 := (hr2.gr.block w.heap.size (Array.getElem?_eq_some_iff.1 HK1.out).1 (fun e => HG.out.2.1 (by injection e))).trans HK1.out
  have d2 := Lib.cell_of_heap hk2 2
  simp at d2
  clear hr2 hk2 c1 c2 HS
  have hfin : ∀ (D' : List Lot) (W : World), SRow okL w1 g sp D' W → D'.length = N → ∃ sl : List SLot, sl.map Subtype.val = D' ∧ LotsPostN w sl (.returned (.slice (some ⟨g, 0, none⟩) N cap)) W := by
   intro D' W hW hl
   obtain ⟨sl, h1, h2, h3⟩ := hW.sl hl
   exact ⟨sl, h1, _, _, by rw [h2], by rw [h2]; exact HG.out.2.2, fun ad e => by injection e with e; rw [← e]; exact HG.out.1, h3, HB1.out.grown hW.gr (HB1.out.size) (fun k e => by injection e with e; rw [← e]; exact HG.out.1), fun h => by cases h⟩
  have HFIN := hI hfin
  have hl2 : (ssort lt D).length = N := by rw [(ssort_perm lt D).length_eq, HDN.out]
  have HL2 := hI hl2
  clear hfin
  cases rev
  ·go_wp2_with fail
   go_ret
   obtain ⟨sl, h1, h2⟩ := HFIN.out _ _ HR2.out HL2.out
   exact ⟨sl, by rw [h1, HDD.out]; rfl, h2⟩
  ·have HRV := hI (revLots_any okL w1 g N cap sp (ssort lt D) hl2 (by omega) w2 HR2.out)
   clear hl2
   go_wp2_with fail
   refine HRV.out.mono ?_
   rintro e w3 ⟨rfl, hr3⟩
   have HR3 := hI hr3
   clear hr3 d2
   go_wp2_with fail
   go_ret
   obtain ⟨sl, h1, h2⟩ := HFIN.out _ _ HR3.out (by rw [List.length_reverse]; exact HL2.out)
   exact ⟨sl, by rw [h1, HDD.out]; rfl, h2⟩
theorem flatK_at : ∀ (ps : List Pk) (j : Nat) (u : Value), (flatK ps)[j]? = some u → ∃ k p f, ps[k]? = some p ∧ f < 2 ∧ j = k * 2 + f ∧ p.cells[f]? = some u
 | [], j, u, h => by simp [flatK] at h
 | p :: r, j, u, h => by
   rw [flatK_cons] at h
   rcases Nat.lt_or_ge j 2 with h2 | h2
   ·rw [List.getElem?_append_left (by exact h2)] at h
    exact ⟨0, p, j, rfl, h2, by omega, by rw [← Array.getElem?_toList]; exact h⟩
   ·rw [List.getElem?_append_right (by exact h2)] at h
    obtain ⟨k, q, f, h1, h3, h4, h5⟩ := flatK_at r (j - 2) u h
    exact ⟨k + 1, q, f, h1, h3, by omega, h5⟩
theorem RdK.flat {n : Nat} {w : World} {a : Addr} {ps : List Pk} (h : RdK n w (some a) ps) : ∀ j u, (flatK ps)[j]? = some u → w.cell? (a.add j) = some u := by
 intro j u hu
 obtain ⟨k, p, f, h1, h2, rfl, h4⟩ := flatK_at ps j u hu
 obtain ⟨ad, e, _, hc⟩ := h (by intro e; rw [e] at h1; cases h1)
 injection e with e
 subst e
 obtain ⟨c0, c1⟩ := hc k p h1
 have hs : a.spot = none := by
  obtain ⟨y, hy⟩ : ∃ y, ps[0]? = some y := ⟨_, List.getElem?_eq_getElem (by have := (List.getElem?_eq_some_iff.1 h1).1; omega)⟩
  have h0 := (hc 0 y hy).c0
  rw [show a.add (0 * 2) = a from by unfold Addr.add; simp] at h0
  exact none_of_cell h0
 rw [add_none a hs] at c0 c1
 rw [add_none a hs]
 rcases (show f = 0 ∨ f = 1 from by omega) with rfl | rfl <;> simp at h4 <;> subst h4
 ·simpa using c0
 ·simpa [Nat.add_assoc] using c1
theorem app_picks (w : World) (base : Nat) (v : Value) (n : Nat) (xs : List Value) (hown : w.ownsRow base 37 2 v n xs) (A : Option Addr) (m c : Nat) (ps : List Pk) (n₁ : Nat) (hR : RdK n₁ w A ps) (hl : ps.length = m) (hA : A = none → m = 0 ∧ c = 0) (hnm : n + m ≤ 200000) (hb : base ≤ w.heap.size) :
 ∃ v' w', (Builtin.append_ #[24, 24] 24 #[v, .slice A m c]).run Tryz.prog w = .ok v' w' ∧ w'.ownsRow base 37 2 v' (n + m) (xs ++ flatK ps) ∧ w.grownBy w' v.ownBlock := by
 obtain ⟨i0, hi0, hz0, hz1, hz2⟩ := info_parts Tryz.infoPick
 cases A with
 | some ad =>
   obtain ⟨v', w', h1, h2, h3, _⟩ := run_append_own (P := Tryz.prog) w base 24 24 37 i0 _ 2 32 Tryz.underlying24 hi0 hz0 hz1 hz2 rfl (by decide) v n xs hown ad m c (flatK ps) (by rw [flatK_len, hl]) hR.flat (flatK_one _) (by unfold maxLen; omega) (by omega) hb
   exact ⟨v', w', h1, h2, h3⟩
 | none =>
   obtain ⟨rfl, rfl⟩ := hA rfl
   obtain rfl : ps = [] := List.eq_nil_of_length_eq_zero hl
   refine ⟨v, w, ?_, by simpa [flatK] using hown, ⟨rfl, rfl, rfl, Nat.le_refl _, fun _ _ _ => rfl⟩⟩
   rcases hown.2 with ⟨rfl, rfl⟩ | ⟨g, cap, cur, rfl, hbg, hg, hnc, _, _, _⟩
   ·simp [Builtin.append_, run_underlying Tryz.underlying24, sizeOf, typeInfo, hi0, Builtin.lenOf, Builtin.firstCells, loadCells, loadCellsFrom]
   ·simp [Builtin.append_, run_underlying Tryz.underlying24, sizeOf, typeInfo, hi0, Builtin.lenOf, Builtin.firstCells, loadCells, loadCellsFrom, hnc, storeCells]
theorem pks_at {out : Am} {k : Nat} {a : ByteArray × Int} (ha : out[k]? = some a) : (pksOf out)[k]? = some ⟨a.1, I a.2⟩ := by unfold pksOf; rw [List.getElem?_map, ha]; rfl
theorem pks_len (out : Am) : (pksOf out).length = out.length := by unfold pksOf; rw [List.length_map]
theorem own_sto {W : World} {base g N c k : Nat} {out : Am} {a : ByteArray × Int} {ad : Addr} (had : ad = ⟨g, 0, none⟩) (hN : (pksOf out).length = N) (h : W.ownsRow base 37 2 (.slice (some ad) N c) N (flatK (pksOf out))) (ha : out[k]? = some a) (z : Int) :
 (W.setCell ⟨(ad.add (k * 2)).block, (ad.add (k * 2)).off + 1, none⟩ (.string (I z))).ownsRow base 37 2 (.slice (some ad) N c) N (flatK (pksOf (out.set k (a.1, z)))) ∧ W.grownBy (W.setCell ⟨(ad.add (k * 2)).block, (ad.add (k * 2)).off + 1, none⟩ (.string (I z))) (some g) ∧
   W.cell? (ad.add (k * 2)) = some (.string a.1) ∧ W.cell? ⟨(ad.add (k * 2)).block, (ad.add (k * 2)).off + 1, none⟩ = some (.string (I a.2)) ∧ W.frozen? ⟨(ad.add (k * 2)).block, (ad.add (k * 2)).off + 1, none⟩ = false := by
 subst had
 rw [addr_add0]
 have hp := pks_at ha
 have hk : k < N := by rw [← hN]; exact (List.getElem?_eq_some_iff.1 hp).1
 obtain ⟨h1, h2⟩ := h.stored (k * 2 + 1) (.string (I z))
 rw [flatK_set _ _ _ _ hp] at h1
 have e1 : (pksOf out).set k ⟨a.1, I z⟩ = pksOf (out.set k (a.1, z)) := by unfold pksOf; rw [List.map_set]
 rw [show ((⟨a.1, I a.2⟩ : Pk).lot) = a.1 from rfl, e1] at h1
 refine ⟨h1, h2, ?_, ?_, h.frozenAt (k * 2 + 1)⟩
 ·rw [h.cellAt (k * 2) (by omega)]
  exact (flatK_get _ _ _ hp).1
 ·rw [h.cellAt (k * 2 + 1) (by omega)]
  exact (flatK_get _ _ _ hp).2
def putA (out : Am) (id : ByteArray) (n : Int) : Am := if n = 0 then out else addA out id n
def RaddP (w : World) (out : Am) (e : Ending) (w' : World) : Prop :=
 ∃ (A' : Option Addr) (c' : Nat), e = .returned (.slice A' (pksOf out).length c') ∧ Below w.heap.size w w' ∧ RdK w'.heap.size w' A' (pksOf out) ∧ (pksOf out).length ≤ c' ∧ (A' = none → (pksOf out).length = 0 ∧ c' = 0)
theorem raddP_own {w w' : World} {base : Nat} {v : Value} {out : Am} (h : w'.ownsRow base 37 2 v (pksOf out).length (flatK (pksOf out))) (hb : Below w.heap.size w w') : RaddP w out (.returned v) w' := by
 obtain ⟨A, c, rfl, h1, _, h2⟩ := RdK.of_own h
 refine ⟨A, c, rfl, hb, h2, h1, fun e => ?_⟩
 subst e
 rcases h.2 with ⟨e, h0⟩ | ⟨g, cap, cur, e, _⟩
 ·injection e with _ _ e2
  exact ⟨h0, e2⟩
 ·simp at e
theorem radd20_any (n₀ : Nat) (A : Option Addr) (out : Am) (c : Nat) (hl : out.length ≤ 100000) (hc : (pksOf out).length ≤ c) (hA : A = none → (pksOf out).length = 0 ∧ c = 0) (id : ByteArray) (n : Int) (hs : (I n).size ≤ 2000) (hs2 : ∀ a ∈ out, (I a.2).size ≤ 2000) (w : World) (hR : RdK n₀ w A (pksOf out)) (hn : n₀ ≤ w.heap.size) :
 Calls Tryz.prog 55 #[.slice A (pksOf out).length c, .string id, .string (I n)] w (RaddP w (putA out id n)) := by
 by_cases h0 : n = 0
 ·have t1 : ((I n).toList == []) = true := by rw [toList_nil, decide_eq_true h0]
  have hp : putA out id n = out := if_pos h0
  have HF : Hid (RaddP w (putA out id n) (.returned (.slice A (pksOf out).length c)) w) := by
   rw [hp]
   exact ⟨A, c, rfl, Below.refl _ _, hR.mono hn, hc, hA⟩
  clear hR hA h0 hp
  go_enter Tryz.func55, Tryz.ntmps55
  go_wp2_with fail
  go_ret
  exact HF.out
 have t1 : ((I n).toList == []) = false := by rw [toList_nil, decide_eq_false h0]
 have HP : Hid (putA out id n = addA out id n) := if_neg h0
 obtain ⟨N, hN⟩ : ∃ N, (pksOf out).length = N := ⟨_, rfl⟩
 rw [hN] at hc hA ⊢
 have hNl : out.length = N := by rw [← pks_len]; exact hN
 -- the copy
 have hown0 : (w.alloc (.cells #[] 37)).ownsRow w.heap.size 37 2 (.slice (some ⟨w.heap.size, 0, none⟩) 0 0) 0 [] := World.ownsRow_made w #[] 0 (Nat.le_refl _) (Nat.zero_le _) rfl
 have hba : Below w.heap.size w (w.alloc (.cells #[] 37)) := (Below.refl _ w).alloc (Nat.le_refl _) _
 obtain ⟨v1, w1, r1, o1, g1⟩ := app_picks (w.alloc (.cells #[] 37)) w.heap.size _ 0 [] hown0 A N c (pksOf out) n₀ (hR.below (hba.mono hn)) hN hA (by omega) hba.size
 rw [Nat.zero_add, List.nil_append] at o1
 have hb1 : Below w.heap.size w w1 := hba.grown g1 hba.size (fun k hk => (hown0.lt k hk).1)
 have o1' := o1
 rw [← hN] at o1'
 obtain ⟨A1, c1, e1, hc1, _, hr1⟩ := RdK.of_own o1'
 subst e1
 rw [hN] at o1 r1 hc1
 have HO := hI o1
 have HB := hI hb1
 have HR := hI hr1
 have HN := hI hNl
 have HNK := hI hN
 have HS := hI hs
 have HS2 := hI hs2
 clear hR hA h0 hown0 hba g1 o1 o1' hb1 hr1 hs hs2 hn
 go_enter Tryz.func55, Tryz.ntmps55
 go_wp2_with (at_builtin; refine Lib.wpList_append_run _ rfl _ _ _ _ rfl _ _ rfl rfl _ _ r1 ?_)
 clear r1 t1
 go_loop [8] (fun v => ∃ k : Nat, v = .int .i64 (k : Int) ∧ k ≤ N ∧ ∀ x ∈ out.take k, x.1 ≠ id) (fun v => N - (intOf v).toNat)
 case atStart => exact ⟨0, rfl, by omega, fun x hx => by simp at hx⟩
 case round =>
  obtain ⟨k, rfl, hk, hx⟩ := hrel
  have HX := hI hx
  clear hx
  rcases Nat.lt_or_ge k N with hlt | hge
  ·obtain ⟨a, ha⟩ : ∃ a, out[k]? = some a := ⟨_, List.getElem?_eq_getElem (by rw [HN.out]; exact hlt)⟩
   obtain ⟨i, m⟩ := a
   obtain ⟨ad, rfl, had, hcell⟩ := HR.out (by intro e; have := pks_at ha; rw [e] at this; cases this)
   have hcx : decide ((k : Int) < (N : Int)) = true := by simp; omega
   obtain ⟨d0, d1⟩ := hcell k _ (pks_at ha)
   dsimp only at d0 d1
   have HAT := hI ha
   have HTK := hI (take_snoc ha)
   have e2 := str_eq i id
   obtain ⟨g, hgd⟩ : ∃ g, ad = ⟨g, 0, none⟩ := by
    obtain ⟨g, cap, e, _⟩ := HO.out.form (by omega)
    simp at e
    exact ⟨g, e.1⟩
   have HGD := hI hgd
   clear hcell ha hgd
   by_cases h1 : i = id
   ·rw [decide_eq_true h1] at e2
    subst h1
    have HSP := hI (amt_split HAT.out HX.out n)
    have HMS : Hid ((I m).size ≤ 2000) := HS2.out _ (List.mem_of_getElem? HAT.out)
    have hadd := rAdd_any (I m) (I n) (by have := HMS.out; omega) (by have := HS.out; omega) w1
    rw [vl_I, vl_I] at hadd
    have HADD := hI hadd
    clear hadd
    go_wp2_with fail
    refine HADD.out.mono ?_
    rintro e w2 ⟨rfl, b2⟩
    have HB2 := hI (HB.out.trans (b2.mono HB.out.size))
    have o2 := HO.out.kept (row := none) ⟨b2.os, b2.tape, b2.output, b2.size, fun k hk _ => b2.block k hk⟩ (.inr (by simp [Value.ownBlock]))
    obtain ⟨q1, q2, q3, q4, q5⟩ := own_sto HGD.out HNK.out o2 HAT.out (m + n)
    have hlen : (pksOf (out.set k (i, m + n))).length = N := by rw [pks_len, List.length_set, HN.out]
    have HQ := hI q1
    have HQB : Hid (Below w.heap.size w (w2.setCell ⟨(ad.add (k * 2)).block, (ad.add (k * 2)).off + 1, none⟩ (.string (I (m + n))))) := HB2.out.grown q2 HB2.out.size (fun j e => by
     injection e with e
     subst e
     exact (HO.out.lt g (by rw [HGD.out]; rfl)).1)
    have HL := hI hlen
    clear b2 o2 q1 q2 d0 d1 hlen HADD
    go_wp2_with fail
    go_ret
    rw [HP.out, HSP.out.2]
    exact raddP_own (by rw [HL.out]; exact HQ.out) HQB.out
   ·rw [decide_eq_false h1] at e2
    have H1 := hI h1
    clear h1
    go_wp2_with fail
    go_round
    case rel =>
     refine ⟨k + 1, by go_num, by omega, fun x hx => ?_⟩
     rw [HTK.out, List.mem_append] at hx
     rcases hx with hx | hx
     ·exact HX.out x hx
     ·rw [List.mem_singleton] at hx; subst hx; exact H1.out
    case measure => simp [intOf]; omega
  ·have hcx : decide ((k : Int) < (N : Int)) = false := by simp; omega
   have hnn : ∀ a ∈ out, a.1 ≠ id := fun a ha => HX.out a (by rw [List.take_of_length_le (by rw [HN.out]; exact hge)]; exact ha)
   have hadd := addA_none out id n hnn
   have hb2 : Below w1.heap.size w1 (w1.alloc (.cells #[.string id, .string (I n)] 37)) := (Below.refl _ w1).alloc (Nat.le_refl _) _
   have o2 : (w1.alloc (.cells #[.string id, .string (I n)] 37)).ownsRow w.heap.size 37 2 (.slice A1 N c1) N (flatK (pksOf out)) := HO.out.alloc _
   have hbb : Below w.heap.size w (w1.alloc (.cells #[.string id, .string (I n)] 37)) := HB.out.trans (hb2.mono HB.out.size)
   obtain ⟨g3, cap3, w3, r3, o3, gr3, _⟩ := run_app_pick (w1.alloc (.cells #[.string id, .string (I n)] 37)) w.heap.size _ N _ ⟨id, I n⟩ w1.heap.size 1 o2 (heap_alloc_new w1 _) (by omega) hbb.size
   have hb3 : Below w.heap.size w w3 := hbb.grown gr3 hbb.size (fun j e => (o2.lt j e).1)
   have hfl : flatK (pksOf (out ++ [(id, n)])) = flatK (pksOf out) ++ (⟨id, I n⟩ : Pk).cells.toList := by
    unfold pksOf
    rw [List.map_append, flatK_append]
    rfl
   have hle : (pksOf (out ++ [(id, n)])).length = N + 1 := by rw [pks_len, List.length_append, HN.out]; rfl
   have HF : Hid (RaddP w (putA out id n) (.returned (.slice (some ⟨g3, 0, none⟩) (N + 1) cap3)) w3) := by
    rw [HP.out, hadd]
    exact raddP_own (by rw [hle, hfl]; exact o3) hb3
   clear hnn hadd hb2 o2 hbb o3 gr3 hb3 hfl hle
   go_wp2_with (at_builtin; refine Lib.wpList_append_run _ rfl _ _ _ _ rfl _ _ rfl rfl _ _ r3 ?_)
   go_ret
   exact HF.out
theorem lOf_n (n₀ : Nat) (A : Option Addr) (ls : List SLot) (c : Nat) (s : ByteArray) (w : World) (hlen : ls.length ≤ 1000000) (hR : RdB n₀ w A ls) (hnw : n₀ ≤ w.heap.size) :
 Calls Tryz.prog 38 #[.slice A ls.length c, .string s] w (LotsPostN w (ownL ls s)) := by
 have hC : ∀ (W : World) (bl bi : Nat), Boxed W bl 22 (.slice A ls.length c) → Boxed W bi 9 (.string s) → RdB n₀ W A ls → n₀ ≤ W.heap.size →
  Calls Tryz.prog 74 #[.func (.func 107) #[] #[.pointer (some ⟨bl, 0, none⟩), .pointer (some ⟨bi, 0, none⟩)]] W (LotsPostN W (ownL ls s)) := by
  intro W bl bi k0 k1 k2 k3
  have HA := hI ((callsIn_wide (n := 6)).1 (appendSeq_of 6 bl bi n₀ A ls c s W (by omega) hlen k0 k1 k2 k3))
  clear k0 k1 k2 k3 hR hnw
  go_enter Tryz.func74, Tryz.ntmps74
  go_wp2_with fail
  refine HA.out.mono ?_
  rintro e w1 ⟨v, rfl, hrow, hb⟩
  have hnil : ∀ A' c', v = .slice A' (ownL ls s).length c' → A' = none → (ownL ls s).length = 0 ∧ c' = 0 := fun A' c' hv hn0 => by
   rcases hrow.2 with ⟨h, h0⟩ | ⟨g, cap, cur, h, _⟩
   ·rw [h] at hv; injection hv with _ _ h3; exact ⟨h0, h3.symm⟩
   ·rw [h] at hv; injection hv with h1 _ _; rw [hn0] at h1; cases h1
  obtain ⟨A', c', rfl, h1, h2, h3⟩ := RdB.of_own hrow
  have h9 := hnil A' c' rfl
  have HF : Hid (LotsPostN W (ownL ls s) (.returned (.slice A' (ownL ls s).length c')) w1) := ⟨A', c', rfl, h1, h2, h3, hb, h9⟩
  clear hrow h1 h2 h3 hb h9 hnil
  go_wp2_with fail
  go_ret
  exact HF.out
 have HC := hI hC
 have HR := hI hR
 clear hC hR
 go_enter Tryz.func38, Tryz.ntmps38
 go_wp2_with fail
 refine (lof_any A ls.length c s w).mono ?_
 rintro e w1 ⟨rfl, hw1⟩
 have b1 : Below w.heap.size w w1 := by rw [hw1]; exact ((Below.refl _ w).alloc (Nat.le_refl _) _).alloc (by simp) _
 have k0 : Boxed w1 w.heap.size 22 (.slice A ls.length c) := by rw [hw1]; exact (Boxed.new w _ _).alloc _
 have k1 : Boxed w1 (w.heap.size + 1) 9 (.string s) := by
  rw [hw1]
  have := Boxed.new (w.alloc (.cells #[.slice A ls.length c] 22)) 9 (.string s)
  rwa [World.size_alloc] at this
 have HX := hI (HC.out w1 _ _ k0 k1 (HR.out.below (b1.mono hnw)) (Nat.le_trans hnw b1.size))
 have HB1 := hI b1
 clear hw1 k0 k1 b1
 go_wp2_with fail
 refine HX.out.mono ?_
 rintro e w2 ⟨A', c', rfl, h1, h2, h3, h4, h9⟩
 have HF : Hid (LotsPostN w (ownL ls s) (.returned (.slice A' (ownL ls s).length c')) w2) := ⟨A', c', rfl, h1, fun ad e => Nat.le_trans HB1.out.size (h2 ad e), h3, HB1.out.trans (h4.mono HB1.out.size), h9⟩
 clear h1 h2 h3 h4 h9
 go_wp2_with fail
 go_ret
 exact HF.out
end Go.Proofs.YtjlakdocjpmblaaGreatDoor
