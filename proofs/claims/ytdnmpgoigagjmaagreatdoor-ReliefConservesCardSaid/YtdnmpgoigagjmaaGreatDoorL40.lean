/-
  The walk of (relief.entry).sort.
  The boxes that the function that takes shares with relief.Choose.
  The walk of the function that takes (relief.Choose$2). (Printed by gen_tkc1.py.)
  lot.Of, and what a nil slice is.
-/
import Derived.Test.YtdnmpgoigagjmaaGreatDoorL34
import Derived.Test.YtdnmpgoigagjmaaGreatDoorL32
import Derived.Test.YtdnmpgoigagjmaaGreatDoorL35
import Derived.Deep.AppendLies
import Derived.Test.YtdnmpgoigagjmaaGreatDoorL36
import Derived.Test.YtdnmpgoigagjmaaGreatDoorL27
import Derived.Test.YtdnmpgoigagjmaaGreatDoorL19
set_option linter.unusedVariables false
set_option linter.unusedSimpArgs false
set_option maxHeartbeats 16000000
set_option maxRecDepth 100000
namespace Go.Proofs.YtdnmpgoigagjmaaGreatDoor
open Go.RowKit Tr Go.Shelf
theorem revLots_none (A : Option Addr) (c : Nat) (w : World) :
 Calls Tryz.prog 37 #[.slice A 0 c] w fun e w' => e = .returned (.tuple #[]) ∧ w' = w := by
 go_enter Tryz.func37, Tryz.ntmps37
 go_wp2_with fail
 refine wp_loop_rounds 1 ?_
 rw [rounds_succ]
 go_wp2_with fail
 go_end0
 exact ⟨rfl, rfl⟩
def LotsPostN (w : World) (ls : List SLot) (e : Ending) (w' : World) : Prop := ∃ A c, e = .returned (.slice A ls.length c) ∧ ls.length ≤ c ∧ (∀ ad, A = some ad → w.heap.size ≤ ad.block) ∧ RdB w'.heap.size w' A ls ∧ Below w.heap.size w w' ∧ (A = none → ls.length = 0 ∧ c = 0)
def ordB (lt : Lot → Lot → Bool) (rev : Bool) (D : List Lot) : List Lot := if rev = true then (ssort lt D).reverse else ssort lt D
theorem sl_of : ∀ D : List Lot, (∀ x ∈ D, x.sized) → ∃ sl : List SLot, sl.map Subtype.val = D
 | [], _ => ⟨[], rfl⟩
 | x :: r, h => by
   obtain ⟨sl, e⟩ := sl_of r (fun y hy => h y (List.mem_cons_of_mem _ hy))
   exact ⟨⟨x, h x (List.mem_cons_self ..)⟩ :: sl, by rw [List.map_cons, e]⟩
theorem SRow.sl {w0 W : World} {g N : Nat} {sp : List Value} {D : List Lot} (h : SRow okL w0 g sp D W) (hN : D.length = N) : ∃ sl : List SLot, sl.map Subtype.val = D ∧ sl.length = N ∧ RdB W.heap.size W (some ⟨g, 0, none⟩) sl := by
 obtain ⟨sl, e⟩ := sl_of D (fun x hx => (h.ok x hx).1)
 refine ⟨sl, e, by rw [← hN, ← e, List.length_map], fun _ => ⟨_, rfl, h.ltW, fun j l hj => ?_⟩⟩
 rw [addr_add0]
 refine h.at ?_
 rw [← e, List.getElem?_map, hj]
 rfl
theorem esort_gen (nm : ByteArray) (f : Nat) (bd : Array Value) (rev : Bool) (cf : Lot → Lot → Int) (lt : Lot → Lot → Bool) (hw : Weak lt) (hlt : ∀ x y, okL x → okL y → decide (cf x y < 0) = lt x y)
 (n₀ : Nat) (A : Option Addr) (ls : List SLot) (c : Nat) (hlen : ls.length ≤ 100000) (w : World) (hR : RdB n₀ w A ls) (hn : n₀ ≤ w.heap.size) (hA : A = none → ls.length = 0 ∧ c = 0) (hq : ∀ l ∈ ls, 0 < vl l.1.qty)
 (hC : ∀ W g, Below w.heap.size w W → w.heap.size ≤ g → CmpS okL cf f bd W g) :
 Calls Tryz.prog 75 #[.agg #[.string nm, .func (.func f) #[] bd, .bool rev], .slice A ls.length c] w fun e w' => ∃ sl : List SLot, sl.map Subtype.val = ordB lt rev (ls.map Subtype.val) ∧ LotsPostN w sl e w' := by
 obtain ⟨W0, hW0⟩ : ∃ W0, w.alloc (.cells #[.string nm, .func (.func f) #[] bd, .bool rev] 93) = W0 := ⟨_, rfl⟩
 have hb0 : Below w.heap.size w W0 := by rw [← hW0]; exact (Below.refl _ w).alloc (Nat.le_refl _) _
 have k0 : W0.heap[w.heap.size]? = some (.cells #[.string nm, .func (.func f) #[] bd, .bool rev] 93 (0, 0)) := by rw [← hW0]; exact heap_alloc_new w _
 have HCLO := hI (cloneLots_own A ls c n₀ W0 (hR.below (hb0.mono hn)) (Nat.le_trans hn hb0.size) hlen hA)
 obtain ⟨N, hN⟩ : ∃ N, ls.length = N := ⟨_, rfl⟩
 rw [hN] at HCLO hlen ⊢
 have HN := hI hN
 have HB0 := hI hb0
 have HK0 := hI k0
 have HC := hI hC
 have HLT := hI hlt
 have HWK := hI hw
 have HQ := hI hq
 clear hR hn hA hb0 k0 hC hlt hw hq hN
 go_enter Tryz.func75, Tryz.ntmps75
 go_wp2_with fail
 refine HCLO.out.mono ?_
 rintro e w1 ⟨v, rfl, hown, b1⟩
 have HO := hI hown
 have hk1 := (b1.block w.heap.size (Array.getElem?_eq_some_iff.1 HK0.out).1).trans HK0.out
 have HK1 := hI hk1
 have HB1 := hI (HB0.out.trans (b1.mono HB0.out.size))
 have c1 := Lib.cell_of_heap hk1 1
 have c2 := Lib.cell_of_heap hk1 2
 simp at c1 c2
 clear hown b1 HCLO hk1
 rcases Nat.eq_zero_or_pos N with h0 | hpos
 ·subst h0
  obtain ⟨A', c', rfl, _⟩ : ∃ A' c', v = .slice A' 0 c' ∧ True := by
   rcases HO.out.2 with ⟨rfl, _⟩ | ⟨g, cap, cur, rfl, _⟩
   ·exact ⟨_, _, rfl, trivial⟩
   ·exact ⟨_, _, rfl, trivial⟩
  have HS := hI (sortStable_none A' c' f bd w1)
  have HL0 : Hid (ls = []) := List.eq_nil_of_length_eq_zero HN.out
  have hfin : LotsPostN w [] (.returned (.slice A' 0 c')) w1 := ⟨A', c', rfl, Nat.zero_le _, fun ad e => by
   rcases HO.out.2 with ⟨h, _⟩ | ⟨g, cap, cur, h, hg, _⟩
   ·injection h with h1 _ _; rw [h1] at e; cases e
   ·injection h with h1 _ _; rw [h1] at e; injection e with e; rw [← e]; exact Nat.le_trans HB0.out.size hg, fun h => absurd rfl h, HB1.out, fun h0 => by
   rcases HO.out.2 with ⟨h, _⟩ | ⟨g, cap, cur, h, hg, _⟩
   ·injection h with _ _ h3; exact ⟨rfl, h3⟩
   ·injection h with h1 _ _; rw [h1] at h0; cases h0⟩
  have HFIN := hI hfin
  have HE : Hid ([] = ordB lt rev (ls.map Subtype.val)) := by rw [HL0.out]; unfold ordB; cases rev <;> rfl
  clear hfin
  go_wp2_with fail
  refine HS.out.mono ?_
  rintro e w2 ⟨rfl, rfl⟩
  cases rev
  ·go_wp2_with fail
   go_ret
   exact ⟨[], HE.out, HFIN.out⟩
  ·have HRV := hI (revLots_none A' c' w2)
   go_wp2_with fail
   refine HRV.out.mono ?_
   rintro e w3 ⟨rfl, rfl⟩
   go_wp2_with fail
   go_ret
   exact ⟨[], HE.out, HFIN.out⟩
 ·obtain ⟨g, cap, rfl, hbg, hgl⟩ := HO.out.form hpos
  obtain ⟨D, hD⟩ : ∃ D, ls.map Subtype.val = D := ⟨_, rfl⟩
  have hDN : D.length = N := by rw [← hD, List.length_map, HN.out]
  obtain ⟨sp, hrow⟩ : ∃ sp, w1.heap[g]? = some (.cells (flatV D ++ sp).toArray 49 (0, 0)) := by
   rcases HO.out.2 with ⟨h, _⟩ | ⟨g', cap', cur, h, _, hg, _, _, _, ht⟩
   ·simp at h
   ·simp at h
    obtain ⟨rfl, _⟩ := h
    refine ⟨cur.toList.drop (N * 7), ?_⟩
    rw [← hD, flatV_val, ← ht, List.take_append_drop]
    exact hg
  have hcap : N ≤ cap := by
   rcases HO.out.2 with ⟨h, _⟩ | ⟨g', cap', cur, h, _, hg, hnc, _⟩
   ·simp at h
   ·simp at h
    omega
  have hgw : w.heap.size ≤ g := Nat.le_trans HB0.out.size hbg
  have hgne : w.heap.size ≠ g := by
   have := (Array.getElem?_eq_some_iff.1 HK0.out).1
   omega
  have hs : SRow okL w1 g sp D w1 := ⟨hrow, fun x hx => by
   rw [← hD] at hx
   obtain ⟨y, hy, rfl⟩ := List.mem_map.1 hx
   exact ⟨y.2, HQ.out y hy⟩, ⟨rfl, rfl, rfl, Nat.le_refl _, fun _ _ _ => rfl⟩, hgl⟩
  have HS := hI (sortStable_any okL cf lt HWK.out w1 g N cap f bd HLT.out (HC.out w1 g HB1.out hgw) sp D hDN hlen w1 hs)
  have HDD := hI hD
  have HDN := hI hDN
  have HG : Hid (w.heap.size ≤ g ∧ w.heap.size ≠ g ∧ N ≤ cap) := ⟨hgw, hgne, hcap⟩
  clear hD hDN hrow hcap hgw hgne hs hbg hgl HC HLT
  go_wp2_with fail
  refine HS.out.mono ?_
  rintro e w2 ⟨rfl, hr2⟩
  have HR2 := hI hr2
  have hk2 := (hr2.gr.block w.heap.size (Array.getElem?_eq_some_iff.1 HK1.out).1 (fun e => HG.out.2.1 (by injection e))).trans HK1.out
  have d2 := Lib.cell_of_heap hk2 2
  simp at d2
  clear hr2 hk2 c1 c2 HS
  have hfin : ∀ (D' : List Lot) (W : World), SRow okL w1 g sp D' W → D'.length = N → ∃ sl : List SLot, sl.map Subtype.val = D' ∧ LotsPostN w sl (.returned (.slice (some ⟨g, 0, none⟩) N cap)) W := by
   intro D' W hW hl
   obtain ⟨sl, h1, h2, h3⟩ := hW.sl hl
   exact ⟨sl, h1, _, _, by rw [h2], by rw [h2]; exact HG.out.2.2, fun ad e => by injection e with e; rw [← e]; exact HG.out.1, h3, HB1.out.grown hW.gr (HB1.out.size) (fun k e => by injection e with e; rw [← e]; exact HG.out.1), fun h => by cases h⟩
  have HFIN := hI hfin
  have hl2 : (ssort lt D).length = N := by rw [(ssort_perm lt D).length_eq, HDN.out]
  have HL2 := hI hl2
  clear hfin
  cases rev
  ·go_wp2_with fail
   go_ret
   obtain ⟨sl, h1, h2⟩ := HFIN.out _ _ HR2.out HL2.out
   exact ⟨sl, by rw [h1, HDD.out]; rfl, h2⟩
  ·have HRV := hI (revLots_any okL w1 g N cap sp (ssort lt D) hl2 (by omega) w2 HR2.out)
   clear hl2
   go_wp2_with fail
   refine HRV.out.mono ?_
   rintro e w3 ⟨rfl, hr3⟩
   have HR3 := hI hr3
   clear hr3 d2
   go_wp2_with fail
   go_ret
   obtain ⟨sl, h1, h2⟩ := HFIN.out _ _ HR3.out (by rw [List.length_reverse]; exact HL2.out)
   exact ⟨sl, by rw [h1, HDD.out]; rfl, h2⟩
theorem flatK_get (ps : List Pk) (j : Nat) (p : Pk) (h : ps[j]? = some p) : (flatK ps)[j * 2]? = some (.string p.lot) ∧ (flatK ps)[j * 2 + 1]? = some (.string p.qty) := by
 obtain ⟨hj, he⟩ := List.getElem?_eq_some_iff.1 h
 have e : ps = ps.take j ++ p :: ps.drop (j + 1) := by rw [← he, ← List.drop_eq_getElem_cons hj, List.take_append_drop]
 have hl : (flatK (ps.take j)).length = j * 2 := by rw [flatK_len, List.length_take]; omega
 rw [e, flatK_append, flatK_cons]
 constructor
 ·rw [List.getElem?_append_right (by omega), hl, Nat.sub_self]; rfl
 ·rw [List.getElem?_append_right (by omega), hl, show j * 2 + 1 - j * 2 = 1 from by omega]; rfl
theorem flatK_set (ps : List Pk) (j : Nat) (p : Pk) (q : ByteArray) (h : ps[j]? = some p) : (flatK ps).set (j * 2 + 1) (.string q) = flatK (ps.set j ⟨p.lot, q⟩) := by
 obtain ⟨hj, he⟩ := List.getElem?_eq_some_iff.1 h
 have e : ps = ps.take j ++ p :: ps.drop (j + 1) := by rw [← he, ← List.drop_eq_getElem_cons hj, List.take_append_drop]
 have hl : (flatK (ps.take j)).length = j * 2 := by rw [flatK_len, List.length_take]; omega
 have hl2 : (ps.take j).length = j := by rw [List.length_take]; omega
 have e2 : ps.set j ⟨p.lot, q⟩ = ps.take j ++ (⟨p.lot, q⟩ : Pk) :: ps.drop (j + 1) := by
  conv => lhs; rw [e]
  rw [List.set_append_right _ _ (by omega), hl2, Nat.sub_self]; rfl
 rw [e2, flatK_append, flatK_cons]
 conv => lhs; rw [e, flatK_append, flatK_cons]
 rw [List.set_append_right _ _ (by omega), hl, show j * 2 + 1 - j * 2 = 1 from by omega]; rfl
theorem RdK.of_own {w : World} {base : Nat} {v : Value} {ps : List Pk} (h : w.ownsRow base 43 2 v ps.length (flatK ps)) :
 ∃ A c, v = .slice A ps.length c ∧ ps.length ≤ c ∧ (∀ ad, A = some ad → base ≤ ad.block) ∧ RdK w.heap.size w A ps := by
 rcases h.2 with ⟨rfl, h0⟩ | ⟨g, cap, cur, rfl, hb, hg, hnc, hcm, _⟩
 ·have : ps = [] := List.eq_nil_of_length_eq_zero h0
  subst this
  exact ⟨none, 0, rfl, Nat.le_refl _, (fun _ e => by cases e), fun e => absurd rfl e⟩
 ·refine ⟨_, _, rfl, hnc, fun ad e => by cases e; exact hb, fun _ => ⟨_, rfl, (Array.getElem?_eq_some_iff.1 hg).1, fun j l hj => ?_⟩⟩
  have hc := h.cells (g := g) rfl
  obtain ⟨g1, g2⟩ := flatK_get ps j l hj
  have h1 := hc _ _ g1
  have h2 := hc _ _ g2
  rw [addr_add0] at h1 h2
  rw [addr_add0]
  exact ⟨h1, h2⟩
structure ChS (wT w0 : World) (Bo Bq : Nat) (g0 : Option Nat) (st : Am × Int) (v : Value) (W : World) : Prop where
 tw : Below wT.heap.size wT w0
 bs : wT.heap.size ≤ Bo ∧ wT.heap.size ≤ Bq ∧ ∀ g, g0 = some g → wT.heap.size ≤ g
 bo : Boxed W Bo 23 v
 bq : Boxed W Bq 25 (.string (I st.2))
 row : W.ownsRow wT.heap.size 43 2 v (pksOf st.1).length (flatK (pksOf st.1))
 lies : v.ownBlock = g0 ∨ ∀ g, v.ownBlock = some g → w0.heap.size ≤ g
 os : W.os = w0.os
 tape : W.tape = w0.tape
 output : W.output = w0.output
 size : w0.heap.size ≤ W.heap.size
 keep : ∀ k, k < w0.heap.size → k ≠ Bo → k ≠ Bq → some k ≠ g0 → W.heap[k]? = w0.heap[k]?
section
variable {wT w0 W W' : World} {Bo Bq : Nat} {g0 : Option Nat} {st : Am × Int} {v : Value}
theorem ChS.outer (h : ChS wT w0 Bo Bq g0 st v W) : Below wT.heap.size wT W :=
 h.tw.trans ⟨h.os, h.tape, h.output, h.size, fun k hk => h.keep k (Nat.lt_of_lt_of_le hk h.tw.size) (by have := h.bs.1; omega) (by have := h.bs.2.1; omega) (fun e => by have := h.bs.2.2 k e.symm; omega)⟩
theorem ChS.below (h : ChS wT w0 Bo Bq g0 st v W) (hb : Below W.heap.size W W') : ChS wT w0 Bo Bq g0 st v W' where
 tw := h.tw
 bs := h.bs
 bo := (hb.block Bo h.bo.lt).trans h.bo
 bq := (hb.block Bq h.bq.lt).trans h.bq
 row := h.row.kept ⟨hb.os, hb.tape, hb.output, hb.size, fun k hk _ => hb.block k hk⟩ (row := none) (by cases h2 : v.ownBlock; exact .inl rfl; exact .inr (by simp))
 lies := h.lies
 os := hb.os.trans h.os
 tape := hb.tape.trans h.tape
 output := hb.output.trans h.output
 size := Nat.le_trans h.size hb.size
 keep := fun k hk h1 h2 h3 => (hb.block k (Nat.lt_of_lt_of_le hk h.size)).trans (h.keep k hk h1 h2 h3)
theorem ChS.drew (h : ChS wT w0 Bo Bq g0 st v W) : ChS wT w0 Bo Bq g0 st v W.drew := h.below (Below.refl _ _).drew
theorem ChS.setQ (h : ChS wT w0 Bo Bq g0 st v W) (hne : Bo ≠ Bq) (z : Int) : ChS wT w0 Bo Bq g0 (st.1, z) v (W.setCell ⟨Bq, 0, none⟩ (.string (I z))) where
 tw := h.tw
 bs := h.bs
 bo := h.bo.kept (grownBy_setCell' W Bq _) (by simpa using hne)
 bq := h.bq.set _
 row := h.row.kept (grownBy_setCell' W Bq _) (.inr (h.bq.not_row (by decide) h.row).symm)
 lies := h.lies
 os := h.os
 tape := h.tape
 output := h.output
 size := Nat.le_trans h.size (grownBy_setCell' W Bq _).size
 keep := fun k hk h1 h2 h3 => (Below.heap_setCell _ _ _ k h2).trans (h.keep k hk h1 h2 h3)
theorem ChS.app (h : ChS wT w0 Bo Bq g0 st v W) {out' : Am} {v' : Value} (hb : W.grownBy W' v.ownBlock) (hr : W'.ownsRow wT.heap.size 43 2 v' (pksOf out').length (flatK (pksOf out'))) (hl : v'.ownBlock = v.ownBlock ∨ ∀ g, v'.ownBlock = some g → W.heap.size ≤ g) :
 ChS wT w0 Bo Bq g0 (out', st.2) v' (W'.setCell ⟨Bo, 0, none⟩ v') := by
 have hbo : Boxed W' Bo 23 v := h.bo.kept hb (h.bo.not_row (by decide) h.row)
 have hbq : Boxed W' Bq 25 (.string (I st.2)) := h.bq.kept hb (h.bq.not_row (by decide) h.row)
 have hne : Bq ≠ Bo := fun e => by
  have h1 := hbo
  have h2 := hbq
  rw [e] at h2
  have := (show W'.heap[Bo]? = _ from h1).symm.trans h2
  simp at this
 refine ⟨h.tw, h.bs, hbo.set _, hbq.kept (grownBy_setCell' W' Bo _) (by simpa using hne), hr.kept (grownBy_setCell' W' Bo _) (.inr (hbo.not_row (by decide) hr).symm), ?_, hb.os.trans h.os, hb.tape.trans h.tape, hb.output.trans h.output, Nat.le_trans h.size (Nat.le_trans hb.size (grownBy_setCell' W' Bo _).size), fun k hk h1 h2 h3 => ?_⟩
 ·rcases hl with hl | hl
  ·rw [hl]; exact h.lies
  ·exact .inr fun g e => Nat.le_trans h.size (hl g e)
 ·rw [Below.heap_setCell _ _ _ k h1, hb.block k (Nat.lt_of_lt_of_le hk h.size) (fun e => ?_)]
  ·exact h.keep k hk h1 h2 h3
  ·rcases h.lies with h4 | h4
   ·exact h3 (by rw [e, h4])
   ·have := h4 k e.symm; omega
theorem ChS.sto {g N c k : Nat} {a : ByteArray × Int} {ad : Addr} (h : ChS wT w0 Bo Bq g0 st (.slice (some ad) N c) W) (had : ad = ⟨g, 0, none⟩) (ha : st.1[k]? = some a) (z : Int) :
 ChS wT w0 Bo Bq g0 (st.1.set k (a.1, z), st.2) (.slice (some ad) N c) (W.setCell ⟨(ad.add (k * 2)).block, (ad.add (k * 2)).off + 1, none⟩ (.string (I z))) := by
 subst had
 rw [addr_add0]
 have hp : (pksOf st.1)[k]? = some ⟨a.1, I a.2⟩ := by unfold pksOf; rw [List.getElem?_map, ha]; rfl
 have hN : (pksOf st.1).length = N := by
  rcases h.row.2 with ⟨h1, _⟩ | ⟨_, _, _, h1, _⟩
  ·simp at h1
  ·simp at h1; exact h1.2.1.symm
 have hrow := h.row
 rw [hN] at hrow
 obtain ⟨h1, h2⟩ := hrow.stored (k * 2 + 1) (.string (I z))
 rw [flatK_set _ _ _ _ hp] at h1
 have e1 : (pksOf st.1).set k ⟨a.1, I z⟩ = pksOf (st.1.set k (a.1, z)) := by unfold pksOf; rw [List.map_set]
 rw [show ((⟨a.1, I a.2⟩ : Pk).lot) = a.1 from rfl, e1] at h1
 have hN2 : (pksOf (st.1.set k (a.1, z))).length = N := by rw [← e1, List.length_set, hN]
 refine ⟨h.tw, h.bs, h.bo.kept h2 (h.bo.not_row (by decide) h.row), h.bq.kept h2 (h.bq.not_row (by decide) h.row), by rw [hN2]; exact h1, h.lies, h2.os.trans h.os, h2.tape.trans h.tape, h2.output.trans h.output, Nat.le_trans h.size h2.size, fun j hj n1 n2 n3 => ?_⟩
 rw [h2.block j (Nat.lt_of_lt_of_le hj h.size) (fun e => ?_)]
 ·exact h.keep j hj n1 n2 n3
 ·rcases h.lies with h4 | h4
  ·exact n3 (by rw [← h4]; exact e)
  ·have := h4 g rfl
   injection e with e
   omega
theorem ChS.form (h : ChS wT w0 Bo Bq g0 st v W) : ∃ A c, v = .slice A (pksOf st.1).length c ∧ (pksOf st.1).length ≤ c ∧ RdK W.heap.size W A (pksOf st.1) := by
 obtain ⟨A, c, h1, h2, _, h3⟩ := RdK.of_own h.row
 exact ⟨A, c, h1, h2, h3⟩
theorem ChS.spot {A : Option Addr} {N c : Nat} (h : ChS wT w0 Bo Bq g0 st (.slice A N c) W) (hN : 0 < (pksOf st.1).length) : ∃ ad, A = some ad ∧ ∃ g, ad = ⟨g, 0, none⟩ := by
 obtain ⟨g, cap, e, _⟩ := h.row.form hN
 simp at e
 exact ⟨_, e.1, g, rfl⟩
theorem ChS.again (h : ChS wT w0 Bo Bq g0 st v W) : ChS wT W Bo Bq v.ownBlock st v W :=
 ⟨h.outer, ⟨h.bs.1, h.bs.2.1, fun g e => (h.row.lt g e).1⟩, h.bo, h.bq, h.row, .inl rfl, rfl, rfl, rfl, Nat.le_refl _, fun _ _ _ _ _ => rfl⟩
end
theorem ChS.cells {wT w0 W : World} {Bo Bq : Nat} {g0 : Option Nat} {st : Am × Int} {ad : Addr} {N c k : Nat} {a : ByteArray × Int} (h : ChS wT w0 Bo Bq g0 st (.slice (some ad) N c) W) (ha : st.1[k]? = some a) :
 W.cell? ⟨(ad.add (k * 2)).block, (ad.add (k * 2)).off + 1, none⟩ = some (.string (I a.2)) ∧ W.frozen? ⟨(ad.add (k * 2)).block, (ad.add (k * 2)).off + 1, none⟩ = false := by
 have hp : (pksOf st.1)[k]? = some ⟨a.1, I a.2⟩ := by unfold pksOf; rw [List.getElem?_map, ha]; rfl
 have hpos : 0 < (pksOf st.1).length := by
  have := (List.getElem?_eq_some_iff.1 hp).1
  omega
 obtain ⟨ad', e, g, rfl⟩ := h.spot hpos
 injection e with e
 subst e
 have hN : (pksOf st.1).length = N := by
  rcases h.row.2 with ⟨h1, _⟩ | ⟨_, _, _, h1, _⟩
  ·simp at h1
  ·simp at h1; exact h1.2.1.symm
 have hrow := h.row
 rw [hN] at hrow
 rw [addr_add0]
 refine ⟨?_, hrow.frozenAt (k * 2 + 1)⟩
 have hk : k < N := by rw [← hN]; exact (List.getElem?_eq_some_iff.1 hp).1
 rw [hrow.cellAt (k * 2 + 1) (by omega)]
 exact (flatK_get _ _ _ hp).2
theorem Tryz.infoPick : (Tryz.prog.info? 43).map (fun i => (i.zero, i.size, i.bytes)) = some (some (.agg #[.string ⟨#[]⟩, .string ⟨#[]⟩]), 2, 32) := by kernel_rfl
theorem run_app_pick (w : World) (base : Nat) (v : Value) (n : Nat) (xs : List Value) (p : Pk) (B cB : Nat) (hown : w.ownsRow base 43 2 v n xs) (hp : PkBox w B p) (hn : n ≤ 1000000) (hb : base ≤ w.heap.size) :
 ∃ g cap w', (Builtin.append_ #[23, 23] 23 #[v, .slice (some ⟨B, 0, none⟩) 1 cB]).run Tryz.prog w = .ok (.slice (some ⟨g, 0, none⟩) (n + 1) cap) w' ∧
  w'.ownsRow base 43 2 (.slice (some ⟨g, 0, none⟩) (n + 1) cap) (n + 1) (xs ++ p.cells.toList) ∧ w.grownBy w' v.ownBlock ∧ (v.ownBlock = some g ∨ g = w.heap.size) := by
 obtain ⟨i0, hi0, hz0, hz1, hz2⟩ := info_parts Tryz.infoPick
 obtain ⟨g, cap, w', h1, h2, h3, h4, _⟩ := run_append_lies (P := Tryz.prog) w 23 23 base 43 i0 _ 2 32 Tryz.underlying23 hi0 hz0 hz1 hz2 rfl (by decide) v n xs hown ⟨B, 0, none⟩ 1 cB p.cells.toList rfl
  (fun j u hu => by rw [addr_add0, Lib.cell_of_heap hp j, ← Array.getElem?_toList]; exact hu) (pkcells_one p) (by decide) (by unfold maxLen; omega) (by omega) hb w.heap.size rfl
 exact ⟨g, cap, w', h1, h2, h3, h4⟩
end Go.Proofs.YtdnmpgoigagjmaaGreatDoor
namespace Go.Proofs.YtdnmpgoigagjmaaGreatDoor
open Go.RowKit Tr Go.Shelf
structure TKAV (x : Lot) (wT w0 : World) (Bo Bq Bx : Nat) (g0 : Option Nat) (out : Am) (v : Value) (mo lf q l1 n : Int) (k : Nat)  (L : Array Bool) (W : World) (s8 s23 s24 s25 s26 s27 : Value) : Prop where
 k0 : L.getD 0 false = true → s23 = .string (I mo)
 k1 : L.getD 1 false = true → s24 = .string (I lf)
 k2 : L.getD 2 false = true → s25 = .string (I l1)
 k3 : L.getD 3 false = true → s26 = .string (I q)
 k4 : L.getD 4 false = true → s27 = .string (I n)
 k5 : L.getD 5 false = true → s8 = .string (I n)
 g : ChS wT w0 Bo Bq g0 (out, q) v W
 x : LotBox W Bx x
structure TKAJ (x : Lot) (wT w0 : World) (Bo Bq Bx : Nat) (g0 : Option Nat) (out : Am) (v : Value) (mo lf q l1 n : Int) (k : Nat) (x0 x5 x9 x10 x11 x12 x13 x14 x15 x16 x17 x18 x19 x20 x21 x22 x28 x29 x30 x31 x32 x33 x34 x35 x36 x37 x38 x39 x40 x41 x42 x43 x44 x45 x46 x47 x48 x49 x50 x51 x52 x53 x54 : Value) (L : Array Bool) (a : Act) (W : World) : Prop where
 sz : L.size = 6
 fr : ∃ s8 s23 s24 s25 s26 s27 : Value, a = { tmps := #[x0, .string (I mo), .pointer (some ⟨Bo, 0, none⟩), .pointer (some ⟨Bq, 0, none⟩), .pointer (some ⟨Bx, 0, none⟩), x5, .int .i64 (k : Int), .string (I lf), s8, x9, x10, x11, x12, x13, x14, x15, x16, x17, x18, x19, x20, x21, x22, s23, s24, s25, s26, s27, x28, x29, x30, x31, x32, x33, x34, x35, x36, x37, x38, x39, x40, x41, x42, x43, x44, x45, x46, x47, x48, x49, x50, x51, x52, x53, x54], defers := [] } ∧ TKAV x wT w0 Bo Bq Bx g0 out v mo lf q l1 n k  L W s8 s23 s24 s25 s26 s27
structure TKBV (x : Lot) (wT w0 : World) (Bo Bq Bx : Nat) (g0 : Option Nat) (out : Am) (v : Value) (mo lf q l1 n : Int)  (L : Array Bool) (W : World) (s8 s23 s24 s25 s26 s27 : Value) : Prop where
 k0 : L.getD 0 false = true → s23 = .string (I mo)
 k1 : L.getD 1 false = true → s24 = .string (I lf)
 k2 : L.getD 2 false = true → s25 = .string (I l1)
 k3 : L.getD 3 false = true → s26 = .string (I q)
 k4 : L.getD 4 false = true → s27 = .string (I n)
 k5 : L.getD 5 false = true → s8 = .string (I n)
 g : ChS wT w0 Bo Bq g0 (out, q) v W
 x : LotBox W Bx x
structure TKBJ (x : Lot) (wT w0 : World) (Bo Bq Bx : Nat) (g0 : Option Nat) (out : Am) (v : Value) (mo lf q l1 n : Int) (x0 x5 x9 x10 x11 x12 x13 x14 x15 x16 x17 x18 x19 x20 x21 x22 x28 x29 x30 x31 x32 x33 x34 x35 x36 x37 x38 x39 x40 x41 x42 x43 x44 x45 x46 x47 x48 x49 x50 x51 x52 x53 x54 : Value) (L : Array Bool) (a : Act) (W : World) : Prop where
 sz : L.size = 6
 fr : ∃ s8 s23 s24 s25 s26 s27 : Value, a = { tmps := #[x0, .string (I mo), .pointer (some ⟨Bo, 0, none⟩), .pointer (some ⟨Bq, 0, none⟩), .pointer (some ⟨Bx, 0, none⟩), x5, .int .i64 (-1), .string (I lf), s8, x9, x10, x11, x12, x13, x14, x15, x16, x17, x18, x19, x20, x21, x22, s23, s24, s25, s26, s27, x28, x29, x30, x31, x32, x33, x34, x35, x36, x37, x38, x39, x40, x41, x42, x43, x44, x45, x46, x47, x48, x49, x50, x51, x52, x53, x54], defers := [] } ∧ TKBV x wT w0 Bo Bq Bx g0 out v mo lf q l1 n  L W s8 s23 s24 s25 s26 s27
structure TKCV (x : Lot) (wT w0 : World) (Bo Bq Bx : Nat) (g0 : Option Nat) (out out2 : Am) (ad : Addr) (N c k : Nat) (m n r q : Int)  (L : Array Bool) (W : World) (s41 s42 s43 s44 s45 s46 s47 s48 s49 s50 s51 : Value) : Prop where
 k0 : L.getD 0 false = true → s41 = .slice (some ad) N c
 k1 : L.getD 1 false = true → s42 = .int .i64 (k : Int)
 k2 : L.getD 2 false = true → s43 = .slice (some ad) N c
 k3 : L.getD 3 false = true → s44 = .int .i64 (k : Int)
 k4 : L.getD 4 false = true → s45 = .pointer (some (ad.add (k * 2)))
 k5 : L.getD 5 false = true → s46 = .pointer (some ⟨(ad.add (k * 2)).block, (ad.add (k * 2)).off + 1, none⟩)
 k6 : L.getD 6 false = true → s47 = .string (I m)
 k7 : L.getD 7 false = true → s48 = .string (I n)
 k8 : L.getD 8 false = true → s49 = .string (I r)
 k9 : L.getD 9 false = true → s50 = .pointer (some (ad.add (k * 2)))
 k10 : L.getD 10 false = true → s51 = .pointer (some ⟨(ad.add (k * 2)).block, (ad.add (k * 2)).off + 1, none⟩)
 r0 : L.getD 11 false = false → ChS wT w0 Bo Bq g0 (out, q) (.slice (some ad) N c) W
 r1 : L.getD 11 false = true → ChS wT w0 Bo Bq g0 (out2, q) (.slice (some ad) N c) W
 q1 : L.getD 11 false = true → L.getD 6 false = true
 q8 : L.getD 11 false = true → L.getD 8 false = true
 q68 : L.getD 8 false = true → L.getD 6 false = true
structure TKCJ (x : Lot) (wT w0 : World) (Bo Bq Bx : Nat) (g0 : Option Nat) (out out2 : Am) (ad : Addr) (N c k : Nat) (m n r q : Int) (x0 x1 x5 x7 x9 x10 x11 x12 x13 x14 x15 x16 x17 x18 x19 x20 x21 x22 x23 x24 x25 x26 x27 x28 x29 x30 x31 x32 x33 x34 x35 x36 x37 x38 x39 x40 x52 x53 x54 : Value) (L : Array Bool) (a : Act) (W : World) : Prop where
 sz : L.size = 12
 fr : ∃ s41 s42 s43 s44 s45 s46 s47 s48 s49 s50 s51 : Value, a = { tmps := #[x0, x1, .pointer (some ⟨Bo, 0, none⟩), .pointer (some ⟨Bq, 0, none⟩), .pointer (some ⟨Bx, 0, none⟩), x5, .int .i64 (k : Int), x7, .string (I n), x9, x10, x11, x12, x13, x14, x15, x16, x17, x18, x19, x20, x21, x22, x23, x24, x25, x26, x27, x28, x29, x30, x31, x32, x33, x34, x35, x36, x37, x38, x39, x40, s41, s42, s43, s44, s45, s46, s47, s48, s49, s50, s51, x52, x53, x54], defers := [] } ∧ TKCV x wT w0 Bo Bq Bx g0 out out2 ad N c k m n r q  L W s41 s42 s43 s44 s45 s46 s47 s48 s49 s50 s51
theorem I_min_le {x y : Int} {k : Nat} (hx : (I x).size ≤ k) (hy : (I y).size ≤ k) : (I (min x y)).size ≤ k := by
 rcases Int.le_total x y with h | h
 ·rw [Int.min_eq_left h]; exact hx
 ·rw [Int.min_eq_right h]; exact hy
theorem splitA {out : Am} {k : Nat} {x : ByteArray × Int} (h : out[k]? = some x) : ∃ P Q, out = P ++ x :: Q ∧ P.length = k := by
 obtain ⟨hk, he⟩ := List.getElem?_eq_some_iff.1 h
 refine ⟨out.take k, out.drop (k + 1), ?_, by rw [List.length_take]; omega⟩
 rw [← he, ← List.drop_eq_getElem_cons hk, List.take_append_drop]
theorem amt_split {out : Am} {k : Nat} {id : ByteArray} {m : Int} (h : out[k]? = some (id, m)) (hn : ∀ a ∈ out.take k, a.1 ≠ id) (n : Int) : amt out id = m ∧ addA out id n = out.set k (id, m + n) := by
 obtain ⟨P, Q, rfl, hP⟩ := splitA h
 have e : (P ++ (id, m) :: Q).take k = P := by rw [← hP, List.take_left]
 rw [e] at hn
 refine ⟨amt_hit P Q id m hn, ?_⟩
 rw [addA_hit P Q id m n hn, List.set_append_right _ _ (by omega), ← hP, Nat.sub_self]; rfl
theorem take_any (wT w0 : World) (Bo Bq : Nat) (g0 : Option Nat) (out : Am) (q : Int) (v : Value) (x : Lot) (hx : x.sized) (hcq : Can x.qty) (mo : Int) (hne : Bo ≠ Bq) (hlen : out.length ≤ 100000)
 (b1 : (I q).size ≤ 2000) (b2 : ∀ a ∈ out, (I a.2).size ≤ 2000) (b3 : (I (vl x.qty - amt out x.id)).size ≤ 2000) (b4 : (I mo).size ≤ 2000) (ht : Tabs wT) (w : World) (hS : ChS wT w0 Bo Bq g0 (out, q) v w) :
 Calls Tryz.prog 70 #[x.enc, .string (I mo), .pointer (some ⟨Bo, 0, none⟩), .pointer (some ⟨Bq, 0, none⟩)] w fun e w' => e = .returned (.tuple #[]) ∧ ∃ v', ChS wT w0 Bo Bq g0 (tk (out, q) x mo) v' w' := by
 obtain ⟨W0, hW0⟩ : ∃ W0, w.alloc (.cells x.cells 49) = W0 := ⟨_, rfl⟩
 have hb0 : Below w.heap.size w W0 := by rw [← hW0]; exact (Below.refl _ w).alloc (Nat.le_refl _) _
 have hx0 : LotBox W0 w.heap.size x := by rw [← hW0]; exact heap_alloc_new w _
 have hS0 := hS.below hb0
 obtain ⟨A, c, hv, hc, hK⟩ := hS0.form
 have hpl : (pksOf (out, q).1).length = out.length := by unfold pksOf; rw [List.length_map]
 have HI := hI (idxPicks_any (fun p => decide (p.lot = x.id)) 72 #[.pointer (some ⟨w.heap.size, 0, none⟩)] W0.heap.size A (pksOf out) c (by rw [hpl]; omega) W0 hK (Nat.le_refl _) (pickClo_is x w.heap.size W0 _ hx0))
 rw [hpl] at HI hv
 subst hv
 obtain ⟨N, hN⟩ : ∃ N, out.length = N := ⟨_, rfl⟩
 rw [hN] at HI hS0 hlen
 have HN := hI hN
 have HS0 := hI hS0
 have HX0 := hI hx0
 have HSZ := hI hx
 have HCQ : Hid (x.qty = I (vl x.qty)) := hcq.symm
 have HT := hI ht
 have HB1 := hI b1
 have HB2 := hI b2
 have HB3 := hI b3
 have HB4 := hI b4
 have HNE := hI hne
 have cb := hS0.bo.cell
 have HADDA := hI (fun (m n : Int) (hm : (I m).size ≤ 2000) (hn : (I n).size ≤ 2000) (W : World) (hW : Below wT.heap.size wT W) => Add_any (I m) (I n) W (by omega) (by omega) (ht.below hW))
 have HSUBB := hI (fun (m n : Int) (hm : (I m).size ≤ 2000) (hn : (I n).size ≤ 2000) (W : World) (hW : Below wT.heap.size wT W) => Sub_any (I m) (I n) W (by omega) (by omega) (ht.below hW))
 simp only [vl_I] at HADDA HSUBB
 have HQS : Hid ((I (vl x.qty)).size ≤ 2000) := by have h1 := hx.2.2.1; rw [hcq.symm] at h1; exact Nat.le_trans h1 (by decide)
 clear hS hS0 hb0 hx0 hx hcq ht b1 b2 b3 b4 hne hK hc hpl hN
 unfold Lot.enc Lot.cells at *
 go_enter Tryz.func70, Tryz.ntmps70
 go_wp2_with fail
 refine HI.out.mono ?_
 rintro e w1 ⟨⟨z, rfl, hz⟩, bz⟩
 have HS1 := hI (HS0.out.below bz)
 have HX1 := hI (HX0.out.below bz)
 clear bz cb HI HS0 HX0
 have c4 := Lib.cell_of_heap HX1.out 4
 simp at c4
 rw [HCQ.out] at c4
 rcases hz with ⟨k, p, rfl, hk, hp, hno⟩ | ⟨rfl, hno⟩
 ·have t1 : decide ((k : Int) ≥ 0) = true := decide_eq_true (by omega)
  have t2 : decide ((0 : Int) ≤ (k : Int)) = true := t1
  obtain ⟨a, ha, rfl⟩ : ∃ a, out[k]? = some a ∧ p = ⟨a.1, I a.2⟩ := by
   unfold pksOf at hk
   rw [List.getElem?_map] at hk
   obtain ⟨a, ha, e⟩ := Option.map_eq_some_iff.1 hk
   exact ⟨a, ha, e.symm⟩
  obtain ⟨i, m⟩ := a
  obtain rfl : i = x.id := by simpa using hp
  have hno2 : ∀ a ∈ out.take k, a.1 ≠ x.id := by
   intro a ha e
   have := hno ⟨a.1, I a.2⟩ (by unfold pksOf; rw [← List.map_take]; exact List.mem_map.2 ⟨a, ha, rfl⟩)
   simp [e] at this
  have HSP := fun n => amt_split ha hno2 n
  obtain ⟨ad, rfl, g, had⟩ := HS1.out.spot (by unfold pksOf; rw [List.length_map]; have := (List.getElem?_eq_some_iff.1 ha).1; show 0 < out.length; omega)
  have HAD := hI had
  have hk0 : k < N := by rw [← HN.out]; exact (List.getElem?_eq_some_iff.1 ha).1
  have HK0 := hI hk0
  have HAT := hI ha
  have HAM : Hid (amt out x.id = m) := (HSP 0).1
  have HAA := hI (fun n => (HSP n).2)
  have HMS : Hid ((I m).size ≤ 2000) := HB2.out _ (List.mem_of_getElem? ha)
  clear hno hno2 hp hk ha had HSP
  have cb := HS1.out.bo.cell
  have cm := (HS1.out.cells HAT.out).1
  have HSB := hI (HSUBB.out (vl x.qty) m HQS.out HMS.out w1 HS1.out.outer)
  go_wp2_with fail
  refine HSB.out.mono ?_
  rintro e w2 ⟨rfl, bs⟩
  have HS2 := hI (HS1.out.below bs)
  have HX2 := hI (HX1.out.below bs)
  clear bs cb cm c4 HSB HS1 HX1
  have HLS : Hid ((I (vl x.qty - m)).size ≤ 2000) := by have h := HB3.out; rwa [HAM.out] at h
  obtain ⟨l1, hl1⟩ : ∃ l1, l1 = min mo (vl x.qty - m) := ⟨_, rfl⟩
  obtain ⟨n, hn⟩ : ∃ n, n = min l1 q := ⟨_, rfl⟩
  have HL1 := hI (fun W => least20_I mo (vl x.qty - m) (by have := HB4.out; omega) (by have := HLS.out; omega) W)
  have HNS : Hid ((I n).size ≤ 2000) := by rw [hn, hl1]; exact I_min_le (I_min_le HB4.out HLS.out) HB1.out
  have HL2 := hI (fun W => least20_I l1 q (by rw [hl1]; have := I_min_le HB4.out HLS.out; omega) (by have := HB1.out; omega) W)
  rw [← hl1] at HL1
  rw [← hn] at HL2
  have HN0 : Hid (n = min (min mo (vl x.qty - m)) q) := by rw [← hl1]; exact hn
  clear hl1 hn
  have hgS := HS2.out.drew
  have hxS : LotBox w2.drew w.heap.size x := HX2.out
  go_wp2_with fail
  have mixed : Tryz.prog.follows .mixedOrders = true := by kernel_rfl
  refine wp_region_any mixed (wpAny_inv (TKAJ x wT w0 Bo Bq w.heap.size g0 out (.slice (some ad) N c) mo (vl x.qty - m) q l1 n k _ _ _ _ _ _ _ _ _ _ _ _ _ _ _ _ _ _ _ _ _ _ _ _ _ _ _ _ _ _ _ _ _ _ _ _ _ _ _ _ _ _ _) ?stTKA ?dnTKA _ _ _ _ ⟨by simp, ⟨_, _, _, _, _, _, rfl, fun h => by simp at h, fun h => by simp at h, fun h => by simp at h, fun h => by simp at h, fun h => by simp at h, fun h => by simp at h, hgS, hxS⟩⟩ (by decide))
  case dnTKA =>
   intro L a w' hj hr
   have all := all_on hr hj.sz (by kernel_rfl)
   obtain ⟨s8, s23, s24, s25, s26, s27, rfl, hv⟩ := hj.fr
   have e5 := hv.k5 (all 5 (by omega))
   subst e5
   have HS5 := hI hv.g
   have HX5 := hI hv.x
   clear all hv hj hr
   dsimp only
   have HTN : Hid (tkN (out, q) x mo = n) := by unfold tkN; show min (min mo (vl x.qty - amt out x.id)) q = n; rw [HAM.out, HN0.out]
   clear HL1 HL2
   have HPO := hI (positive20_any (I n) (by have := HNS.out; omega) w')
   rw [vl_I] at HPO
   go_wp2_with fail
   refine HPO.out.mono ?_
   rintro e w6 ⟨rfl, b6⟩
   have HS6 := hI (HS5.out.below b6)
   have HX6 := hI (HX5.out.below b6)
   clear b6 HPO HS5 HX5
   by_cases h0 : 0 < n
   case neg =>
    rw [decide_eq_false h0]
    have HR := hI (tk_no (st := (out, q)) (x := x) (most := mo) (by rw [HTN.out]; exact h0))
    clear h0
    go_wp2_with fail
    first | go_end0 | (refine bodyPost_ret (results_none rfl _ _ _) rfl ?_)
    exact ⟨rfl, _, by rw [HR.out]; exact HS6.out⟩
   rw [decide_eq_true h0]
   have HR := hI (tk_yes (st := (out, q)) (x := x) (most := mo) (by rw [HTN.out]; exact h0))
   have HSUBA := hI (fun W hW => HSUBB.out q n HB1.out HNS.out W hW)
   clear h0
   obtain ⟨r, hr⟩ : ∃ r, m + n = r := ⟨_, rfl⟩
   have hadd := HADDA.out m n HMS.out HNS.out
   rw [hr] at hadd
   have HADD := hI hadd
   obtain ⟨out2, ho2⟩ : ∃ o, out.set k (x.id, r) = o := ⟨_, rfl⟩
   have HO2 := hI ho2
   have HRR := hI hr
   clear ho2 hadd hr
   have t3 : decide ((k : Int) < 0) = false := decide_eq_false (by omega)
   have hgS := HS6.out.drew
   go_wp2_with fail
   have mixed : Tryz.prog.follows .mixedOrders = true := by kernel_rfl
   refine wp_region_any mixed (wpAny_inv (TKCJ x wT w0 Bo Bq w.heap.size g0 out out2 ad N c k m n r q _ _ _ _ _ _ _ _ _ _ _ _ _ _ _ _ _ _ _ _ _ _ _ _ _ _ _ _ _ _ _ _ _ _ _ _ _ _ _) ?stTKC ?dnTKC _ _ _ _ ⟨by simp, ⟨_, _, _, _, _, _, _, _, _, _, _, rfl, fun h => by simp at h, fun h => by simp at h, fun h => by simp at h, fun h => by simp at h, fun h => by simp at h, fun h => by simp at h, fun h => by simp at h, fun h => by simp at h, fun h => by simp at h, fun h => by simp at h, fun h => by simp at h, fun _ => hgS, fun h => by simp at h, fun h => by simp at h, fun h => by simp at h, fun h => by simp at h⟩⟩ (by decide))
   case dnTKC =>
    intro L a w' hj hr
    have all := all_on hr hj.sz (by kernel_rfl)
    obtain ⟨s41, s42, s43, s44, s45, s46, s47, s48, s49, s50, s51, rfl, hv⟩ := hj.fr
    have HS10 := hI (hv.r1 (all 11 (by omega)))
    clear all hv hj hr
    dsimp only
    have hq := HS10.out.bq.cell
    have hqf := HS10.out.bq.frozen
    have HSUB := hI (HSUBA.out w' HS10.out.outer)
    go_wp2_with fail
    refine HSUB.out.mono ?_
    rintro e w9 ⟨rfl, b9⟩
    have HS9 := hI (HS10.out.below b9)
    have hq9 := HS9.out.bq.cell
    have hqf9 := HS9.out.bq.frozen
    clear b9 HSUB hq hqf
    go_wp2_with fail
    go_end0
    exact ⟨rfl, _, by rw [HR.out, HTN.out]; show ChS _ _ _ _ _ (addA out x.id n, q - n) _ _; rw [HAA.out, HRR.out, HO2.out]; exact HS9.out.setQ HNE.out (q - n)⟩
   case stTKC =>
    intro L a w' hj i hi
    obtain ⟨hun, o, ho, hall⟩ := mem_ready.1 hi
    have hoff := getD_off hun
    have hlt := (Array.getElem?_eq_some_iff.1 ho).1
    simp at hlt
    obtain ⟨s41, s42, s43, s44, s45, s46, s47, s48, s49, s50, s51, rfl, hv⟩ := hj.fr
    have HV := hI hv
    have HJ := hI hj
    clear hv hj
    rcases (show i = 0 ∨ i = 1 ∨ i = 2 ∨ i = 3 ∨ i = 4 ∨ i = 5 ∨ i = 6 ∨ i = 7 ∨ i = 8 ∨ i = 9 ∨ i = 10 ∨ i = 11 from by omega) with rfl | rfl | rfl | rfl | rfl | rfl | rfl | rfl | rfl | rfl | rfl | rfl
    ·simp at ho
     subst ho
     clear hall hi
     have hbo : w'.cell? ⟨Bo, 0, none⟩ = some (.slice (some ad) N c) := by rcases off_or_on L 11 with h | h; exact (HV.out.r0 h).bo.cell; exact (HV.out.r1 h).bo.cell
     refine wpOp_hid rfl fun K' HK => ?_
     go_simp
     cases HV.out
     refine HK.out _ _ ⟨by simp [HJ.out.sz], ⟨_, _, _, _, _, _, _, _, _, _, _, rfl, fun _ => rfl, ?_, ?_, ?_, ?_, ?_, ?_, ?_, ?_, ?_, ?_, fun h => HV.out.r0 (Dz h), ?_, fun h => getD_up hun (HV.out.q1 (Uz h)), fun h => getD_up hun (HV.out.q8 (Uz h)), fun h => getD_up hun (HV.out.q68 (Uz h))⟩⟩
     all_goals exact Um (by assumption)
    ·simp at ho
     subst ho
     clear hall hi
     refine wpOp_hid rfl fun K' HK => ?_
     go_simp
     cases HV.out
     refine HK.out _ _ ⟨by simp [HJ.out.sz], ⟨_, _, _, _, _, _, _, _, _, _, _, rfl, ?_, fun _ => rfl, ?_, ?_, ?_, ?_, ?_, ?_, ?_, ?_, ?_, fun h => HV.out.r0 (Dz h), ?_, fun h => getD_up hun (HV.out.q1 (Uz h)), fun h => getD_up hun (HV.out.q8 (Uz h)), fun h => getD_up hun (HV.out.q68 (Uz h))⟩⟩
     all_goals exact Um (by assumption)
    ·simp at ho
     subst ho
     clear hall hi
     have hbo : w'.cell? ⟨Bo, 0, none⟩ = some (.slice (some ad) N c) := by rcases off_or_on L 11 with h | h; exact (HV.out.r0 h).bo.cell; exact (HV.out.r1 h).bo.cell
     refine wpOp_hid rfl fun K' HK => ?_
     go_simp
     cases HV.out
     refine HK.out _ _ ⟨by simp [HJ.out.sz], ⟨_, _, _, _, _, _, _, _, _, _, _, rfl, ?_, ?_, fun _ => rfl, ?_, ?_, ?_, ?_, ?_, ?_, ?_, ?_, fun h => HV.out.r0 (Dz h), ?_, fun h => getD_up hun (HV.out.q1 (Uz h)), fun h => getD_up hun (HV.out.q8 (Uz h)), fun h => getD_up hun (HV.out.q68 (Uz h))⟩⟩
     all_goals exact Um (by assumption)
    ·simp at ho
     subst ho
     clear hall hi
     refine wpOp_hid rfl fun K' HK => ?_
     go_simp
     cases HV.out
     refine HK.out _ _ ⟨by simp [HJ.out.sz], ⟨_, _, _, _, _, _, _, _, _, _, _, rfl, ?_, ?_, ?_, fun _ => rfl, ?_, ?_, ?_, ?_, ?_, ?_, ?_, fun h => HV.out.r0 (Dz h), ?_, fun h => getD_up hun (HV.out.q1 (Uz h)), fun h => getD_up hun (HV.out.q8 (Uz h)), fun h => getD_up hun (HV.out.q68 (Uz h))⟩⟩
     all_goals exact Um (by assumption)
    ·simp at ho
     subst ho
     have H2 := Hq hall 2
     have H3 := Hq hall 3
     clear hall hi
     have e0 := HV.out.k2 H2.out
     subst e0
     have e1 := HV.out.k3 H3.out
     subst e1
     have hk := HK0.out
     refine wpOp_hid rfl fun K' HK => ?_
     go_simp
     cases HV.out
     refine HK.out _ _ ⟨by simp [HJ.out.sz], ⟨_, _, _, _, _, _, _, _, _, _, _, rfl, ?_, ?_, ?_, ?_, fun _ => rfl, ?_, ?_, ?_, ?_, ?_, ?_, fun h => HV.out.r0 (Dz h), ?_, fun h => getD_up hun (HV.out.q1 (Uz h)), fun h => getD_up hun (HV.out.q8 (Uz h)), fun h => getD_up hun (HV.out.q68 (Uz h))⟩⟩
     all_goals exact Um (by assumption)
    ·simp at ho
     subst ho
     have H4 := Hq hall 4
     clear hall hi
     have e0 := HV.out.k4 H4.out
     subst e0
     refine wpOp_hid rfl fun K' HK => ?_
     go_simp
     cases HV.out
     refine HK.out _ _ ⟨by simp [HJ.out.sz], ⟨_, _, _, _, _, _, _, _, _, _, _, rfl, ?_, ?_, ?_, ?_, ?_, fun _ => rfl, ?_, ?_, ?_, ?_, ?_, fun h => HV.out.r0 (Dz h), ?_, fun h => getD_up hun (HV.out.q1 (Uz h)), fun h => getD_up hun (HV.out.q8 (Uz h)), fun h => getD_up hun (HV.out.q68 (Uz h))⟩⟩
     all_goals exact Um (by assumption)
    ·simp at ho
     subst ho
     have H5 := Hq hall 5
     clear hall hi
     have e0 := HV.out.k5 H5.out
     subst e0
     have ho : L.getD 11 false = false := by rcases off_or_on L 11 with h | h; exact h; exact (not_on hoff (HV.out.q1 h)).elim
     have hc := ((HV.out.r0 ho).cells HAT.out).1
     refine wpOp_hid rfl fun K' HK => ?_
     go_simp
     cases HV.out
     refine HK.out _ _ ⟨by simp [HJ.out.sz], ⟨_, _, _, _, _, _, _, _, _, _, _, rfl, ?_, ?_, ?_, ?_, ?_, ?_, fun _ => rfl, ?_, ?_, ?_, ?_, fun h => HV.out.r0 (Dz h), ?_, fun h => getD_up hun (HV.out.q1 (Uz h)), fun h => getD_up hun (HV.out.q8 (Uz h)), fun h => getD_up hun (HV.out.q68 (Uz h))⟩⟩
     all_goals exact Um (by assumption)
    ·simp at ho
     subst ho
     clear hall hi
     refine wpOp_hid rfl fun K' HK => ?_
     go_simp
     cases HV.out
     refine HK.out _ _ ⟨by simp [HJ.out.sz], ⟨_, _, _, _, _, _, _, _, _, _, _, rfl, ?_, ?_, ?_, ?_, ?_, ?_, ?_, fun _ => rfl, ?_, ?_, ?_, fun h => HV.out.r0 (Dz h), ?_, fun h => getD_up hun (HV.out.q1 (Uz h)), fun h => getD_up hun (HV.out.q8 (Uz h)), fun h => getD_up hun (HV.out.q68 (Uz h))⟩⟩
     all_goals exact Um (by assumption)
    ·simp at ho
     subst ho
     have H6 := Hq hall 6
     have H7 := Hq hall 7
     clear hall hi
     have e0 := HV.out.k6 H6.out
     subst e0
     have e1 := HV.out.k7 H7.out
     subst e1
     refine wpOp_hid rfl fun K' HK => ?_
     go_simp
     refine (HADD.out w' (HV.out.r0 (by rcases off_or_on L 11 with h | h; exact h; exact (not_on hoff (HV.out.q8 h)).elim)).outer).mono ?_
     rintro e wn ⟨rfl, bn⟩
     cases HV.out
     refine HK.out _ _ ⟨by simp [HJ.out.sz], ⟨_, _, _, _, _, _, _, _, _, _, _, rfl, ?_, ?_, ?_, ?_, ?_, ?_, ?_, ?_, fun _ => rfl, ?_, ?_, fun h => (HV.out.r0 (Dz h)).below bn, fun h => (HV.out.r1 (Uz h)).below bn, fun h => getD_up hun (HV.out.q1 (Uz h)), fun h => getD_up hun (HV.out.q8 (Uz h)), fun _ => getD_up hun H6.out⟩⟩
     all_goals exact Um (by assumption)
    ·simp at ho
     subst ho
     have H0 := Hq hall 0
     have H1 := Hq hall 1
     clear hall hi
     have e0 := HV.out.k0 H0.out
     subst e0
     have e1 := HV.out.k1 H1.out
     subst e1
     have hk := HK0.out
     refine wpOp_hid rfl fun K' HK => ?_
     go_simp
     cases HV.out
     refine HK.out _ _ ⟨by simp [HJ.out.sz], ⟨_, _, _, _, _, _, _, _, _, _, _, rfl, ?_, ?_, ?_, ?_, ?_, ?_, ?_, ?_, ?_, fun _ => rfl, ?_, fun h => HV.out.r0 (Dz h), ?_, fun h => getD_up hun (HV.out.q1 (Uz h)), fun h => getD_up hun (HV.out.q8 (Uz h)), fun h => getD_up hun (HV.out.q68 (Uz h))⟩⟩
     all_goals exact Um (by assumption)
    ·simp at ho
     subst ho
     have H9 := Hq hall 9
     clear hall hi
     have e0 := HV.out.k9 H9.out
     subst e0
     refine wpOp_hid rfl fun K' HK => ?_
     go_simp
     cases HV.out
     refine HK.out _ _ ⟨by simp [HJ.out.sz], ⟨_, _, _, _, _, _, _, _, _, _, _, rfl, ?_, ?_, ?_, ?_, ?_, ?_, ?_, ?_, ?_, ?_, fun _ => rfl, fun h => HV.out.r0 (Dz h), ?_, fun h => getD_up hun (HV.out.q1 (Uz h)), fun h => getD_up hun (HV.out.q8 (Uz h)), fun h => getD_up hun (HV.out.q68 (Uz h))⟩⟩
     all_goals exact Um (by assumption)
    ·simp at ho
     subst ho
     have H10 := Hq hall 10
     have H8 := Hq hall 8
     clear hall hi
     have e0 := HV.out.k10 H10.out
     subst e0
     have e1 := HV.out.k8 H8.out
     subst e1
     have hc := ((HV.out.r0 hoff).cells HAT.out).1
     have hf := ((HV.out.r0 hoff).cells HAT.out).2
     have hg2 := (HV.out.r0 hoff).sto HAD.out HAT.out r
     rw [HO2.out] at hg2
     refine wpOp_hid rfl fun K' HK => ?_
     go_simp
     cases HV.out
     refine HK.out _ _ ⟨by simp [HJ.out.sz], ⟨_, _, _, _, _, _, _, _, _, _, _, rfl, ?_, ?_, ?_, ?_, ?_, ?_, ?_, ?_, ?_, ?_, ?_, fun h => (not_on h (getD_set_same hun)).elim, fun _ => hg2, fun _ => getD_up hun (HV.out.q68 H8.out), fun _ => getD_up hun H8.out, fun h => getD_up hun (HV.out.q68 (Uz h))⟩⟩
     all_goals exact Um (by assumption)
  case stTKA =>
   intro L a w' hj i hi
   obtain ⟨hun, o, ho, hall⟩ := mem_ready.1 hi
   have hoff := getD_off hun
   have hlt := (Array.getElem?_eq_some_iff.1 ho).1
   simp at hlt
   obtain ⟨s8, s23, s24, s25, s26, s27, rfl, hv⟩ := hj.fr
   have HV := hI hv
   have HJ := hI hj
   clear hv hj
   rcases (show i = 0 ∨ i = 1 ∨ i = 2 ∨ i = 3 ∨ i = 4 ∨ i = 5 from by omega) with rfl | rfl | rfl | rfl | rfl | rfl
   ·simp at ho
    subst ho
    clear hall hi
    refine wpOp_hid rfl fun K' HK => ?_
    go_simp
    cases HV.out
    refine HK.out _ _ ⟨by simp [HJ.out.sz], ⟨_, _, _, _, _, _, rfl, fun _ => rfl, ?_, ?_, ?_, ?_, ?_, HV.out.g, HV.out.x⟩⟩
    all_goals exact Um (by assumption)
   ·simp at ho
    subst ho
    clear hall hi
    refine wpOp_hid rfl fun K' HK => ?_
    go_simp
    cases HV.out
    refine HK.out _ _ ⟨by simp [HJ.out.sz], ⟨_, _, _, _, _, _, rfl, ?_, fun _ => rfl, ?_, ?_, ?_, ?_, HV.out.g, HV.out.x⟩⟩
    all_goals exact Um (by assumption)
   ·simp at ho
    subst ho
    have H0 := Hq hall 0
    have H1 := Hq hall 1
    clear hall hi
    have e0 := HV.out.k0 H0.out
    subst e0
    have e1 := HV.out.k1 H1.out
    subst e1
    refine wpOp_hid rfl fun K' HK => ?_
    go_simp
    refine (HL1.out w').mono ?_
    rintro e wn ⟨rfl, bn⟩
    cases HV.out
    refine HK.out _ _ ⟨by simp [HJ.out.sz], ⟨_, _, _, _, _, _, rfl, ?_, ?_, fun _ => rfl, ?_, ?_, ?_, HV.out.g.below bn, HV.out.x.below bn⟩⟩
    all_goals exact Um (by assumption)
   ·simp at ho
    subst ho
    clear hall hi
    have hq := HV.out.g.bq.cell
    refine wpOp_hid rfl fun K' HK => ?_
    go_simp
    cases HV.out
    refine HK.out _ _ ⟨by simp [HJ.out.sz], ⟨_, _, _, _, _, _, rfl, ?_, ?_, ?_, fun _ => rfl, ?_, ?_, HV.out.g, HV.out.x⟩⟩
    all_goals exact Um (by assumption)
   ·simp at ho
    subst ho
    have H2 := Hq hall 2
    have H3 := Hq hall 3
    clear hall hi
    have e0 := HV.out.k2 H2.out
    subst e0
    have e1 := HV.out.k3 H3.out
    subst e1
    refine wpOp_hid rfl fun K' HK => ?_
    go_simp
    refine (HL2.out w').mono ?_
    rintro e wn ⟨rfl, bn⟩
    cases HV.out
    refine HK.out _ _ ⟨by simp [HJ.out.sz], ⟨_, _, _, _, _, _, rfl, ?_, ?_, ?_, ?_, fun _ => rfl, ?_, HV.out.g.below bn, HV.out.x.below bn⟩⟩
    all_goals exact Um (by assumption)
   ·simp at ho
    subst ho
    have H4 := Hq hall 4
    clear hall hi
    have e0 := HV.out.k4 H4.out
    subst e0
    refine wpOp_hid rfl fun K' HK => ?_
    go_simp
    cases HV.out
    refine HK.out _ _ ⟨by simp [HJ.out.sz], ⟨_, _, _, _, _, _, rfl, ?_, ?_, ?_, ?_, ?_, fun _ => rfl, HV.out.g, HV.out.x⟩⟩
    all_goals exact Um (by assumption)
 ·have hno2 : ∀ a ∈ out, a.1 ≠ x.id := by
   intro a ha e
   have := hno ⟨a.1, I a.2⟩ (by unfold pksOf; exact List.mem_map.2 ⟨a, ha, rfl⟩)
   simp [e] at this
  have HAM : Hid (amt out x.id = 0) := amt_none out x.id hno2
  have HAA := hI (fun n => addA_none out x.id n hno2)
  clear hno hno2
  obtain ⟨v, hv⟩ : ∃ v, Value.slice A N c = v := ⟨_, rfl⟩
  rw [hv] at HS1
  have HVV := hI hv
  clear hv
  obtain ⟨l1, hl1⟩ : ∃ l1, l1 = min mo (vl x.qty) := ⟨_, rfl⟩
  obtain ⟨n, hn⟩ : ∃ n, n = min l1 q := ⟨_, rfl⟩
  have HL1 := hI (fun W => least20_I mo (vl x.qty) (by have := HB4.out; omega) (by have := HQS.out; omega) W)
  have HNS : Hid ((I n).size ≤ 2000) := by rw [hn, hl1]; exact I_min_le (I_min_le HB4.out HQS.out) HB1.out
  have HL2 := hI (fun W => least20_I l1 q (by rw [hl1]; have := I_min_le HB4.out HQS.out; omega) (by have := HB1.out; omega) W)
  rw [← hl1] at HL1
  rw [← hn] at HL2
  have HN0 : Hid (n = min (min mo (vl x.qty)) q) := by rw [← hl1]; exact hn
  clear hl1 hn
  have hgS := HS1.out.drew
  have hxS : LotBox w1.drew w.heap.size x := HX1.out
  go_wp2_with fail
  have mixed : Tryz.prog.follows .mixedOrders = true := by kernel_rfl
  refine wp_region_any mixed (wpAny_inv (TKBJ x wT w0 Bo Bq w.heap.size g0 out v mo (vl x.qty) q l1 n _ _ _ _ _ _ _ _ _ _ _ _ _ _ _ _ _ _ _ _ _ _ _ _ _ _ _ _ _ _ _ _ _ _ _ _ _ _ _ _ _ _ _) ?stTKB ?dnTKB _ _ _ _ ⟨by simp, ⟨_, _, _, _, _, _, rfl, fun h => by simp at h, fun h => by simp at h, fun h => by simp at h, fun h => by simp at h, fun h => by simp at h, fun h => by simp at h, hgS, hxS⟩⟩ (by decide))
  case dnTKB =>
   intro L a w' hj hr
   have all := all_on hr hj.sz (by kernel_rfl)
   obtain ⟨s8, s23, s24, s25, s26, s27, rfl, hv⟩ := hj.fr
   have e5 := hv.k5 (all 5 (by omega))
   subst e5
   have HS5 := hI hv.g
   have HX5 := hI hv.x
   clear all hv hj hr
   dsimp only
   have HTN : Hid (tkN (out, q) x mo = n) := by unfold tkN; show min (min mo (vl x.qty - amt out x.id)) q = n; rw [HAM.out, HN0.out]; congr 1; congr 1; omega
   clear HL1 HL2
   have HPO := hI (positive20_any (I n) (by have := HNS.out; omega) w')
   rw [vl_I] at HPO
   go_wp2_with fail
   refine HPO.out.mono ?_
   rintro e w6 ⟨rfl, b6⟩
   have HS6 := hI (HS5.out.below b6)
   have HX6 := hI (HX5.out.below b6)
   clear b6 HPO HS5 HX5
   by_cases h0 : 0 < n
   case neg =>
    rw [decide_eq_false h0]
    have HR := hI (tk_no (st := (out, q)) (x := x) (most := mo) (by rw [HTN.out]; exact h0))
    clear h0
    go_wp2_with fail
    first | go_end0 | (refine bodyPost_ret (results_none rfl _ _ _) rfl ?_)
    exact ⟨rfl, _, by rw [HR.out]; exact HS6.out⟩
   rw [decide_eq_true h0]
   have HR := hI (tk_yes (st := (out, q)) (x := x) (most := mo) (by rw [HTN.out]; exact h0))
   have HSUBA := hI (fun W hW => HSUBB.out q n HB1.out HNS.out W hW)
   clear h0
   have cb := HS6.out.bo.cell
   have fb := HS6.out.bo.frozen
   rw [← HVV.out] at cb
   have c0 := Lib.cell_of_heap HX6.out 0
   simp at c0
   obtain ⟨W7, hW7⟩ : ∃ W7, w6.alloc (.cells (⟨x.id, ⟨#[]⟩⟩ : Pk).cells 43) = W7 := ⟨_, rfl⟩
   have b7 : Below w6.heap.size w6 W7 := by rw [← hW7]; exact (Below.refl _ w6).alloc (Nat.le_refl _) _
   have k7 : PkBox W7 w6.heap.size ⟨x.id, ⟨#[]⟩⟩ := by rw [← hW7]; exact heap_alloc_new w6 _
   have hS7 := HS6.out.below b7
   obtain ⟨g, cap, w8, r8, o8, g8, l8⟩ := run_app_pick W7 wT.heap.size v _ _ ⟨x.id, ⟨#[]⟩⟩ w6.heap.size 1 hS7.row k7 (by show (pksOf out).length ≤ _; unfold pksOf; rw [List.length_map, HN.out]; omega) hS7.outer.size
   have hpl : (pksOf out).length = N := by unfold pksOf; rw [List.length_map, HN.out]
   rw [show (pksOf (out, q).1).length = N from hpl] at r8 o8
   have e8 : pksOf out ++ [(⟨x.id, ⟨#[]⟩⟩ : Pk)] = pksOf (out ++ [(x.id, 0)]) := by unfold pksOf; rw [List.map_append]; rfl
   have hS8 := hS7.app (out' := out ++ [(x.id, 0)]) g8 (by
    have h := o8
    rw [show flatK (pksOf (out, q).1) ++ (⟨x.id, ⟨#[]⟩⟩ : Pk).cells.toList = flatK (pksOf (out ++ [(x.id, 0)])) from by rw [← e8, flatK_append]; rfl] at h
    rw [show (pksOf (out ++ [(x.id, (0 : Int))])).length = N + 1 from by rw [← e8, List.length_append, hpl]; rfl]; exact h) (by
    rcases l8 with l8 | l8
    ·exact .inl l8.symm
    ·right; intro g' e'; injection e' with e'; rw [← e', l8]; exact Nat.le_refl _)
   have HS8 := hI hS8
   have cb8 := ((hS7.bo.kept g8 (hS7.bo.not_row (by decide) hS7.row))).cell
   have fb8 := ((hS7.bo.kept g8 (hS7.bo.not_row (by decide) hS7.row))).frozen
   rw [← HVV.out] at r8
   have t3 : decide ((-1 : Int) < 0) = true := rfl
   clear hS7 hS8 k7 b7 o8 g8 l8 e8 hpl
   unfold Pk.cells at hW7
   go_upto_region 10 with (at_builtin; refine Lib.wpList_append_run _ rfl _ _ _ _ rfl _ _ rfl rfl _ _ r8 ?_)
   obtain ⟨ad, had⟩ : ∃ ad : Addr, ad = ⟨g, 0, none⟩ := ⟨_, rfl⟩
   obtain ⟨M, hM⟩ : ∃ M, N + 1 = M := ⟨_, rfl⟩
   rw [← had, hM] at HS8 ⊢
   have HAD := hI had
   have HAT : Hid ((out ++ [(x.id, (0 : Int))])[N]? = some (x.id, 0)) := by rw [Hid, List.getElem?_append_right (by rw [HN.out]; omega), HN.out, Nat.sub_self]; rfl
   have HK0 : Hid (N < M) := by show N < M; omega
   obtain ⟨r, hr⟩ : ∃ r, 0 + n = r := ⟨_, rfl⟩
   have hadd := HADDA.out 0 n (by decide) HNS.out
   rw [hr] at hadd
   have HADD := hI hadd
   have HO2 : Hid ((out ++ [(x.id, (0 : Int))]).set N (x.id, r) = out ++ [(x.id, n)]) := by rw [Hid, ← hr, List.set_append_right _ _ (by rw [HN.out]; omega), HN.out, Nat.sub_self, Int.zero_add]; rfl
   clear hadd hr
   have hgS := HS8.out.drew
   clear had hM r8 cb fb c0 cb8 fb8
   have mixed : Tryz.prog.follows .mixedOrders = true := by kernel_rfl
   refine wp_region_any mixed (wpAny_inv (TKCJ x wT w0 Bo Bq w.heap.size g0 (out ++ [(x.id, 0)]) (out ++ [(x.id, n)]) ad M cap N 0 n r q _ _ _ _ _ _ _ _ _ _ _ _ _ _ _ _ _ _ _ _ _ _ _ _ _ _ _ _ _ _ _ _ _ _ _ _ _ _ _) ?stTKC ?dnTKC _ _ _ _ ⟨by simp, ⟨_, _, _, _, _, _, _, _, _, _, _, rfl, fun h => by simp at h, fun h => by simp at h, fun h => by simp at h, fun h => by simp at h, fun h => by simp at h, fun h => by simp at h, fun h => by simp at h, fun h => by simp at h, fun h => by simp at h, fun h => by simp at h, fun h => by simp at h, fun _ => hgS, fun h => by simp at h, fun h => by simp at h, fun h => by simp at h, fun h => by simp at h⟩⟩ (by decide))
   case dnTKC =>
    intro L a w' hj hr
    have all := all_on hr hj.sz (by kernel_rfl)
    obtain ⟨s41, s42, s43, s44, s45, s46, s47, s48, s49, s50, s51, rfl, hv⟩ := hj.fr
    have HS10 := hI (hv.r1 (all 11 (by omega)))
    clear all hv hj hr
    dsimp only
    have hq := HS10.out.bq.cell
    have hqf := HS10.out.bq.frozen
    have HSUB := hI (HSUBA.out w' HS10.out.outer)
    go_wp2_with fail
    refine HSUB.out.mono ?_
    rintro e w9 ⟨rfl, b9⟩
    have HS9 := hI (HS10.out.below b9)
    have hq9 := HS9.out.bq.cell
    have hqf9 := HS9.out.bq.frozen
    clear b9 HSUB hq hqf
    go_wp2_with fail
    go_end0
    exact ⟨rfl, _, by rw [HR.out, HTN.out]; show ChS _ _ _ _ _ (addA out x.id n, q - n) _ _; rw [HAA.out]; exact HS9.out.setQ HNE.out (q - n)⟩
   case stTKC =>
    intro L a w' hj i hi
    obtain ⟨hun, o, ho, hall⟩ := mem_ready.1 hi
    have hoff := getD_off hun
    have hlt := (Array.getElem?_eq_some_iff.1 ho).1
    simp at hlt
    obtain ⟨s41, s42, s43, s44, s45, s46, s47, s48, s49, s50, s51, rfl, hv⟩ := hj.fr
    have HV := hI hv
    have HJ := hI hj
    clear hv hj
    rcases (show i = 0 ∨ i = 1 ∨ i = 2 ∨ i = 3 ∨ i = 4 ∨ i = 5 ∨ i = 6 ∨ i = 7 ∨ i = 8 ∨ i = 9 ∨ i = 10 ∨ i = 11 from by omega) with rfl | rfl | rfl | rfl | rfl | rfl | rfl | rfl | rfl | rfl | rfl | rfl
    ·simp at ho
     subst ho
     clear hall hi
     have hbo : w'.cell? ⟨Bo, 0, none⟩ = some (.slice (some ad) M cap) := by rcases off_or_on L 11 with h | h; exact (HV.out.r0 h).bo.cell; exact (HV.out.r1 h).bo.cell
     refine wpOp_hid rfl fun K' HK => ?_
     go_simp
     cases HV.out
     refine HK.out _ _ ⟨by simp [HJ.out.sz], ⟨_, _, _, _, _, _, _, _, _, _, _, rfl, fun _ => rfl, ?_, ?_, ?_, ?_, ?_, ?_, ?_, ?_, ?_, ?_, fun h => HV.out.r0 (Dz h), ?_, fun h => getD_up hun (HV.out.q1 (Uz h)), fun h => getD_up hun (HV.out.q8 (Uz h)), fun h => getD_up hun (HV.out.q68 (Uz h))⟩⟩
     all_goals exact Um (by assumption)
    ·simp at ho
     subst ho
     clear hall hi
     refine wpOp_hid rfl fun K' HK => ?_
     go_simp
     cases HV.out
     refine HK.out _ _ ⟨by simp [HJ.out.sz], ⟨_, _, _, _, _, _, _, _, _, _, _, rfl, ?_, fun _ => rfl, ?_, ?_, ?_, ?_, ?_, ?_, ?_, ?_, ?_, fun h => HV.out.r0 (Dz h), ?_, fun h => getD_up hun (HV.out.q1 (Uz h)), fun h => getD_up hun (HV.out.q8 (Uz h)), fun h => getD_up hun (HV.out.q68 (Uz h))⟩⟩
     all_goals exact Um (by assumption)
    ·simp at ho
     subst ho
     clear hall hi
     have hbo : w'.cell? ⟨Bo, 0, none⟩ = some (.slice (some ad) M cap) := by rcases off_or_on L 11 with h | h; exact (HV.out.r0 h).bo.cell; exact (HV.out.r1 h).bo.cell
     refine wpOp_hid rfl fun K' HK => ?_
     go_simp
     cases HV.out
     refine HK.out _ _ ⟨by simp [HJ.out.sz], ⟨_, _, _, _, _, _, _, _, _, _, _, rfl, ?_, ?_, fun _ => rfl, ?_, ?_, ?_, ?_, ?_, ?_, ?_, ?_, fun h => HV.out.r0 (Dz h), ?_, fun h => getD_up hun (HV.out.q1 (Uz h)), fun h => getD_up hun (HV.out.q8 (Uz h)), fun h => getD_up hun (HV.out.q68 (Uz h))⟩⟩
     all_goals exact Um (by assumption)
    ·simp at ho
     subst ho
     clear hall hi
     refine wpOp_hid rfl fun K' HK => ?_
     go_simp
     cases HV.out
     refine HK.out _ _ ⟨by simp [HJ.out.sz], ⟨_, _, _, _, _, _, _, _, _, _, _, rfl, ?_, ?_, ?_, fun _ => rfl, ?_, ?_, ?_, ?_, ?_, ?_, ?_, fun h => HV.out.r0 (Dz h), ?_, fun h => getD_up hun (HV.out.q1 (Uz h)), fun h => getD_up hun (HV.out.q8 (Uz h)), fun h => getD_up hun (HV.out.q68 (Uz h))⟩⟩
     all_goals exact Um (by assumption)
    ·simp at ho
     subst ho
     have H2 := Hq hall 2
     have H3 := Hq hall 3
     clear hall hi
     have e0 := HV.out.k2 H2.out
     subst e0
     have e1 := HV.out.k3 H3.out
     subst e1
     have hk := HK0.out
     refine wpOp_hid rfl fun K' HK => ?_
     go_simp
     cases HV.out
     refine HK.out _ _ ⟨by simp [HJ.out.sz], ⟨_, _, _, _, _, _, _, _, _, _, _, rfl, ?_, ?_, ?_, ?_, fun _ => rfl, ?_, ?_, ?_, ?_, ?_, ?_, fun h => HV.out.r0 (Dz h), ?_, fun h => getD_up hun (HV.out.q1 (Uz h)), fun h => getD_up hun (HV.out.q8 (Uz h)), fun h => getD_up hun (HV.out.q68 (Uz h))⟩⟩
     all_goals exact Um (by assumption)
    ·simp at ho
     subst ho
     have H4 := Hq hall 4
     clear hall hi
     have e0 := HV.out.k4 H4.out
     subst e0
     refine wpOp_hid rfl fun K' HK => ?_
     go_simp
     cases HV.out
     refine HK.out _ _ ⟨by simp [HJ.out.sz], ⟨_, _, _, _, _, _, _, _, _, _, _, rfl, ?_, ?_, ?_, ?_, ?_, fun _ => rfl, ?_, ?_, ?_, ?_, ?_, fun h => HV.out.r0 (Dz h), ?_, fun h => getD_up hun (HV.out.q1 (Uz h)), fun h => getD_up hun (HV.out.q8 (Uz h)), fun h => getD_up hun (HV.out.q68 (Uz h))⟩⟩
     all_goals exact Um (by assumption)
    ·simp at ho
     subst ho
     have H5 := Hq hall 5
     clear hall hi
     have e0 := HV.out.k5 H5.out
     subst e0
     have ho : L.getD 11 false = false := by rcases off_or_on L 11 with h | h; exact h; exact (not_on hoff (HV.out.q1 h)).elim
     have hc := ((HV.out.r0 ho).cells HAT.out).1
     refine wpOp_hid rfl fun K' HK => ?_
     go_simp
     cases HV.out
     refine HK.out _ _ ⟨by simp [HJ.out.sz], ⟨_, _, _, _, _, _, _, _, _, _, _, rfl, ?_, ?_, ?_, ?_, ?_, ?_, fun _ => rfl, ?_, ?_, ?_, ?_, fun h => HV.out.r0 (Dz h), ?_, fun h => getD_up hun (HV.out.q1 (Uz h)), fun h => getD_up hun (HV.out.q8 (Uz h)), fun h => getD_up hun (HV.out.q68 (Uz h))⟩⟩
     all_goals exact Um (by assumption)
    ·simp at ho
     subst ho
     clear hall hi
     refine wpOp_hid rfl fun K' HK => ?_
     go_simp
     cases HV.out
     refine HK.out _ _ ⟨by simp [HJ.out.sz], ⟨_, _, _, _, _, _, _, _, _, _, _, rfl, ?_, ?_, ?_, ?_, ?_, ?_, ?_, fun _ => rfl, ?_, ?_, ?_, fun h => HV.out.r0 (Dz h), ?_, fun h => getD_up hun (HV.out.q1 (Uz h)), fun h => getD_up hun (HV.out.q8 (Uz h)), fun h => getD_up hun (HV.out.q68 (Uz h))⟩⟩
     all_goals exact Um (by assumption)
    ·simp at ho
     subst ho
     have H6 := Hq hall 6
     have H7 := Hq hall 7
     clear hall hi
     have e0 := HV.out.k6 H6.out
     subst e0
     have e1 := HV.out.k7 H7.out
     subst e1
     refine wpOp_hid rfl fun K' HK => ?_
     go_simp
     refine (HADD.out w' (HV.out.r0 (by rcases off_or_on L 11 with h | h; exact h; exact (not_on hoff (HV.out.q8 h)).elim)).outer).mono ?_
     rintro e wn ⟨rfl, bn⟩
     cases HV.out
     refine HK.out _ _ ⟨by simp [HJ.out.sz], ⟨_, _, _, _, _, _, _, _, _, _, _, rfl, ?_, ?_, ?_, ?_, ?_, ?_, ?_, ?_, fun _ => rfl, ?_, ?_, fun h => (HV.out.r0 (Dz h)).below bn, fun h => (HV.out.r1 (Uz h)).below bn, fun h => getD_up hun (HV.out.q1 (Uz h)), fun h => getD_up hun (HV.out.q8 (Uz h)), fun _ => getD_up hun H6.out⟩⟩
     all_goals exact Um (by assumption)
    ·simp at ho
     subst ho
     have H0 := Hq hall 0
     have H1 := Hq hall 1
     clear hall hi
     have e0 := HV.out.k0 H0.out
     subst e0
     have e1 := HV.out.k1 H1.out
     subst e1
     have hk := HK0.out
     refine wpOp_hid rfl fun K' HK => ?_
     go_simp
     cases HV.out
     refine HK.out _ _ ⟨by simp [HJ.out.sz], ⟨_, _, _, _, _, _, _, _, _, _, _, rfl, ?_, ?_, ?_, ?_, ?_, ?_, ?_, ?_, ?_, fun _ => rfl, ?_, fun h => HV.out.r0 (Dz h), ?_, fun h => getD_up hun (HV.out.q1 (Uz h)), fun h => getD_up hun (HV.out.q8 (Uz h)), fun h => getD_up hun (HV.out.q68 (Uz h))⟩⟩
     all_goals exact Um (by assumption)
    ·simp at ho
     subst ho
     have H9 := Hq hall 9
     clear hall hi
     have e0 := HV.out.k9 H9.out
     subst e0
     refine wpOp_hid rfl fun K' HK => ?_
     go_simp
     cases HV.out
     refine HK.out _ _ ⟨by simp [HJ.out.sz], ⟨_, _, _, _, _, _, _, _, _, _, _, rfl, ?_, ?_, ?_, ?_, ?_, ?_, ?_, ?_, ?_, ?_, fun _ => rfl, fun h => HV.out.r0 (Dz h), ?_, fun h => getD_up hun (HV.out.q1 (Uz h)), fun h => getD_up hun (HV.out.q8 (Uz h)), fun h => getD_up hun (HV.out.q68 (Uz h))⟩⟩
     all_goals exact Um (by assumption)
    ·simp at ho
     subst ho
     have H10 := Hq hall 10
     have H8 := Hq hall 8
     clear hall hi
     have e0 := HV.out.k10 H10.out
     subst e0
     have e1 := HV.out.k8 H8.out
     subst e1
     have hc := ((HV.out.r0 hoff).cells HAT.out).1
     have hf := ((HV.out.r0 hoff).cells HAT.out).2
     have hg2 := (HV.out.r0 hoff).sto HAD.out HAT.out r
     rw [HO2.out] at hg2
     refine wpOp_hid rfl fun K' HK => ?_
     go_simp
     cases HV.out
     refine HK.out _ _ ⟨by simp [HJ.out.sz], ⟨_, _, _, _, _, _, _, _, _, _, _, rfl, ?_, ?_, ?_, ?_, ?_, ?_, ?_, ?_, ?_, ?_, ?_, fun h => (not_on h (getD_set_same hun)).elim, fun _ => hg2, fun _ => getD_up hun (HV.out.q68 H8.out), fun _ => getD_up hun H8.out, fun h => getD_up hun (HV.out.q68 (Uz h))⟩⟩
     all_goals exact Um (by assumption)
  case stTKB =>
   intro L a w' hj i hi
   obtain ⟨hun, o, ho, hall⟩ := mem_ready.1 hi
   have hoff := getD_off hun
   have hlt := (Array.getElem?_eq_some_iff.1 ho).1
   simp at hlt
   obtain ⟨s8, s23, s24, s25, s26, s27, rfl, hv⟩ := hj.fr
   have HV := hI hv
   have HJ := hI hj
   clear hv hj
   rcases (show i = 0 ∨ i = 1 ∨ i = 2 ∨ i = 3 ∨ i = 4 ∨ i = 5 from by omega) with rfl | rfl | rfl | rfl | rfl | rfl
   ·simp at ho
    subst ho
    clear hall hi
    refine wpOp_hid rfl fun K' HK => ?_
    go_simp
    cases HV.out
    refine HK.out _ _ ⟨by simp [HJ.out.sz], ⟨_, _, _, _, _, _, rfl, fun _ => rfl, ?_, ?_, ?_, ?_, ?_, HV.out.g, HV.out.x⟩⟩
    all_goals exact Um (by assumption)
   ·simp at ho
    subst ho
    clear hall hi
    refine wpOp_hid rfl fun K' HK => ?_
    go_simp
    cases HV.out
    refine HK.out _ _ ⟨by simp [HJ.out.sz], ⟨_, _, _, _, _, _, rfl, ?_, fun _ => rfl, ?_, ?_, ?_, ?_, HV.out.g, HV.out.x⟩⟩
    all_goals exact Um (by assumption)
   ·simp at ho
    subst ho
    have H0 := Hq hall 0
    have H1 := Hq hall 1
    clear hall hi
    have e0 := HV.out.k0 H0.out
    subst e0
    have e1 := HV.out.k1 H1.out
    subst e1
    refine wpOp_hid rfl fun K' HK => ?_
    go_simp
    refine (HL1.out w').mono ?_
    rintro e wn ⟨rfl, bn⟩
    cases HV.out
    refine HK.out _ _ ⟨by simp [HJ.out.sz], ⟨_, _, _, _, _, _, rfl, ?_, ?_, fun _ => rfl, ?_, ?_, ?_, HV.out.g.below bn, HV.out.x.below bn⟩⟩
    all_goals exact Um (by assumption)
   ·simp at ho
    subst ho
    clear hall hi
    have hq := HV.out.g.bq.cell
    refine wpOp_hid rfl fun K' HK => ?_
    go_simp
    cases HV.out
    refine HK.out _ _ ⟨by simp [HJ.out.sz], ⟨_, _, _, _, _, _, rfl, ?_, ?_, ?_, fun _ => rfl, ?_, ?_, HV.out.g, HV.out.x⟩⟩
    all_goals exact Um (by assumption)
   ·simp at ho
    subst ho
    have H2 := Hq hall 2
    have H3 := Hq hall 3
    clear hall hi
    have e0 := HV.out.k2 H2.out
    subst e0
    have e1 := HV.out.k3 H3.out
    subst e1
    refine wpOp_hid rfl fun K' HK => ?_
    go_simp
    refine (HL2.out w').mono ?_
    rintro e wn ⟨rfl, bn⟩
    cases HV.out
    refine HK.out _ _ ⟨by simp [HJ.out.sz], ⟨_, _, _, _, _, _, rfl, ?_, ?_, ?_, ?_, fun _ => rfl, ?_, HV.out.g.below bn, HV.out.x.below bn⟩⟩
    all_goals exact Um (by assumption)
   ·simp at ho
    subst ho
    have H4 := Hq hall 4
    clear hall hi
    have e0 := HV.out.k4 H4.out
    subst e0
    refine wpOp_hid rfl fun K' HK => ?_
    go_simp
    cases HV.out
    refine HK.out _ _ ⟨by simp [HJ.out.sz], ⟨_, _, _, _, _, _, rfl, ?_, ?_, ?_, ?_, ?_, fun _ => rfl, HV.out.g, HV.out.x⟩⟩
    all_goals exact Um (by assumption)
theorem lOf_n (n₀ : Nat) (A : Option Addr) (ls : List SLot) (c : Nat) (s : ByteArray) (w : World) (hlen : ls.length ≤ 1000000) (hR : RdB n₀ w A ls) (hnw : n₀ ≤ w.heap.size) :
 Calls Tryz.prog 21 #[.slice A ls.length c, .string s] w (LotsPostN w (ownL ls s)) := by
 have hC : ∀ (W : World) (bl bi : Nat), Boxed W bl 22 (.slice A ls.length c) → Boxed W bi 9 (.string s) → RdB n₀ W A ls → n₀ ≤ W.heap.size →
  Calls Tryz.prog 79 #[.func (.func 122) #[] #[.pointer (some ⟨bl, 0, none⟩), .pointer (some ⟨bi, 0, none⟩)]] W (LotsPostN W (ownL ls s)) := by
  intro W bl bi k0 k1 k2 k3
  have HA := hI ((callsIn_wide (n := 6)).1 (appendSeq_of 6 bl bi n₀ A ls c s W (by omega) hlen k0 k1 k2 k3))
  clear k0 k1 k2 k3 hR hnw
  go_enter Tryz.func79, Tryz.ntmps79
  go_wp2_with fail
  refine HA.out.mono ?_
  rintro e w1 ⟨v, rfl, hrow, hb⟩
  have hnil : ∀ A' c', v = .slice A' (ownL ls s).length c' → A' = none → (ownL ls s).length = 0 ∧ c' = 0 := fun A' c' hv hn0 => by
   rcases hrow.2 with ⟨h, h0⟩ | ⟨g, cap, cur, h, _⟩
   ·rw [h] at hv; injection hv with _ _ h3; exact ⟨h0, h3.symm⟩
   ·rw [h] at hv; injection hv with h1 _ _; rw [hn0] at h1; cases h1
  obtain ⟨A', c', rfl, h1, h2, h3⟩ := RdB.of_own hrow
  have h9 := hnil A' c' rfl
  have HF : Hid (LotsPostN W (ownL ls s) (.returned (.slice A' (ownL ls s).length c')) w1) := ⟨A', c', rfl, h1, h2, h3, hb, h9⟩
  clear hrow h1 h2 h3 hb h9 hnil
  go_wp2_with fail
  go_ret
  exact HF.out
 have HC := hI hC
 have HR := hI hR
 clear hC hR
 go_enter Tryz.func21, Tryz.ntmps21
 go_wp2_with fail
 refine (lof_any A ls.length c s w).mono ?_
 rintro e w1 ⟨rfl, hw1⟩
 have b1 : Below w.heap.size w w1 := by rw [hw1]; exact ((Below.refl _ w).alloc (Nat.le_refl _) _).alloc (by simp) _
 have k0 : Boxed w1 w.heap.size 22 (.slice A ls.length c) := by rw [hw1]; exact (Boxed.new w _ _).alloc _
 have k1 : Boxed w1 (w.heap.size + 1) 9 (.string s) := by
  rw [hw1]
  have := Boxed.new (w.alloc (.cells #[.slice A ls.length c] 22)) 9 (.string s)
  rwa [World.size_alloc] at this
 have HX := hI (HC.out w1 _ _ k0 k1 (HR.out.below (b1.mono hnw)) (Nat.le_trans hnw b1.size))
 have HB1 := hI b1
 clear hw1 k0 k1 b1
 go_wp2_with fail
 refine HX.out.mono ?_
 rintro e w2 ⟨A', c', rfl, h1, h2, h3, h4, h9⟩
 have HF : Hid (LotsPostN w (ownL ls s) (.returned (.slice A' (ownL ls s).length c')) w2) := ⟨A', c', rfl, h1, fun ad e => Nat.le_trans HB1.out.size (h2 ad e), h3, HB1.out.trans (h4.mono HB1.out.size), h9⟩
 clear h1 h2 h3 h4 h9
 go_wp2_with fail
 go_ret
 exact HF.out
end Go.Proofs.YtdnmpgoigagjmaaGreatDoor
