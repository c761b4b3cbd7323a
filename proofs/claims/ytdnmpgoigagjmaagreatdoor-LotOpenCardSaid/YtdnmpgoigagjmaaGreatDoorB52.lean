/-
  The closure that tells whether lots lie in the order of their instruments: slices.IsSortedFunc. (Printed by gen_opn4.py.)
  tranchelaw19.LotOpen returns true. (Printed by gen_law15.py.)
-/
import Derived.Test.YtdnmpgoigagjmaaGreatDoorA46
import Derived.Test.YtdnmpgoigagjmaaGreatDoorA48
import Derived.Test.YtdnmpgoigagjmaaGreatDoorA42
set_option linter.unusedVariables false
set_option linter.unusedSimpArgs false
namespace Go.Proofs.YtdnmpgoigagjmaaGreatDoor
open Go.RowKit Tr Go.Shelf
def cmpL (a b : ByteArray) : Int := if bl a b = true then -1 else if (a.toList == b.toList) = true then 0 else 1
theorem cmpL_neg (a b : ByteArray) : decide (cmpL a b < 0) = bl a b := by
 unfold cmpL
 cases h : bl a b
 ·rw [if_neg Bool.false_ne_true]; split <;> rfl
 ·rw [if_pos rfl]; rfl
theorem cmpClo_any (a b : Lot) (w : World) : Calls Tryz.prog 57 #[a.enc, b.enc] w fun e w' => e = .returned (.int .i64 (cmpL a.inst b.inst)) ∧ Below w.heap.size w w' := by
 obtain ⟨W0, hW0, hB0, hk0⟩ := lbox a w
 obtain ⟨W1, hW1, hB1, hk1⟩ := lbox b W0
 have hsz : W0.heap.size = w.heap.size + 1 := by rw [← hW0]; simp
 have k0 := Lib.cell_of_heap (LotBox.below (l := a) (B := w.heap.size) hk0 hB1) 1
 have k1 := Lib.cell_of_heap hk1 1
 rw [hsz] at k1
 simp [Lot.cells] at k0 k1
 have HB := Lib.hid (hB0.trans (hB1.mono hB0.size))
 clear hB0 hB1 hk0 hk1
 unfold Lot.enc Lot.cells at *
 have e0 : Op.bytesLess a.inst.toList b.inst.toList = bl a.inst b.inst := rfl
 cases h1 : bl a.inst b.inst
 ·rw [h1] at e0
  cases h2 : (a.inst.toList == b.inst.toList)
  ·have HC : Hid (cmpL a.inst b.inst = 1) := by unfold cmpL; rw [Hid, h1, h2]; rfl
   clear h1
   go_enter Tryz.func57, Tryz.ntmps57
   go_wp2_with fail
   go_ret
   exact ⟨by rw [HC.out]; rfl, HB.out⟩
  ·have HC : Hid (cmpL a.inst b.inst = 0) := by unfold cmpL; rw [Hid, h1, h2]; rfl
   clear h1
   go_enter Tryz.func57, Tryz.ntmps57
   go_wp2_with fail
   go_ret
   exact ⟨by rw [HC.out]; rfl, HB.out⟩
 ·rw [h1] at e0
  have HC : Hid (cmpL a.inst b.inst = -1) := by unfold cmpL; rw [Hid, h1]; rfl
  clear h1
  go_enter Tryz.func57, Tryz.ntmps57
  go_wp2_with fail
  go_ret
  exact ⟨by rw [HC.out]; rfl, HB.out⟩
open Classical in
noncomputable def sortedB (ls : List Lot) : Bool := decide (SortedL ls)
theorem sortedB_yes {ls : List Lot} (h : SortedL ls) : sortedB ls = true := by unfold sortedB; exact @decide_eq_true _ (Classical.propDecidable _) h
theorem sortedB_no {ls : List Lot} (h : ¬ SortedL ls) : sortedB ls = false := by unfold sortedB; exact @decide_eq_false _ (Classical.propDecidable _) h
theorem sortedB_iff {ls : List Lot} : sortedB ls = true ↔ SortedL ls := by unfold sortedB; exact @decide_eq_true_iff _ (Classical.propDecidable _)
def SortedFrom (ls : List Lot) (k : Nat) : Prop := ∀ i a b, k ≤ i → ls[i]? = some a → ls[i + 1]? = some b → bl b.inst a.inst = false
theorem SortedFrom.step {ls : List Lot} {j : Nat} {z y : Lot} (h : SortedFrom ls (j + 1)) (hz : ls[j]? = some z) (hy : ls[j + 1]? = some y) (hb : bl y.inst z.inst = false) : SortedFrom ls j := by
 intro i a b hi ha hb2
 rcases Nat.eq_or_lt_of_le hi with rfl | hlt
 ·rw [hz] at ha; rw [hy] at hb2
  injection ha with ha; injection hb2 with hb2
  rw [← ha, ← hb2]; exact hb
 ·exact h i a b hlt ha hb2
theorem SortedFrom.all {ls : List Lot} (h : SortedFrom ls 0) : SortedL ls := fun i a b ha hb => h i a b (Nat.zero_le _) ha hb
structure ISV (wS : World) (ad : Addr) (N c kk j : Nat) (y z : Lot) (zc : Int) (t : Bool)  (L : Array Bool) (W : World) (s13 s14 s15 s16 s17 s18 s19 s20 s21 s22 s23 s24 : Value) : Prop where
 k0 : L.getD 0 false = true → s13 = .func (.func 57) #[] #[]
 k1 : L.getD 1 false = true → s14 = .slice (some ad) N c
 k2 : L.getD 2 false = true → s15 = .int .i64 (kk : Int)
 k3 : L.getD 3 false = true → s16 = .pointer (some (ad.add (kk * 7)))
 k4 : L.getD 4 false = true → s17 = .agg #[.string y.id, .string y.inst, .int .i64 y.acq, .int .i64 y.opn, .string y.qty, .string y.cost, .string y.used]
 k5 : L.getD 5 false = true → s18 = .slice (some ad) N c
 k6 : L.getD 6 false = true → s19 = .int .i64 (kk : Int)
 k7 : L.getD 7 false = true → s20 = .int .i64 (j : Int)
 k8 : L.getD 8 false = true → s21 = .pointer (some (ad.add (j * 7)))
 k9 : L.getD 9 false = true → s22 = .agg #[.string z.id, .string z.inst, .int .i64 z.acq, .int .i64 z.opn, .string z.qty, .string z.cost, .string z.used]
 k10 : L.getD 10 false = true → s23 = .int .i64 zc
 k11 : L.getD 11 false = true → s24 = .bool t
 g : Below wS.heap.size wS W
structure ISJ (wS : World) (ad : Addr) (N c kk j : Nat) (y z : Lot) (zc : Int) (t : Bool) (x2 x3 x4 x6 x7 x8 x9 x10 x11 x12 : Value) (L : Array Bool) (a : Act) (W : World) : Prop where
 sz : L.size = 12
 fr : ∃ s13 s14 s15 s16 s17 s18 s19 s20 s21 s22 s23 s24 : Value, a = { tmps := #[.slice (some ad) N c, .func (.func 57) #[] #[], x2, x3, x4, .int .i64 (kk : Int), x6, x7, x8, x9, x10, x11, x12, s13, s14, s15, s16, s17, s18, s19, s20, s21, s22, s23, s24], defers := [] } ∧ ISV wS ad N c kk j y z zc t  L W s13 s14 s15 s16 s17 s18 s19 s20 s21 s22 s23 s24
set_option maxHeartbeats 4000000 in
set_option maxRecDepth 100000 in
theorem isSorted_any (n₀ : Nat) (A : Option Addr) (ls : List Lot) (c : Nat) (hlen : ls.length ≤ 1000000) (w : World) (hR : RdB' n₀ w A ls) (hn : n₀ ≤ w.heap.size) :
 Calls Tryz.prog 56 #[.slice A ls.length c, .func (.func 57) #[] #[]] w fun e w' => e = .returned (.bool (sortedB ls)) ∧ Below w.heap.size w w' := by
 obtain ⟨N, hN⟩ : ∃ N, ls.length = N := ⟨_, rfl⟩
 rw [hN] at hlen ⊢
 have HR := Lib.hid hR
 have HNZ := Lib.hid hN
 have HNN := Lib.hid hn
 have hw1 : IntKind.i64.wrap ((N : Int) - 1) = (N : Int) - 1 := by rw [IntKind.wrap_i64]; omega
 clear hR hN hn
 go_enter Tryz.func56, Tryz.ntmps56
 go_wp2_with fail
 go_loopw [5] (fun v wr => ∃ k : Nat, (v = .int .i64 (k : Int) ∧ k < N ∨ v = .int .i64 (-1) ∧ N = 0) ∧ SortedFrom ls k ∧ Below w.heap.size w wr) (fun v _ => (intOf v).toNat)
 case atStart =>
  refine ⟨N - 1, ?_, fun i a b h1 _ h3 => by have h4 := (List.getElem?_eq_some_iff.1 h3).1; rw [HNZ.out] at h4; omega, Below.refl _ _⟩
  rcases Nat.eq_zero_or_pos N with h | h
  ·exact .inr ⟨by rw [h]; rfl, h⟩
  ·exact .inl ⟨by rw [show ((N - 1 : Nat) : Int) = (N : Int) - 1 from by omega], by omega⟩
 case round =>
  obtain ⟨kk, hv, hs, hb⟩ := hrel
  have HS := Lib.hid hs
  have HB := Lib.hid hb
  clear hs hb hw1
  rcases hv with ⟨rfl, hk⟩ | ⟨rfl, h0⟩
  ·rcases Nat.eq_zero_or_pos kk with hz | hpos
   ·have tg : decide ((kk : Int) > 0) = false := decide_eq_false (by omega)
    have tg' : decide ((0 : Int) < (kk : Int)) = false := decide_eq_false (by omega)
    have tg2 : ¬ 0 < kk := by omega
    have HF : Hid (sortedB ls = true) := sortedB_yes (SortedFrom.all (by have h := HS.out; rwa [hz] at h))
    clear hz hk
    go_wp2_with fail
    go_ret
    exact ⟨by rw [HF.out]; rfl, HB.out⟩
   ·obtain ⟨j, hj⟩ : ∃ j, kk = j + 1 := ⟨kk - 1, by omega⟩
    have hkN : kk < ls.length := by rw [HNZ.out]; exact hk
    obtain ⟨y, hy⟩ : ∃ y, ls[kk]? = some y := ⟨_, List.getElem?_eq_getElem hkN⟩
    obtain ⟨z, hz⟩ : ∃ z, ls[j]? = some z := ⟨_, List.getElem?_eq_getElem (by omega)⟩
    obtain ⟨ad, rfl, had, hcell⟩ := HR.out (by intro e; rw [e] at hy; cases hy)
    have HCY := Lib.hid ((hcell kk y hy).below (HB.out.mono HNN.out) (by rw [add_block]; exact had))
    have HCZ := Lib.hid ((hcell j z hz).below (HB.out.mono HNN.out) (by rw [add_block]; exact had))
    have HAD : Hid (ad.block < wr.heap.size) := Nat.lt_of_lt_of_le had (Nat.le_trans HNN.out HB.out.size)
    have tg : decide ((kk : Int) > 0) = true := decide_eq_true (by omega)
    have tg' : decide ((0 : Int) < (kk : Int)) = true := decide_eq_true (by omega)
    have tg2 : 0 < kk := by omega
    have HKL : Hid ((kk : Int) < (N : Int)) := by show (kk : Int) < _; omega
    have HJL : Hid ((j : Int) < (N : Int)) := by show (j : Int) < _; omega
    have HWR : Hid (IntKind.i64.wrap ((kk : Int) - 1) = (j : Int)) := by rw [Hid, IntKind.wrap_i64]; omega
    have hcm := fun W => cmpClo_any y z W
    unfold Lot.enc Lot.cells at hcm
    have HCM' := Lib.hid hcm
    obtain ⟨t, ht⟩ : ∃ t, bl y.inst z.inst = t := ⟨_, rfl⟩
    have hzt := cmpL_neg y.inst z.inst
    rw [ht] at hzt
    obtain ⟨zc, hzc⟩ : ∃ zc, cmpL y.inst z.inst = zc := ⟨_, rfl⟩
    rw [hzc] at hcm hzt
    have HCM := Lib.hid hcm
    have HZT := Lib.hid hzt
    have HJ := Lib.hid hj
    have HNO : Hid (t = true → sortedB ls = false) := fun e => sortedB_no fun hs => by
     have h := hs j z y hz (by rw [← hj]; exact hy)
     rw [ht, e] at h; cases h
    have HYES : Hid (t = false → SortedFrom ls j) := fun e => SortedFrom.step (by rw [← hj]; exact HS.out) hz (by rw [← hj]; exact hy) (by rw [ht, e])
    clear hcell hy hz hcm hzt ht hzc HCM' hkN
    have hjN : j < N := by omega
    clear hj hk hpos
    have hgS : Below wr.heap.size wr wr.drew := (Below.refl _ _).drew
    go_upto_region 4 with fail
    have mixed : Tryz.prog.follows .mixedOrders = true := by kernel_rfl
    refine wp_region_any mixed (wpAny_inv (ISJ wr ad N c kk j y z zc t _ _ _ _ _ _ _ _ _ _) ?stIS ?dnIS _ _ _ _ ⟨by simp, ⟨_, _, _, _, _, _, _, _, _, _, _, _, rfl, fun h => by simp at h, fun h => by simp at h, fun h => by simp at h, fun h => by simp at h, fun h => by simp at h, fun h => by simp at h, fun h => by simp at h, fun h => by simp at h, fun h => by simp at h, fun h => by simp at h, fun h => by simp at h, fun h => by simp at h, hgS⟩⟩ (by decide))
    case dnIS =>
     intro L a w' hj hr
     have all : ∀ i, i < 12 → L.getD i false = true := by
      intro i
      induction i using Nat.strongRecOn with
      | ind i ih =>
        intro hi
        refine (off_or_on L i).resolve_left fun h => ?_
        refine List.eq_nil_iff_forall_not_mem.1 hr i (ready_of (by rw [hj.sz]; exact hi) h (Array.getElem?_eq_getElem (by simpa using hi)) (fun e he hbd => ih e.on ?_ ?_))
        ·rcases (show i = 0 ∨ i = 1 ∨ i = 2 ∨ i = 3 ∨ i = 4 ∨ i = 5 ∨ i = 6 ∨ i = 7 ∨ i = 8 ∨ i = 9 ∨ i = 10 ∨ i = 11 from by omega) with rfl | rfl | rfl | rfl | rfl | rfl | rfl | rfl | rfl | rfl | rfl | rfl
         ·simp at he
         ·simp at he
         ·simp at he
         ·simp at he
          rcases he with rfl | rfl
          all_goals first | decide | (exact absurd hbd (by decide))
         ·simp at he
          subst he
          first | decide | (exact absurd hbd (by decide))
         ·simp at he
         ·simp at he
         ·simp at he
          subst he
          first | decide | (exact absurd hbd (by decide))
         ·simp at he
          rcases he with rfl | rfl
          all_goals first | decide | (exact absurd hbd (by decide))
         ·simp at he
          subst he
          first | decide | (exact absurd hbd (by decide))
         ·simp at he
          rcases he with rfl | rfl | rfl
          all_goals first | decide | (exact absurd hbd (by decide))
         ·simp at he
          subst he
          first | decide | (exact absurd hbd (by decide))
        ·rcases (show i = 0 ∨ i = 1 ∨ i = 2 ∨ i = 3 ∨ i = 4 ∨ i = 5 ∨ i = 6 ∨ i = 7 ∨ i = 8 ∨ i = 9 ∨ i = 10 ∨ i = 11 from by omega) with rfl | rfl | rfl | rfl | rfl | rfl | rfl | rfl | rfl | rfl | rfl | rfl
         ·simp at he
         ·simp at he
         ·simp at he
         ·simp at he
          rcases he with rfl | rfl
          all_goals first | decide | (exact absurd hbd (by decide))
         ·simp at he
          subst he
          first | decide | (exact absurd hbd (by decide))
         ·simp at he
         ·simp at he
         ·simp at he
          subst he
          first | decide | (exact absurd hbd (by decide))
         ·simp at he
          rcases he with rfl | rfl
          all_goals first | decide | (exact absurd hbd (by decide))
         ·simp at he
          subst he
          first | decide | (exact absurd hbd (by decide))
         ·simp at he
          rcases he with rfl | rfl | rfl
          all_goals first | decide | (exact absurd hbd (by decide))
         ·simp at he
          subst he
          first | decide | (exact absurd hbd (by decide))
     obtain ⟨s13, s14, s15, s16, s17, s18, s19, s20, s21, s22, s23, s24, rfl, hv⟩ := hj.fr
     have e11 := hv.k11 (all 11 (by omega))
     subst e11
     have HF := Lib.hid (HB.out.trans (hv.g.mono HB.out.size))
     clear all hv hj hr
     cases t
     case true =>
      go_wp2_with fail
      go_ret
      exact ⟨by rw [HNO.out (by first | rfl | trivial)]; rfl, HF.out⟩
     have hwr := HWR.out
     go_wp2_with fail
     go_roundw
     case rel => exact ⟨j, .inl ⟨rfl, by omega⟩, HYES.out (by first | rfl | trivial), HF.out⟩
     case measure => have hj := HJ.out; simp [intOf]; omega
    case stIS =>
     intro L a w' hj i hi
     obtain ⟨hun, o, ho, hall⟩ := mem_ready.1 hi
     have hoff := getD_off hun
     have hlt := (Array.getElem?_eq_some_iff.1 ho).1
     simp at hlt
     obtain ⟨s13, s14, s15, s16, s17, s18, s19, s20, s21, s22, s23, s24, rfl, hv⟩ := hj.fr
     have HV := Lib.hid hv
     have HJ := Lib.hid hj
     clear hv hj
     rcases (show i = 0 ∨ i = 1 ∨ i = 2 ∨ i = 3 ∨ i = 4 ∨ i = 5 ∨ i = 6 ∨ i = 7 ∨ i = 8 ∨ i = 9 ∨ i = 10 ∨ i = 11 from by omega) with rfl | rfl | rfl | rfl | rfl | rfl | rfl | rfl | rfl | rfl | rfl | rfl
     ·simp at ho
      subst ho
      clear hall hi
      refine wpOp_step rfl (fun K' hK' => ?_)
      have HK := Lib.hid hK'
      clear hK'
      go_simp
      exact HK.out _ _ ⟨by simp [HJ.out.sz], ⟨_, _, _, _, _, _, _, _, _, _, _, _, rfl, fun _ => rfl, Um HV.out.k1, Um HV.out.k2, Um HV.out.k3, Um HV.out.k4, Um HV.out.k5, Um HV.out.k6, Um HV.out.k7, Um HV.out.k8, Um HV.out.k9, Um HV.out.k10, Um HV.out.k11, HV.out.g⟩⟩
     ·simp at ho
      subst ho
      clear hall hi
      refine wpOp_step rfl (fun K' hK' => ?_)
      have HK := Lib.hid hK'
      clear hK'
      go_simp
      exact HK.out _ _ ⟨by simp [HJ.out.sz], ⟨_, _, _, _, _, _, _, _, _, _, _, _, rfl, Um HV.out.k0, fun _ => rfl, Um HV.out.k2, Um HV.out.k3, Um HV.out.k4, Um HV.out.k5, Um HV.out.k6, Um HV.out.k7, Um HV.out.k8, Um HV.out.k9, Um HV.out.k10, Um HV.out.k11, HV.out.g⟩⟩
     ·simp at ho
      subst ho
      clear hall hi
      refine wpOp_step rfl (fun K' hK' => ?_)
      have HK := Lib.hid hK'
      clear hK'
      go_simp
      exact HK.out _ _ ⟨by simp [HJ.out.sz], ⟨_, _, _, _, _, _, _, _, _, _, _, _, rfl, Um HV.out.k0, Um HV.out.k1, fun _ => rfl, Um HV.out.k3, Um HV.out.k4, Um HV.out.k5, Um HV.out.k6, Um HV.out.k7, Um HV.out.k8, Um HV.out.k9, Um HV.out.k10, Um HV.out.k11, HV.out.g⟩⟩
     ·simp at ho
      subst ho
      have H1 := Lib.hid (hall { on := 1, ground := .data } (by simp) (by decide))
      have H2 := Lib.hid (hall { on := 2, ground := .data } (by simp) (by decide))
      clear hall hi
      have e0 := HV.out.k1 H1.out
      subst e0
      have e1 := HV.out.k2 H2.out
      subst e1
      have hkl := HKL.out
      refine wpOp_step rfl (fun K' hK' => ?_)
      have HK := Lib.hid hK'
      clear hK'
      go_simp
      exact HK.out _ _ ⟨by simp [HJ.out.sz], ⟨_, _, _, _, _, _, _, _, _, _, _, _, rfl, Um HV.out.k0, Um HV.out.k1, Um HV.out.k2, fun _ => rfl, Um HV.out.k4, Um HV.out.k5, Um HV.out.k6, Um HV.out.k7, Um HV.out.k8, Um HV.out.k9, Um HV.out.k10, Um HV.out.k11, HV.out.g⟩⟩
     ·simp at ho
      subst ho
      have H3 := Lib.hid (hall { on := 3, ground := .data } (by simp) (by decide))
      clear hall hi
      have e0 := HV.out.k3 H3.out
      subst e0
      obtain ⟨c0, c1, c2, c3, c4, c5, c6⟩ := HCY.out.below HV.out.g (by rw [add_block]; exact HAD.out)
      refine wpOp_step rfl (fun K' hK' => ?_)
      have HK := Lib.hid hK'
      clear hK'
      go_simp
      exact HK.out _ _ ⟨by simp [HJ.out.sz], ⟨_, _, _, _, _, _, _, _, _, _, _, _, rfl, Um HV.out.k0, Um HV.out.k1, Um HV.out.k2, Um HV.out.k3, fun _ => rfl, Um HV.out.k5, Um HV.out.k6, Um HV.out.k7, Um HV.out.k8, Um HV.out.k9, Um HV.out.k10, Um HV.out.k11, HV.out.g⟩⟩
     ·simp at ho
      subst ho
      clear hall hi
      refine wpOp_step rfl (fun K' hK' => ?_)
      have HK := Lib.hid hK'
      clear hK'
      go_simp
      exact HK.out _ _ ⟨by simp [HJ.out.sz], ⟨_, _, _, _, _, _, _, _, _, _, _, _, rfl, Um HV.out.k0, Um HV.out.k1, Um HV.out.k2, Um HV.out.k3, Um HV.out.k4, fun _ => rfl, Um HV.out.k6, Um HV.out.k7, Um HV.out.k8, Um HV.out.k9, Um HV.out.k10, Um HV.out.k11, HV.out.g⟩⟩
     ·simp at ho
      subst ho
      clear hall hi
      refine wpOp_step rfl (fun K' hK' => ?_)
      have HK := Lib.hid hK'
      clear hK'
      go_simp
      exact HK.out _ _ ⟨by simp [HJ.out.sz], ⟨_, _, _, _, _, _, _, _, _, _, _, _, rfl, Um HV.out.k0, Um HV.out.k1, Um HV.out.k2, Um HV.out.k3, Um HV.out.k4, Um HV.out.k5, fun _ => rfl, Um HV.out.k7, Um HV.out.k8, Um HV.out.k9, Um HV.out.k10, Um HV.out.k11, HV.out.g⟩⟩
     ·simp at ho
      subst ho
      have H6 := Lib.hid (hall { on := 6, ground := .data } (by simp) (by decide))
      clear hall hi
      have e0 := HV.out.k6 H6.out
      subst e0
      have hwr := HWR.out
      refine wpOp_step rfl (fun K' hK' => ?_)
      have HK := Lib.hid hK'
      clear hK'
      go_simp
      exact HK.out _ _ ⟨by simp [HJ.out.sz], ⟨_, _, _, _, _, _, _, _, _, _, _, _, rfl, Um HV.out.k0, Um HV.out.k1, Um HV.out.k2, Um HV.out.k3, Um HV.out.k4, Um HV.out.k5, Um HV.out.k6, fun _ => rfl, Um HV.out.k8, Um HV.out.k9, Um HV.out.k10, Um HV.out.k11, HV.out.g⟩⟩
     ·simp at ho
      subst ho
      have H5 := Lib.hid (hall { on := 5, ground := .data } (by simp) (by decide))
      have H7 := Lib.hid (hall { on := 7, ground := .data } (by simp) (by decide))
      clear hall hi
      have e0 := HV.out.k5 H5.out
      subst e0
      have e1 := HV.out.k7 H7.out
      subst e1
      have hjl := HJL.out
      refine wpOp_step rfl (fun K' hK' => ?_)
      have HK := Lib.hid hK'
      clear hK'
      go_simp
      exact HK.out _ _ ⟨by simp [HJ.out.sz], ⟨_, _, _, _, _, _, _, _, _, _, _, _, rfl, Um HV.out.k0, Um HV.out.k1, Um HV.out.k2, Um HV.out.k3, Um HV.out.k4, Um HV.out.k5, Um HV.out.k6, Um HV.out.k7, fun _ => rfl, Um HV.out.k9, Um HV.out.k10, Um HV.out.k11, HV.out.g⟩⟩
     ·simp at ho
      subst ho
      have H8 := Lib.hid (hall { on := 8, ground := .data } (by simp) (by decide))
      clear hall hi
      have e0 := HV.out.k8 H8.out
      subst e0
      obtain ⟨c0, c1, c2, c3, c4, c5, c6⟩ := HCZ.out.below HV.out.g (by rw [add_block]; exact HAD.out)
      refine wpOp_step rfl (fun K' hK' => ?_)
      have HK := Lib.hid hK'
      clear hK'
      go_simp
      exact HK.out _ _ ⟨by simp [HJ.out.sz], ⟨_, _, _, _, _, _, _, _, _, _, _, _, rfl, Um HV.out.k0, Um HV.out.k1, Um HV.out.k2, Um HV.out.k3, Um HV.out.k4, Um HV.out.k5, Um HV.out.k6, Um HV.out.k7, Um HV.out.k8, fun _ => rfl, Um HV.out.k10, Um HV.out.k11, HV.out.g⟩⟩
     ·simp at ho
      subst ho
      have H0 := Lib.hid (hall { on := 0, ground := .data } (by simp) (by decide))
      have H4 := Lib.hid (hall { on := 4, ground := .data } (by simp) (by decide))
      have H9 := Lib.hid (hall { on := 9, ground := .data } (by simp) (by decide))
      clear hall hi
      have e0 := HV.out.k0 H0.out
      subst e0
      have e1 := HV.out.k4 H4.out
      subst e1
      have e2 := HV.out.k9 H9.out
      subst e2
      refine wpOp_step rfl (fun K' hK' => ?_)
      have HK := Lib.hid hK'
      clear hK'
      go_simp
      refine (HCM.out w').mono ?_
      rintro e wn ⟨rfl, bn⟩
      exact HK.out _ _ ⟨by simp [HJ.out.sz], ⟨_, _, _, _, _, _, _, _, _, _, _, _, rfl, Um HV.out.k0, Um HV.out.k1, Um HV.out.k2, Um HV.out.k3, Um HV.out.k4, Um HV.out.k5, Um HV.out.k6, Um HV.out.k7, Um HV.out.k8, Um HV.out.k9, fun _ => rfl, Um HV.out.k11, HV.out.g.trans (bn.mono HV.out.g.size)⟩⟩
     ·simp at ho
      subst ho
      have H10 := Lib.hid (hall { on := 10, ground := .data } (by simp) (by decide))
      clear hall hi
      have e0 := HV.out.k10 H10.out
      subst e0
      have hzt := HZT.out; have hzt2 := HZT.out
      refine wpOp_step rfl (fun K' hK' => ?_)
      have HK := Lib.hid hK'
      clear hK'
      go_simp
      exact HK.out _ _ ⟨by simp [HJ.out.sz], ⟨_, _, _, _, _, _, _, _, _, _, _, _, rfl, Um HV.out.k0, Um HV.out.k1, Um HV.out.k2, Um HV.out.k3, Um HV.out.k4, Um HV.out.k5, Um HV.out.k6, Um HV.out.k7, Um HV.out.k8, Um HV.out.k9, Um HV.out.k10, fun _ => rfl, HV.out.g⟩⟩
  ·have tg : decide ((-1 : Int) > 0) = false := rfl
   have HF : Hid (sortedB ls = true) := sortedB_yes (fun i a b ha _ => by have h := (List.getElem?_eq_some_iff.1 ha).1; rw [HNZ.out] at h; omega)
   go_wp2_with fail
   go_ret
   exact ⟨by rw [HF.out]; rfl, HB.out⟩
theorem sortedClo_any (n₀ : Nat) (A : Option Addr) (ls : List Lot) (c : Nat) (hlen : ls.length ≤ 1000000) (w : World) (hR : RdB' n₀ w A ls) (hn : n₀ ≤ w.heap.size) :
 Calls Tryz.prog 55 #[.slice A ls.length c] w fun e w' => e = .returned (.bool (sortedB ls)) ∧ Below w.heap.size w w' := by
 have HI := Lib.hid (isSorted_any n₀ A ls c hlen w hR hn)
 clear hR hn
 go_enter Tryz.func55, Tryz.ntmps55
 go_wp2_with fail
 refine HI.out.mono ?_
 rintro e w1 ⟨rfl, b1⟩
 have HB := Lib.hid b1
 clear b1
 go_wp2_with fail
 go_ret
 exact ⟨rfl, HB.out⟩
end Go.Proofs.YtdnmpgoigagjmaaGreatDoor
namespace Go.Proofs.YtdnmpgoigagjmaaGreatDoor
open Go.RowKit Tr Go.Shelf
attribute [local go_sem] eqGuard_lot
def LotS (N : Nat) (sl : List SLot) (W : World) (v : Value) : Prop := ∃ A c n, v = .slice A N c ∧ RdB n W A sl ∧ n ≤ W.heap.size
theorem LotS.below {N : Nat} {sl : List SLot} {W W' : World} {v : Value} (h : LotS N sl W v) (hb : Below W.heap.size W W') : LotS N sl W' v := by
 obtain ⟨A, c, n, e, h1, h2⟩ := h
 exact ⟨A, c, n, e, h1.below (hb.mono h2), Nat.le_trans h2 hb.size⟩
theorem bl_ne {a b : ByteArray} (h : bl b a = true) : (a.toList == b.toList) = false := by
 cases h2 : (a.toList == b.toList)
 ·rfl
 ·rw [(tl_iff a b).1 (beq_iff_eq.1 h2), bl_irr] at h; cases h
structure LP8V (wS : World) (x : Lot) (Bx : Nat) (ad : Addr) (n3 c3 k : Nat)  (L : Array Bool) (W : World) (s76 s77 s78 s79 s80 s81 s82 s83 s84 s85 s86 s87 s88 s89 s90 s91 s92 s93 s94 s95 s96 s97 s98 s99 s100 s101 s102 s103 s104 : Value) : Prop where
 k0 : L.getD 0 false = true → s76 = .int .i64 0
 k1 : L.getD 1 false = true → s77 = .bool false
 k2 : L.getD 2 false = true → s78 = .bool false
 k3 : L.getD 3 false = true → s79 = .bool true
 k4 : L.getD 4 false = true → s80 = .bool false
 k5 : L.getD 5 false = true → s81 = .bool false
 k6 : L.getD 6 false = true → s82 = .bool false
 k7 : L.getD 7 false = true → s83 = .int .i64 (k : Int)
 k8 : L.getD 8 false = true → s84 = .bool false
 k9 : L.getD 9 false = true → s85 = .bool false
 k10 : L.getD 10 false = true → s86 = .bool false
 k11 : L.getD 11 false = true → s87 = .int .i64 (k : Int)
 k12 : L.getD 12 false = true → s88 = .slice (some ad) n3 c3
 k13 : L.getD 13 false = true → s89 = .int .i64 (n3 : Int)
 k14 : L.getD 14 false = true → s90 = .bool false
 k15 : L.getD 15 false = true → s91 = .bool false
 k16 : L.getD 16 false = true → s92 = .bool false
 k17 : L.getD 17 false = true → s93 = .slice (some ad) n3 c3
 k18 : L.getD 18 false = true → s94 = .int .i64 (k : Int)
 k19 : L.getD 19 false = true → s95 = .pointer (some (ad.add (k * 7)))
 k20 : L.getD 20 false = true → s96 = .agg #[.string x.id, .string x.inst, .int .i64 x.acq, .int .i64 x.opn, .string x.qty, .string x.cost, .string x.used]
 k21 : L.getD 21 false = true → s97 = .agg #[.string x.id, .string x.inst, .int .i64 x.acq, .int .i64 x.opn, .string x.qty, .string x.cost, .string x.used]
 k22 : L.getD 22 false = true → s98 = .bool false
 k23 : L.getD 23 false = true → s99 = .bool false
 k24 : L.getD 24 false = true → s100 = .bool false
 k25 : L.getD 25 false = true → s101 = .slice (some ad) n3 c3
 k26 : L.getD 26 false = true → s102 = .int .i64 0
 k27 : L.getD 27 false = true → s103 = .bool false
 k28 : L.getD 28 false = true → s104 = .bool false
 g : Below wS.heap.size wS W
structure LP8J (wS : World) (x : Lot) (Bx : Nat) (ad : Addr) (n3 c3 k : Nat) (x0 x1 x2 x4 x7 x8 x11 x12 x13 x14 x15 x16 x17 x18 x19 x20 x21 x22 x23 x24 x25 x26 x27 x28 x29 x30 x31 x32 x33 x34 x35 x36 x37 x38 x39 x40 x41 x42 x43 x44 x45 x46 x47 x48 x49 x50 x51 x52 x53 x54 x55 x56 x57 x58 x59 x60 x61 x62 x63 x64 x65 x66 x67 x68 x69 x70 x71 x72 x73 x74 x75 x105 x106 x107 x108 x109 x110 x111 x112 x113 x114 x115 x116 x117 x118 x119 x120 x121 x122 x123 x124 x125 x126 x127 x128 x129 x130 x131 x132 x133 x134 x135 x136 x137 x138 x139 x140 x141 x142 x143 x144 x145 x146 x147 x148 x149 : Value) (L : Array Bool) (a : Act) (W : World) : Prop where
 sz : L.size = 29
 fr : ∃ s76 s77 s78 s79 s80 s81 s82 s83 s84 s85 s86 s87 s88 s89 s90 s91 s92 s93 s94 s95 s96 s97 s98 s99 s100 s101 s102 s103 s104 : Value, a = { tmps := #[x0, x1, x2, .pointer (some ⟨Bx, 0, none⟩), x4, .slice (some ad) n3 c3, .int .i64 0, x7, x8, .int .i64 (k : Int), .bool true, x11, x12, x13, x14, x15, x16, x17, x18, x19, x20, x21, x22, x23, x24, x25, x26, x27, x28, x29, x30, x31, x32, x33, x34, x35, x36, x37, x38, x39, x40, x41, x42, x43, x44, x45, x46, x47, x48, x49, x50, x51, x52, x53, x54, x55, x56, x57, x58, x59, x60, x61, x62, x63, x64, x65, x66, x67, x68, x69, x70, x71, x72, x73, x74, x75, s76, s77, s78, s79, s80, s81, s82, s83, s84, s85, s86, s87, s88, s89, s90, s91, s92, s93, s94, s95, s96, s97, s98, s99, s100, s101, s102, s103, s104, x105, x106, x107, x108, x109, x110, x111, x112, x113, x114, x115, x116, x117, x118, x119, x120, x121, x122, x123, x124, x125, x126, x127, x128, x129, x130, x131, x132, x133, x134, x135, x136, x137, x138, x139, x140, x141, x142, x143, x144, x145, x146, x147, x148, x149], defers := [] } ∧ LP8V wS x Bx ad n3 c3 k  L W s76 s77 s78 s79 s80 s81 s82 s83 s84 s85 s86 s87 s88 s89 s90 s91 s92 s93 s94 s95 s96 s97 s98 s99 s100 s101 s102 s103 s104
structure LPAV (wS : World) (Bx : Nat) (A : Option Addr) (N c : Nat) (ad a5 : Addr) (n3 c3 k kn : Nat) (sl : List SLot) (Bn : Nat) (L : Array Bool) (W : World) (s4 s125 s126 s127 s128 s129 s130 s131 s132 s133 s134 s135 s136 s137 s138 s139 s140 s141 s142 s143 s144 s145 s146 s147 s148 s149 : Value) : Prop where
 k0 : L.getD 0 false = true → s125 = .slice (some ad) n3 c3
 k1 : L.getD 1 false = true → s126 = .int .i64 (k : Int)
 k2 : L.getD 2 false = true → s127 = .slice (some ad) k c3
 k3 : L.getD 3 false = true → s128 = .slice (some ad) n3 c3
 k4 : L.getD 4 false = true → s129 = .int .i64 (k : Int)
 k5 : L.getD 5 false = true → s130 = .int .i64 (kn : Int)
 k6 : L.getD 6 false = true → s131 = .slice (some a5) (n3 - kn) (c3 - kn)
 k7 : L.getD 7 false = true → s132 = .slice (some ⟨Bn, 0, none⟩) 2 2
 k9 : L.getD 9 false = true → s134 = .slice A N c
 k10 : L.getD 10 false = true → s135 = .bool true
 k11 : L.getD 11 false = true → s136 = .bool true
 k12 : L.getD 12 false = true → s137 = .func (.func 55) #[] #[]
 k13 : L.getD 13 false = true → s138 = .slice A N c
 k14 : L.getD 14 false = true → s139 = .bool true
 k15 : L.getD 15 false = true → s140 = .bool false
 k16 : L.getD 16 false = true → s141 = .bool false
 k17 : L.getD 17 false = true → s142 = .func (.func 55) #[] #[]
 k18 : L.getD 18 false = true → s143 = .slice (some ad) n3 c3
 k19 : L.getD 19 false = true → s144 = .bool true
 k20 : L.getD 20 false = true → s145 = .bool true
 k21 : L.getD 21 false = true → s146 = .bool true
 k22 : L.getD 22 false = true → s147 = .bool true
 k23 : L.getD 23 false = true → s148 = .bool true
 k24 : L.getD 24 false = true → s149 = .bool true
 k25 : L.getD 25 false = true → s4 = .bool true
 g : Below wS.heap.size wS W
 t7 : L.getD 7 false = true → W.heap[Bn]? = some (.cells #[.slice (some ad) k c3, .slice (some a5) (n3 - kn) (c3 - kn)] 22 (0, 0))
 r8 : L.getD 8 false = true → LotS N sl W s133
 q8 : L.getD 8 false = true → L.getD 7 false = true
structure LPAJ (wS : World) (Bx : Nat) (A : Option Addr) (N c : Nat) (ad a5 : Addr) (n3 c3 k kn : Nat) (sl : List SLot) (x1 x2 x6 x7 x8 x10 x12 x13 x14 x15 x16 x17 x18 x19 x20 x21 x22 x23 x24 x25 x26 x27 x28 x29 x30 x31 x32 x33 x34 x35 x36 x37 x38 x39 x40 x41 x42 x43 x44 x45 x46 x47 x48 x49 x50 x51 x52 x53 x54 x55 x56 x57 x58 x59 x60 x61 x62 x63 x64 x65 x66 x67 x68 x69 x70 x71 x72 x73 x74 x75 x76 x77 x78 x79 x80 x81 x82 x83 x84 x85 x86 x87 x88 x89 x90 x91 x92 x93 x94 x95 x96 x97 x98 x99 x100 x101 x102 x103 x104 x105 x106 x107 x108 x109 x110 x111 x112 x113 x114 x115 x116 x117 x118 x119 x120 x121 x122 x123 x124 : Value) (L : Array Bool) (a : Act) (W : World) : Prop where
 sz : L.size = 26
 fr : ∃ Bn : Nat, ∃ s4 s125 s126 s127 s128 s129 s130 s131 s132 s133 s134 s135 s136 s137 s138 s139 s140 s141 s142 s143 s144 s145 s146 s147 s148 s149 : Value, a = { tmps := #[.slice A N c, x1, x2, .pointer (some ⟨Bx, 0, none⟩), s4, .slice (some ad) n3 c3, x6, x7, x8, .int .i64 (k : Int), x10, .func (.func 55) #[] #[], x12, x13, x14, x15, x16, x17, x18, x19, x20, x21, x22, x23, x24, x25, x26, x27, x28, x29, x30, x31, x32, x33, x34, x35, x36, x37, x38, x39, x40, x41, x42, x43, x44, x45, x46, x47, x48, x49, x50, x51, x52, x53, x54, x55, x56, x57, x58, x59, x60, x61, x62, x63, x64, x65, x66, x67, x68, x69, x70, x71, x72, x73, x74, x75, x76, x77, x78, x79, x80, x81, x82, x83, x84, x85, x86, x87, x88, x89, x90, x91, x92, x93, x94, x95, x96, x97, x98, x99, x100, x101, x102, x103, x104, x105, x106, x107, x108, x109, x110, x111, x112, x113, x114, x115, x116, x117, x118, x119, x120, x121, x122, x123, x124, s125, s126, s127, s128, s129, s130, s131, s132, s133, s134, s135, s136, s137, s138, s139, s140, s141, s142, s143, s144, s145, s146, s147, s148, s149], defers := [] } ∧ LPAV wS Bx A N c ad a5 n3 c3 k kn sl Bn L W s4 s125 s126 s127 s128 s129 s130 s131 s132 s133 s134 s135 s136 s137 s138 s139 s140 s141 s142 s143 s144 s145 s146 s147 s148 s149
structure LPBV (wS : World) (Bx : Nat) (A : Option Addr) (N c : Nat) (ad a5 : Addr) (n3 c3 k kn : Nat) (sl : List SLot) (Bn : Nat) (L : Array Bool) (W : World) (s4 s125 s126 s127 s128 s129 s130 s131 s132 s133 s134 s135 s136 s137 s138 s139 s140 s141 s142 s143 s144 s145 s146 s147 s148 s149 : Value) : Prop where
 k0 : L.getD 0 false = true → s125 = .slice (some ad) n3 c3
 k1 : L.getD 1 false = true → s126 = .int .i64 (k : Int)
 k2 : L.getD 2 false = true → s127 = .slice (some ad) k c3
 k3 : L.getD 3 false = true → s128 = .slice (some ad) n3 c3
 k4 : L.getD 4 false = true → s129 = .int .i64 (k : Int)
 k5 : L.getD 5 false = true → s130 = .int .i64 (kn : Int)
 k6 : L.getD 6 false = true → s131 = .slice (some a5) (n3 - kn) (c3 - kn)
 k7 : L.getD 7 false = true → s132 = .slice (some ⟨Bn, 0, none⟩) 2 2
 k9 : L.getD 9 false = true → s134 = .slice A N c
 k10 : L.getD 10 false = true → s135 = .bool true
 k11 : L.getD 11 false = true → s136 = .bool true
 k12 : L.getD 12 false = true → s137 = .func (.func 55) #[] #[]
 k13 : L.getD 13 false = true → s138 = .slice A N c
 k14 : L.getD 14 false = true → s139 = .bool false
 k15 : L.getD 15 false = true → s140 = .bool true
 k16 : L.getD 16 false = true → s141 = .bool true
 k17 : L.getD 17 false = true → s142 = undef
 k18 : L.getD 18 false = true → s143 = undef
 k19 : L.getD 19 false = true → s144 = undef
 k20 : L.getD 20 false = true → s145 = .bool true
 k21 : L.getD 21 false = true → s146 = .bool true
 k22 : L.getD 22 false = true → s147 = .bool true
 k23 : L.getD 23 false = true → s148 = .bool true
 k24 : L.getD 24 false = true → s149 = .bool true
 k25 : L.getD 25 false = true → s4 = .bool true
 g : Below wS.heap.size wS W
 t7 : L.getD 7 false = true → W.heap[Bn]? = some (.cells #[.slice (some ad) k c3, .slice (some a5) (n3 - kn) (c3 - kn)] 22 (0, 0))
 r8 : L.getD 8 false = true → LotS N sl W s133
 q8 : L.getD 8 false = true → L.getD 7 false = true
structure LPBJ (wS : World) (Bx : Nat) (A : Option Addr) (N c : Nat) (ad a5 : Addr) (n3 c3 k kn : Nat) (sl : List SLot) (x1 x2 x6 x7 x8 x10 x12 x13 x14 x15 x16 x17 x18 x19 x20 x21 x22 x23 x24 x25 x26 x27 x28 x29 x30 x31 x32 x33 x34 x35 x36 x37 x38 x39 x40 x41 x42 x43 x44 x45 x46 x47 x48 x49 x50 x51 x52 x53 x54 x55 x56 x57 x58 x59 x60 x61 x62 x63 x64 x65 x66 x67 x68 x69 x70 x71 x72 x73 x74 x75 x76 x77 x78 x79 x80 x81 x82 x83 x84 x85 x86 x87 x88 x89 x90 x91 x92 x93 x94 x95 x96 x97 x98 x99 x100 x101 x102 x103 x104 x105 x106 x107 x108 x109 x110 x111 x112 x113 x114 x115 x116 x117 x118 x119 x120 x121 x122 x123 x124 : Value) (L : Array Bool) (a : Act) (W : World) : Prop where
 sz : L.size = 26
 fr : ∃ Bn : Nat, ∃ s4 s125 s126 s127 s128 s129 s130 s131 s132 s133 s134 s135 s136 s137 s138 s139 s140 s141 s142 s143 s144 s145 s146 s147 s148 s149 : Value, a = { tmps := #[.slice A N c, x1, x2, .pointer (some ⟨Bx, 0, none⟩), s4, .slice (some ad) n3 c3, x6, x7, x8, .int .i64 (k : Int), x10, .func (.func 55) #[] #[], x12, x13, x14, x15, x16, x17, x18, x19, x20, x21, x22, x23, x24, x25, x26, x27, x28, x29, x30, x31, x32, x33, x34, x35, x36, x37, x38, x39, x40, x41, x42, x43, x44, x45, x46, x47, x48, x49, x50, x51, x52, x53, x54, x55, x56, x57, x58, x59, x60, x61, x62, x63, x64, x65, x66, x67, x68, x69, x70, x71, x72, x73, x74, x75, x76, x77, x78, x79, x80, x81, x82, x83, x84, x85, x86, x87, x88, x89, x90, x91, x92, x93, x94, x95, x96, x97, x98, x99, x100, x101, x102, x103, x104, x105, x106, x107, x108, x109, x110, x111, x112, x113, x114, x115, x116, x117, x118, x119, x120, x121, x122, x123, x124, s125, s126, s127, s128, s129, s130, s131, s132, s133, s134, s135, s136, s137, s138, s139, s140, s141, s142, s143, s144, s145, s146, s147, s148, s149], defers := [] } ∧ LPBV wS Bx A N c ad a5 n3 c3 k kn sl Bn L W s4 s125 s126 s127 s128 s129 s130 s131 s132 s133 s134 s135 s136 s137 s138 s139 s140 s141 s142 s143 s144 s145 s146 s147 s148 s149
set_option maxHeartbeats 8000000 in
set_option maxRecDepth 100000 in
theorem LotOpen_any (A : Option Addr) (ls : List Lot) (c : Nat) (hcap : ls.length ≤ c) (h1 : ls.length ≤ 9223372036854775807) (hA : A = none → ls.length = 0 ∧ c = 0) (x : Lot) (w : World) (hR : RdL w A ls) (ht : Tabs w) :
 Calls Tryz.prog 11 #[.slice A ls.length c, x.enc] w (TruePost19 w) := by
 obtain ⟨W0, hW0, hB0, hk0⟩ := lbox x w
 have HT := Lib.hid ht
 have HR := Lib.hid hR
 have HA := Lib.hid hA
 have HCP := Lib.hid hcap
 have HB0 := Lib.hid hB0
 have HX0 : Hid (LotBox W0 w.heap.size x) := hk0
 have HGR := Lib.hid (fun W (hW : Below w.heap.size w W) => rGreat19_len A ls c h1 W (hR.below hW))
 have hG1 := fun W => rGreatOne_any x W
 have hC2 := fun (hs : x.tiny) W => rCheck19_ex x hs W
 unfold Lot.enc Lot.cells at hG1 hC2
 have HG1 := Lib.hid hG1
 have HCC2 := Lib.hid hC2
 clear ht hR hA hcap hB0 hk0 h1 hG1 hC2
 unfold Lot.enc Lot.cells at *
 go_enter Tryz.func11, Tryz.ntmps11
 go_wp2_with fail
 refine (HGR.out W0 HB0.out).mono ?_
 rintro e wa ⟨g, rfl, hg, ba⟩
 have HBa := Lib.hid (HB0.out.trans (ba.mono HB0.out.size))
 have HXa := Lib.hid (HX0.out.below ba)
 have HV1 := Lib.hid hg
 clear ba hg
 cases g
 case true =>
  go_wp2_with fail
  refine (awake19_any _ (HT.out.below HBa.out)).mono ?_
  rintro e wz ⟨rfl, bz⟩
  have HZ := Lib.hid (HBa.out.trans (bz.mono HBa.out.size))
  clear bz
  go_wp2_with fail
  go_ret
  exact ⟨rfl, HZ.out⟩
 have HX1 := Lib.hid (HV1.out rfl)
 clear HV1
 have x0 := Lib.cell_of_heap HXa.out 0
 have x1 := Lib.cell_of_heap HXa.out 1
 have x2 := Lib.cell_of_heap HXa.out 2
 have x3 := Lib.cell_of_heap HXa.out 3
 have x4 := Lib.cell_of_heap HXa.out 4
 have x5 := Lib.cell_of_heap HXa.out 5
 have x6 := Lib.cell_of_heap HXa.out 6
 simp [Lot.cells] at x0 x1 x2 x3 x4 x5 x6
 go_wp2_with fail
 refine (HG1.out wa).mono ?_
 rintro e wb ⟨g, rfl, hg, bb⟩
 have HBb := Lib.hid (HBa.out.trans (bb.mono HBa.out.size))
 have HXb := Lib.hid (HXa.out.below bb)
 have HV2 := Lib.hid hg
 clear bb hg HBa HXa x0 x1 x2 x3 x4 x5 x6
 cases g
 case true =>
  go_wp2_with fail
  refine (awake19_any _ (HT.out.below HBb.out)).mono ?_
  rintro e wz ⟨rfl, bz⟩
  have HZ := Lib.hid (HBb.out.trans (bz.mono HBb.out.size))
  clear bz
  go_wp2_with fail
  go_ret
  exact ⟨rfl, HZ.out⟩
 have htx := HV2.out rfl
 obtain ⟨_, v2, v3⟩ := HX1.out
 obtain ⟨sl, hsl⟩ := exists_slots ls (fun l hl => (v3 l hl).sized)
 obtain ⟨N, hN⟩ : ∃ N, sl.length = N := ⟨_, rfl⟩
 have hNm : ls.length = N := by rw [← hsl, List.length_map, hN]
 have hRB : RdB w.heap.size w A sl := RdL.rdb (by rw [hsl]; exact HR.out)
 have hRL : RdB' w.heap.size w A ls := HR.out
 have hca := HCP.out
 have hal := HA.out
 rw [hNm] at hca v2 hal ⊢
 have hF1 := fun W (hW : Below w.heap.size w W) => lFind_any w.heap.size A ls c x.id (by rw [hNm]; omega) W (hRL.below hW) hW.size
 have hO1 := fun W (hW : Below w.heap.size w W) => lOpen_any w.heap.size A sl c (by rw [hN]; exact hca) (by rw [hN]; omega) ⟨x, htx.sized⟩ W (hRB.below hW) hW.size (by rw [hN]; exact hal) (HT.out.below hW)
 have hK2 := fun W (hW : Below w.heap.size w W) => rCheckAll19_ex A ls c (by rw [hNm]; exact hca) (by rw [hNm]; omega) v3 W ((hRL.below hW).rdl hW.size)
 have hSB := fun W (hW : Below w.heap.size w W) => sortedClo_any w.heap.size A ls c (by rw [hNm]; omega) W (hRL.below hW) hW.size
 unfold OpnPost at hO1
 rw [hN, hsl] at hO1
 rw [hNm] at hF1 hK2 hSB
 unfold Lot.enc Lot.cells at hO1
 have HF1 := Lib.hid hF1
 have HO1 := Lib.hid hO1
 have HK2 := Lib.hid hK2
 have HSB0 := Lib.hid hSB
 have HTX := Lib.hid htx
 have HNN := Lib.hid (And.intro hN v2)
 have HNM := Lib.hid hNm
 have HRB := Lib.hid hRB
 have HSL := Lib.hid hsl
 clear hF1 hO1 hK2 hca hal hRB hRL hN hNm hsl v2 v3 HX1 HV2 HG1 HGR HR HA HCP hSB
 go_wp2_with fail
 refine (HK2.out wb HBb.out).mono ?_
 rintro e wc ⟨rfl, bc⟩
 have HBc := Lib.hid (HBb.out.trans (bc.mono HBb.out.size))
 have HXc := Lib.hid (HXb.out.below bc)
 clear bc HBb HXb HK2
 by_cases h0 : lall ls = 0
 case neg =>
  have t1 : (lall ls == 0) = false := beq_eq_false_iff_ne.2 h0
  have t2 : (lall ls != 0) = true := by rw [bne, t1]; rfl
  clear h0
  go_wp2_with fail
  refine (awake19_any _ (HT.out.below HBc.out)).mono ?_
  rintro e wz ⟨rfl, bz⟩
  have HZ := Lib.hid (HBc.out.trans (bz.mono HBc.out.size))
  clear bz
  go_wp2_with fail
  go_ret
  exact ⟨rfl, HZ.out⟩
 have H0 := Lib.hid h0
 rw [h0]
 clear h0
 have x0 := Lib.cell_of_heap HXc.out 0
 have x1 := Lib.cell_of_heap HXc.out 1
 have x2 := Lib.cell_of_heap HXc.out 2
 have x3 := Lib.cell_of_heap HXc.out 3
 have x4 := Lib.cell_of_heap HXc.out 4
 have x5 := Lib.cell_of_heap HXc.out 5
 have x6 := Lib.cell_of_heap HXc.out 6
 simp [Lot.cells] at x0 x1 x2 x3 x4 x5 x6
 go_wp2_with fail
 refine (HCC2.out HTX.out wc).mono ?_
 rintro e wd ⟨rfl, bd⟩
 have HBd := Lib.hid (HBc.out.trans (bd.mono HBc.out.size))
 have HXd := Lib.hid (HXc.out.below bd)
 clear bd HBc HXc HCC2 x0 x1 x2 x3 x4 x5 x6
 by_cases h1 : lchk x = 0
 case neg =>
  have t1 : (lchk x == 0) = false := beq_eq_false_iff_ne.2 h1
  have t2 : (lchk x != 0) = true := by rw [bne, t1]; rfl
  clear h1
  go_wp2_with fail
  refine (awake19_any _ (HT.out.below HBd.out)).mono ?_
  rintro e wz ⟨rfl, bz⟩
  have HZ := Lib.hid (HBd.out.trans (bz.mono HBd.out.size))
  clear bz
  go_wp2_with fail
  go_ret
  exact ⟨rfl, HZ.out⟩
 have H1 := Lib.hid h1
 rw [h1]
 clear h1
 have x0 := Lib.cell_of_heap HXd.out 0
 have x1 := Lib.cell_of_heap HXd.out 1
 have x2 := Lib.cell_of_heap HXd.out 2
 have x3 := Lib.cell_of_heap HXd.out 3
 have x4 := Lib.cell_of_heap HXd.out 4
 have x5 := Lib.cell_of_heap HXd.out 5
 have x6 := Lib.cell_of_heap HXd.out 6
 simp [Lot.cells] at x0 x1 x2 x3 x4 x5 x6
 go_wp2_with fail
 refine (HO1.out wd HBd.out).mono ?_
 rintro e we ⟨A3, c3, r3, he, be, hr3, hc3, hp1, hp2⟩
 have HBe := Lib.hid (HBd.out.trans (be.mono HBd.out.size))
 have HXe := Lib.hid (HXd.out.below be)
 have HR3 := Lib.hid (And.intro hr3 (And.intro hp1 (And.intro hp2 hc3)))
 have HEE := Lib.hid he
 clear be hr3 hc3 hp1 hp2 x0 x1 x2 x3 x4 x5 x6 HBd HXd HO1 he
 generalize hf : findR ls x.id 0 = fr at HF1
 obtain ⟨kf, bf⟩ := fr
 have HFR := Lib.hid hf
 clear hf
 have x0 := Lib.cell_of_heap HXe.out 0
 have x1 := Lib.cell_of_heap HXe.out 1
 have x2 := Lib.cell_of_heap HXe.out 2
 have x3 := Lib.cell_of_heap HXe.out 3
 have x4 := Lib.cell_of_heap HXe.out 4
 have x5 := Lib.cell_of_heap HXe.out 5
 have x6 := Lib.cell_of_heap HXe.out 6
 simp [Lot.cells] at x0 x1 x2 x3 x4 x5 x6
 cases bf
 case true =>
  have hE := opnE_was (x := x) H0.out H1.out (by rw [HFR.out])
  have he := HEE.out
  obtain rfl := HR3.out.2.1 (by rw [hE]; decide)
  rw [hE, List.length_nil] at he
  subst he
  clear hE HEE HR3
  go_wp2_with fail
  refine (HF1.out we HBe.out).mono ?_
  rintro e wf ⟨rfl, bf⟩
  have HBf := Lib.hid (HBe.out.trans (bf.mono HBe.out.size))
  clear bf HBe HXe HF1 x0 x1 x2 x3 x4 x5 x6
  go_wp2_with fail
  refine (awake19_any _ (HT.out.below HBf.out)).mono ?_
  rintro e wz ⟨rfl, bz⟩
  have HZ := Lib.hid (HBf.out.trans (bz.mono HBf.out.size))
  clear bz
  go_wp2_with fail
  go_ret
  exact ⟨rfl, HZ.out⟩
 rcases Nat.lt_or_ge N 1000 with hlt | hge
 case inr =>
  have hE := opnE_lim (x := x) H0.out H1.out (by rw [HFR.out]) (by rw [HNM.out]; exact hge)
  have hN1 : N ≤ 1000 := by have h := ((lall_zero _).1 H0.out).len; rwa [HNM.out] at h
  have t1 : ((N : Int) == 1000) = true := beq_iff_eq.2 (by omega)
  have t2 : (N == 1000) = true := beq_iff_eq.2 (by omega)
  have he := HEE.out
  obtain rfl := HR3.out.2.1 (by rw [hE]; decide)
  rw [hE, List.length_nil] at he
  subst he
  clear hE HEE HR3 hge hN1
  go_wp2_with fail
  refine (HF1.out we HBe.out).mono ?_
  rintro e wf ⟨rfl, bf⟩
  have HBf := Lib.hid (HBe.out.trans (bf.mono HBe.out.size))
  clear bf HBe HXe HF1 x0 x1 x2 x3 x4 x5 x6
  go_wp2_with fail
  refine (awake19_any _ (HT.out.below HBf.out)).mono ?_
  rintro e wz ⟨rfl, bz⟩
  have HZ := Lib.hid (HBf.out.trans (bz.mono HBf.out.size))
  clear bz
  go_wp2_with fail
  go_ret
  exact ⟨rfl, HZ.out⟩
 have hE := opnE_ok (x := x) H0.out H1.out (by rw [HFR.out]) (by rw [HNM.out]; exact hlt)
 have t1 : ((N : Int) == 1000) = false := beq_eq_false_iff_ne.2 (by omega)
 have t2 : (N == 1000) = false := beq_eq_false_iff_ne.2 (by omega)
 have he := HEE.out
 obtain ⟨k, hpl, e3⟩ := HR3.out.2.2.1 hE
 obtain ⟨n3, hn3⟩ : ∃ n3, r3.length = n3 := ⟨_, rfl⟩
 rw [hE, hn3] at he
 subst he
 have hkN : k ≤ sl.length := by have h := hpl.le; rwa [HNM.out, ← HNN.out.1] at h
 have hn3N : n3 = N + 1 := by rw [← hn3, e3, insAt_len _ hkN, HNN.out.1]
 obtain ⟨rz, hrz⟩ : ∃ rz, r3.map Subtype.val = rz := ⟨_, rfl⟩
 have hmap : r3.map Subtype.val = insAt ls k x := by rw [e3, insAt_map, HSL.out]
 rw [hrz] at hmap
 have hid : ∀ y ∈ ls, y.id ≠ x.id := findR_false _ _ 0 (by rw [HFR.out])
 have hfm : findR rz x.id 0 = (k, true) := by rw [hmap]; exact insAt_find (by rw [HNM.out, ← HNN.out.1]; exact hkN) hid
 have hlm : lall rz = 0 := by rw [hmap]; exact (lall_zero _).2 (insAt_ok ((lall_zero _).1 H0.out) H1.out hid (by rw [HNM.out]; exact hlt))
 have hnm3 : rz.length = n3 := by rw [← hrz, List.length_map, hn3]
 have hkn3 : k < n3 := by rw [hn3N, ← HNN.out.1]; omega
 have hrest : r3.take k ++ r3.drop (k + 1) = sl := by rw [e3]; exact insAt_rest _ hkN
 have hat : r3[k]? = some ⟨x, HTX.out.sized⟩ := by rw [e3]; exact insAt_at _ hkN
 obtain ⟨ad, e4, had, hcell⟩ := HR3.out.1 (by intro e; rw [e] at hat; cases hat)
 subst e4
 have hr3 := HR3.out.1
 have hrl : RdB' we.heap.size we (some ad) rz := by rw [← hrz]; exact hr3.rdb'
 have hF2 := fun W (hW : Below we.heap.size we W) => lFind_any we.heap.size (some ad) rz c3 x.id (by rw [hnm3]; omega) W (hrl.below hW) hW.size
 have hCM := fun W (hW : Below we.heap.size we W) => lCheckAll_any (some ad) c3 rz (by rw [hnm3, ← hn3]; exact HR3.out.2.2.2) (by rw [hnm3]; omega) W ((hrl.below hW).rdl hW.size) (fun l hl => by rw [← hrz] at hl; obtain ⟨y, _, rfl⟩ := List.mem_map.1 hl; exact y.2) (HT.out.below (HBe.out.trans (hW.mono HBe.out.size)))
 have hSM := fun W (hW : Below we.heap.size we W) => sortedClo_any we.heap.size (some ad) rz c3 (by rw [hnm3]; omega) W (hrl.below hW) hW.size
 rw [hnm3] at hF2 hCM hSM
 rw [hfm] at hF2
 rw [hlm] at hCM
 have HF2 := Lib.hid hF2
 have HCM0 := Lib.hid hCM
 have HSM0 := Lib.hid hSM
 have HXE : Hid (LotAt we (ad.add (k * 7)) x ∧ ad.block < we.heap.size) := ⟨hcell k _ hat, had⟩
 clear hF2 hCM hSM HFR hfm hlm hid hcell had hat
 have HI := Lib.hid (And.intro hkN (And.intro hn3N (And.intro hmap (And.intro hnm3 (And.intro hrest (And.intro hpl (And.intro hn3 e3)))))))
 have HKN3 := Lib.hid hkn3
 clear hkN hn3N hmap hnm3 hrest hpl hn3 e3 hkn3 hE hlt hr3 hrl hrz HEE
 go_wp2_with fail
 refine (HF1.out we HBe.out).mono ?_
 rintro e wf ⟨rfl, bf⟩
 have HBf := Lib.hid (HBe.out.trans (bf.mono HBe.out.size))
 have HXf := Lib.hid (HXe.out.below bf)
 have HEF := Lib.hid bf
 clear bf HF1 x0 x1 x2 x3 x4 x5 x6
 have x0 := Lib.cell_of_heap HXf.out 0
 have x1 := Lib.cell_of_heap HXf.out 1
 have x2 := Lib.cell_of_heap HXf.out 2
 have x3 := Lib.cell_of_heap HXf.out 3
 have x4 := Lib.cell_of_heap HXf.out 4
 have x5 := Lib.cell_of_heap HXf.out 5
 have x6 := Lib.cell_of_heap HXf.out 6
 simp [Lot.cells] at x0 x1 x2 x3 x4 x5 x6
 go_wp2_with fail
 refine (HF2.out wf HEF.out).mono ?_
 rintro e w7 ⟨rfl, b7⟩
 have HG := Lib.hid (HBf.out.trans (b7.mono HBf.out.size))
 have HX := Lib.hid (HXf.out.below b7)
 have HE7 := Lib.hid (HEF.out.trans (b7.mono HEF.out.size))
 clear b7 HBf HXf HF2 x0 x1 x2 x3 x4 x5 x6 HEF
 have HK0 : Hid (decide ((k : Int) < 0) = false) := decide_eq_false (by omega)
 have HK1 : Hid (decide ((k : Int) ≥ (n3 : Int)) = false ∧ decide ((n3 : Int) ≤ (k : Int)) = false) := by
  have h := HKN3.out
  exact ⟨decide_eq_false (by omega), decide_eq_false (by omega)⟩
 have HKL : Hid ((k : Int) < (n3 : Int)) := by have h := HKN3.out; show (k : Int) < _; omega
 have HCX : Hid (LotAt w7 (ad.add (k * 7)) x) := HXE.out.1.below HE7.out (by rw [add_block]; exact HXE.out.2)
 have HAD : Hid (ad.block < w7.heap.size) := Nat.lt_of_lt_of_le HXE.out.2 HE7.out.size
 have hne := run_neq_lot x x
 rw [sameB_yes rfl] at hne
 have HNE := Lib.hid hne
 clear hne
 have HCM := Lib.hid (fun W (hW : Below w7.heap.size w7 W) => HCM0.out W (HE7.out.trans (hW.mono HE7.out.size)))
 obtain ⟨sb, hsb⟩ : ∃ sb, sortedB ls = sb := ⟨_, rfl⟩
 have HSB : Hid (∀ W, Below w.heap.size w W → Calls Tryz.prog 55 #[.slice A N c] W fun e w' => e = .returned (.bool sb) ∧ Below W.heap.size W w') := by rw [← hsb]; exact HSB0.out
 have HSV : Hid (sb = true → sortedB rz = true) := fun e => by
  rw [HI.out.2.2.1]
  exact sortedB_yes (insAt_sorted HI.out.2.2.2.2.2.1 (sortedB_iff.1 (hsb.trans e)))
 clear hsb
 obtain ⟨kn, hkn⟩ : ∃ kn, k + 1 = kn := ⟨_, rfl⟩
 have hkn3 : kn ≤ n3 := by have h := HKN3.out; omega
 have hc3 : r3.length ≤ c3 := HR3.out.2.2.2
 obtain ⟨a5, ha5⟩ : ∃ a5, a5 = (if c3 = kn then ad else ad.add (kn * 7)) := ⟨_, rfl⟩
 have hs5 := fun W => lslice_hi W ad n3 c3 kn hkn3
 rw [← ha5] at hs5
 have HSH := Lib.hid hs5
 have HSO := Lib.hid (fun W => lslice_lo W ad n3 c3 k (by have h := HKN3.out; have h2 := HI.out.2.2.2.2.2.2.1; omega))
 have HWR : Hid (IntKind.i64.wrap ((k : Int) + 1) = (kn : Int)) := by rw [Hid, IntKind.wrap_i64]; have h := HKN3.out; have h2 := HI.out.2.1; have h3 := HNN.out.2; omega
 have hrd := HR3.out.1.drop (c := c3) kn (by have h2 := HI.out.2.2.2.2.2.2.1; omega) hc3
 rw [← ha5] at hrd
 have hdr : r3.drop kn = sl.drop k := by rw [← hkn, HI.out.2.2.2.2.2.2.2]; exact insAt_drop _ HI.out.1
 have HRO : Hid (∀ j, j < n3 - kn → ∃ y : Lot, (r3.drop kn)[j]?.map Subtype.val = some y ∧ (y.inst.toList == x.inst.toList) = false ∧ ∀ W, Below we.heap.size we W → LotAt W (a5.add (j * 7)) y) := fun j hj => by
  have hjl : j < (r3.drop kn).length := by rw [List.length_drop, HI.out.2.2.2.2.2.2.1]; exact hj
  obtain ⟨y, hy⟩ : ∃ y, (r3.drop kn)[j]? = some y := ⟨_, List.getElem?_eq_getElem hjl⟩
  obtain ⟨a6, e6, h6, hc6⟩ := hrd (by intro e; rw [e] at hy; cases hy)
  injection e6 with e6
  subst e6
  refine ⟨y.1, by rw [hy]; rfl, bl_ne (HI.out.2.2.2.2.2.1.hi (k + j) y.1 (by omega) ?_), fun W hW => (hc6 j y hy).below hW (by rw [add_block]; exact h6)⟩
  rw [hdr, List.getElem?_drop] at hy
  rw [← HSL.out, List.getElem?_map, hy]; rfl
 have HRD : Hid (RdB we.heap.size we (some a5) (r3.drop kn) ∧ k + 1 = kn) := ⟨hrd, hkn⟩
 clear ha5 hs5 hrd hdr hkn hc3 hkn3
 have hgS : Below w7.heap.size w7 w7.drew := (Below.refl _ _).drew
 go_upto_region 8 with fail
 have mixed : Tryz.prog.follows .mixedOrders = true := by kernel_rfl
 refine wp_region_any mixed (wpAny_inv (LP8J w7 x w.heap.size ad n3 c3 k _ _ _ _ _ _ _ _ _ _ _ _ _ _ _ _ _ _ _ _ _ _ _ _ _ _ _ _ _ _ _ _ _ _ _ _ _ _ _ _ _ _ _ _ _ _ _ _ _ _ _ _ _ _ _ _ _ _ _ _ _ _ _ _ _ _ _ _ _ _ _ _ _ _ _ _ _ _ _ _ _ _ _ _ _ _ _ _ _ _ _ _ _ _ _ _ _ _ _ _ _ _ _ _ _ _ _ _ _ _ _ _ _ _ _ _) ?stLP8 ?dnLP8 _ _ _ _ ⟨by simp, ⟨_, _, _, _, _, _, _, _, _, _, _, _, _, _, _, _, _, _, _, _, _, _, _, _, _, _, _, _, _, rfl, fun h => by simp at h, fun h => by simp at h, fun h => by simp at h, fun h => by simp at h, fun h => by simp at h, fun h => by simp at h, fun h => by simp at h, fun h => by simp at h, fun h => by simp at h, fun h => by simp at h, fun h => by simp at h, fun h => by simp at h, fun h => by simp at h, fun h => by simp at h, fun h => by simp at h, fun h => by simp at h, fun h => by simp at h, fun h => by simp at h, fun h => by simp at h, fun h => by simp at h, fun h => by simp at h, fun h => by simp at h, fun h => by simp at h, fun h => by simp at h, fun h => by simp at h, fun h => by simp at h, fun h => by simp at h, fun h => by simp at h, fun h => by simp at h, hgS⟩⟩ (by decide))
 case dnLP8 =>
  intro L a w' hj hr
  have all : ∀ i, i < 29 → L.getD i false = true := by
   intro i
   induction i using Nat.strongRecOn with
   | ind i ih =>
     intro hi
     refine (off_or_on L i).resolve_left fun h => ?_
     refine List.eq_nil_iff_forall_not_mem.1 hr i (ready_of (by rw [hj.sz]; exact hi) h (Array.getElem?_eq_getElem (by simpa using hi)) (fun e he hbd => ih e.on ?_ ?_))
     ·rcases (show i = 0 ∨ i = 1 ∨ i = 2 ∨ i = 3 ∨ i = 4 ∨ i = 5 ∨ i = 6 ∨ i = 7 ∨ i = 8 ∨ i = 9 ∨ i = 10 ∨ i = 11 ∨ i = 12 ∨ i = 13 ∨ i = 14 ∨ i = 15 ∨ i = 16 ∨ i = 17 ∨ i = 18 ∨ i = 19 ∨ i = 20 ∨ i = 21 ∨ i = 22 ∨ i = 23 ∨ i = 24 ∨ i = 25 ∨ i = 26 ∨ i = 27 ∨ i = 28 from by omega) with rfl | rfl | rfl | rfl | rfl | rfl | rfl | rfl | rfl | rfl | rfl | rfl | rfl | rfl | rfl | rfl | rfl | rfl | rfl | rfl | rfl | rfl | rfl | rfl | rfl | rfl | rfl | rfl | rfl
      ·simp at he
      ·simp at he
       subst he
       first | decide | (exact absurd hbd (by decide))
      ·simp at he
       subst he
       first | decide | (exact absurd hbd (by decide))
      ·simp at he
       subst he
       first | decide | (exact absurd hbd (by decide))
      ·simp at he
       rcases he with rfl | rfl
       all_goals first | decide | (exact absurd hbd (by decide))
      ·simp at he
       rcases he with rfl | rfl
       all_goals first | decide | (exact absurd hbd (by decide))
      ·simp at he
       rcases he with rfl | rfl
       all_goals first | decide | (exact absurd hbd (by decide))
      ·simp at he
       subst he
       first | decide | (exact absurd hbd (by decide))
      ·simp at he
       rcases he with rfl | rfl
       all_goals first | decide | (exact absurd hbd (by decide))
      ·simp at he
       rcases he with rfl | rfl
       all_goals first | decide | (exact absurd hbd (by decide))
      ·simp at he
       rcases he with rfl | rfl
       all_goals first | decide | (exact absurd hbd (by decide))
      ·simp at he
       subst he
       first | decide | (exact absurd hbd (by decide))
      ·simp at he
       subst he
       first | decide | (exact absurd hbd (by decide))
      ·simp at he
       rcases he with rfl | rfl
       all_goals first | decide | (exact absurd hbd (by decide))
      ·simp at he
       rcases he with rfl | rfl | rfl
       all_goals first | decide | (exact absurd hbd (by decide))
      ·simp at he
       rcases he with rfl | rfl
       all_goals first | decide | (exact absurd hbd (by decide))
      ·simp at he
       rcases he with rfl | rfl
       all_goals first | decide | (exact absurd hbd (by decide))
      ·simp at he
       subst he
       first | decide | (exact absurd hbd (by decide))
      ·simp at he
       subst he
       first | decide | (exact absurd hbd (by decide))
      ·simp at he
       rcases he with rfl | rfl | rfl
       all_goals first | decide | (exact absurd hbd (by decide))
      ·simp at he
       rcases he with rfl | rfl
       all_goals first | decide | (exact absurd hbd (by decide))
      ·simp at he
       subst he
       first | decide | (exact absurd hbd (by decide))
      ·simp at he
       rcases he with rfl | rfl | rfl
       all_goals first | decide | (exact absurd hbd (by decide))
      ·simp at he
       rcases he with rfl | rfl
       all_goals first | decide | (exact absurd hbd (by decide))
      ·simp at he
       rcases he with rfl | rfl
       all_goals first | decide | (exact absurd hbd (by decide))
      ·simp at he
       subst he
       first | decide | (exact absurd hbd (by decide))
      ·simp at he
       rcases he with rfl | rfl | rfl
       all_goals first | decide | (exact absurd hbd (by decide))
      ·simp at he
       rcases he with rfl | rfl
       all_goals first | decide | (exact absurd hbd (by decide))
      ·simp at he
       rcases he with rfl | rfl
       all_goals first | decide | (exact absurd hbd (by decide))
     ·rcases (show i = 0 ∨ i = 1 ∨ i = 2 ∨ i = 3 ∨ i = 4 ∨ i = 5 ∨ i = 6 ∨ i = 7 ∨ i = 8 ∨ i = 9 ∨ i = 10 ∨ i = 11 ∨ i = 12 ∨ i = 13 ∨ i = 14 ∨ i = 15 ∨ i = 16 ∨ i = 17 ∨ i = 18 ∨ i = 19 ∨ i = 20 ∨ i = 21 ∨ i = 22 ∨ i = 23 ∨ i = 24 ∨ i = 25 ∨ i = 26 ∨ i = 27 ∨ i = 28 from by omega) with rfl | rfl | rfl | rfl | rfl | rfl | rfl | rfl | rfl | rfl | rfl | rfl | rfl | rfl | rfl | rfl | rfl | rfl | rfl | rfl | rfl | rfl | rfl | rfl | rfl | rfl | rfl | rfl | rfl
      ·simp at he
      ·simp at he
       subst he
       first | decide | (exact absurd hbd (by decide))
      ·simp at he
       subst he
       first | decide | (exact absurd hbd (by decide))
      ·simp at he
       subst he
       first | decide | (exact absurd hbd (by decide))
      ·simp at he
       rcases he with rfl | rfl
       all_goals first | decide | (exact absurd hbd (by decide))
      ·simp at he
       rcases he with rfl | rfl
       all_goals first | decide | (exact absurd hbd (by decide))
      ·simp at he
       rcases he with rfl | rfl
       all_goals first | decide | (exact absurd hbd (by decide))
      ·simp at he
       subst he
       first | decide | (exact absurd hbd (by decide))
      ·simp at he
       rcases he with rfl | rfl
       all_goals first | decide | (exact absurd hbd (by decide))
      ·simp at he
       rcases he with rfl | rfl
       all_goals first | decide | (exact absurd hbd (by decide))
      ·simp at he
       rcases he with rfl | rfl
       all_goals first | decide | (exact absurd hbd (by decide))
      ·simp at he
       subst he
       first | decide | (exact absurd hbd (by decide))
      ·simp at he
       subst he
       first | decide | (exact absurd hbd (by decide))
      ·simp at he
       rcases he with rfl | rfl
       all_goals first | decide | (exact absurd hbd (by decide))
      ·simp at he
       rcases he with rfl | rfl | rfl
       all_goals first | decide | (exact absurd hbd (by decide))
      ·simp at he
       rcases he with rfl | rfl
       all_goals first | decide | (exact absurd hbd (by decide))
      ·simp at he
       rcases he with rfl | rfl
       all_goals first | decide | (exact absurd hbd (by decide))
      ·simp at he
       subst he
       first | decide | (exact absurd hbd (by decide))
      ·simp at he
       subst he
       first | decide | (exact absurd hbd (by decide))
      ·simp at he
       rcases he with rfl | rfl | rfl
       all_goals first | decide | (exact absurd hbd (by decide))
      ·simp at he
       rcases he with rfl | rfl
       all_goals first | decide | (exact absurd hbd (by decide))
      ·simp at he
       subst he
       first | decide | (exact absurd hbd (by decide))
      ·simp at he
       rcases he with rfl | rfl | rfl
       all_goals first | decide | (exact absurd hbd (by decide))
      ·simp at he
       rcases he with rfl | rfl
       all_goals first | decide | (exact absurd hbd (by decide))
      ·simp at he
       rcases he with rfl | rfl
       all_goals first | decide | (exact absurd hbd (by decide))
      ·simp at he
       subst he
       first | decide | (exact absurd hbd (by decide))
      ·simp at he
       rcases he with rfl | rfl | rfl
       all_goals first | decide | (exact absurd hbd (by decide))
      ·simp at he
       rcases he with rfl | rfl
       all_goals first | decide | (exact absurd hbd (by decide))
      ·simp at he
       rcases he with rfl | rfl
       all_goals first | decide | (exact absurd hbd (by decide))
  obtain ⟨s76, s77, s78, s79, s80, s81, s82, s83, s84, s85, s86, s87, s88, s89, s90, s91, s92, s93, s94, s95, s96, s97, s98, s99, s100, s101, s102, s103, s104, rfl, hv⟩ := hj.fr
  have e28 := hv.k28 (all 28 (by omega))
  subst e28
  have HF8 := Lib.hid hv.g
  clear all hv hj hr
  dsimp only
  have HG8 := Lib.hid (HG.out.trans (HF8.out.mono HG.out.size))
  have HX8 := Lib.hid (HX.out.below HF8.out)
  have HE8 := Lib.hid (HE7.out.trans (HF8.out.mono HE7.out.size))
  have hsl := HSH.out
  have hwr := HWR.out
  go_wp2_with fail
  clear hsl hwr
  have hn3b : n3 ≤ 1003 := by have h := HI.out.2.1; have h2 := HNN.out.2; omega
  go_loopw [110] (fun v wr => ∃ j : Nat, v = .int .i64 (j : Int) ∧ j ≤ n3 - kn ∧ Below w'.heap.size w' wr) (fun v _ => n3 - kn - (intOf v).toNat)
  case atStart => exact ⟨0, rfl, Nat.zero_le _, Below.refl _ _⟩
  case round =>
   obtain ⟨j, rfl, hj, hb⟩ := hrel
   have HGL := Lib.hid (HG8.out.trans (hb.mono HG8.out.size))
   have HXL := Lib.hid (HX8.out.below hb)
   have HEL := Lib.hid (HE8.out.trans (hb.mono HE8.out.size))
   have HBL := Lib.hid hb
   clear hb
   rcases Nat.lt_or_ge j (n3 - kn) with hlt | hge
   ·obtain ⟨y, hy, hiy, hcl⟩ := HRO.out j hlt
    have hcx : decide ((j : Int) < ((n3 - kn : Nat) : Int)) = true := decide_eq_true (by omega)
    obtain ⟨c0, c1, c2, c3', c4, c5, c6⟩ := hcl wr HEL.out
    obtain ⟨W5, hW5⟩ : ∃ W5, wr.alloc (.cells y.cells 49) = W5 := ⟨_, rfl⟩
    have k5 : LotBox W5 wr.heap.size y := by rw [← hW5]; exact heap_alloc_new wr _
    have b5 : Below wr.heap.size wr W5 := by rw [← hW5]; exact (Below.refl _ wr).alloc (Nat.le_refl _) _
    have HB5 := Lib.hid (HGL.out.trans (b5.mono HGL.out.size))
    have HK5 := Lib.hid k5
    have HX5 := Lib.hid (HXL.out.below b5)
    have HQ := Lib.hid hiy
    clear hcl hy k5 hiy
    unfold Lot.cells at hW5
    have hjl : j < n3 - kn := hlt
    go_wp2_with fail
    refine (HSB.out W5 HB5.out).mono ?_
    rintro e w6 ⟨rfl, b6⟩
    have HB6 := Lib.hid (HB5.out.trans (b6.mono HB5.out.size))
    have m1 := Lib.cell_of_heap (HK5.out.below b6) 1
    have x1 := Lib.cell_of_heap (HX5.out.below b6) 1
    simp [Lot.cells] at m1 x1
    have hq := HQ.out
    have HB7 := Lib.hid (HBL.out.trans ((b5.trans (b6.mono b5.size)).mono HBL.out.size))
    clear b5 b6 c0 c1 c2 c3' c4 c5 c6
    cases sb
    ·go_wp2_with fail
     go_roundw
     case rel => exact ⟨j + 1, by go_num, by omega, HB7.out⟩
     case measure => simp [intOf]; omega
    ·go_wp2_with fail
     go_roundw
     case rel => exact ⟨j + 1, by go_num, by omega, HB7.out⟩
     case measure => simp [intOf]; omega
   ·have hcx : decide ((j : Int) < ((n3 - kn : Nat) : Int)) = false := decide_eq_false (by omega)
    have hcx2 : ¬ j < n3 - kn := by omega
    have HCAT : Hid (∀ W B, W.heap[B]? = some (.cells #[.slice (some ad) k c3, .slice (some a5) (n3 - kn) (c3 - kn)] 22 (0, 0)) → Below wr.heap.size wr W → Calls Tryz.prog 58 #[.slice (some ⟨B, 0, none⟩) 2 2] W fun e w' => ∃ A8 c8, e = .returned (.slice A8 N c8) ∧ RdB w'.heap.size w' A8 sl ∧ Below W.heap.size W w') := fun W B hB hW => by
     have hn3 := HI.out.2.2.2.2.2.2.1
     have hln := HI.out.2.1
     have hv2 := HNN.out.2
     have hkl : (r3.take k).length = k := by rw [List.length_take, hn3]; have h := HKN3.out; omega
     have hdl : (r3.drop kn).length = n3 - kn := by rw [List.length_drop, hn3]
     have hbe := HEL.out.trans (hW.mono HEL.out.size)
     refine (catLots_any B we.heap.size ad (r3.take k) c3 a5 (r3.drop kn) (c3 - kn) 2 W (by rw [hkl, hdl]; exact hB) ((HR3.out.1.below hbe).take k) (HRD.out.1.below hbe) hbe.size (by rw [hkl]; have h := HKN3.out; omega) (by rw [hdl]; omega)).mono ?_
     rintro e w' ⟨A8, c8, he, _, _, hr8, hb8⟩
     have hrs := HI.out.2.2.2.2.1
     rw [HRD.out.2] at hrs
     rw [hrs] at he hr8
     rw [HNN.out.1] at he
     exact ⟨A8, c8, he, hr8, hb8⟩
    have HSM : Hid (∀ W A8 c8 n8, RdB n8 W A8 sl → Below wr.heap.size wr W → Calls Tryz.prog 54 #[.slice A8 N c8, .slice A N c] W fun e w' => e = .returned (.bool true) ∧ Below W.heap.size W w') := fun W A8 c8 n8 h8 hW => by
     have h1 : RdB' n8 W A8 ls := by have h := h8.rdb'; rwa [HSL.out] at h
     have h2 : RdB' w.heap.size W A ls := by have h := (HRB.out.below (HGL.out.trans (hW.mono HGL.out.size))).rdb'; rwa [HSL.out] at h
     have hl : ls.length ≤ 1000000 := by rw [HNM.out]; have h := HNN.out.2; omega
     have h := rSame_any A8 A ls ls c8 c hl hl n8 w.heap.size W h1 h2
     rw [sameB_yes rfl, HNM.out] at h
     refine h.mono ?_
     rintro e w' ⟨rfl, m, rfl⟩
     exact ⟨rfl, below_drewN (Below.refl _ _) m⟩
    have HS1 : Hid (∀ W, Below wr.heap.size wr W → Calls Tryz.prog 55 #[.slice A N c] W fun e w' => e = .returned (.bool sb) ∧ Below W.heap.size W w') := fun W hW => HSB.out W (HGL.out.trans (hW.mono HGL.out.size))
    have HAW := Lib.hid (fun W (hW : Below wr.heap.size wr W) => awake19_any W (HT.out.below (HGL.out.trans (hW.mono HGL.out.size))))
    clear hge hj
    have hgS : Below wr.heap.size wr wr.drew := (Below.refl _ _).drew
    cases sb
    ·go_upto_region 17 with fail
     have mixed : Tryz.prog.follows .mixedOrders = true := by kernel_rfl
     refine wp_region_any mixed (wpAny_inv (LPBJ wr w.heap.size A N c ad a5 n3 c3 k kn sl _ _ _ _ _ _ _ _ _ _ _ _ _ _ _ _ _ _ _ _ _ _ _ _ _ _ _ _ _ _ _ _ _ _ _ _ _ _ _ _ _ _ _ _ _ _ _ _ _ _ _ _ _ _ _ _ _ _ _ _ _ _ _ _ _ _ _ _ _ _ _ _ _ _ _ _ _ _ _ _ _ _ _ _ _ _ _ _ _ _ _ _ _ _ _ _ _ _ _ _ _ _ _ _ _ _ _ _ _ _ _ _ _ _ _ _ _ _ _) ?stLPB ?dnLPB _ _ _ _ ⟨by simp, ⟨0, _, _, _, _, _, _, _, _, _, _, _, _, _, _, _, _, _, _, _, _, _, _, _, _, _, _, rfl, fun h => by simp at h, fun h => by simp at h, fun h => by simp at h, fun h => by simp at h, fun h => by simp at h, fun h => by simp at h, fun h => by simp at h, fun h => by simp at h, fun h => by simp at h, fun h => by simp at h, fun h => by simp at h, fun h => by simp at h, fun h => by simp at h, fun h => by simp at h, fun h => by simp at h, fun h => by simp at h, fun h => by simp at h, fun h => by simp at h, fun h => by simp at h, fun h => by simp at h, fun h => by simp at h, fun h => by simp at h, fun h => by simp at h, fun h => by simp at h, fun h => by simp at h, hgS, fun h => by simp at h, fun h => by simp at h, fun h => by simp at h⟩⟩ (by decide))
     case dnLPB =>
      intro L a w' hj hr
      have all : ∀ i, i < 26 → L.getD i false = true := by
       intro i
       induction i using Nat.strongRecOn with
       | ind i ih =>
         intro hi
         refine (off_or_on L i).resolve_left fun h => ?_
         refine List.eq_nil_iff_forall_not_mem.1 hr i (ready_of (by rw [hj.sz]; exact hi) h (Array.getElem?_eq_getElem (by simpa using hi)) (fun e he hbd => ih e.on ?_ ?_))
         ·rcases (show i = 0 ∨ i = 1 ∨ i = 2 ∨ i = 3 ∨ i = 4 ∨ i = 5 ∨ i = 6 ∨ i = 7 ∨ i = 8 ∨ i = 9 ∨ i = 10 ∨ i = 11 ∨ i = 12 ∨ i = 13 ∨ i = 14 ∨ i = 15 ∨ i = 16 ∨ i = 17 ∨ i = 18 ∨ i = 19 ∨ i = 20 ∨ i = 21 ∨ i = 22 ∨ i = 23 ∨ i = 24 ∨ i = 25 from by omega) with rfl | rfl | rfl | rfl | rfl | rfl | rfl | rfl | rfl | rfl | rfl | rfl | rfl | rfl | rfl | rfl | rfl | rfl | rfl | rfl | rfl | rfl | rfl | rfl | rfl | rfl
          ·simp at he
          ·simp at he
          ·simp at he
           rcases he with rfl | rfl
           all_goals first | decide | (exact absurd hbd (by decide))
          ·simp at he
          ·simp at he
          ·simp at he
           subst he
           first | decide | (exact absurd hbd (by decide))
          ·simp at he
           rcases he with rfl | rfl
           all_goals first | decide | (exact absurd hbd (by decide))
          ·simp at he
           rcases he with rfl | rfl
           all_goals first | decide | (exact absurd hbd (by decide))
          ·simp at he
           subst he
           first | decide | (exact absurd hbd (by decide))
          ·simp at he
          ·simp at he
           rcases he with rfl | rfl | rfl
           all_goals first | decide | (exact absurd hbd (by decide))
          ·simp at he
           rcases he with rfl | rfl
           all_goals first | decide | (exact absurd hbd (by decide))
          ·simp at he
           subst he
           first | decide | (exact absurd hbd (by decide))
          ·simp at he
           subst he
           first | decide | (exact absurd hbd (by decide))
          ·simp at he
           rcases he with rfl | rfl | rfl | rfl
           all_goals first | decide | (exact absurd hbd (by decide))
          ·simp at he
           rcases he with rfl | rfl
           all_goals first | decide | (exact absurd hbd (by decide))
          ·simp at he
           rcases he with rfl | rfl | rfl
           all_goals first | decide | (exact absurd hbd (by decide))
          ·simp at he
           subst he
           first | decide | (exact absurd hbd (by decide))
          ·simp at he
           subst he
           first | decide | (exact absurd hbd (by decide))
          ·simp at he
           rcases he with rfl | rfl | rfl | rfl
           all_goals first | decide | (exact absurd hbd (by decide))
          ·simp at he
           rcases he with rfl | rfl | rfl
           all_goals first | decide | (exact absurd hbd (by decide))
          ·simp at he
           rcases he with rfl | rfl
           all_goals first | decide | (exact absurd hbd (by decide))
          ·simp at he
           rcases he with rfl | rfl
           all_goals first | decide | (exact absurd hbd (by decide))
          ·simp at he
           rcases he with rfl | rfl
           all_goals first | decide | (exact absurd hbd (by decide))
          ·simp at he
           rcases he with rfl | rfl
           all_goals first | decide | (exact absurd hbd (by decide))
          ·simp at he
           rcases he with rfl | rfl | rfl | rfl | rfl | rfl | rfl | rfl | rfl | rfl | rfl | rfl | rfl | rfl | rfl | rfl | rfl | rfl | rfl | rfl | rfl | rfl | rfl | rfl | rfl | rfl | rfl
           all_goals first | decide | (exact absurd hbd (by decide))
         ·rcases (show i = 0 ∨ i = 1 ∨ i = 2 ∨ i = 3 ∨ i = 4 ∨ i = 5 ∨ i = 6 ∨ i = 7 ∨ i = 8 ∨ i = 9 ∨ i = 10 ∨ i = 11 ∨ i = 12 ∨ i = 13 ∨ i = 14 ∨ i = 15 ∨ i = 16 ∨ i = 17 ∨ i = 18 ∨ i = 19 ∨ i = 20 ∨ i = 21 ∨ i = 22 ∨ i = 23 ∨ i = 24 ∨ i = 25 from by omega) with rfl | rfl | rfl | rfl | rfl | rfl | rfl | rfl | rfl | rfl | rfl | rfl | rfl | rfl | rfl | rfl | rfl | rfl | rfl | rfl | rfl | rfl | rfl | rfl | rfl | rfl
          ·simp at he
          ·simp at he
          ·simp at he
           rcases he with rfl | rfl
           all_goals first | decide | (exact absurd hbd (by decide))
          ·simp at he
          ·simp at he
          ·simp at he
           subst he
           first | decide | (exact absurd hbd (by decide))
          ·simp at he
           rcases he with rfl | rfl
           all_goals first | decide | (exact absurd hbd (by decide))
          ·simp at he
           rcases he with rfl | rfl
           all_goals first | decide | (exact absurd hbd (by decide))
          ·simp at he
           subst he
           first | decide | (exact absurd hbd (by decide))
          ·simp at he
          ·simp at he
           rcases he with rfl | rfl | rfl
           all_goals first | decide | (exact absurd hbd (by decide))
          ·simp at he
           rcases he with rfl | rfl
           all_goals first | decide | (exact absurd hbd (by decide))
          ·simp at he
           subst he
           first | decide | (exact absurd hbd (by decide))
          ·simp at he
           subst he
           first | decide | (exact absurd hbd (by decide))
          ·simp at he
           rcases he with rfl | rfl | rfl | rfl
           all_goals first | decide | (exact absurd hbd (by decide))
          ·simp at he
           rcases he with rfl | rfl
           all_goals first | decide | (exact absurd hbd (by decide))
          ·simp at he
           rcases he with rfl | rfl | rfl
           all_goals first | decide | (exact absurd hbd (by decide))
          ·simp at he
           subst he
           first | decide | (exact absurd hbd (by decide))
          ·simp at he
           subst he
           first | decide | (exact absurd hbd (by decide))
          ·simp at he
           rcases he with rfl | rfl | rfl | rfl
           all_goals first | decide | (exact absurd hbd (by decide))
          ·simp at he
           rcases he with rfl | rfl | rfl
           all_goals first | decide | (exact absurd hbd (by decide))
          ·simp at he
           rcases he with rfl | rfl
           all_goals first | decide | (exact absurd hbd (by decide))
          ·simp at he
           rcases he with rfl | rfl
           all_goals first | decide | (exact absurd hbd (by decide))
          ·simp at he
           rcases he with rfl | rfl
           all_goals first | decide | (exact absurd hbd (by decide))
          ·simp at he
           rcases he with rfl | rfl
           all_goals first | decide | (exact absurd hbd (by decide))
          ·simp at he
           rcases he with rfl | rfl | rfl | rfl | rfl | rfl | rfl | rfl | rfl | rfl | rfl | rfl | rfl | rfl | rfl | rfl | rfl | rfl | rfl | rfl | rfl | rfl | rfl | rfl | rfl | rfl | rfl
           all_goals first | decide | (exact absurd hbd (by decide))
      obtain ⟨Bn, s4, s125, s126, s127, s128, s129, s130, s131, s132, s133, s134, s135, s136, s137, s138, s139, s140, s141, s142, s143, s144, s145, s146, s147, s148, s149, rfl, hv⟩ := hj.fr
      have e25 := hv.k25 (all 25 (by omega))
      subst e25
      have HF := Lib.hid (HGL.out.trans (hv.g.mono HGL.out.size))
      clear all hv hj hr
      dsimp only
      go_wp2_with fail
      go_ret
      exact ⟨rfl, HF.out⟩
     case stLPB =>
      intro L a w' hj i hi
      obtain ⟨hun, o, ho, hall⟩ := mem_ready.1 hi
      have hoff := getD_off hun
      have hlt := (Array.getElem?_eq_some_iff.1 ho).1
      simp at hlt
      obtain ⟨Bn, s4, s125, s126, s127, s128, s129, s130, s131, s132, s133, s134, s135, s136, s137, s138, s139, s140, s141, s142, s143, s144, s145, s146, s147, s148, s149, rfl, hv⟩ := hj.fr
      have HV := Lib.hid hv
      have HJ := Lib.hid hj
      clear hv hj
      rcases (show i = 0 ∨ i = 1 ∨ i = 2 ∨ i = 3 ∨ i = 4 ∨ i = 5 ∨ i = 6 ∨ i = 7 ∨ i = 8 ∨ i = 9 ∨ i = 10 ∨ i = 11 ∨ i = 12 ∨ i = 13 ∨ i = 14 ∨ i = 15 ∨ i = 16 ∨ i = 17 ∨ i = 18 ∨ i = 19 ∨ i = 20 ∨ i = 21 ∨ i = 22 ∨ i = 23 ∨ i = 24 ∨ i = 25 from by omega) with rfl | rfl | rfl | rfl | rfl | rfl | rfl | rfl | rfl | rfl | rfl | rfl | rfl | rfl | rfl | rfl | rfl | rfl | rfl | rfl | rfl | rfl | rfl | rfl | rfl | rfl
      ·simp at ho
       subst ho
       clear hall hi
       refine wpOp_step rfl (fun K' hK' => ?_)
       have HK := Lib.hid hK'
       clear hK'
       go_simp
       exact HK.out _ _ ⟨by simp [HJ.out.sz], ⟨_, _, _, _, _, _, _, _, _, _, _, _, _, _, _, _, _, _, _, _, _, _, _, _, _, _, _, rfl, fun _ => rfl, Um HV.out.k1, Um HV.out.k2, Um HV.out.k3, Um HV.out.k4, Um HV.out.k5, Um HV.out.k6, Um HV.out.k7, Um HV.out.k9, Um HV.out.k10, Um HV.out.k11, Um HV.out.k12, Um HV.out.k13, Um HV.out.k14, Um HV.out.k15, Um HV.out.k16, Um HV.out.k17, Um HV.out.k18, Um HV.out.k19, Um HV.out.k20, Um HV.out.k21, Um HV.out.k22, Um HV.out.k23, Um HV.out.k24, Um HV.out.k25, HV.out.g, Um HV.out.t7, Um HV.out.r8, fun h => getD_up hun (HV.out.q8 (Uz h))⟩⟩
      ·simp at ho
       subst ho
       clear hall hi
       refine wpOp_step rfl (fun K' hK' => ?_)
       have HK := Lib.hid hK'
       clear hK'
       go_simp
       exact HK.out _ _ ⟨by simp [HJ.out.sz], ⟨_, _, _, _, _, _, _, _, _, _, _, _, _, _, _, _, _, _, _, _, _, _, _, _, _, _, _, rfl, Um HV.out.k0, fun _ => rfl, Um HV.out.k2, Um HV.out.k3, Um HV.out.k4, Um HV.out.k5, Um HV.out.k6, Um HV.out.k7, Um HV.out.k9, Um HV.out.k10, Um HV.out.k11, Um HV.out.k12, Um HV.out.k13, Um HV.out.k14, Um HV.out.k15, Um HV.out.k16, Um HV.out.k17, Um HV.out.k18, Um HV.out.k19, Um HV.out.k20, Um HV.out.k21, Um HV.out.k22, Um HV.out.k23, Um HV.out.k24, Um HV.out.k25, HV.out.g, Um HV.out.t7, Um HV.out.r8, fun h => getD_up hun (HV.out.q8 (Uz h))⟩⟩
      ·simp at ho
       subst ho
       have H0 := Lib.hid (hall { on := 0, ground := .data } (by simp) (by decide))
       have H1 := Lib.hid (hall { on := 1, ground := .data } (by simp) (by decide))
       clear hall hi
       have e0 := HV.out.k0 H0.out
       subst e0
       have e1 := HV.out.k1 H1.out
       subst e1
       have hsl := HSO.out
       refine wpOp_step rfl (fun K' hK' => ?_)
       have HK := Lib.hid hK'
       clear hK'
       go_simp
       exact HK.out _ _ ⟨by simp [HJ.out.sz], ⟨_, _, _, _, _, _, _, _, _, _, _, _, _, _, _, _, _, _, _, _, _, _, _, _, _, _, _, rfl, Um HV.out.k0, Um HV.out.k1, fun _ => rfl, Um HV.out.k3, Um HV.out.k4, Um HV.out.k5, Um HV.out.k6, Um HV.out.k7, Um HV.out.k9, Um HV.out.k10, Um HV.out.k11, Um HV.out.k12, Um HV.out.k13, Um HV.out.k14, Um HV.out.k15, Um HV.out.k16, Um HV.out.k17, Um HV.out.k18, Um HV.out.k19, Um HV.out.k20, Um HV.out.k21, Um HV.out.k22, Um HV.out.k23, Um HV.out.k24, Um HV.out.k25, HV.out.g, Um HV.out.t7, Um HV.out.r8, fun h => getD_up hun (HV.out.q8 (Uz h))⟩⟩
      ·simp at ho
       subst ho
       clear hall hi
       refine wpOp_step rfl (fun K' hK' => ?_)
       have HK := Lib.hid hK'
       clear hK'
       go_simp
       exact HK.out _ _ ⟨by simp [HJ.out.sz], ⟨_, _, _, _, _, _, _, _, _, _, _, _, _, _, _, _, _, _, _, _, _, _, _, _, _, _, _, rfl, Um HV.out.k0, Um HV.out.k1, Um HV.out.k2, fun _ => rfl, Um HV.out.k4, Um HV.out.k5, Um HV.out.k6, Um HV.out.k7, Um HV.out.k9, Um HV.out.k10, Um HV.out.k11, Um HV.out.k12, Um HV.out.k13, Um HV.out.k14, Um HV.out.k15, Um HV.out.k16, Um HV.out.k17, Um HV.out.k18, Um HV.out.k19, Um HV.out.k20, Um HV.out.k21, Um HV.out.k22, Um HV.out.k23, Um HV.out.k24, Um HV.out.k25, HV.out.g, Um HV.out.t7, Um HV.out.r8, fun h => getD_up hun (HV.out.q8 (Uz h))⟩⟩
      ·simp at ho
       subst ho
       clear hall hi
       refine wpOp_step rfl (fun K' hK' => ?_)
       have HK := Lib.hid hK'
       clear hK'
       go_simp
       exact HK.out _ _ ⟨by simp [HJ.out.sz], ⟨_, _, _, _, _, _, _, _, _, _, _, _, _, _, _, _, _, _, _, _, _, _, _, _, _, _, _, rfl, Um HV.out.k0, Um HV.out.k1, Um HV.out.k2, Um HV.out.k3, fun _ => rfl, Um HV.out.k5, Um HV.out.k6, Um HV.out.k7, Um HV.out.k9, Um HV.out.k10, Um HV.out.k11, Um HV.out.k12, Um HV.out.k13, Um HV.out.k14, Um HV.out.k15, Um HV.out.k16, Um HV.out.k17, Um HV.out.k18, Um HV.out.k19, Um HV.out.k20, Um HV.out.k21, Um HV.out.k22, Um HV.out.k23, Um HV.out.k24, Um HV.out.k25, HV.out.g, Um HV.out.t7, Um HV.out.r8, fun h => getD_up hun (HV.out.q8 (Uz h))⟩⟩
      ·simp at ho
       subst ho
       have H4 := Lib.hid (hall { on := 4, ground := .data } (by simp) (by decide))
       clear hall hi
       have e0 := HV.out.k4 H4.out
       subst e0
       have hwr := HWR.out
       refine wpOp_step rfl (fun K' hK' => ?_)
       have HK := Lib.hid hK'
       clear hK'
       go_simp
       exact HK.out _ _ ⟨by simp [HJ.out.sz], ⟨_, _, _, _, _, _, _, _, _, _, _, _, _, _, _, _, _, _, _, _, _, _, _, _, _, _, _, rfl, Um HV.out.k0, Um HV.out.k1, Um HV.out.k2, Um HV.out.k3, Um HV.out.k4, fun _ => rfl, Um HV.out.k6, Um HV.out.k7, Um HV.out.k9, Um HV.out.k10, Um HV.out.k11, Um HV.out.k12, Um HV.out.k13, Um HV.out.k14, Um HV.out.k15, Um HV.out.k16, Um HV.out.k17, Um HV.out.k18, Um HV.out.k19, Um HV.out.k20, Um HV.out.k21, Um HV.out.k22, Um HV.out.k23, Um HV.out.k24, Um HV.out.k25, HV.out.g, Um HV.out.t7, Um HV.out.r8, fun h => getD_up hun (HV.out.q8 (Uz h))⟩⟩
      ·simp at ho
       subst ho
       have H3 := Lib.hid (hall { on := 3, ground := .data } (by simp) (by decide))
       have H5 := Lib.hid (hall { on := 5, ground := .data } (by simp) (by decide))
       clear hall hi
       have e0 := HV.out.k3 H3.out
       subst e0
       have e1 := HV.out.k5 H5.out
       subst e1
       have hsl := HSH.out
       refine wpOp_step rfl (fun K' hK' => ?_)
       have HK := Lib.hid hK'
       clear hK'
       go_simp
       exact HK.out _ _ ⟨by simp [HJ.out.sz], ⟨_, _, _, _, _, _, _, _, _, _, _, _, _, _, _, _, _, _, _, _, _, _, _, _, _, _, _, rfl, Um HV.out.k0, Um HV.out.k1, Um HV.out.k2, Um HV.out.k3, Um HV.out.k4, Um HV.out.k5, fun _ => rfl, Um HV.out.k7, Um HV.out.k9, Um HV.out.k10, Um HV.out.k11, Um HV.out.k12, Um HV.out.k13, Um HV.out.k14, Um HV.out.k15, Um HV.out.k16, Um HV.out.k17, Um HV.out.k18, Um HV.out.k19, Um HV.out.k20, Um HV.out.k21, Um HV.out.k22, Um HV.out.k23, Um HV.out.k24, Um HV.out.k25, HV.out.g, Um HV.out.t7, Um HV.out.r8, fun h => getD_up hun (HV.out.q8 (Uz h))⟩⟩
      ·simp at ho
       subst ho
       have H2 := Lib.hid (hall { on := 2, ground := .data } (by simp) (by decide))
       have H6 := Lib.hid (hall { on := 6, ground := .data } (by simp) (by decide))
       clear hall hi
       have e0 := HV.out.k2 H2.out
       subst e0
       have e1 := HV.out.k6 H6.out
       subst e1
       have ba : Below w'.heap.size w' (w'.alloc (.cells #[.slice (some ad) k c3, .slice (some a5) (n3 - kn) (c3 - kn)] 22)) := (Below.refl _ _).alloc (Nat.le_refl _) _
       refine wpOp_step rfl (fun K' hK' => ?_)
       have HK := Lib.hid hK'
       clear hK'
       go_simp
       exact HK.out _ _ ⟨by simp [HJ.out.sz], ⟨w'.heap.size, _, _, _, _, _, _, _, _, _, _, _, _, _, _, _, _, _, _, _, _, _, _, _, _, _, _, rfl, Um HV.out.k0, Um HV.out.k1, Um HV.out.k2, Um HV.out.k3, Um HV.out.k4, Um HV.out.k5, Um HV.out.k6, fun _ => rfl, Um HV.out.k9, Um HV.out.k10, Um HV.out.k11, Um HV.out.k12, Um HV.out.k13, Um HV.out.k14, Um HV.out.k15, Um HV.out.k16, Um HV.out.k17, Um HV.out.k18, Um HV.out.k19, Um HV.out.k20, Um HV.out.k21, Um HV.out.k22, Um HV.out.k23, Um HV.out.k24, Um HV.out.k25, HV.out.g.trans (ba.mono HV.out.g.size), fun _ => heap_alloc_new _ _, fun h => (not_on hoff (HV.out.q8 (Uz h))).elim, fun h => getD_up hun (HV.out.q8 (Uz h))⟩⟩
      ·simp at ho
       subst ho
       have H7 := Lib.hid (hall { on := 7, ground := .data } (by simp) (by decide))
       clear hall hi
       have e0 := HV.out.k7 H7.out
       subst e0
       refine wpOp_step rfl (fun K' hK' => ?_)
       have HK := Lib.hid hK'
       clear hK'
       go_simp
       refine (HCAT.out w' _ (HV.out.t7 H7.out) HV.out.g).mono ?_
       rintro e wn ⟨A8, c8, rfl, hr8, bn⟩
       exact HK.out _ _ ⟨by simp [HJ.out.sz], ⟨_, _, _, _, _, _, _, _, _, _, _, _, _, _, _, _, _, _, _, _, _, _, _, _, _, _, _, rfl, Um HV.out.k0, Um HV.out.k1, Um HV.out.k2, Um HV.out.k3, Um HV.out.k4, Um HV.out.k5, Um HV.out.k6, Um HV.out.k7, Um HV.out.k9, Um HV.out.k10, Um HV.out.k11, Um HV.out.k12, Um HV.out.k13, Um HV.out.k14, Um HV.out.k15, Um HV.out.k16, Um HV.out.k17, Um HV.out.k18, Um HV.out.k19, Um HV.out.k20, Um HV.out.k21, Um HV.out.k22, Um HV.out.k23, Um HV.out.k24, Um HV.out.k25, HV.out.g.trans (bn.mono HV.out.g.size), fun h => (bn.block _ (Array.getElem?_eq_some_iff.1 (HV.out.t7 (Uz h))).1).trans (HV.out.t7 (Uz h)), fun _ => ⟨A8, c8, _, rfl, hr8, Nat.le_refl _⟩, fun _ => getD_up hun H7.out⟩⟩
      ·simp at ho
       subst ho
       clear hall hi
       refine wpOp_step rfl (fun K' hK' => ?_)
       have HK := Lib.hid hK'
       clear hK'
       go_simp
       exact HK.out _ _ ⟨by simp [HJ.out.sz], ⟨_, _, _, _, _, _, _, _, _, _, _, _, _, _, _, _, _, _, _, _, _, _, _, _, _, _, _, rfl, Um HV.out.k0, Um HV.out.k1, Um HV.out.k2, Um HV.out.k3, Um HV.out.k4, Um HV.out.k5, Um HV.out.k6, Um HV.out.k7, fun _ => rfl, Um HV.out.k10, Um HV.out.k11, Um HV.out.k12, Um HV.out.k13, Um HV.out.k14, Um HV.out.k15, Um HV.out.k16, Um HV.out.k17, Um HV.out.k18, Um HV.out.k19, Um HV.out.k20, Um HV.out.k21, Um HV.out.k22, Um HV.out.k23, Um HV.out.k24, Um HV.out.k25, HV.out.g, Um HV.out.t7, Um HV.out.r8, fun h => getD_up hun (HV.out.q8 (Uz h))⟩⟩
      ·simp at ho
       subst ho
       have H8 := Lib.hid (hall { on := 8, ground := .data } (by simp) (by decide))
       have H9 := Lib.hid (hall { on := 9, ground := .data } (by simp) (by decide))
       clear hall hi
       have e0 := HV.out.k9 H9.out
       subst e0
       obtain ⟨A8, c8, n8, e8, hr8, hn8⟩ := HV.out.r8 H8.out
       subst e8
       refine wpOp_step rfl (fun K' hK' => ?_)
       have HK := Lib.hid hK'
       clear hK'
       go_simp
       refine (HSM.out w' A8 c8 n8 hr8 HV.out.g).mono ?_
       rintro e wn ⟨rfl, bn⟩
       exact HK.out _ _ ⟨by simp [HJ.out.sz], ⟨_, _, _, _, _, _, _, _, _, _, _, _, _, _, _, _, _, _, _, _, _, _, _, _, _, _, _, rfl, Um HV.out.k0, Um HV.out.k1, Um HV.out.k2, Um HV.out.k3, Um HV.out.k4, Um HV.out.k5, Um HV.out.k6, Um HV.out.k7, Um HV.out.k9, fun _ => rfl, Um HV.out.k11, Um HV.out.k12, Um HV.out.k13, Um HV.out.k14, Um HV.out.k15, Um HV.out.k16, Um HV.out.k17, Um HV.out.k18, Um HV.out.k19, Um HV.out.k20, Um HV.out.k21, Um HV.out.k22, Um HV.out.k23, Um HV.out.k24, Um HV.out.k25, HV.out.g.trans (bn.mono HV.out.g.size), fun h => (bn.block _ (Array.getElem?_eq_some_iff.1 (HV.out.t7 (Uz h))).1).trans (HV.out.t7 (Uz h)), fun _ => ⟨A8, c8, n8, rfl, hr8.below (bn.mono hn8), Nat.le_trans hn8 bn.size⟩, fun h => getD_up hun (HV.out.q8 (Uz h))⟩⟩
      ·simp at ho
       subst ho
       have H10 := Lib.hid (hall { on := 10, ground := .data } (by simp) (by decide))
       clear hall hi
       have e0 := HV.out.k10 H10.out
       subst e0
       refine wpOp_step rfl (fun K' hK' => ?_)
       have HK := Lib.hid hK'
       clear hK'
       go_simp
       exact HK.out _ _ ⟨by simp [HJ.out.sz], ⟨_, _, _, _, _, _, _, _, _, _, _, _, _, _, _, _, _, _, _, _, _, _, _, _, _, _, _, rfl, Um HV.out.k0, Um HV.out.k1, Um HV.out.k2, Um HV.out.k3, Um HV.out.k4, Um HV.out.k5, Um HV.out.k6, Um HV.out.k7, Um HV.out.k9, Um HV.out.k10, fun _ => rfl, Um HV.out.k12, Um HV.out.k13, Um HV.out.k14, Um HV.out.k15, Um HV.out.k16, Um HV.out.k17, Um HV.out.k18, Um HV.out.k19, Um HV.out.k20, Um HV.out.k21, Um HV.out.k22, Um HV.out.k23, Um HV.out.k24, Um HV.out.k25, HV.out.g, Um HV.out.t7, Um HV.out.r8, fun h => getD_up hun (HV.out.q8 (Uz h))⟩⟩
      ·simp at ho
       subst ho
       have H11 := Lib.hid (hall { on := 11, ground := .guard } (by simp) (by decide))
       clear hall hi
       have e0 := HV.out.k11 H11.out
       subst e0
       refine wpOp_step rfl (fun K' hK' => ?_)
       have HK := Lib.hid hK'
       clear hK'
       go_simp
       exact HK.out _ _ ⟨by simp [HJ.out.sz], ⟨_, _, _, _, _, _, _, _, _, _, _, _, _, _, _, _, _, _, _, _, _, _, _, _, _, _, _, rfl, Um HV.out.k0, Um HV.out.k1, Um HV.out.k2, Um HV.out.k3, Um HV.out.k4, Um HV.out.k5, Um HV.out.k6, Um HV.out.k7, Um HV.out.k9, Um HV.out.k10, Um HV.out.k11, fun _ => rfl, Um HV.out.k13, Um HV.out.k14, Um HV.out.k15, Um HV.out.k16, Um HV.out.k17, Um HV.out.k18, Um HV.out.k19, Um HV.out.k20, Um HV.out.k21, Um HV.out.k22, Um HV.out.k23, Um HV.out.k24, Um HV.out.k25, HV.out.g, Um HV.out.t7, Um HV.out.r8, fun h => getD_up hun (HV.out.q8 (Uz h))⟩⟩
      ·simp at ho
       subst ho
       have H11 := Lib.hid (hall { on := 11, ground := .guard } (by simp) (by decide))
       clear hall hi
       have e0 := HV.out.k11 H11.out
       subst e0
       refine wpOp_step rfl (fun K' hK' => ?_)
       have HK := Lib.hid hK'
       clear hK'
       go_simp
       exact HK.out _ _ ⟨by simp [HJ.out.sz], ⟨_, _, _, _, _, _, _, _, _, _, _, _, _, _, _, _, _, _, _, _, _, _, _, _, _, _, _, rfl, Um HV.out.k0, Um HV.out.k1, Um HV.out.k2, Um HV.out.k3, Um HV.out.k4, Um HV.out.k5, Um HV.out.k6, Um HV.out.k7, Um HV.out.k9, Um HV.out.k10, Um HV.out.k11, Um HV.out.k12, fun _ => rfl, Um HV.out.k14, Um HV.out.k15, Um HV.out.k16, Um HV.out.k17, Um HV.out.k18, Um HV.out.k19, Um HV.out.k20, Um HV.out.k21, Um HV.out.k22, Um HV.out.k23, Um HV.out.k24, Um HV.out.k25, HV.out.g, Um HV.out.t7, Um HV.out.r8, fun h => getD_up hun (HV.out.q8 (Uz h))⟩⟩
      ·simp at ho
       subst ho
       have H12 := Lib.hid (hall { on := 12, ground := .data } (by simp) (by decide))
       have H13 := Lib.hid (hall { on := 13, ground := .data } (by simp) (by decide))
       have H11 := Lib.hid (hall { on := 11, ground := .chain } (by simp) (by decide))
       clear hall hi
       have e0 := HV.out.k12 H12.out
       subst e0
       have e1 := HV.out.k13 H13.out
       subst e1
       have e2 := HV.out.k11 H11.out
       subst e2
       refine wpOp_step rfl (fun K' hK' => ?_)
       have HK := Lib.hid hK'
       clear hK'
       go_simp
       refine (HS1.out w' HV.out.g).mono ?_
       rintro e wn ⟨rfl, bn⟩
       exact HK.out _ _ ⟨by simp [HJ.out.sz], ⟨_, _, _, _, _, _, _, _, _, _, _, _, _, _, _, _, _, _, _, _, _, _, _, _, _, _, _, rfl, Um HV.out.k0, Um HV.out.k1, Um HV.out.k2, Um HV.out.k3, Um HV.out.k4, Um HV.out.k5, Um HV.out.k6, Um HV.out.k7, Um HV.out.k9, Um HV.out.k10, Um HV.out.k11, Um HV.out.k12, Um HV.out.k13, fun _ => rfl, Um HV.out.k15, Um HV.out.k16, Um HV.out.k17, Um HV.out.k18, Um HV.out.k19, Um HV.out.k20, Um HV.out.k21, Um HV.out.k22, Um HV.out.k23, Um HV.out.k24, Um HV.out.k25, HV.out.g.trans (bn.mono HV.out.g.size), fun h => (bn.block _ (Array.getElem?_eq_some_iff.1 (HV.out.t7 (Uz h))).1).trans (HV.out.t7 (Uz h)), fun h => (HV.out.r8 (Uz h)).below bn, fun h => getD_up hun (HV.out.q8 (Uz h))⟩⟩
      ·simp at ho
       subst ho
       have H14 := Lib.hid (hall { on := 14, ground := .data } (by simp) (by decide))
       have H11 := Lib.hid (hall { on := 11, ground := .guard } (by simp) (by decide))
       clear hall hi
       have e0 := HV.out.k14 H14.out
       subst e0
       have e1 := HV.out.k11 H11.out
       subst e1
       refine wpOp_step rfl (fun K' hK' => ?_)
       have HK := Lib.hid hK'
       clear hK'
       go_simp
       exact HK.out _ _ ⟨by simp [HJ.out.sz], ⟨_, _, _, _, _, _, _, _, _, _, _, _, _, _, _, _, _, _, _, _, _, _, _, _, _, _, _, rfl, Um HV.out.k0, Um HV.out.k1, Um HV.out.k2, Um HV.out.k3, Um HV.out.k4, Um HV.out.k5, Um HV.out.k6, Um HV.out.k7, Um HV.out.k9, Um HV.out.k10, Um HV.out.k11, Um HV.out.k12, Um HV.out.k13, Um HV.out.k14, fun _ => rfl, Um HV.out.k16, Um HV.out.k17, Um HV.out.k18, Um HV.out.k19, Um HV.out.k20, Um HV.out.k21, Um HV.out.k22, Um HV.out.k23, Um HV.out.k24, Um HV.out.k25, HV.out.g, Um HV.out.t7, Um HV.out.r8, fun h => getD_up hun (HV.out.q8 (Uz h))⟩⟩
      ·simp at ho
       subst ho
       have H15 := Lib.hid (hall { on := 15, ground := .data } (by simp) (by decide))
       have H11 := Lib.hid (hall { on := 11, ground := .guard } (by simp) (by decide))
       clear hall hi
       have e0 := HV.out.k15 H15.out
       subst e0
       have e1 := HV.out.k11 H11.out
       subst e1
       refine wpOp_step rfl (fun K' hK' => ?_)
       have HK := Lib.hid hK'
       clear hK'
       go_simp
       exact HK.out _ _ ⟨by simp [HJ.out.sz], ⟨_, _, _, _, _, _, _, _, _, _, _, _, _, _, _, _, _, _, _, _, _, _, _, _, _, _, _, rfl, Um HV.out.k0, Um HV.out.k1, Um HV.out.k2, Um HV.out.k3, Um HV.out.k4, Um HV.out.k5, Um HV.out.k6, Um HV.out.k7, Um HV.out.k9, Um HV.out.k10, Um HV.out.k11, Um HV.out.k12, Um HV.out.k13, Um HV.out.k14, Um HV.out.k15, fun _ => rfl, Um HV.out.k17, Um HV.out.k18, Um HV.out.k19, Um HV.out.k20, Um HV.out.k21, Um HV.out.k22, Um HV.out.k23, Um HV.out.k24, Um HV.out.k25, HV.out.g, Um HV.out.t7, Um HV.out.r8, fun h => getD_up hun (HV.out.q8 (Uz h))⟩⟩
      ·simp at ho
       subst ho
       have H16 := Lib.hid (hall { on := 16, ground := .guard } (by simp) (by decide))
       clear hall hi
       have e0 := HV.out.k16 H16.out
       subst e0
       refine wpOp_step rfl (fun K' hK' => ?_)
       have HK := Lib.hid hK'
       clear hK'
       go_simp
       exact HK.out _ _ ⟨by simp [HJ.out.sz], ⟨_, _, _, _, _, _, _, _, _, _, _, _, _, _, _, _, _, _, _, _, _, _, _, _, _, _, _, rfl, Um HV.out.k0, Um HV.out.k1, Um HV.out.k2, Um HV.out.k3, Um HV.out.k4, Um HV.out.k5, Um HV.out.k6, Um HV.out.k7, Um HV.out.k9, Um HV.out.k10, Um HV.out.k11, Um HV.out.k12, Um HV.out.k13, Um HV.out.k14, Um HV.out.k15, Um HV.out.k16, fun _ => rfl, Um HV.out.k18, Um HV.out.k19, Um HV.out.k20, Um HV.out.k21, Um HV.out.k22, Um HV.out.k23, Um HV.out.k24, Um HV.out.k25, HV.out.g, Um HV.out.t7, Um HV.out.r8, fun h => getD_up hun (HV.out.q8 (Uz h))⟩⟩
      ·simp at ho
       subst ho
       have H16 := Lib.hid (hall { on := 16, ground := .guard } (by simp) (by decide))
       clear hall hi
       have e0 := HV.out.k16 H16.out
       subst e0
       refine wpOp_step rfl (fun K' hK' => ?_)
       have HK := Lib.hid hK'
       clear hK'
       go_simp
       exact HK.out _ _ ⟨by simp [HJ.out.sz], ⟨_, _, _, _, _, _, _, _, _, _, _, _, _, _, _, _, _, _, _, _, _, _, _, _, _, _, _, rfl, Um HV.out.k0, Um HV.out.k1, Um HV.out.k2, Um HV.out.k3, Um HV.out.k4, Um HV.out.k5, Um HV.out.k6, Um HV.out.k7, Um HV.out.k9, Um HV.out.k10, Um HV.out.k11, Um HV.out.k12, Um HV.out.k13, Um HV.out.k14, Um HV.out.k15, Um HV.out.k16, Um HV.out.k17, fun _ => rfl, Um HV.out.k19, Um HV.out.k20, Um HV.out.k21, Um HV.out.k22, Um HV.out.k23, Um HV.out.k24, Um HV.out.k25, HV.out.g, Um HV.out.t7, Um HV.out.r8, fun h => getD_up hun (HV.out.q8 (Uz h))⟩⟩
      ·simp at ho
       subst ho
       have H17 := Lib.hid (hall { on := 17, ground := .data } (by simp) (by decide))
       have H18 := Lib.hid (hall { on := 18, ground := .data } (by simp) (by decide))
       have H16 := Lib.hid (hall { on := 16, ground := .chain } (by simp) (by decide))
       clear hall hi
       have e0 := HV.out.k17 H17.out
       subst e0
       have e1 := HV.out.k18 H18.out
       subst e1
       have e2 := HV.out.k16 H16.out
       subst e2
       refine wpOp_step rfl (fun K' hK' => ?_)
       have HK := Lib.hid hK'
       clear hK'
       go_simp
       exact HK.out _ _ ⟨by simp [HJ.out.sz], ⟨_, _, _, _, _, _, _, _, _, _, _, _, _, _, _, _, _, _, _, _, _, _, _, _, _, _, _, rfl, Um HV.out.k0, Um HV.out.k1, Um HV.out.k2, Um HV.out.k3, Um HV.out.k4, Um HV.out.k5, Um HV.out.k6, Um HV.out.k7, Um HV.out.k9, Um HV.out.k10, Um HV.out.k11, Um HV.out.k12, Um HV.out.k13, Um HV.out.k14, Um HV.out.k15, Um HV.out.k16, Um HV.out.k17, Um HV.out.k18, fun _ => rfl, Um HV.out.k20, Um HV.out.k21, Um HV.out.k22, Um HV.out.k23, Um HV.out.k24, Um HV.out.k25, HV.out.g, Um HV.out.t7, Um HV.out.r8, fun h => getD_up hun (HV.out.q8 (Uz h))⟩⟩
      ·simp at ho
       subst ho
       have H16 := Lib.hid (hall { on := 16, ground := .data } (by simp) (by decide))
       have H19 := Lib.hid (hall { on := 19, ground := .data } (by simp) (by decide))
       have H11 := Lib.hid (hall { on := 11, ground := .guard } (by simp) (by decide))
       clear hall hi
       have e0 := HV.out.k16 H16.out
       subst e0
       have e1 := HV.out.k19 H19.out
       subst e1
       have e2 := HV.out.k11 H11.out
       subst e2
       refine wpOp_step rfl (fun K' hK' => ?_)
       have HK := Lib.hid hK'
       clear hK'
       go_simp
       exact HK.out _ _ ⟨by simp [HJ.out.sz], ⟨_, _, _, _, _, _, _, _, _, _, _, _, _, _, _, _, _, _, _, _, _, _, _, _, _, _, _, rfl, Um HV.out.k0, Um HV.out.k1, Um HV.out.k2, Um HV.out.k3, Um HV.out.k4, Um HV.out.k5, Um HV.out.k6, Um HV.out.k7, Um HV.out.k9, Um HV.out.k10, Um HV.out.k11, Um HV.out.k12, Um HV.out.k13, Um HV.out.k14, Um HV.out.k15, Um HV.out.k16, Um HV.out.k17, Um HV.out.k18, Um HV.out.k19, fun _ => rfl, Um HV.out.k21, Um HV.out.k22, Um HV.out.k23, Um HV.out.k24, Um HV.out.k25, HV.out.g, Um HV.out.t7, Um HV.out.r8, fun h => getD_up hun (HV.out.q8 (Uz h))⟩⟩
      ·simp at ho
       subst ho
       have H11 := Lib.hid (hall { on := 11, ground := .data } (by simp) (by decide))
       have H20 := Lib.hid (hall { on := 20, ground := .data } (by simp) (by decide))
       clear hall hi
       have e0 := HV.out.k11 H11.out
       subst e0
       have e1 := HV.out.k20 H20.out
       subst e1
       refine wpOp_step rfl (fun K' hK' => ?_)
       have HK := Lib.hid hK'
       clear hK'
       go_simp
       exact HK.out _ _ ⟨by simp [HJ.out.sz], ⟨_, _, _, _, _, _, _, _, _, _, _, _, _, _, _, _, _, _, _, _, _, _, _, _, _, _, _, rfl, Um HV.out.k0, Um HV.out.k1, Um HV.out.k2, Um HV.out.k3, Um HV.out.k4, Um HV.out.k5, Um HV.out.k6, Um HV.out.k7, Um HV.out.k9, Um HV.out.k10, Um HV.out.k11, Um HV.out.k12, Um HV.out.k13, Um HV.out.k14, Um HV.out.k15, Um HV.out.k16, Um HV.out.k17, Um HV.out.k18, Um HV.out.k19, Um HV.out.k20, fun _ => rfl, Um HV.out.k22, Um HV.out.k23, Um HV.out.k24, Um HV.out.k25, HV.out.g, Um HV.out.t7, Um HV.out.r8, fun h => getD_up hun (HV.out.q8 (Uz h))⟩⟩
      ·simp at ho
       subst ho
       have H21 := Lib.hid (hall { on := 21, ground := .data } (by simp) (by decide))
       clear hall hi
       have e0 := HV.out.k21 H21.out
       subst e0
       refine wpOp_step rfl (fun K' hK' => ?_)
       have HK := Lib.hid hK'
       clear hK'
       go_simp
       exact HK.out _ _ ⟨by simp [HJ.out.sz], ⟨_, _, _, _, _, _, _, _, _, _, _, _, _, _, _, _, _, _, _, _, _, _, _, _, _, _, _, rfl, Um HV.out.k0, Um HV.out.k1, Um HV.out.k2, Um HV.out.k3, Um HV.out.k4, Um HV.out.k5, Um HV.out.k6, Um HV.out.k7, Um HV.out.k9, Um HV.out.k10, Um HV.out.k11, Um HV.out.k12, Um HV.out.k13, Um HV.out.k14, Um HV.out.k15, Um HV.out.k16, Um HV.out.k17, Um HV.out.k18, Um HV.out.k19, Um HV.out.k20, Um HV.out.k21, fun _ => rfl, Um HV.out.k23, Um HV.out.k24, Um HV.out.k25, HV.out.g, Um HV.out.t7, Um HV.out.r8, fun h => getD_up hun (HV.out.q8 (Uz h))⟩⟩
      ·simp at ho
       subst ho
       have H22 := Lib.hid (hall { on := 22, ground := .chain } (by simp) (by decide))
       clear hall hi
       have e0 := HV.out.k22 H22.out
       subst e0
       refine wpOp_step rfl (fun K' hK' => ?_)
       have HK := Lib.hid hK'
       clear hK'
       go_simp
       refine (HAW.out w' HV.out.g).mono ?_
       rintro e wn ⟨rfl, bn⟩
       exact HK.out _ _ ⟨by simp [HJ.out.sz], ⟨_, _, _, _, _, _, _, _, _, _, _, _, _, _, _, _, _, _, _, _, _, _, _, _, _, _, _, rfl, Um HV.out.k0, Um HV.out.k1, Um HV.out.k2, Um HV.out.k3, Um HV.out.k4, Um HV.out.k5, Um HV.out.k6, Um HV.out.k7, Um HV.out.k9, Um HV.out.k10, Um HV.out.k11, Um HV.out.k12, Um HV.out.k13, Um HV.out.k14, Um HV.out.k15, Um HV.out.k16, Um HV.out.k17, Um HV.out.k18, Um HV.out.k19, Um HV.out.k20, Um HV.out.k21, Um HV.out.k22, fun _ => rfl, Um HV.out.k24, Um HV.out.k25, HV.out.g.trans (bn.mono HV.out.g.size), fun h => (bn.block _ (Array.getElem?_eq_some_iff.1 (HV.out.t7 (Uz h))).1).trans (HV.out.t7 (Uz h)), fun h => (HV.out.r8 (Uz h)).below bn, fun h => getD_up hun (HV.out.q8 (Uz h))⟩⟩
      ·simp at ho
       subst ho
       have H22 := Lib.hid (hall { on := 22, ground := .data } (by simp) (by decide))
       have H23 := Lib.hid (hall { on := 23, ground := .data } (by simp) (by decide))
       clear hall hi
       have e0 := HV.out.k22 H22.out
       subst e0
       have e1 := HV.out.k23 H23.out
       subst e1
       refine wpOp_step rfl (fun K' hK' => ?_)
       have HK := Lib.hid hK'
       clear hK'
       go_simp
       exact HK.out _ _ ⟨by simp [HJ.out.sz], ⟨_, _, _, _, _, _, _, _, _, _, _, _, _, _, _, _, _, _, _, _, _, _, _, _, _, _, _, rfl, Um HV.out.k0, Um HV.out.k1, Um HV.out.k2, Um HV.out.k3, Um HV.out.k4, Um HV.out.k5, Um HV.out.k6, Um HV.out.k7, Um HV.out.k9, Um HV.out.k10, Um HV.out.k11, Um HV.out.k12, Um HV.out.k13, Um HV.out.k14, Um HV.out.k15, Um HV.out.k16, Um HV.out.k17, Um HV.out.k18, Um HV.out.k19, Um HV.out.k20, Um HV.out.k21, Um HV.out.k22, Um HV.out.k23, fun _ => rfl, Um HV.out.k25, HV.out.g, Um HV.out.t7, Um HV.out.r8, fun h => getD_up hun (HV.out.q8 (Uz h))⟩⟩
      ·simp at ho
       subst ho
       have H24 := Lib.hid (hall { on := 24, ground := .data } (by simp) (by decide))
       clear hall hi
       have e0 := HV.out.k24 H24.out
       subst e0
       refine wpOp_step rfl (fun K' hK' => ?_)
       have HK := Lib.hid hK'
       clear hK'
       go_simp
       exact HK.out _ _ ⟨by simp [HJ.out.sz], ⟨_, _, _, _, _, _, _, _, _, _, _, _, _, _, _, _, _, _, _, _, _, _, _, _, _, _, _, rfl, Um HV.out.k0, Um HV.out.k1, Um HV.out.k2, Um HV.out.k3, Um HV.out.k4, Um HV.out.k5, Um HV.out.k6, Um HV.out.k7, Um HV.out.k9, Um HV.out.k10, Um HV.out.k11, Um HV.out.k12, Um HV.out.k13, Um HV.out.k14, Um HV.out.k15, Um HV.out.k16, Um HV.out.k17, Um HV.out.k18, Um HV.out.k19, Um HV.out.k20, Um HV.out.k21, Um HV.out.k22, Um HV.out.k23, Um HV.out.k24, fun _ => rfl, HV.out.g, Um HV.out.t7, Um HV.out.r8, fun h => getD_up hun (HV.out.q8 (Uz h))⟩⟩
    ·have HS2 : Hid (∀ W, Below wr.heap.size wr W → Calls Tryz.prog 55 #[.slice (some ad) n3 c3] W fun e w' => e = .returned (.bool true) ∧ Below W.heap.size W w') := fun W hW => by
      have h := HSM0.out W (HEL.out.trans (hW.mono HEL.out.size))
      rwa [HSV.out (by first | rfl | trivial)] at h
     go_upto_region 17 with fail
     have mixed : Tryz.prog.follows .mixedOrders = true := by kernel_rfl
     refine wp_region_any mixed (wpAny_inv (LPAJ wr w.heap.size A N c ad a5 n3 c3 k kn sl _ _ _ _ _ _ _ _ _ _ _ _ _ _ _ _ _ _ _ _ _ _ _ _ _ _ _ _ _ _ _ _ _ _ _ _ _ _ _ _ _ _ _ _ _ _ _ _ _ _ _ _ _ _ _ _ _ _ _ _ _ _ _ _ _ _ _ _ _ _ _ _ _ _ _ _ _ _ _ _ _ _ _ _ _ _ _ _ _ _ _ _ _ _ _ _ _ _ _ _ _ _ _ _ _ _ _ _ _ _ _ _ _ _ _ _ _ _ _) ?stLPA ?dnLPA _ _ _ _ ⟨by simp, ⟨0, _, _, _, _, _, _, _, _, _, _, _, _, _, _, _, _, _, _, _, _, _, _, _, _, _, _, rfl, fun h => by simp at h, fun h => by simp at h, fun h => by simp at h, fun h => by simp at h, fun h => by simp at h, fun h => by simp at h, fun h => by simp at h, fun h => by simp at h, fun h => by simp at h, fun h => by simp at h, fun h => by simp at h, fun h => by simp at h, fun h => by simp at h, fun h => by simp at h, fun h => by simp at h, fun h => by simp at h, fun h => by simp at h, fun h => by simp at h, fun h => by simp at h, fun h => by simp at h, fun h => by simp at h, fun h => by simp at h, fun h => by simp at h, fun h => by simp at h, fun h => by simp at h, hgS, fun h => by simp at h, fun h => by simp at h, fun h => by simp at h⟩⟩ (by decide))
     case dnLPA =>
      intro L a w' hj hr
      have all : ∀ i, i < 26 → L.getD i false = true := by
       intro i
       induction i using Nat.strongRecOn with
       | ind i ih =>
         intro hi
         refine (off_or_on L i).resolve_left fun h => ?_
         refine List.eq_nil_iff_forall_not_mem.1 hr i (ready_of (by rw [hj.sz]; exact hi) h (Array.getElem?_eq_getElem (by simpa using hi)) (fun e he hbd => ih e.on ?_ ?_))
         ·rcases (show i = 0 ∨ i = 1 ∨ i = 2 ∨ i = 3 ∨ i = 4 ∨ i = 5 ∨ i = 6 ∨ i = 7 ∨ i = 8 ∨ i = 9 ∨ i = 10 ∨ i = 11 ∨ i = 12 ∨ i = 13 ∨ i = 14 ∨ i = 15 ∨ i = 16 ∨ i = 17 ∨ i = 18 ∨ i = 19 ∨ i = 20 ∨ i = 21 ∨ i = 22 ∨ i = 23 ∨ i = 24 ∨ i = 25 from by omega) with rfl | rfl | rfl | rfl | rfl | rfl | rfl | rfl | rfl | rfl | rfl | rfl | rfl | rfl | rfl | rfl | rfl | rfl | rfl | rfl | rfl | rfl | rfl | rfl | rfl | rfl
          ·simp at he
          ·simp at he
          ·simp at he
           rcases he with rfl | rfl
           all_goals first | decide | (exact absurd hbd (by decide))
          ·simp at he
          ·simp at he
          ·simp at he
           subst he
           first | decide | (exact absurd hbd (by decide))
          ·simp at he
           rcases he with rfl | rfl
           all_goals first | decide | (exact absurd hbd (by decide))
          ·simp at he
           rcases he with rfl | rfl
           all_goals first | decide | (exact absurd hbd (by decide))
          ·simp at he
           subst he
           first | decide | (exact absurd hbd (by decide))
          ·simp at he
          ·simp at he
           rcases he with rfl | rfl | rfl
           all_goals first | decide | (exact absurd hbd (by decide))
          ·simp at he
           rcases he with rfl | rfl
           all_goals first | decide | (exact absurd hbd (by decide))
          ·simp at he
           subst he
           first | decide | (exact absurd hbd (by decide))
          ·simp at he
           subst he
           first | decide | (exact absurd hbd (by decide))
          ·simp at he
           rcases he with rfl | rfl | rfl | rfl
           all_goals first | decide | (exact absurd hbd (by decide))
          ·simp at he
           rcases he with rfl | rfl
           all_goals first | decide | (exact absurd hbd (by decide))
          ·simp at he
           rcases he with rfl | rfl | rfl
           all_goals first | decide | (exact absurd hbd (by decide))
          ·simp at he
           subst he
           first | decide | (exact absurd hbd (by decide))
          ·simp at he
           subst he
           first | decide | (exact absurd hbd (by decide))
          ·simp at he
           rcases he with rfl | rfl | rfl | rfl
           all_goals first | decide | (exact absurd hbd (by decide))
          ·simp at he
           rcases he with rfl | rfl | rfl
           all_goals first | decide | (exact absurd hbd (by decide))
          ·simp at he
           rcases he with rfl | rfl
           all_goals first | decide | (exact absurd hbd (by decide))
          ·simp at he
           rcases he with rfl | rfl
           all_goals first | decide | (exact absurd hbd (by decide))
          ·simp at he
           rcases he with rfl | rfl
           all_goals first | decide | (exact absurd hbd (by decide))
          ·simp at he
           rcases he with rfl | rfl
           all_goals first | decide | (exact absurd hbd (by decide))
          ·simp at he
           rcases he with rfl | rfl | rfl | rfl | rfl | rfl | rfl | rfl | rfl | rfl | rfl | rfl | rfl | rfl | rfl | rfl | rfl | rfl | rfl | rfl | rfl | rfl | rfl | rfl | rfl | rfl | rfl
           all_goals first | decide | (exact absurd hbd (by decide))
         ·rcases (show i = 0 ∨ i = 1 ∨ i = 2 ∨ i = 3 ∨ i = 4 ∨ i = 5 ∨ i = 6 ∨ i = 7 ∨ i = 8 ∨ i = 9 ∨ i = 10 ∨ i = 11 ∨ i = 12 ∨ i = 13 ∨ i = 14 ∨ i = 15 ∨ i = 16 ∨ i = 17 ∨ i = 18 ∨ i = 19 ∨ i = 20 ∨ i = 21 ∨ i = 22 ∨ i = 23 ∨ i = 24 ∨ i = 25 from by omega) with rfl | rfl | rfl | rfl | rfl | rfl | rfl | rfl | rfl | rfl | rfl | rfl | rfl | rfl | rfl | rfl | rfl | rfl | rfl | rfl | rfl | rfl | rfl | rfl | rfl | rfl
          ·simp at he
          ·simp at he
          ·simp at he
           rcases he with rfl | rfl
           all_goals first | decide | (exact absurd hbd (by decide))
          ·simp at he
          ·simp at he
          ·simp at he
           subst he
           first | decide | (exact absurd hbd (by decide))
          ·simp at he
           rcases he with rfl | rfl
           all_goals first | decide | (exact absurd hbd (by decide))
          ·simp at he
           rcases he with rfl | rfl
           all_goals first | decide | (exact absurd hbd (by decide))
          ·simp at he
           subst he
           first | decide | (exact absurd hbd (by decide))
          ·simp at he
          ·simp at he
           rcases he with rfl | rfl | rfl
           all_goals first | decide | (exact absurd hbd (by decide))
          ·simp at he
           rcases he with rfl | rfl
           all_goals first | decide | (exact absurd hbd (by decide))
          ·simp at he
           subst he
           first | decide | (exact absurd hbd (by decide))
          ·simp at he
           subst he
           first | decide | (exact absurd hbd (by decide))
          ·simp at he
           rcases he with rfl | rfl | rfl | rfl
           all_goals first | decide | (exact absurd hbd (by decide))
          ·simp at he
           rcases he with rfl | rfl
           all_goals first | decide | (exact absurd hbd (by decide))
          ·simp at he
           rcases he with rfl | rfl | rfl
           all_goals first | decide | (exact absurd hbd (by decide))
          ·simp at he
           subst he
           first | decide | (exact absurd hbd (by decide))
          ·simp at he
           subst he
           first | decide | (exact absurd hbd (by decide))
          ·simp at he
           rcases he with rfl | rfl | rfl | rfl
           all_goals first | decide | (exact absurd hbd (by decide))
          ·simp at he
           rcases he with rfl | rfl | rfl
           all_goals first | decide | (exact absurd hbd (by decide))
          ·simp at he
           rcases he with rfl | rfl
           all_goals first | decide | (exact absurd hbd (by decide))
          ·simp at he
           rcases he with rfl | rfl
           all_goals first | decide | (exact absurd hbd (by decide))
          ·simp at he
           rcases he with rfl | rfl
           all_goals first | decide | (exact absurd hbd (by decide))
          ·simp at he
           rcases he with rfl | rfl
           all_goals first | decide | (exact absurd hbd (by decide))
          ·simp at he
           rcases he with rfl | rfl | rfl | rfl | rfl | rfl | rfl | rfl | rfl | rfl | rfl | rfl | rfl | rfl | rfl | rfl | rfl | rfl | rfl | rfl | rfl | rfl | rfl | rfl | rfl | rfl | rfl
           all_goals first | decide | (exact absurd hbd (by decide))
      obtain ⟨Bn, s4, s125, s126, s127, s128, s129, s130, s131, s132, s133, s134, s135, s136, s137, s138, s139, s140, s141, s142, s143, s144, s145, s146, s147, s148, s149, rfl, hv⟩ := hj.fr
      have e25 := hv.k25 (all 25 (by omega))
      subst e25
      have HF := Lib.hid (HGL.out.trans (hv.g.mono HGL.out.size))
      clear all hv hj hr
      dsimp only
      go_wp2_with fail
      go_ret
      exact ⟨rfl, HF.out⟩
     case stLPA =>
      intro L a w' hj i hi
      obtain ⟨hun, o, ho, hall⟩ := mem_ready.1 hi
      have hoff := getD_off hun
      have hlt := (Array.getElem?_eq_some_iff.1 ho).1
      simp at hlt
      obtain ⟨Bn, s4, s125, s126, s127, s128, s129, s130, s131, s132, s133, s134, s135, s136, s137, s138, s139, s140, s141, s142, s143, s144, s145, s146, s147, s148, s149, rfl, hv⟩ := hj.fr
      have HV := Lib.hid hv
      have HJ := Lib.hid hj
      clear hv hj
      rcases (show i = 0 ∨ i = 1 ∨ i = 2 ∨ i = 3 ∨ i = 4 ∨ i = 5 ∨ i = 6 ∨ i = 7 ∨ i = 8 ∨ i = 9 ∨ i = 10 ∨ i = 11 ∨ i = 12 ∨ i = 13 ∨ i = 14 ∨ i = 15 ∨ i = 16 ∨ i = 17 ∨ i = 18 ∨ i = 19 ∨ i = 20 ∨ i = 21 ∨ i = 22 ∨ i = 23 ∨ i = 24 ∨ i = 25 from by omega) with rfl | rfl | rfl | rfl | rfl | rfl | rfl | rfl | rfl | rfl | rfl | rfl | rfl | rfl | rfl | rfl | rfl | rfl | rfl | rfl | rfl | rfl | rfl | rfl | rfl | rfl
      ·simp at ho
       subst ho
       clear hall hi
       refine wpOp_step rfl (fun K' hK' => ?_)
       have HK := Lib.hid hK'
       clear hK'
       go_simp
       exact HK.out _ _ ⟨by simp [HJ.out.sz], ⟨_, _, _, _, _, _, _, _, _, _, _, _, _, _, _, _, _, _, _, _, _, _, _, _, _, _, _, rfl, fun _ => rfl, Um HV.out.k1, Um HV.out.k2, Um HV.out.k3, Um HV.out.k4, Um HV.out.k5, Um HV.out.k6, Um HV.out.k7, Um HV.out.k9, Um HV.out.k10, Um HV.out.k11, Um HV.out.k12, Um HV.out.k13, Um HV.out.k14, Um HV.out.k15, Um HV.out.k16, Um HV.out.k17, Um HV.out.k18, Um HV.out.k19, Um HV.out.k20, Um HV.out.k21, Um HV.out.k22, Um HV.out.k23, Um HV.out.k24, Um HV.out.k25, HV.out.g, Um HV.out.t7, Um HV.out.r8, fun h => getD_up hun (HV.out.q8 (Uz h))⟩⟩
      ·simp at ho
       subst ho
       clear hall hi
       refine wpOp_step rfl (fun K' hK' => ?_)
       have HK := Lib.hid hK'
       clear hK'
       go_simp
       exact HK.out _ _ ⟨by simp [HJ.out.sz], ⟨_, _, _, _, _, _, _, _, _, _, _, _, _, _, _, _, _, _, _, _, _, _, _, _, _, _, _, rfl, Um HV.out.k0, fun _ => rfl, Um HV.out.k2, Um HV.out.k3, Um HV.out.k4, Um HV.out.k5, Um HV.out.k6, Um HV.out.k7, Um HV.out.k9, Um HV.out.k10, Um HV.out.k11, Um HV.out.k12, Um HV.out.k13, Um HV.out.k14, Um HV.out.k15, Um HV.out.k16, Um HV.out.k17, Um HV.out.k18, Um HV.out.k19, Um HV.out.k20, Um HV.out.k21, Um HV.out.k22, Um HV.out.k23, Um HV.out.k24, Um HV.out.k25, HV.out.g, Um HV.out.t7, Um HV.out.r8, fun h => getD_up hun (HV.out.q8 (Uz h))⟩⟩
      ·simp at ho
       subst ho
       have H0 := Lib.hid (hall { on := 0, ground := .data } (by simp) (by decide))
       have H1 := Lib.hid (hall { on := 1, ground := .data } (by simp) (by decide))
       clear hall hi
       have e0 := HV.out.k0 H0.out
       subst e0
       have e1 := HV.out.k1 H1.out
       subst e1
       have hsl := HSO.out
       refine wpOp_step rfl (fun K' hK' => ?_)
       have HK := Lib.hid hK'
       clear hK'
       go_simp
       exact HK.out _ _ ⟨by simp [HJ.out.sz], ⟨_, _, _, _, _, _, _, _, _, _, _, _, _, _, _, _, _, _, _, _, _, _, _, _, _, _, _, rfl, Um HV.out.k0, Um HV.out.k1, fun _ => rfl, Um HV.out.k3, Um HV.out.k4, Um HV.out.k5, Um HV.out.k6, Um HV.out.k7, Um HV.out.k9, Um HV.out.k10, Um HV.out.k11, Um HV.out.k12, Um HV.out.k13, Um HV.out.k14, Um HV.out.k15, Um HV.out.k16, Um HV.out.k17, Um HV.out.k18, Um HV.out.k19, Um HV.out.k20, Um HV.out.k21, Um HV.out.k22, Um HV.out.k23, Um HV.out.k24, Um HV.out.k25, HV.out.g, Um HV.out.t7, Um HV.out.r8, fun h => getD_up hun (HV.out.q8 (Uz h))⟩⟩
      ·simp at ho
       subst ho
       clear hall hi
       refine wpOp_step rfl (fun K' hK' => ?_)
       have HK := Lib.hid hK'
       clear hK'
       go_simp
       exact HK.out _ _ ⟨by simp [HJ.out.sz], ⟨_, _, _, _, _, _, _, _, _, _, _, _, _, _, _, _, _, _, _, _, _, _, _, _, _, _, _, rfl, Um HV.out.k0, Um HV.out.k1, Um HV.out.k2, fun _ => rfl, Um HV.out.k4, Um HV.out.k5, Um HV.out.k6, Um HV.out.k7, Um HV.out.k9, Um HV.out.k10, Um HV.out.k11, Um HV.out.k12, Um HV.out.k13, Um HV.out.k14, Um HV.out.k15, Um HV.out.k16, Um HV.out.k17, Um HV.out.k18, Um HV.out.k19, Um HV.out.k20, Um HV.out.k21, Um HV.out.k22, Um HV.out.k23, Um HV.out.k24, Um HV.out.k25, HV.out.g, Um HV.out.t7, Um HV.out.r8, fun h => getD_up hun (HV.out.q8 (Uz h))⟩⟩
      ·simp at ho
       subst ho
       clear hall hi
       refine wpOp_step rfl (fun K' hK' => ?_)
       have HK := Lib.hid hK'
       clear hK'
       go_simp
       exact HK.out _ _ ⟨by simp [HJ.out.sz], ⟨_, _, _, _, _, _, _, _, _, _, _, _, _, _, _, _, _, _, _, _, _, _, _, _, _, _, _, rfl, Um HV.out.k0, Um HV.out.k1, Um HV.out.k2, Um HV.out.k3, fun _ => rfl, Um HV.out.k5, Um HV.out.k6, Um HV.out.k7, Um HV.out.k9, Um HV.out.k10, Um HV.out.k11, Um HV.out.k12, Um HV.out.k13, Um HV.out.k14, Um HV.out.k15, Um HV.out.k16, Um HV.out.k17, Um HV.out.k18, Um HV.out.k19, Um HV.out.k20, Um HV.out.k21, Um HV.out.k22, Um HV.out.k23, Um HV.out.k24, Um HV.out.k25, HV.out.g, Um HV.out.t7, Um HV.out.r8, fun h => getD_up hun (HV.out.q8 (Uz h))⟩⟩
      ·simp at ho
       subst ho
       have H4 := Lib.hid (hall { on := 4, ground := .data } (by simp) (by decide))
       clear hall hi
       have e0 := HV.out.k4 H4.out
       subst e0
       have hwr := HWR.out
       refine wpOp_step rfl (fun K' hK' => ?_)
       have HK := Lib.hid hK'
       clear hK'
       go_simp
       exact HK.out _ _ ⟨by simp [HJ.out.sz], ⟨_, _, _, _, _, _, _, _, _, _, _, _, _, _, _, _, _, _, _, _, _, _, _, _, _, _, _, rfl, Um HV.out.k0, Um HV.out.k1, Um HV.out.k2, Um HV.out.k3, Um HV.out.k4, fun _ => rfl, Um HV.out.k6, Um HV.out.k7, Um HV.out.k9, Um HV.out.k10, Um HV.out.k11, Um HV.out.k12, Um HV.out.k13, Um HV.out.k14, Um HV.out.k15, Um HV.out.k16, Um HV.out.k17, Um HV.out.k18, Um HV.out.k19, Um HV.out.k20, Um HV.out.k21, Um HV.out.k22, Um HV.out.k23, Um HV.out.k24, Um HV.out.k25, HV.out.g, Um HV.out.t7, Um HV.out.r8, fun h => getD_up hun (HV.out.q8 (Uz h))⟩⟩
      ·simp at ho
       subst ho
       have H3 := Lib.hid (hall { on := 3, ground := .data } (by simp) (by decide))
       have H5 := Lib.hid (hall { on := 5, ground := .data } (by simp) (by decide))
       clear hall hi
       have e0 := HV.out.k3 H3.out
       subst e0
       have e1 := HV.out.k5 H5.out
       subst e1
       have hsl := HSH.out
       refine wpOp_step rfl (fun K' hK' => ?_)
       have HK := Lib.hid hK'
       clear hK'
       go_simp
       exact HK.out _ _ ⟨by simp [HJ.out.sz], ⟨_, _, _, _, _, _, _, _, _, _, _, _, _, _, _, _, _, _, _, _, _, _, _, _, _, _, _, rfl, Um HV.out.k0, Um HV.out.k1, Um HV.out.k2, Um HV.out.k3, Um HV.out.k4, Um HV.out.k5, fun _ => rfl, Um HV.out.k7, Um HV.out.k9, Um HV.out.k10, Um HV.out.k11, Um HV.out.k12, Um HV.out.k13, Um HV.out.k14, Um HV.out.k15, Um HV.out.k16, Um HV.out.k17, Um HV.out.k18, Um HV.out.k19, Um HV.out.k20, Um HV.out.k21, Um HV.out.k22, Um HV.out.k23, Um HV.out.k24, Um HV.out.k25, HV.out.g, Um HV.out.t7, Um HV.out.r8, fun h => getD_up hun (HV.out.q8 (Uz h))⟩⟩
      ·simp at ho
       subst ho
       have H2 := Lib.hid (hall { on := 2, ground := .data } (by simp) (by decide))
       have H6 := Lib.hid (hall { on := 6, ground := .data } (by simp) (by decide))
       clear hall hi
       have e0 := HV.out.k2 H2.out
       subst e0
       have e1 := HV.out.k6 H6.out
       subst e1
       have ba : Below w'.heap.size w' (w'.alloc (.cells #[.slice (some ad) k c3, .slice (some a5) (n3 - kn) (c3 - kn)] 22)) := (Below.refl _ _).alloc (Nat.le_refl _) _
       refine wpOp_step rfl (fun K' hK' => ?_)
       have HK := Lib.hid hK'
       clear hK'
       go_simp
       exact HK.out _ _ ⟨by simp [HJ.out.sz], ⟨w'.heap.size, _, _, _, _, _, _, _, _, _, _, _, _, _, _, _, _, _, _, _, _, _, _, _, _, _, _, rfl, Um HV.out.k0, Um HV.out.k1, Um HV.out.k2, Um HV.out.k3, Um HV.out.k4, Um HV.out.k5, Um HV.out.k6, fun _ => rfl, Um HV.out.k9, Um HV.out.k10, Um HV.out.k11, Um HV.out.k12, Um HV.out.k13, Um HV.out.k14, Um HV.out.k15, Um HV.out.k16, Um HV.out.k17, Um HV.out.k18, Um HV.out.k19, Um HV.out.k20, Um HV.out.k21, Um HV.out.k22, Um HV.out.k23, Um HV.out.k24, Um HV.out.k25, HV.out.g.trans (ba.mono HV.out.g.size), fun _ => heap_alloc_new _ _, fun h => (not_on hoff (HV.out.q8 (Uz h))).elim, fun h => getD_up hun (HV.out.q8 (Uz h))⟩⟩
      ·simp at ho
       subst ho
       have H7 := Lib.hid (hall { on := 7, ground := .data } (by simp) (by decide))
       clear hall hi
       have e0 := HV.out.k7 H7.out
       subst e0
       refine wpOp_step rfl (fun K' hK' => ?_)
       have HK := Lib.hid hK'
       clear hK'
       go_simp
       refine (HCAT.out w' _ (HV.out.t7 H7.out) HV.out.g).mono ?_
       rintro e wn ⟨A8, c8, rfl, hr8, bn⟩
       exact HK.out _ _ ⟨by simp [HJ.out.sz], ⟨_, _, _, _, _, _, _, _, _, _, _, _, _, _, _, _, _, _, _, _, _, _, _, _, _, _, _, rfl, Um HV.out.k0, Um HV.out.k1, Um HV.out.k2, Um HV.out.k3, Um HV.out.k4, Um HV.out.k5, Um HV.out.k6, Um HV.out.k7, Um HV.out.k9, Um HV.out.k10, Um HV.out.k11, Um HV.out.k12, Um HV.out.k13, Um HV.out.k14, Um HV.out.k15, Um HV.out.k16, Um HV.out.k17, Um HV.out.k18, Um HV.out.k19, Um HV.out.k20, Um HV.out.k21, Um HV.out.k22, Um HV.out.k23, Um HV.out.k24, Um HV.out.k25, HV.out.g.trans (bn.mono HV.out.g.size), fun h => (bn.block _ (Array.getElem?_eq_some_iff.1 (HV.out.t7 (Uz h))).1).trans (HV.out.t7 (Uz h)), fun _ => ⟨A8, c8, _, rfl, hr8, Nat.le_refl _⟩, fun _ => getD_up hun H7.out⟩⟩
      ·simp at ho
       subst ho
       clear hall hi
       refine wpOp_step rfl (fun K' hK' => ?_)
       have HK := Lib.hid hK'
       clear hK'
       go_simp
       exact HK.out _ _ ⟨by simp [HJ.out.sz], ⟨_, _, _, _, _, _, _, _, _, _, _, _, _, _, _, _, _, _, _, _, _, _, _, _, _, _, _, rfl, Um HV.out.k0, Um HV.out.k1, Um HV.out.k2, Um HV.out.k3, Um HV.out.k4, Um HV.out.k5, Um HV.out.k6, Um HV.out.k7, fun _ => rfl, Um HV.out.k10, Um HV.out.k11, Um HV.out.k12, Um HV.out.k13, Um HV.out.k14, Um HV.out.k15, Um HV.out.k16, Um HV.out.k17, Um HV.out.k18, Um HV.out.k19, Um HV.out.k20, Um HV.out.k21, Um HV.out.k22, Um HV.out.k23, Um HV.out.k24, Um HV.out.k25, HV.out.g, Um HV.out.t7, Um HV.out.r8, fun h => getD_up hun (HV.out.q8 (Uz h))⟩⟩
      ·simp at ho
       subst ho
       have H8 := Lib.hid (hall { on := 8, ground := .data } (by simp) (by decide))
       have H9 := Lib.hid (hall { on := 9, ground := .data } (by simp) (by decide))
       clear hall hi
       have e0 := HV.out.k9 H9.out
       subst e0
       obtain ⟨A8, c8, n8, e8, hr8, hn8⟩ := HV.out.r8 H8.out
       subst e8
       refine wpOp_step rfl (fun K' hK' => ?_)
       have HK := Lib.hid hK'
       clear hK'
       go_simp
       refine (HSM.out w' A8 c8 n8 hr8 HV.out.g).mono ?_
       rintro e wn ⟨rfl, bn⟩
       exact HK.out _ _ ⟨by simp [HJ.out.sz], ⟨_, _, _, _, _, _, _, _, _, _, _, _, _, _, _, _, _, _, _, _, _, _, _, _, _, _, _, rfl, Um HV.out.k0, Um HV.out.k1, Um HV.out.k2, Um HV.out.k3, Um HV.out.k4, Um HV.out.k5, Um HV.out.k6, Um HV.out.k7, Um HV.out.k9, fun _ => rfl, Um HV.out.k11, Um HV.out.k12, Um HV.out.k13, Um HV.out.k14, Um HV.out.k15, Um HV.out.k16, Um HV.out.k17, Um HV.out.k18, Um HV.out.k19, Um HV.out.k20, Um HV.out.k21, Um HV.out.k22, Um HV.out.k23, Um HV.out.k24, Um HV.out.k25, HV.out.g.trans (bn.mono HV.out.g.size), fun h => (bn.block _ (Array.getElem?_eq_some_iff.1 (HV.out.t7 (Uz h))).1).trans (HV.out.t7 (Uz h)), fun _ => ⟨A8, c8, n8, rfl, hr8.below (bn.mono hn8), Nat.le_trans hn8 bn.size⟩, fun h => getD_up hun (HV.out.q8 (Uz h))⟩⟩
      ·simp at ho
       subst ho
       have H10 := Lib.hid (hall { on := 10, ground := .data } (by simp) (by decide))
       clear hall hi
       have e0 := HV.out.k10 H10.out
       subst e0
       refine wpOp_step rfl (fun K' hK' => ?_)
       have HK := Lib.hid hK'
       clear hK'
       go_simp
       exact HK.out _ _ ⟨by simp [HJ.out.sz], ⟨_, _, _, _, _, _, _, _, _, _, _, _, _, _, _, _, _, _, _, _, _, _, _, _, _, _, _, rfl, Um HV.out.k0, Um HV.out.k1, Um HV.out.k2, Um HV.out.k3, Um HV.out.k4, Um HV.out.k5, Um HV.out.k6, Um HV.out.k7, Um HV.out.k9, Um HV.out.k10, fun _ => rfl, Um HV.out.k12, Um HV.out.k13, Um HV.out.k14, Um HV.out.k15, Um HV.out.k16, Um HV.out.k17, Um HV.out.k18, Um HV.out.k19, Um HV.out.k20, Um HV.out.k21, Um HV.out.k22, Um HV.out.k23, Um HV.out.k24, Um HV.out.k25, HV.out.g, Um HV.out.t7, Um HV.out.r8, fun h => getD_up hun (HV.out.q8 (Uz h))⟩⟩
      ·simp at ho
       subst ho
       have H11 := Lib.hid (hall { on := 11, ground := .guard } (by simp) (by decide))
       clear hall hi
       have e0 := HV.out.k11 H11.out
       subst e0
       refine wpOp_step rfl (fun K' hK' => ?_)
       have HK := Lib.hid hK'
       clear hK'
       go_simp
       exact HK.out _ _ ⟨by simp [HJ.out.sz], ⟨_, _, _, _, _, _, _, _, _, _, _, _, _, _, _, _, _, _, _, _, _, _, _, _, _, _, _, rfl, Um HV.out.k0, Um HV.out.k1, Um HV.out.k2, Um HV.out.k3, Um HV.out.k4, Um HV.out.k5, Um HV.out.k6, Um HV.out.k7, Um HV.out.k9, Um HV.out.k10, Um HV.out.k11, fun _ => rfl, Um HV.out.k13, Um HV.out.k14, Um HV.out.k15, Um HV.out.k16, Um HV.out.k17, Um HV.out.k18, Um HV.out.k19, Um HV.out.k20, Um HV.out.k21, Um HV.out.k22, Um HV.out.k23, Um HV.out.k24, Um HV.out.k25, HV.out.g, Um HV.out.t7, Um HV.out.r8, fun h => getD_up hun (HV.out.q8 (Uz h))⟩⟩
      ·simp at ho
       subst ho
       have H11 := Lib.hid (hall { on := 11, ground := .guard } (by simp) (by decide))
       clear hall hi
       have e0 := HV.out.k11 H11.out
       subst e0
       refine wpOp_step rfl (fun K' hK' => ?_)
       have HK := Lib.hid hK'
       clear hK'
       go_simp
       exact HK.out _ _ ⟨by simp [HJ.out.sz], ⟨_, _, _, _, _, _, _, _, _, _, _, _, _, _, _, _, _, _, _, _, _, _, _, _, _, _, _, rfl, Um HV.out.k0, Um HV.out.k1, Um HV.out.k2, Um HV.out.k3, Um HV.out.k4, Um HV.out.k5, Um HV.out.k6, Um HV.out.k7, Um HV.out.k9, Um HV.out.k10, Um HV.out.k11, Um HV.out.k12, fun _ => rfl, Um HV.out.k14, Um HV.out.k15, Um HV.out.k16, Um HV.out.k17, Um HV.out.k18, Um HV.out.k19, Um HV.out.k20, Um HV.out.k21, Um HV.out.k22, Um HV.out.k23, Um HV.out.k24, Um HV.out.k25, HV.out.g, Um HV.out.t7, Um HV.out.r8, fun h => getD_up hun (HV.out.q8 (Uz h))⟩⟩
      ·simp at ho
       subst ho
       have H12 := Lib.hid (hall { on := 12, ground := .data } (by simp) (by decide))
       have H13 := Lib.hid (hall { on := 13, ground := .data } (by simp) (by decide))
       have H11 := Lib.hid (hall { on := 11, ground := .chain } (by simp) (by decide))
       clear hall hi
       have e0 := HV.out.k12 H12.out
       subst e0
       have e1 := HV.out.k13 H13.out
       subst e1
       have e2 := HV.out.k11 H11.out
       subst e2
       refine wpOp_step rfl (fun K' hK' => ?_)
       have HK := Lib.hid hK'
       clear hK'
       go_simp
       refine (HS1.out w' HV.out.g).mono ?_
       rintro e wn ⟨rfl, bn⟩
       exact HK.out _ _ ⟨by simp [HJ.out.sz], ⟨_, _, _, _, _, _, _, _, _, _, _, _, _, _, _, _, _, _, _, _, _, _, _, _, _, _, _, rfl, Um HV.out.k0, Um HV.out.k1, Um HV.out.k2, Um HV.out.k3, Um HV.out.k4, Um HV.out.k5, Um HV.out.k6, Um HV.out.k7, Um HV.out.k9, Um HV.out.k10, Um HV.out.k11, Um HV.out.k12, Um HV.out.k13, fun _ => rfl, Um HV.out.k15, Um HV.out.k16, Um HV.out.k17, Um HV.out.k18, Um HV.out.k19, Um HV.out.k20, Um HV.out.k21, Um HV.out.k22, Um HV.out.k23, Um HV.out.k24, Um HV.out.k25, HV.out.g.trans (bn.mono HV.out.g.size), fun h => (bn.block _ (Array.getElem?_eq_some_iff.1 (HV.out.t7 (Uz h))).1).trans (HV.out.t7 (Uz h)), fun h => (HV.out.r8 (Uz h)).below bn, fun h => getD_up hun (HV.out.q8 (Uz h))⟩⟩
      ·simp at ho
       subst ho
       have H14 := Lib.hid (hall { on := 14, ground := .data } (by simp) (by decide))
       have H11 := Lib.hid (hall { on := 11, ground := .guard } (by simp) (by decide))
       clear hall hi
       have e0 := HV.out.k14 H14.out
       subst e0
       have e1 := HV.out.k11 H11.out
       subst e1
       refine wpOp_step rfl (fun K' hK' => ?_)
       have HK := Lib.hid hK'
       clear hK'
       go_simp
       exact HK.out _ _ ⟨by simp [HJ.out.sz], ⟨_, _, _, _, _, _, _, _, _, _, _, _, _, _, _, _, _, _, _, _, _, _, _, _, _, _, _, rfl, Um HV.out.k0, Um HV.out.k1, Um HV.out.k2, Um HV.out.k3, Um HV.out.k4, Um HV.out.k5, Um HV.out.k6, Um HV.out.k7, Um HV.out.k9, Um HV.out.k10, Um HV.out.k11, Um HV.out.k12, Um HV.out.k13, Um HV.out.k14, fun _ => rfl, Um HV.out.k16, Um HV.out.k17, Um HV.out.k18, Um HV.out.k19, Um HV.out.k20, Um HV.out.k21, Um HV.out.k22, Um HV.out.k23, Um HV.out.k24, Um HV.out.k25, HV.out.g, Um HV.out.t7, Um HV.out.r8, fun h => getD_up hun (HV.out.q8 (Uz h))⟩⟩
      ·simp at ho
       subst ho
       have H15 := Lib.hid (hall { on := 15, ground := .data } (by simp) (by decide))
       have H11 := Lib.hid (hall { on := 11, ground := .guard } (by simp) (by decide))
       clear hall hi
       have e0 := HV.out.k15 H15.out
       subst e0
       have e1 := HV.out.k11 H11.out
       subst e1
       refine wpOp_step rfl (fun K' hK' => ?_)
       have HK := Lib.hid hK'
       clear hK'
       go_simp
       exact HK.out _ _ ⟨by simp [HJ.out.sz], ⟨_, _, _, _, _, _, _, _, _, _, _, _, _, _, _, _, _, _, _, _, _, _, _, _, _, _, _, rfl, Um HV.out.k0, Um HV.out.k1, Um HV.out.k2, Um HV.out.k3, Um HV.out.k4, Um HV.out.k5, Um HV.out.k6, Um HV.out.k7, Um HV.out.k9, Um HV.out.k10, Um HV.out.k11, Um HV.out.k12, Um HV.out.k13, Um HV.out.k14, Um HV.out.k15, fun _ => rfl, Um HV.out.k17, Um HV.out.k18, Um HV.out.k19, Um HV.out.k20, Um HV.out.k21, Um HV.out.k22, Um HV.out.k23, Um HV.out.k24, Um HV.out.k25, HV.out.g, Um HV.out.t7, Um HV.out.r8, fun h => getD_up hun (HV.out.q8 (Uz h))⟩⟩
      ·simp at ho
       subst ho
       have H16 := Lib.hid (hall { on := 16, ground := .guard } (by simp) (by decide))
       clear hall hi
       have e0 := HV.out.k16 H16.out
       subst e0
       refine wpOp_step rfl (fun K' hK' => ?_)
       have HK := Lib.hid hK'
       clear hK'
       go_simp
       exact HK.out _ _ ⟨by simp [HJ.out.sz], ⟨_, _, _, _, _, _, _, _, _, _, _, _, _, _, _, _, _, _, _, _, _, _, _, _, _, _, _, rfl, Um HV.out.k0, Um HV.out.k1, Um HV.out.k2, Um HV.out.k3, Um HV.out.k4, Um HV.out.k5, Um HV.out.k6, Um HV.out.k7, Um HV.out.k9, Um HV.out.k10, Um HV.out.k11, Um HV.out.k12, Um HV.out.k13, Um HV.out.k14, Um HV.out.k15, Um HV.out.k16, fun _ => rfl, Um HV.out.k18, Um HV.out.k19, Um HV.out.k20, Um HV.out.k21, Um HV.out.k22, Um HV.out.k23, Um HV.out.k24, Um HV.out.k25, HV.out.g, Um HV.out.t7, Um HV.out.r8, fun h => getD_up hun (HV.out.q8 (Uz h))⟩⟩
      ·simp at ho
       subst ho
       have H16 := Lib.hid (hall { on := 16, ground := .guard } (by simp) (by decide))
       clear hall hi
       have e0 := HV.out.k16 H16.out
       subst e0
       refine wpOp_step rfl (fun K' hK' => ?_)
       have HK := Lib.hid hK'
       clear hK'
       go_simp
       exact HK.out _ _ ⟨by simp [HJ.out.sz], ⟨_, _, _, _, _, _, _, _, _, _, _, _, _, _, _, _, _, _, _, _, _, _, _, _, _, _, _, rfl, Um HV.out.k0, Um HV.out.k1, Um HV.out.k2, Um HV.out.k3, Um HV.out.k4, Um HV.out.k5, Um HV.out.k6, Um HV.out.k7, Um HV.out.k9, Um HV.out.k10, Um HV.out.k11, Um HV.out.k12, Um HV.out.k13, Um HV.out.k14, Um HV.out.k15, Um HV.out.k16, Um HV.out.k17, fun _ => rfl, Um HV.out.k19, Um HV.out.k20, Um HV.out.k21, Um HV.out.k22, Um HV.out.k23, Um HV.out.k24, Um HV.out.k25, HV.out.g, Um HV.out.t7, Um HV.out.r8, fun h => getD_up hun (HV.out.q8 (Uz h))⟩⟩
      ·simp at ho
       subst ho
       have H17 := Lib.hid (hall { on := 17, ground := .data } (by simp) (by decide))
       have H18 := Lib.hid (hall { on := 18, ground := .data } (by simp) (by decide))
       have H16 := Lib.hid (hall { on := 16, ground := .chain } (by simp) (by decide))
       clear hall hi
       have e0 := HV.out.k17 H17.out
       subst e0
       have e1 := HV.out.k18 H18.out
       subst e1
       have e2 := HV.out.k16 H16.out
       subst e2
       refine wpOp_step rfl (fun K' hK' => ?_)
       have HK := Lib.hid hK'
       clear hK'
       go_simp
       refine (HS2.out w' HV.out.g).mono ?_
       rintro e wn ⟨rfl, bn⟩
       exact HK.out _ _ ⟨by simp [HJ.out.sz], ⟨_, _, _, _, _, _, _, _, _, _, _, _, _, _, _, _, _, _, _, _, _, _, _, _, _, _, _, rfl, Um HV.out.k0, Um HV.out.k1, Um HV.out.k2, Um HV.out.k3, Um HV.out.k4, Um HV.out.k5, Um HV.out.k6, Um HV.out.k7, Um HV.out.k9, Um HV.out.k10, Um HV.out.k11, Um HV.out.k12, Um HV.out.k13, Um HV.out.k14, Um HV.out.k15, Um HV.out.k16, Um HV.out.k17, Um HV.out.k18, fun _ => rfl, Um HV.out.k20, Um HV.out.k21, Um HV.out.k22, Um HV.out.k23, Um HV.out.k24, Um HV.out.k25, HV.out.g.trans (bn.mono HV.out.g.size), fun h => (bn.block _ (Array.getElem?_eq_some_iff.1 (HV.out.t7 (Uz h))).1).trans (HV.out.t7 (Uz h)), fun h => (HV.out.r8 (Uz h)).below bn, fun h => getD_up hun (HV.out.q8 (Uz h))⟩⟩
      ·simp at ho
       subst ho
       have H16 := Lib.hid (hall { on := 16, ground := .data } (by simp) (by decide))
       have H19 := Lib.hid (hall { on := 19, ground := .data } (by simp) (by decide))
       have H11 := Lib.hid (hall { on := 11, ground := .guard } (by simp) (by decide))
       clear hall hi
       have e0 := HV.out.k16 H16.out
       subst e0
       have e1 := HV.out.k19 H19.out
       subst e1
       have e2 := HV.out.k11 H11.out
       subst e2
       refine wpOp_step rfl (fun K' hK' => ?_)
       have HK := Lib.hid hK'
       clear hK'
       go_simp
       exact HK.out _ _ ⟨by simp [HJ.out.sz], ⟨_, _, _, _, _, _, _, _, _, _, _, _, _, _, _, _, _, _, _, _, _, _, _, _, _, _, _, rfl, Um HV.out.k0, Um HV.out.k1, Um HV.out.k2, Um HV.out.k3, Um HV.out.k4, Um HV.out.k5, Um HV.out.k6, Um HV.out.k7, Um HV.out.k9, Um HV.out.k10, Um HV.out.k11, Um HV.out.k12, Um HV.out.k13, Um HV.out.k14, Um HV.out.k15, Um HV.out.k16, Um HV.out.k17, Um HV.out.k18, Um HV.out.k19, fun _ => rfl, Um HV.out.k21, Um HV.out.k22, Um HV.out.k23, Um HV.out.k24, Um HV.out.k25, HV.out.g, Um HV.out.t7, Um HV.out.r8, fun h => getD_up hun (HV.out.q8 (Uz h))⟩⟩
      ·simp at ho
       subst ho
       have H11 := Lib.hid (hall { on := 11, ground := .data } (by simp) (by decide))
       have H20 := Lib.hid (hall { on := 20, ground := .data } (by simp) (by decide))
       clear hall hi
       have e0 := HV.out.k11 H11.out
       subst e0
       have e1 := HV.out.k20 H20.out
       subst e1
       refine wpOp_step rfl (fun K' hK' => ?_)
       have HK := Lib.hid hK'
       clear hK'
       go_simp
       exact HK.out _ _ ⟨by simp [HJ.out.sz], ⟨_, _, _, _, _, _, _, _, _, _, _, _, _, _, _, _, _, _, _, _, _, _, _, _, _, _, _, rfl, Um HV.out.k0, Um HV.out.k1, Um HV.out.k2, Um HV.out.k3, Um HV.out.k4, Um HV.out.k5, Um HV.out.k6, Um HV.out.k7, Um HV.out.k9, Um HV.out.k10, Um HV.out.k11, Um HV.out.k12, Um HV.out.k13, Um HV.out.k14, Um HV.out.k15, Um HV.out.k16, Um HV.out.k17, Um HV.out.k18, Um HV.out.k19, Um HV.out.k20, fun _ => rfl, Um HV.out.k22, Um HV.out.k23, Um HV.out.k24, Um HV.out.k25, HV.out.g, Um HV.out.t7, Um HV.out.r8, fun h => getD_up hun (HV.out.q8 (Uz h))⟩⟩
      ·simp at ho
       subst ho
       have H21 := Lib.hid (hall { on := 21, ground := .data } (by simp) (by decide))
       clear hall hi
       have e0 := HV.out.k21 H21.out
       subst e0
       refine wpOp_step rfl (fun K' hK' => ?_)
       have HK := Lib.hid hK'
       clear hK'
       go_simp
       exact HK.out _ _ ⟨by simp [HJ.out.sz], ⟨_, _, _, _, _, _, _, _, _, _, _, _, _, _, _, _, _, _, _, _, _, _, _, _, _, _, _, rfl, Um HV.out.k0, Um HV.out.k1, Um HV.out.k2, Um HV.out.k3, Um HV.out.k4, Um HV.out.k5, Um HV.out.k6, Um HV.out.k7, Um HV.out.k9, Um HV.out.k10, Um HV.out.k11, Um HV.out.k12, Um HV.out.k13, Um HV.out.k14, Um HV.out.k15, Um HV.out.k16, Um HV.out.k17, Um HV.out.k18, Um HV.out.k19, Um HV.out.k20, Um HV.out.k21, fun _ => rfl, Um HV.out.k23, Um HV.out.k24, Um HV.out.k25, HV.out.g, Um HV.out.t7, Um HV.out.r8, fun h => getD_up hun (HV.out.q8 (Uz h))⟩⟩
      ·simp at ho
       subst ho
       have H22 := Lib.hid (hall { on := 22, ground := .chain } (by simp) (by decide))
       clear hall hi
       have e0 := HV.out.k22 H22.out
       subst e0
       refine wpOp_step rfl (fun K' hK' => ?_)
       have HK := Lib.hid hK'
       clear hK'
       go_simp
       refine (HAW.out w' HV.out.g).mono ?_
       rintro e wn ⟨rfl, bn⟩
       exact HK.out _ _ ⟨by simp [HJ.out.sz], ⟨_, _, _, _, _, _, _, _, _, _, _, _, _, _, _, _, _, _, _, _, _, _, _, _, _, _, _, rfl, Um HV.out.k0, Um HV.out.k1, Um HV.out.k2, Um HV.out.k3, Um HV.out.k4, Um HV.out.k5, Um HV.out.k6, Um HV.out.k7, Um HV.out.k9, Um HV.out.k10, Um HV.out.k11, Um HV.out.k12, Um HV.out.k13, Um HV.out.k14, Um HV.out.k15, Um HV.out.k16, Um HV.out.k17, Um HV.out.k18, Um HV.out.k19, Um HV.out.k20, Um HV.out.k21, Um HV.out.k22, fun _ => rfl, Um HV.out.k24, Um HV.out.k25, HV.out.g.trans (bn.mono HV.out.g.size), fun h => (bn.block _ (Array.getElem?_eq_some_iff.1 (HV.out.t7 (Uz h))).1).trans (HV.out.t7 (Uz h)), fun h => (HV.out.r8 (Uz h)).below bn, fun h => getD_up hun (HV.out.q8 (Uz h))⟩⟩
      ·simp at ho
       subst ho
       have H22 := Lib.hid (hall { on := 22, ground := .data } (by simp) (by decide))
       have H23 := Lib.hid (hall { on := 23, ground := .data } (by simp) (by decide))
       clear hall hi
       have e0 := HV.out.k22 H22.out
       subst e0
       have e1 := HV.out.k23 H23.out
       subst e1
       refine wpOp_step rfl (fun K' hK' => ?_)
       have HK := Lib.hid hK'
       clear hK'
       go_simp
       exact HK.out _ _ ⟨by simp [HJ.out.sz], ⟨_, _, _, _, _, _, _, _, _, _, _, _, _, _, _, _, _, _, _, _, _, _, _, _, _, _, _, rfl, Um HV.out.k0, Um HV.out.k1, Um HV.out.k2, Um HV.out.k3, Um HV.out.k4, Um HV.out.k5, Um HV.out.k6, Um HV.out.k7, Um HV.out.k9, Um HV.out.k10, Um HV.out.k11, Um HV.out.k12, Um HV.out.k13, Um HV.out.k14, Um HV.out.k15, Um HV.out.k16, Um HV.out.k17, Um HV.out.k18, Um HV.out.k19, Um HV.out.k20, Um HV.out.k21, Um HV.out.k22, Um HV.out.k23, fun _ => rfl, Um HV.out.k25, HV.out.g, Um HV.out.t7, Um HV.out.r8, fun h => getD_up hun (HV.out.q8 (Uz h))⟩⟩
      ·simp at ho
       subst ho
       have H24 := Lib.hid (hall { on := 24, ground := .data } (by simp) (by decide))
       clear hall hi
       have e0 := HV.out.k24 H24.out
       subst e0
       refine wpOp_step rfl (fun K' hK' => ?_)
       have HK := Lib.hid hK'
       clear hK'
       go_simp
       exact HK.out _ _ ⟨by simp [HJ.out.sz], ⟨_, _, _, _, _, _, _, _, _, _, _, _, _, _, _, _, _, _, _, _, _, _, _, _, _, _, _, rfl, Um HV.out.k0, Um HV.out.k1, Um HV.out.k2, Um HV.out.k3, Um HV.out.k4, Um HV.out.k5, Um HV.out.k6, Um HV.out.k7, Um HV.out.k9, Um HV.out.k10, Um HV.out.k11, Um HV.out.k12, Um HV.out.k13, Um HV.out.k14, Um HV.out.k15, Um HV.out.k16, Um HV.out.k17, Um HV.out.k18, Um HV.out.k19, Um HV.out.k20, Um HV.out.k21, Um HV.out.k22, Um HV.out.k23, Um HV.out.k24, fun _ => rfl, HV.out.g, Um HV.out.t7, Um HV.out.r8, fun h => getD_up hun (HV.out.q8 (Uz h))⟩⟩
 case stLP8 =>
  intro L a w' hj i hi
  obtain ⟨hun, o, ho, hall⟩ := mem_ready.1 hi
  have hoff := getD_off hun
  have hlt := (Array.getElem?_eq_some_iff.1 ho).1
  simp at hlt
  obtain ⟨s76, s77, s78, s79, s80, s81, s82, s83, s84, s85, s86, s87, s88, s89, s90, s91, s92, s93, s94, s95, s96, s97, s98, s99, s100, s101, s102, s103, s104, rfl, hv⟩ := hj.fr
  have HV := Lib.hid hv
  have HJ := Lib.hid hj
  clear hv hj
  rcases (show i = 0 ∨ i = 1 ∨ i = 2 ∨ i = 3 ∨ i = 4 ∨ i = 5 ∨ i = 6 ∨ i = 7 ∨ i = 8 ∨ i = 9 ∨ i = 10 ∨ i = 11 ∨ i = 12 ∨ i = 13 ∨ i = 14 ∨ i = 15 ∨ i = 16 ∨ i = 17 ∨ i = 18 ∨ i = 19 ∨ i = 20 ∨ i = 21 ∨ i = 22 ∨ i = 23 ∨ i = 24 ∨ i = 25 ∨ i = 26 ∨ i = 27 ∨ i = 28 from by omega) with rfl | rfl | rfl | rfl | rfl | rfl | rfl | rfl | rfl | rfl | rfl | rfl | rfl | rfl | rfl | rfl | rfl | rfl | rfl | rfl | rfl | rfl | rfl | rfl | rfl | rfl | rfl | rfl | rfl
  ·simp at ho
   subst ho
   clear hall hi
   refine wpOp_step rfl (fun K' hK' => ?_)
   have HK := Lib.hid hK'
   clear hK'
   go_simp
   exact HK.out _ _ ⟨by simp [HJ.out.sz], ⟨_, _, _, _, _, _, _, _, _, _, _, _, _, _, _, _, _, _, _, _, _, _, _, _, _, _, _, _, _, rfl, fun _ => rfl, Um HV.out.k1, Um HV.out.k2, Um HV.out.k3, Um HV.out.k4, Um HV.out.k5, Um HV.out.k6, Um HV.out.k7, Um HV.out.k8, Um HV.out.k9, Um HV.out.k10, Um HV.out.k11, Um HV.out.k12, Um HV.out.k13, Um HV.out.k14, Um HV.out.k15, Um HV.out.k16, Um HV.out.k17, Um HV.out.k18, Um HV.out.k19, Um HV.out.k20, Um HV.out.k21, Um HV.out.k22, Um HV.out.k23, Um HV.out.k24, Um HV.out.k25, Um HV.out.k26, Um HV.out.k27, Um HV.out.k28, HV.out.g⟩⟩
  ·simp at ho
   subst ho
   have H0 := Lib.hid (hall { on := 0, ground := .data } (by simp) (by decide))
   clear hall hi
   have e0 := HV.out.k0 H0.out
   subst e0
   refine wpOp_step rfl (fun K' hK' => ?_)
   have HK := Lib.hid hK'
   clear hK'
   go_simp
   exact HK.out _ _ ⟨by simp [HJ.out.sz], ⟨_, _, _, _, _, _, _, _, _, _, _, _, _, _, _, _, _, _, _, _, _, _, _, _, _, _, _, _, _, rfl, Um HV.out.k0, fun _ => rfl, Um HV.out.k2, Um HV.out.k3, Um HV.out.k4, Um HV.out.k5, Um HV.out.k6, Um HV.out.k7, Um HV.out.k8, Um HV.out.k9, Um HV.out.k10, Um HV.out.k11, Um HV.out.k12, Um HV.out.k13, Um HV.out.k14, Um HV.out.k15, Um HV.out.k16, Um HV.out.k17, Um HV.out.k18, Um HV.out.k19, Um HV.out.k20, Um HV.out.k21, Um HV.out.k22, Um HV.out.k23, Um HV.out.k24, Um HV.out.k25, Um HV.out.k26, Um HV.out.k27, Um HV.out.k28, HV.out.g⟩⟩
  ·simp at ho
   subst ho
   have H1 := Lib.hid (hall { on := 1, ground := .data } (by simp) (by decide))
   clear hall hi
   have e0 := HV.out.k1 H1.out
   subst e0
   refine wpOp_step rfl (fun K' hK' => ?_)
   have HK := Lib.hid hK'
   clear hK'
   go_simp
   exact HK.out _ _ ⟨by simp [HJ.out.sz], ⟨_, _, _, _, _, _, _, _, _, _, _, _, _, _, _, _, _, _, _, _, _, _, _, _, _, _, _, _, _, rfl, Um HV.out.k0, Um HV.out.k1, fun _ => rfl, Um HV.out.k3, Um HV.out.k4, Um HV.out.k5, Um HV.out.k6, Um HV.out.k7, Um HV.out.k8, Um HV.out.k9, Um HV.out.k10, Um HV.out.k11, Um HV.out.k12, Um HV.out.k13, Um HV.out.k14, Um HV.out.k15, Um HV.out.k16, Um HV.out.k17, Um HV.out.k18, Um HV.out.k19, Um HV.out.k20, Um HV.out.k21, Um HV.out.k22, Um HV.out.k23, Um HV.out.k24, Um HV.out.k25, Um HV.out.k26, Um HV.out.k27, Um HV.out.k28, HV.out.g⟩⟩
  ·simp at ho
   subst ho
   have H2 := Lib.hid (hall { on := 2, ground := .guard } (by simp) (by decide))
   clear hall hi
   have e0 := HV.out.k2 H2.out
   subst e0
   refine wpOp_step rfl (fun K' hK' => ?_)
   have HK := Lib.hid hK'
   clear hK'
   go_simp
   exact HK.out _ _ ⟨by simp [HJ.out.sz], ⟨_, _, _, _, _, _, _, _, _, _, _, _, _, _, _, _, _, _, _, _, _, _, _, _, _, _, _, _, _, rfl, Um HV.out.k0, Um HV.out.k1, Um HV.out.k2, fun _ => rfl, Um HV.out.k4, Um HV.out.k5, Um HV.out.k6, Um HV.out.k7, Um HV.out.k8, Um HV.out.k9, Um HV.out.k10, Um HV.out.k11, Um HV.out.k12, Um HV.out.k13, Um HV.out.k14, Um HV.out.k15, Um HV.out.k16, Um HV.out.k17, Um HV.out.k18, Um HV.out.k19, Um HV.out.k20, Um HV.out.k21, Um HV.out.k22, Um HV.out.k23, Um HV.out.k24, Um HV.out.k25, Um HV.out.k26, Um HV.out.k27, Um HV.out.k28, HV.out.g⟩⟩
  ·simp at ho
   subst ho
   have H3 := Lib.hid (hall { on := 3, ground := .data } (by simp) (by decide))
   have H2 := Lib.hid (hall { on := 2, ground := .guard } (by simp) (by decide))
   clear hall hi
   have e0 := HV.out.k3 H3.out
   subst e0
   have e1 := HV.out.k2 H2.out
   subst e1
   refine wpOp_step rfl (fun K' hK' => ?_)
   have HK := Lib.hid hK'
   clear hK'
   go_simp
   exact HK.out _ _ ⟨by simp [HJ.out.sz], ⟨_, _, _, _, _, _, _, _, _, _, _, _, _, _, _, _, _, _, _, _, _, _, _, _, _, _, _, _, _, rfl, Um HV.out.k0, Um HV.out.k1, Um HV.out.k2, Um HV.out.k3, fun _ => rfl, Um HV.out.k5, Um HV.out.k6, Um HV.out.k7, Um HV.out.k8, Um HV.out.k9, Um HV.out.k10, Um HV.out.k11, Um HV.out.k12, Um HV.out.k13, Um HV.out.k14, Um HV.out.k15, Um HV.out.k16, Um HV.out.k17, Um HV.out.k18, Um HV.out.k19, Um HV.out.k20, Um HV.out.k21, Um HV.out.k22, Um HV.out.k23, Um HV.out.k24, Um HV.out.k25, Um HV.out.k26, Um HV.out.k27, Um HV.out.k28, HV.out.g⟩⟩
  ·simp at ho
   subst ho
   have H2 := Lib.hid (hall { on := 2, ground := .data } (by simp) (by decide))
   have H4 := Lib.hid (hall { on := 4, ground := .data } (by simp) (by decide))
   clear hall hi
   have e0 := HV.out.k2 H2.out
   subst e0
   have e1 := HV.out.k4 H4.out
   subst e1
   refine wpOp_step rfl (fun K' hK' => ?_)
   have HK := Lib.hid hK'
   clear hK'
   go_simp
   exact HK.out _ _ ⟨by simp [HJ.out.sz], ⟨_, _, _, _, _, _, _, _, _, _, _, _, _, _, _, _, _, _, _, _, _, _, _, _, _, _, _, _, _, rfl, Um HV.out.k0, Um HV.out.k1, Um HV.out.k2, Um HV.out.k3, Um HV.out.k4, fun _ => rfl, Um HV.out.k6, Um HV.out.k7, Um HV.out.k8, Um HV.out.k9, Um HV.out.k10, Um HV.out.k11, Um HV.out.k12, Um HV.out.k13, Um HV.out.k14, Um HV.out.k15, Um HV.out.k16, Um HV.out.k17, Um HV.out.k18, Um HV.out.k19, Um HV.out.k20, Um HV.out.k21, Um HV.out.k22, Um HV.out.k23, Um HV.out.k24, Um HV.out.k25, Um HV.out.k26, Um HV.out.k27, Um HV.out.k28, HV.out.g⟩⟩
  ·simp at ho
   subst ho
   have H5 := Lib.hid (hall { on := 5, ground := .data } (by simp) (by decide))
   clear hall hi
   have e0 := HV.out.k5 H5.out
   subst e0
   refine wpOp_step rfl (fun K' hK' => ?_)
   have HK := Lib.hid hK'
   clear hK'
   go_simp
   exact HK.out _ _ ⟨by simp [HJ.out.sz], ⟨_, _, _, _, _, _, _, _, _, _, _, _, _, _, _, _, _, _, _, _, _, _, _, _, _, _, _, _, _, rfl, Um HV.out.k0, Um HV.out.k1, Um HV.out.k2, Um HV.out.k3, Um HV.out.k4, Um HV.out.k5, fun _ => rfl, Um HV.out.k7, Um HV.out.k8, Um HV.out.k9, Um HV.out.k10, Um HV.out.k11, Um HV.out.k12, Um HV.out.k13, Um HV.out.k14, Um HV.out.k15, Um HV.out.k16, Um HV.out.k17, Um HV.out.k18, Um HV.out.k19, Um HV.out.k20, Um HV.out.k21, Um HV.out.k22, Um HV.out.k23, Um HV.out.k24, Um HV.out.k25, Um HV.out.k26, Um HV.out.k27, Um HV.out.k28, HV.out.g⟩⟩
  ·simp at ho
   subst ho
   have H6 := Lib.hid (hall { on := 6, ground := .guard } (by simp) (by decide))
   clear hall hi
   have e0 := HV.out.k6 H6.out
   subst e0
   refine wpOp_step rfl (fun K' hK' => ?_)
   have HK := Lib.hid hK'
   clear hK'
   go_simp
   exact HK.out _ _ ⟨by simp [HJ.out.sz], ⟨_, _, _, _, _, _, _, _, _, _, _, _, _, _, _, _, _, _, _, _, _, _, _, _, _, _, _, _, _, rfl, Um HV.out.k0, Um HV.out.k1, Um HV.out.k2, Um HV.out.k3, Um HV.out.k4, Um HV.out.k5, Um HV.out.k6, fun _ => rfl, Um HV.out.k8, Um HV.out.k9, Um HV.out.k10, Um HV.out.k11, Um HV.out.k12, Um HV.out.k13, Um HV.out.k14, Um HV.out.k15, Um HV.out.k16, Um HV.out.k17, Um HV.out.k18, Um HV.out.k19, Um HV.out.k20, Um HV.out.k21, Um HV.out.k22, Um HV.out.k23, Um HV.out.k24, Um HV.out.k25, Um HV.out.k26, Um HV.out.k27, Um HV.out.k28, HV.out.g⟩⟩
  ·simp at ho
   subst ho
   have H7 := Lib.hid (hall { on := 7, ground := .data } (by simp) (by decide))
   have H6 := Lib.hid (hall { on := 6, ground := .guard } (by simp) (by decide))
   clear hall hi
   have e0 := HV.out.k7 H7.out
   subst e0
   have e1 := HV.out.k6 H6.out
   subst e1
   have hk0 := HK0.out
   refine wpOp_step rfl (fun K' hK' => ?_)
   have HK := Lib.hid hK'
   clear hK'
   go_simp
   exact HK.out _ _ ⟨by simp [HJ.out.sz], ⟨_, _, _, _, _, _, _, _, _, _, _, _, _, _, _, _, _, _, _, _, _, _, _, _, _, _, _, _, _, rfl, Um HV.out.k0, Um HV.out.k1, Um HV.out.k2, Um HV.out.k3, Um HV.out.k4, Um HV.out.k5, Um HV.out.k6, Um HV.out.k7, fun _ => rfl, Um HV.out.k9, Um HV.out.k10, Um HV.out.k11, Um HV.out.k12, Um HV.out.k13, Um HV.out.k14, Um HV.out.k15, Um HV.out.k16, Um HV.out.k17, Um HV.out.k18, Um HV.out.k19, Um HV.out.k20, Um HV.out.k21, Um HV.out.k22, Um HV.out.k23, Um HV.out.k24, Um HV.out.k25, Um HV.out.k26, Um HV.out.k27, Um HV.out.k28, HV.out.g⟩⟩
  ·simp at ho
   subst ho
   have H6 := Lib.hid (hall { on := 6, ground := .data } (by simp) (by decide))
   have H8 := Lib.hid (hall { on := 8, ground := .data } (by simp) (by decide))
   clear hall hi
   have e0 := HV.out.k6 H6.out
   subst e0
   have e1 := HV.out.k8 H8.out
   subst e1
   refine wpOp_step rfl (fun K' hK' => ?_)
   have HK := Lib.hid hK'
   clear hK'
   go_simp
   exact HK.out _ _ ⟨by simp [HJ.out.sz], ⟨_, _, _, _, _, _, _, _, _, _, _, _, _, _, _, _, _, _, _, _, _, _, _, _, _, _, _, _, _, rfl, Um HV.out.k0, Um HV.out.k1, Um HV.out.k2, Um HV.out.k3, Um HV.out.k4, Um HV.out.k5, Um HV.out.k6, Um HV.out.k7, Um HV.out.k8, fun _ => rfl, Um HV.out.k10, Um HV.out.k11, Um HV.out.k12, Um HV.out.k13, Um HV.out.k14, Um HV.out.k15, Um HV.out.k16, Um HV.out.k17, Um HV.out.k18, Um HV.out.k19, Um HV.out.k20, Um HV.out.k21, Um HV.out.k22, Um HV.out.k23, Um HV.out.k24, Um HV.out.k25, Um HV.out.k26, Um HV.out.k27, Um HV.out.k28, HV.out.g⟩⟩
  ·simp at ho
   subst ho
   have H9 := Lib.hid (hall { on := 9, ground := .data } (by simp) (by decide))
   clear hall hi
   have e0 := HV.out.k9 H9.out
   subst e0
   refine wpOp_step rfl (fun K' hK' => ?_)
   have HK := Lib.hid hK'
   clear hK'
   go_simp
   exact HK.out _ _ ⟨by simp [HJ.out.sz], ⟨_, _, _, _, _, _, _, _, _, _, _, _, _, _, _, _, _, _, _, _, _, _, _, _, _, _, _, _, _, rfl, Um HV.out.k0, Um HV.out.k1, Um HV.out.k2, Um HV.out.k3, Um HV.out.k4, Um HV.out.k5, Um HV.out.k6, Um HV.out.k7, Um HV.out.k8, Um HV.out.k9, fun _ => rfl, Um HV.out.k11, Um HV.out.k12, Um HV.out.k13, Um HV.out.k14, Um HV.out.k15, Um HV.out.k16, Um HV.out.k17, Um HV.out.k18, Um HV.out.k19, Um HV.out.k20, Um HV.out.k21, Um HV.out.k22, Um HV.out.k23, Um HV.out.k24, Um HV.out.k25, Um HV.out.k26, Um HV.out.k27, Um HV.out.k28, HV.out.g⟩⟩
  ·simp at ho
   subst ho
   have H10 := Lib.hid (hall { on := 10, ground := .guard } (by simp) (by decide))
   clear hall hi
   have e0 := HV.out.k10 H10.out
   subst e0
   refine wpOp_step rfl (fun K' hK' => ?_)
   have HK := Lib.hid hK'
   clear hK'
   go_simp
   exact HK.out _ _ ⟨by simp [HJ.out.sz], ⟨_, _, _, _, _, _, _, _, _, _, _, _, _, _, _, _, _, _, _, _, _, _, _, _, _, _, _, _, _, rfl, Um HV.out.k0, Um HV.out.k1, Um HV.out.k2, Um HV.out.k3, Um HV.out.k4, Um HV.out.k5, Um HV.out.k6, Um HV.out.k7, Um HV.out.k8, Um HV.out.k9, Um HV.out.k10, fun _ => rfl, Um HV.out.k12, Um HV.out.k13, Um HV.out.k14, Um HV.out.k15, Um HV.out.k16, Um HV.out.k17, Um HV.out.k18, Um HV.out.k19, Um HV.out.k20, Um HV.out.k21, Um HV.out.k22, Um HV.out.k23, Um HV.out.k24, Um HV.out.k25, Um HV.out.k26, Um HV.out.k27, Um HV.out.k28, HV.out.g⟩⟩
  ·simp at ho
   subst ho
   have H10 := Lib.hid (hall { on := 10, ground := .guard } (by simp) (by decide))
   clear hall hi
   have e0 := HV.out.k10 H10.out
   subst e0
   refine wpOp_step rfl (fun K' hK' => ?_)
   have HK := Lib.hid hK'
   clear hK'
   go_simp
   exact HK.out _ _ ⟨by simp [HJ.out.sz], ⟨_, _, _, _, _, _, _, _, _, _, _, _, _, _, _, _, _, _, _, _, _, _, _, _, _, _, _, _, _, rfl, Um HV.out.k0, Um HV.out.k1, Um HV.out.k2, Um HV.out.k3, Um HV.out.k4, Um HV.out.k5, Um HV.out.k6, Um HV.out.k7, Um HV.out.k8, Um HV.out.k9, Um HV.out.k10, Um HV.out.k11, fun _ => rfl, Um HV.out.k13, Um HV.out.k14, Um HV.out.k15, Um HV.out.k16, Um HV.out.k17, Um HV.out.k18, Um HV.out.k19, Um HV.out.k20, Um HV.out.k21, Um HV.out.k22, Um HV.out.k23, Um HV.out.k24, Um HV.out.k25, Um HV.out.k26, Um HV.out.k27, Um HV.out.k28, HV.out.g⟩⟩
  ·simp at ho
   subst ho
   have H12 := Lib.hid (hall { on := 12, ground := .data } (by simp) (by decide))
   have H10 := Lib.hid (hall { on := 10, ground := .guard } (by simp) (by decide))
   clear hall hi
   have e0 := HV.out.k12 H12.out
   subst e0
   have e1 := HV.out.k10 H10.out
   subst e1
   refine wpOp_step rfl (fun K' hK' => ?_)
   have HK := Lib.hid hK'
   clear hK'
   go_simp
   exact HK.out _ _ ⟨by simp [HJ.out.sz], ⟨_, _, _, _, _, _, _, _, _, _, _, _, _, _, _, _, _, _, _, _, _, _, _, _, _, _, _, _, _, rfl, Um HV.out.k0, Um HV.out.k1, Um HV.out.k2, Um HV.out.k3, Um HV.out.k4, Um HV.out.k5, Um HV.out.k6, Um HV.out.k7, Um HV.out.k8, Um HV.out.k9, Um HV.out.k10, Um HV.out.k11, Um HV.out.k12, fun _ => rfl, Um HV.out.k14, Um HV.out.k15, Um HV.out.k16, Um HV.out.k17, Um HV.out.k18, Um HV.out.k19, Um HV.out.k20, Um HV.out.k21, Um HV.out.k22, Um HV.out.k23, Um HV.out.k24, Um HV.out.k25, Um HV.out.k26, Um HV.out.k27, Um HV.out.k28, HV.out.g⟩⟩
  ·simp at ho
   subst ho
   have H11 := Lib.hid (hall { on := 11, ground := .data } (by simp) (by decide))
   have H13 := Lib.hid (hall { on := 13, ground := .data } (by simp) (by decide))
   have H10 := Lib.hid (hall { on := 10, ground := .guard } (by simp) (by decide))
   clear hall hi
   have e0 := HV.out.k11 H11.out
   subst e0
   have e1 := HV.out.k13 H13.out
   subst e1
   have e2 := HV.out.k10 H10.out
   subst e2
   have hk1 := HK1.out.1; have hk2 := HK1.out.2; have hk3 : ¬ n3 ≤ k := Nat.not_le.2 HKN3.out
   refine wpOp_step rfl (fun K' hK' => ?_)
   have HK := Lib.hid hK'
   clear hK'
   go_simp
   exact HK.out _ _ ⟨by simp [HJ.out.sz], ⟨_, _, _, _, _, _, _, _, _, _, _, _, _, _, _, _, _, _, _, _, _, _, _, _, _, _, _, _, _, rfl, Um HV.out.k0, Um HV.out.k1, Um HV.out.k2, Um HV.out.k3, Um HV.out.k4, Um HV.out.k5, Um HV.out.k6, Um HV.out.k7, Um HV.out.k8, Um HV.out.k9, Um HV.out.k10, Um HV.out.k11, Um HV.out.k12, Um HV.out.k13, fun _ => rfl, Um HV.out.k15, Um HV.out.k16, Um HV.out.k17, Um HV.out.k18, Um HV.out.k19, Um HV.out.k20, Um HV.out.k21, Um HV.out.k22, Um HV.out.k23, Um HV.out.k24, Um HV.out.k25, Um HV.out.k26, Um HV.out.k27, Um HV.out.k28, HV.out.g⟩⟩
  ·simp at ho
   subst ho
   have H10 := Lib.hid (hall { on := 10, ground := .data } (by simp) (by decide))
   have H14 := Lib.hid (hall { on := 14, ground := .data } (by simp) (by decide))
   clear hall hi
   have e0 := HV.out.k10 H10.out
   subst e0
   have e1 := HV.out.k14 H14.out
   subst e1
   refine wpOp_step rfl (fun K' hK' => ?_)
   have HK := Lib.hid hK'
   clear hK'
   go_simp
   exact HK.out _ _ ⟨by simp [HJ.out.sz], ⟨_, _, _, _, _, _, _, _, _, _, _, _, _, _, _, _, _, _, _, _, _, _, _, _, _, _, _, _, _, rfl, Um HV.out.k0, Um HV.out.k1, Um HV.out.k2, Um HV.out.k3, Um HV.out.k4, Um HV.out.k5, Um HV.out.k6, Um HV.out.k7, Um HV.out.k8, Um HV.out.k9, Um HV.out.k10, Um HV.out.k11, Um HV.out.k12, Um HV.out.k13, Um HV.out.k14, fun _ => rfl, Um HV.out.k16, Um HV.out.k17, Um HV.out.k18, Um HV.out.k19, Um HV.out.k20, Um HV.out.k21, Um HV.out.k22, Um HV.out.k23, Um HV.out.k24, Um HV.out.k25, Um HV.out.k26, Um HV.out.k27, Um HV.out.k28, HV.out.g⟩⟩
  ·simp at ho
   subst ho
   have H15 := Lib.hid (hall { on := 15, ground := .data } (by simp) (by decide))
   clear hall hi
   have e0 := HV.out.k15 H15.out
   subst e0
   refine wpOp_step rfl (fun K' hK' => ?_)
   have HK := Lib.hid hK'
   clear hK'
   go_simp
   exact HK.out _ _ ⟨by simp [HJ.out.sz], ⟨_, _, _, _, _, _, _, _, _, _, _, _, _, _, _, _, _, _, _, _, _, _, _, _, _, _, _, _, _, rfl, Um HV.out.k0, Um HV.out.k1, Um HV.out.k2, Um HV.out.k3, Um HV.out.k4, Um HV.out.k5, Um HV.out.k6, Um HV.out.k7, Um HV.out.k8, Um HV.out.k9, Um HV.out.k10, Um HV.out.k11, Um HV.out.k12, Um HV.out.k13, Um HV.out.k14, Um HV.out.k15, fun _ => rfl, Um HV.out.k17, Um HV.out.k18, Um HV.out.k19, Um HV.out.k20, Um HV.out.k21, Um HV.out.k22, Um HV.out.k23, Um HV.out.k24, Um HV.out.k25, Um HV.out.k26, Um HV.out.k27, Um HV.out.k28, HV.out.g⟩⟩
  ·simp at ho
   subst ho
   have H16 := Lib.hid (hall { on := 16, ground := .guard } (by simp) (by decide))
   clear hall hi
   have e0 := HV.out.k16 H16.out
   subst e0
   refine wpOp_step rfl (fun K' hK' => ?_)
   have HK := Lib.hid hK'
   clear hK'
   go_simp
   exact HK.out _ _ ⟨by simp [HJ.out.sz], ⟨_, _, _, _, _, _, _, _, _, _, _, _, _, _, _, _, _, _, _, _, _, _, _, _, _, _, _, _, _, rfl, Um HV.out.k0, Um HV.out.k1, Um HV.out.k2, Um HV.out.k3, Um HV.out.k4, Um HV.out.k5, Um HV.out.k6, Um HV.out.k7, Um HV.out.k8, Um HV.out.k9, Um HV.out.k10, Um HV.out.k11, Um HV.out.k12, Um HV.out.k13, Um HV.out.k14, Um HV.out.k15, Um HV.out.k16, fun _ => rfl, Um HV.out.k18, Um HV.out.k19, Um HV.out.k20, Um HV.out.k21, Um HV.out.k22, Um HV.out.k23, Um HV.out.k24, Um HV.out.k25, Um HV.out.k26, Um HV.out.k27, Um HV.out.k28, HV.out.g⟩⟩
  ·simp at ho
   subst ho
   have H16 := Lib.hid (hall { on := 16, ground := .guard } (by simp) (by decide))
   clear hall hi
   have e0 := HV.out.k16 H16.out
   subst e0
   refine wpOp_step rfl (fun K' hK' => ?_)
   have HK := Lib.hid hK'
   clear hK'
   go_simp
   exact HK.out _ _ ⟨by simp [HJ.out.sz], ⟨_, _, _, _, _, _, _, _, _, _, _, _, _, _, _, _, _, _, _, _, _, _, _, _, _, _, _, _, _, rfl, Um HV.out.k0, Um HV.out.k1, Um HV.out.k2, Um HV.out.k3, Um HV.out.k4, Um HV.out.k5, Um HV.out.k6, Um HV.out.k7, Um HV.out.k8, Um HV.out.k9, Um HV.out.k10, Um HV.out.k11, Um HV.out.k12, Um HV.out.k13, Um HV.out.k14, Um HV.out.k15, Um HV.out.k16, Um HV.out.k17, fun _ => rfl, Um HV.out.k19, Um HV.out.k20, Um HV.out.k21, Um HV.out.k22, Um HV.out.k23, Um HV.out.k24, Um HV.out.k25, Um HV.out.k26, Um HV.out.k27, Um HV.out.k28, HV.out.g⟩⟩
  ·simp at ho
   subst ho
   have H17 := Lib.hid (hall { on := 17, ground := .data } (by simp) (by decide))
   have H18 := Lib.hid (hall { on := 18, ground := .data } (by simp) (by decide))
   have H16 := Lib.hid (hall { on := 16, ground := .guard } (by simp) (by decide))
   clear hall hi
   have e0 := HV.out.k17 H17.out
   subst e0
   have e1 := HV.out.k18 H18.out
   subst e1
   have e2 := HV.out.k16 H16.out
   subst e2
   have hkl := HKL.out
   refine wpOp_step rfl (fun K' hK' => ?_)
   have HK := Lib.hid hK'
   clear hK'
   go_simp
   exact HK.out _ _ ⟨by simp [HJ.out.sz], ⟨_, _, _, _, _, _, _, _, _, _, _, _, _, _, _, _, _, _, _, _, _, _, _, _, _, _, _, _, _, rfl, Um HV.out.k0, Um HV.out.k1, Um HV.out.k2, Um HV.out.k3, Um HV.out.k4, Um HV.out.k5, Um HV.out.k6, Um HV.out.k7, Um HV.out.k8, Um HV.out.k9, Um HV.out.k10, Um HV.out.k11, Um HV.out.k12, Um HV.out.k13, Um HV.out.k14, Um HV.out.k15, Um HV.out.k16, Um HV.out.k17, Um HV.out.k18, fun _ => rfl, Um HV.out.k20, Um HV.out.k21, Um HV.out.k22, Um HV.out.k23, Um HV.out.k24, Um HV.out.k25, Um HV.out.k26, Um HV.out.k27, Um HV.out.k28, HV.out.g⟩⟩
  ·simp at ho
   subst ho
   have H19 := Lib.hid (hall { on := 19, ground := .data } (by simp) (by decide))
   have H16 := Lib.hid (hall { on := 16, ground := .guard } (by simp) (by decide))
   clear hall hi
   have e0 := HV.out.k19 H19.out
   subst e0
   have e1 := HV.out.k16 H16.out
   subst e1
   obtain ⟨c0, c1, c2, c3', c4, c5, c6⟩ := HCX.out.below HV.out.g (by rw [add_block]; exact HAD.out)
   refine wpOp_step rfl (fun K' hK' => ?_)
   have HK := Lib.hid hK'
   clear hK'
   go_simp
   exact HK.out _ _ ⟨by simp [HJ.out.sz], ⟨_, _, _, _, _, _, _, _, _, _, _, _, _, _, _, _, _, _, _, _, _, _, _, _, _, _, _, _, _, rfl, Um HV.out.k0, Um HV.out.k1, Um HV.out.k2, Um HV.out.k3, Um HV.out.k4, Um HV.out.k5, Um HV.out.k6, Um HV.out.k7, Um HV.out.k8, Um HV.out.k9, Um HV.out.k10, Um HV.out.k11, Um HV.out.k12, Um HV.out.k13, Um HV.out.k14, Um HV.out.k15, Um HV.out.k16, Um HV.out.k17, Um HV.out.k18, Um HV.out.k19, fun _ => rfl, Um HV.out.k21, Um HV.out.k22, Um HV.out.k23, Um HV.out.k24, Um HV.out.k25, Um HV.out.k26, Um HV.out.k27, Um HV.out.k28, HV.out.g⟩⟩
  ·simp at ho
   subst ho
   have H16 := Lib.hid (hall { on := 16, ground := .guard } (by simp) (by decide))
   clear hall hi
   have e0 := HV.out.k16 H16.out
   subst e0
   have hxx := HX.out.below HV.out.g
   have c0 := Lib.cell_of_heap hxx 0; have c1 := Lib.cell_of_heap hxx 1; have c2 := Lib.cell_of_heap hxx 2; have c3 := Lib.cell_of_heap hxx 3; have c4 := Lib.cell_of_heap hxx 4; have c5 := Lib.cell_of_heap hxx 5; have c6 := Lib.cell_of_heap hxx 6; simp [Lot.cells] at c0 c1 c2 c3 c4 c5 c6
   refine wpOp_step rfl (fun K' hK' => ?_)
   have HK := Lib.hid hK'
   clear hK'
   go_simp
   exact HK.out _ _ ⟨by simp [HJ.out.sz], ⟨_, _, _, _, _, _, _, _, _, _, _, _, _, _, _, _, _, _, _, _, _, _, _, _, _, _, _, _, _, rfl, Um HV.out.k0, Um HV.out.k1, Um HV.out.k2, Um HV.out.k3, Um HV.out.k4, Um HV.out.k5, Um HV.out.k6, Um HV.out.k7, Um HV.out.k8, Um HV.out.k9, Um HV.out.k10, Um HV.out.k11, Um HV.out.k12, Um HV.out.k13, Um HV.out.k14, Um HV.out.k15, Um HV.out.k16, Um HV.out.k17, Um HV.out.k18, Um HV.out.k19, Um HV.out.k20, fun _ => rfl, Um HV.out.k22, Um HV.out.k23, Um HV.out.k24, Um HV.out.k25, Um HV.out.k26, Um HV.out.k27, Um HV.out.k28, HV.out.g⟩⟩
  ·simp at ho
   subst ho
   have H20 := Lib.hid (hall { on := 20, ground := .data } (by simp) (by decide))
   have H21 := Lib.hid (hall { on := 21, ground := .data } (by simp) (by decide))
   have H16 := Lib.hid (hall { on := 16, ground := .guard } (by simp) (by decide))
   clear hall hi
   have e0 := HV.out.k20 H20.out
   subst e0
   have e1 := HV.out.k21 H21.out
   subst e1
   have e2 := HV.out.k16 H16.out
   subst e2
   have hne := HNE.out
   refine wpOp_step rfl (fun K' hK' => ?_)
   have HK := Lib.hid hK'
   clear hK'
   go_simp
   exact HK.out _ _ ⟨by simp [HJ.out.sz], ⟨_, _, _, _, _, _, _, _, _, _, _, _, _, _, _, _, _, _, _, _, _, _, _, _, _, _, _, _, _, rfl, Um HV.out.k0, Um HV.out.k1, Um HV.out.k2, Um HV.out.k3, Um HV.out.k4, Um HV.out.k5, Um HV.out.k6, Um HV.out.k7, Um HV.out.k8, Um HV.out.k9, Um HV.out.k10, Um HV.out.k11, Um HV.out.k12, Um HV.out.k13, Um HV.out.k14, Um HV.out.k15, Um HV.out.k16, Um HV.out.k17, Um HV.out.k18, Um HV.out.k19, Um HV.out.k20, Um HV.out.k21, fun _ => rfl, Um HV.out.k23, Um HV.out.k24, Um HV.out.k25, Um HV.out.k26, Um HV.out.k27, Um HV.out.k28, HV.out.g⟩⟩
  ·simp at ho
   subst ho
   have H16 := Lib.hid (hall { on := 16, ground := .data } (by simp) (by decide))
   have H22 := Lib.hid (hall { on := 22, ground := .data } (by simp) (by decide))
   clear hall hi
   have e0 := HV.out.k16 H16.out
   subst e0
   have e1 := HV.out.k22 H22.out
   subst e1
   refine wpOp_step rfl (fun K' hK' => ?_)
   have HK := Lib.hid hK'
   clear hK'
   go_simp
   exact HK.out _ _ ⟨by simp [HJ.out.sz], ⟨_, _, _, _, _, _, _, _, _, _, _, _, _, _, _, _, _, _, _, _, _, _, _, _, _, _, _, _, _, rfl, Um HV.out.k0, Um HV.out.k1, Um HV.out.k2, Um HV.out.k3, Um HV.out.k4, Um HV.out.k5, Um HV.out.k6, Um HV.out.k7, Um HV.out.k8, Um HV.out.k9, Um HV.out.k10, Um HV.out.k11, Um HV.out.k12, Um HV.out.k13, Um HV.out.k14, Um HV.out.k15, Um HV.out.k16, Um HV.out.k17, Um HV.out.k18, Um HV.out.k19, Um HV.out.k20, Um HV.out.k21, Um HV.out.k22, fun _ => rfl, Um HV.out.k24, Um HV.out.k25, Um HV.out.k26, Um HV.out.k27, Um HV.out.k28, HV.out.g⟩⟩
  ·simp at ho
   subst ho
   have H23 := Lib.hid (hall { on := 23, ground := .data } (by simp) (by decide))
   clear hall hi
   have e0 := HV.out.k23 H23.out
   subst e0
   refine wpOp_step rfl (fun K' hK' => ?_)
   have HK := Lib.hid hK'
   clear hK'
   go_simp
   exact HK.out _ _ ⟨by simp [HJ.out.sz], ⟨_, _, _, _, _, _, _, _, _, _, _, _, _, _, _, _, _, _, _, _, _, _, _, _, _, _, _, _, _, rfl, Um HV.out.k0, Um HV.out.k1, Um HV.out.k2, Um HV.out.k3, Um HV.out.k4, Um HV.out.k5, Um HV.out.k6, Um HV.out.k7, Um HV.out.k8, Um HV.out.k9, Um HV.out.k10, Um HV.out.k11, Um HV.out.k12, Um HV.out.k13, Um HV.out.k14, Um HV.out.k15, Um HV.out.k16, Um HV.out.k17, Um HV.out.k18, Um HV.out.k19, Um HV.out.k20, Um HV.out.k21, Um HV.out.k22, Um HV.out.k23, fun _ => rfl, Um HV.out.k25, Um HV.out.k26, Um HV.out.k27, Um HV.out.k28, HV.out.g⟩⟩
  ·simp at ho
   subst ho
   have H24 := Lib.hid (hall { on := 24, ground := .guard } (by simp) (by decide))
   clear hall hi
   have e0 := HV.out.k24 H24.out
   subst e0
   refine wpOp_step rfl (fun K' hK' => ?_)
   have HK := Lib.hid hK'
   clear hK'
   go_simp
   exact HK.out _ _ ⟨by simp [HJ.out.sz], ⟨_, _, _, _, _, _, _, _, _, _, _, _, _, _, _, _, _, _, _, _, _, _, _, _, _, _, _, _, _, rfl, Um HV.out.k0, Um HV.out.k1, Um HV.out.k2, Um HV.out.k3, Um HV.out.k4, Um HV.out.k5, Um HV.out.k6, Um HV.out.k7, Um HV.out.k8, Um HV.out.k9, Um HV.out.k10, Um HV.out.k11, Um HV.out.k12, Um HV.out.k13, Um HV.out.k14, Um HV.out.k15, Um HV.out.k16, Um HV.out.k17, Um HV.out.k18, Um HV.out.k19, Um HV.out.k20, Um HV.out.k21, Um HV.out.k22, Um HV.out.k23, Um HV.out.k24, fun _ => rfl, Um HV.out.k26, Um HV.out.k27, Um HV.out.k28, HV.out.g⟩⟩
  ·simp at ho
   subst ho
   have H25 := Lib.hid (hall { on := 25, ground := .data } (by simp) (by decide))
   have H24 := Lib.hid (hall { on := 24, ground := .chain } (by simp) (by decide))
   clear hall hi
   have e0 := HV.out.k25 H25.out
   subst e0
   have e1 := HV.out.k24 H24.out
   subst e1
   refine wpOp_step rfl (fun K' hK' => ?_)
   have HK := Lib.hid hK'
   clear hK'
   go_simp
   refine (HCM.out w' HV.out.g).mono ?_
   rintro e wn ⟨rfl, bn⟩
   exact HK.out _ _ ⟨by simp [HJ.out.sz], ⟨_, _, _, _, _, _, _, _, _, _, _, _, _, _, _, _, _, _, _, _, _, _, _, _, _, _, _, _, _, rfl, Um HV.out.k0, Um HV.out.k1, Um HV.out.k2, Um HV.out.k3, Um HV.out.k4, Um HV.out.k5, Um HV.out.k6, Um HV.out.k7, Um HV.out.k8, Um HV.out.k9, Um HV.out.k10, Um HV.out.k11, Um HV.out.k12, Um HV.out.k13, Um HV.out.k14, Um HV.out.k15, Um HV.out.k16, Um HV.out.k17, Um HV.out.k18, Um HV.out.k19, Um HV.out.k20, Um HV.out.k21, Um HV.out.k22, Um HV.out.k23, Um HV.out.k24, Um HV.out.k25, fun _ => rfl, Um HV.out.k27, Um HV.out.k28, HV.out.g.trans (bn.mono HV.out.g.size)⟩⟩
  ·simp at ho
   subst ho
   have H26 := Lib.hid (hall { on := 26, ground := .data } (by simp) (by decide))
   have H24 := Lib.hid (hall { on := 24, ground := .guard } (by simp) (by decide))
   clear hall hi
   have e0 := HV.out.k26 H26.out
   subst e0
   have e1 := HV.out.k24 H24.out
   subst e1
   refine wpOp_step rfl (fun K' hK' => ?_)
   have HK := Lib.hid hK'
   clear hK'
   go_simp
   exact HK.out _ _ ⟨by simp [HJ.out.sz], ⟨_, _, _, _, _, _, _, _, _, _, _, _, _, _, _, _, _, _, _, _, _, _, _, _, _, _, _, _, _, rfl, Um HV.out.k0, Um HV.out.k1, Um HV.out.k2, Um HV.out.k3, Um HV.out.k4, Um HV.out.k5, Um HV.out.k6, Um HV.out.k7, Um HV.out.k8, Um HV.out.k9, Um HV.out.k10, Um HV.out.k11, Um HV.out.k12, Um HV.out.k13, Um HV.out.k14, Um HV.out.k15, Um HV.out.k16, Um HV.out.k17, Um HV.out.k18, Um HV.out.k19, Um HV.out.k20, Um HV.out.k21, Um HV.out.k22, Um HV.out.k23, Um HV.out.k24, Um HV.out.k25, Um HV.out.k26, fun _ => rfl, Um HV.out.k28, HV.out.g⟩⟩
  ·simp at ho
   subst ho
   have H24 := Lib.hid (hall { on := 24, ground := .data } (by simp) (by decide))
   have H27 := Lib.hid (hall { on := 27, ground := .data } (by simp) (by decide))
   clear hall hi
   have e0 := HV.out.k24 H24.out
   subst e0
   have e1 := HV.out.k27 H27.out
   subst e1
   refine wpOp_step rfl (fun K' hK' => ?_)
   have HK := Lib.hid hK'
   clear hK'
   go_simp
   exact HK.out _ _ ⟨by simp [HJ.out.sz], ⟨_, _, _, _, _, _, _, _, _, _, _, _, _, _, _, _, _, _, _, _, _, _, _, _, _, _, _, _, _, rfl, Um HV.out.k0, Um HV.out.k1, Um HV.out.k2, Um HV.out.k3, Um HV.out.k4, Um HV.out.k5, Um HV.out.k6, Um HV.out.k7, Um HV.out.k8, Um HV.out.k9, Um HV.out.k10, Um HV.out.k11, Um HV.out.k12, Um HV.out.k13, Um HV.out.k14, Um HV.out.k15, Um HV.out.k16, Um HV.out.k17, Um HV.out.k18, Um HV.out.k19, Um HV.out.k20, Um HV.out.k21, Um HV.out.k22, Um HV.out.k23, Um HV.out.k24, Um HV.out.k25, Um HV.out.k26, Um HV.out.k27, fun _ => rfl, HV.out.g⟩⟩
end Go.Proofs.YtdnmpgoigagjmaaGreatDoor
