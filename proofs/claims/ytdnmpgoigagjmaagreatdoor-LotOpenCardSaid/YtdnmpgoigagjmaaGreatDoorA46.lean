/-
  The walk of lot.Open. (Printed by gen_opn2.py.)
-/
import Derived.Test.YtdnmpgoigagjmaaGreatDoorA45
import Derived.Deep.RegionWith
set_option linter.unusedVariables false
set_option linter.unusedSimpArgs false
namespace Go.Proofs.YtdnmpgoigagjmaaGreatDoor
open Go.RowKit Tr Go.Shelf
def OpnPost (w : World) (ls : List SLot) (x : SLot) (e : Ending) (w' : World) : Prop :=
 ∃ (A' : Option Addr) (c' : Nat) (res : List SLot), e = .returned (.tuple #[.slice A' res.length c', .int .i64 (opnE (ls.map Subtype.val) x.1)]) ∧ Below w.heap.size w w' ∧ RdB w'.heap.size w' A' res ∧ res.length ≤ c' ∧
  (opnE (ls.map Subtype.val) x.1 ≠ 0 → res = []) ∧ (opnE (ls.map Subtype.val) x.1 = 0 → ∃ k, IsPl (ls.map Subtype.val) x.1.inst k ∧ res = insAt ls k x)
theorem opnPost_no {w w' : World} {ls : List SLot} {lz : List Lot} {x : SLot} {E : Int} (hz : ls.map Subtype.val = lz) (h : opnE lz x.1 = E) (h0 : E ≠ 0) (A : Option Addr) (c : Nat) (hb : Below w.heap.size w w') : OpnPost w ls x (.returned (.tuple #[.slice A 0 c, .int .i64 E])) w' :=
 ⟨A, c, [], by rw [hz, h]; rfl, hb, fun e => absurd rfl e, Nat.zero_le _, fun _ => rfl, fun e => absurd (h.symm.trans (by rw [hz] at e; exact e)) h0⟩
theorem le_cases (a b : ByteArray) : (bl b a = false ∧ Op.bytesLess a.toList b.toList = true ∧ (a.toList == b.toList) = false) ∨ (bl b a = false ∧ Op.bytesLess a.toList b.toList = false ∧ (a.toList == b.toList) = true) ∨
 (bl b a = true ∧ Op.bytesLess a.toList b.toList = false ∧ (a.toList == b.toList) = false) := by
 have e : (a.toList == b.toList) = decide (a = b) := bytes_eq a b
 by_cases h : a = b
 ·subst h
  exact .inr (.inl ⟨bl_irr a, bl_irr a, by rw [e]; exact decide_eq_true rfl⟩)
 ·rw [e, decide_eq_false h]
  cases h1 : bl b a
  ·refine .inl ⟨rfl, ?_, rfl⟩
   cases h2 : bl a b
   ·exfalso
    refine h ((tl_iff a b).1 ?_)
    have n1 : ¬ b.toList < a.toList := fun x => by rw [(bl_iff b a).2 x] at h1; cases h1
    have n2 : ¬ a.toList < b.toList := fun x => by rw [(bl_iff a b).2 x] at h2; cases h2
    rcases List.le_iff_lt_or_eq.1 (List.not_lt.1 n1) with x | x
    ·exact absurd x n2
    ·exact x
   ·exact h2
  ·exact .inr (.inr ⟨rfl, bl_asymm h1, rfl⟩)
structure OPV (wS : World) (x : Lot) (Bx : Nat) (A : Option Addr) (N c k : Nat) (fl fr : List Value) (Bn : Nat) (L : Array Bool) (W : World) (s4 s5 s46 s47 s48 s49 s50 s51 : Value) : Prop where
 k0 : L.getD 0 false = true → s46 = .slice A N c
 k2 : L.getD 2 false = true → s48 = .int .i64 (k : Int)
 k3 : L.getD 3 false = true → s49 = .agg #[.string x.id, .string x.inst, .int .i64 x.acq, .int .i64 x.opn, .string x.qty, .string x.cost, .string x.used]
 k4 : L.getD 4 false = true → s50 = .slice (some ⟨Bn, 0, none⟩) 1 1
 k7 : L.getD 7 false = true → s5 = .int .i64 0
 g : Below wS.heap.size wS W
 r1 : L.getD 1 false = true → L.getD 5 false = false → W.ownsRow wS.heap.size 49 7 s47 N fl
 t4 : L.getD 4 false = true → L.getD 5 false = false → LotBox W Bn x
 ne : L.getD 1 false = true → L.getD 4 false = true → L.getD 5 false = false → s47.ownBlock ≠ some Bn
 r5 : L.getD 5 false = true → W.ownsRow wS.heap.size 49 7 s51 (N + 1) fr
 r6 : L.getD 6 false = true → W.ownsRow wS.heap.size 49 7 s4 (N + 1) fr
 q5 : L.getD 5 false = true → L.getD 1 false = true ∧ L.getD 4 false = true
 q6 : L.getD 6 false = true → L.getD 5 false = true
structure OPJ (wS : World) (x : Lot) (Bx : Nat) (A : Option Addr) (N c k : Nat) (fl fr : List Value) (x1 x2 x6 x7 x8 x10 x11 x12 x13 x14 x15 x16 x17 x18 x19 x20 x21 x22 x23 x24 x25 x26 x27 x28 x29 x30 x31 x32 x33 x34 x35 x36 x37 x38 x39 x40 x41 x42 x43 x44 x45 : Value) (L : Array Bool) (a : Act) (W : World) : Prop where
 sz : L.size = 8
 fr : ∃ Bn : Nat, ∃ s4 s5 s46 s47 s48 s49 s50 s51 : Value, a = { tmps := #[.slice A N c, x1, x2, .pointer (some ⟨Bx, 0, none⟩), s4, s5, x6, x7, x8, .int .i64 (k : Int), x10, x11, x12, x13, x14, x15, x16, x17, x18, x19, x20, x21, x22, x23, x24, x25, x26, x27, x28, x29, x30, x31, x32, x33, x34, x35, x36, x37, x38, x39, x40, x41, x42, x43, x44, x45, s46, s47, s48, s49, s50, s51], defers := [] } ∧ OPV wS x Bx A N c k fl fr Bn L W s4 s5 s46 s47 s48 s49 s50 s51
set_option maxHeartbeats 16000000 in
set_option maxRecDepth 100000 in
theorem lOpen_any (n₀ : Nat) (A : Option Addr) (ls : List SLot) (c : Nat) (hc : ls.length ≤ c) (hlen : ls.length ≤ 100000) (x : SLot) (w : World) (hR : RdB n₀ w A ls) (hn : n₀ ≤ w.heap.size) (hA : A = none → ls.length = 0 ∧ c = 0) (ht : Tabs w) :
 Calls Tryz.prog 49 #[.slice A ls.length c, x.1.enc] w (OpnPost w ls x) := by
 obtain ⟨x, hs⟩ := x
 obtain ⟨W0, hW0, hB0, hk0⟩ := lbox x w
 obtain ⟨N, hN⟩ : ∃ N, ls.length = N := ⟨_, rfl⟩
 obtain ⟨lz, hlz⟩ : ∃ lz, ls.map Subtype.val = lz := ⟨_, rfl⟩
 have hNm : lz.length = N := by rw [← hlz, List.length_map, hN]
 have HLZ := Lib.hid hlz
 have HX0 : Hid (LotBox W0 w.heap.size x) := hk0
 have HB0 := Lib.hid hB0
 have HR := Lib.hid hR
 have HT := Lib.hid ht
 have HA := Lib.hid hA
 have HNn := Lib.hid hn
 have HCN := Lib.hid hc
 have HSZ := Lib.hid hs
 have HCA := fun W (hW : Below w.heap.size w W) => lCheckAll_any A c (ls.map Subtype.val) (by rw [List.length_map]; exact hc) (by rw [List.length_map]; omega) W (((hR.below (hW.mono hn)).rdb').rdl (Nat.le_trans hn hW.size)) (fun l hl => by obtain ⟨y, _, rfl⟩ := List.mem_map.1 hl; exact y.2) (ht.below hW)
 have HFI := fun W (hW : Below w.heap.size w W) => lFind_any n₀ A (ls.map Subtype.val) c x.id (by rw [List.length_map]; omega) W ((hR.below (hW.mono hn)).rdb') (Nat.le_trans hn hW.size)
 have HCLO := fun W (hW : Below w.heap.size w W) => cloneLots_own A ls c n₀ W (hR.below (hW.mono hn)) (Nat.le_trans hn hW.size) hlen hA
 rw [hN] at HCLO hlen ⊢
 rw [hlz] at HCA HFI
 rw [hNm] at HCA HFI
 replace HCA := Lib.hid HCA
 replace HFI := Lib.hid HFI
 replace HCLO := Lib.hid HCLO
 have HCK := Lib.hid (fun W (hW : Below w.heap.size w W) => lCheck_any x hs W (ht.below hW))
 unfold Lot.enc Lot.cells at HCK
 have HNM := Lib.hid hNm
 have HN := Lib.hid hN
 have x0 := Lib.cell_of_heap hk0 0
 have x1 := Lib.cell_of_heap hk0 1
 have x2 := Lib.cell_of_heap hk0 2
 have x3 := Lib.cell_of_heap hk0 3
 have x4 := Lib.cell_of_heap hk0 4
 have x5 := Lib.cell_of_heap hk0 5
 have x6 := Lib.cell_of_heap hk0 6
 simp [Lot.cells] at x0 x1 x2 x3 x4 x5 x6
 clear hR ht hA hn hc hk0 hB0 hNm hN hlz
 unfold Lot.enc Lot.cells at *
 go_enter Tryz.func49, Tryz.ntmps49
 go_wp2_with fail
 refine (HCA.out W0 HB0.out).mono ?_
 rintro e w1 ⟨rfl, b1⟩
 have HB1 := Lib.hid (HB0.out.trans (b1.mono HB0.out.size))
 have HX1 := Lib.hid (HX0.out.below b1)
 clear b1 x0 x1 x2 x3 x4 x5 x6
 by_cases h0 : lall lz = 0
 case neg =>
  have t1 : (lall lz == 0) = false := beq_eq_false_iff_ne.2 h0
  have t2 : (lall lz != 0) = true := by rw [bne, t1]; rfl
  have HE := Lib.hid (opnE_all (x := x) h0)
  clear h0
  go_wp2_with fail
  go_ret2
  exact opnPost_no (x := ⟨x, HSZ.out⟩) HLZ.out HE.out (by decide) _ _ HB1.out
 have H0 := Lib.hid h0
 rw [h0]
 clear h0
 have x0 := Lib.cell_of_heap HX1.out 0
 have x1 := Lib.cell_of_heap HX1.out 1
 have x2 := Lib.cell_of_heap HX1.out 2
 have x3 := Lib.cell_of_heap HX1.out 3
 have x4 := Lib.cell_of_heap HX1.out 4
 have x5 := Lib.cell_of_heap HX1.out 5
 have x6 := Lib.cell_of_heap HX1.out 6
 simp [Lot.cells] at x0 x1 x2 x3 x4 x5 x6
 go_wp2_with fail
 refine (HCK.out w1 HB1.out).mono ?_
 rintro e w2 ⟨rfl, b2⟩
 have HB2 := Lib.hid (HB1.out.trans (b2.mono HB1.out.size))
 have HX2 := Lib.hid (HX1.out.below b2)
 clear b2 x0 x1 x2 x3 x4 x5 x6 HX1 HB1
 by_cases h1 : lchk x = 0
 case neg =>
  have t1 : (lchk x == 0) = false := beq_eq_false_iff_ne.2 h1
  have t2 : (lchk x != 0) = true := by rw [bne, t1]; rfl
  have HE := Lib.hid (And.intro (opnE_chk H0.out h1) h1)
  clear h1
  go_wp2_with fail
  go_ret2
  exact opnPost_no (x := ⟨x, HSZ.out⟩) HLZ.out HE.out.1 HE.out.2 _ _ HB2.out
 have H1 := Lib.hid h1
 rw [h1]
 clear h1
 have x0 := Lib.cell_of_heap HX2.out 0
 simp [Lot.cells] at x0
 go_wp2_with fail
 refine (HFI.out w2 HB2.out).mono ?_
 rintro e w3 ⟨rfl, b3⟩
 have HB3 := Lib.hid (HB2.out.trans (b3.mono HB2.out.size))
 have HX3 := Lib.hid (HX2.out.below b3)
 clear b3 x0 HX2 HB2
 generalize hf : findR lz x.id 0 = fr
 obtain ⟨kf, bf⟩ := fr
 have HFR := Lib.hid hf
 clear hf
 cases bf
 case true =>
  have HE := Lib.hid (opnE_was H0.out H1.out (by rw [HFR.out]))
  go_wp2_with fail
  go_ret2
  exact opnPost_no (x := ⟨x, HSZ.out⟩) HLZ.out HE.out (by decide) _ _ HB3.out
 rcases Nat.lt_or_ge N 1000 with hlt | hge
 case inr =>
  have t1 : decide ((N : Int) ≥ 1000) = true := decide_eq_true (by omega)
  have t2 : decide ((1000 : Int) ≤ (N : Int)) = true := decide_eq_true (by omega)
  have HE := Lib.hid (opnE_lim H0.out H1.out (by rw [HFR.out]) (by rw [HNM.out]; exact hge))
  clear hge
  go_wp2_with fail
  go_ret2
  exact opnPost_no (x := ⟨x, HSZ.out⟩) HLZ.out HE.out (by decide) _ _ HB3.out
 have t1 : decide ((N : Int) ≥ 1000) = false := decide_eq_false (by omega)
 have t2 : decide ((1000 : Int) ≤ (N : Int)) = false := decide_eq_false (by omega)
 have HE := Lib.hid (opnE_ok H0.out H1.out (by rw [HFR.out]) (by rw [HNM.out]; exact hlt))
 have HLT := Lib.hid hlt
 clear hlt HCA HCK HFI
 go_wp2_with fail
 go_loopw [9, 33] (fun v9 v wr => ∃ k m : Nat, v = .int .i64 (k : Int) ∧ v9 = .int .i64 (m : Int) ∧ k ≤ N ∧ UpPl lz x.inst k m ∧ Below w3.heap.size w3 wr) (fun _ v _ => N - (intOf v).toNat)
 case atStart => exact ⟨0, 0, rfl, rfl, by omega, UpPl.start _ _, Below.refl _ _⟩
 case round =>
  obtain ⟨k, m, rfl, rfl, hk, hu, hb⟩ := hrel
  have HU := Lib.hid hu
  have HB := Lib.hid hb
  clear hu hb
  rcases Nat.lt_or_ge k N with hlt | hge
  ·obtain ⟨y, hy⟩ : ∃ y, ls[k]? = some y := ⟨_, List.getElem?_eq_getElem (by rw [HN.out]; exact hlt)⟩
   obtain ⟨ad, rfl, had, hcell⟩ := HR.out (by intro e; rw [e] at hy; cases hy)
   have hcx : decide ((k : Int) < (N : Int)) = true := by simp; omega
   obtain ⟨c0, c1, c2, c3, c4, c5, c6⟩ := ((hcell k y hy).below (HB3.out.mono HNn.out) (by rw [add_block]; exact had)).below (HB.out.mono (Nat.le_trans HNn.out HB3.out.size)) (by rw [add_block]; exact had)
   have HY : Hid (lz[k]? = some y.1) := by rw [Hid, ← HLZ.out, List.getElem?_map, hy]; rfl
   obtain ⟨W5, hW5⟩ : ∃ W5, wr.alloc (.cells y.1.cells 49) = W5 := ⟨_, rfl⟩
   have k5 : LotBox W5 wr.heap.size y.1 := by rw [← hW5]; exact heap_alloc_new wr _
   have b5 : Below wr.heap.size wr W5 := by rw [← hW5]; exact (Below.refl _ wr).alloc (Nat.le_refl _) _
   have HB5 := Lib.hid (HB.out.trans (b5.mono HB.out.size))
   have m1 := Lib.cell_of_heap k5 1
   have k6 := (HX3.out.below HB.out).below b5
   have x1 := Lib.cell_of_heap k6 1
   simp [Lot.cells] at m1 x1
   clear hcell hy k5 b5 k6
   unfold Lot.cells at hW5
   rcases le_cases y.1.inst x.inst with ⟨h1, h2, h3⟩ | ⟨h1, h2, h3⟩ | ⟨h1, h2, h3⟩
   ·have HU2 := Lib.hid (UpPl.yes HY.out h1)
    clear h1
    go_wp2_with fail
    go_roundw
    case rel => exact ⟨k + 1, k + 1, by go_num, by go_num, by omega, HU2.out, HB5.out⟩
    case measure => simp [intOf]; omega
   ·have HU2 := Lib.hid (UpPl.yes HY.out h1)
    clear h1
    go_wp2_with fail
    go_roundw
    case rel => exact ⟨k + 1, k + 1, by go_num, by go_num, by omega, HU2.out, HB5.out⟩
    case measure => simp [intOf]; omega
   ·have HU2 := Lib.hid (HU.out.no HY.out h1)
    clear h1
    go_wp2_with fail
    go_roundw
    case rel => exact ⟨k + 1, m, by go_num, rfl, by omega, HU2.out, HB5.out⟩
    case measure => simp [intOf]; omega
  ·have hcx : decide ((k : Int) < (N : Int)) = false := by simp; omega
   have HPL := Lib.hid (HU.out.done (by rw [HNM.out]; omega))
   have hcx2 : ¬ k < N := by omega
   clear HU hge hk
   have HKN : Hid (m ≤ N) := by have h := HPL.out.le; rwa [HNM.out] at h
   have HFO := Lib.hid (flatL_one ls)
   have HFL := Lib.hid (insAt_flat ls m ⟨x, HSZ.out⟩ (by rw [HN.out]; exact HKN.out))
   have HNL : Hid (N ≤ 100000) := by have := HLT.out; show N ≤ _; omega
   have HGS := Lib.hid (HB3.out.trans (HB.out.mono HB3.out.size))
   have HX := Lib.hid (HX3.out.below HB.out)
   have HCLO2 : Hid (∀ W, Below wr.heap.size wr W → Calls Tryz.prog 36 #[.slice A N c] W fun e w' => ∃ v, e = .returned v ∧ w'.ownsRow W.heap.size 49 7 v N (flatL ls) ∧ Below W.heap.size W w') := fun W hW => HCLO.out W (HGS.out.trans (hW.mono HGS.out.size))
   have HINS : Hid (∀ (v : Value) (Bn : Nat) (W : World), W.ownsRow wr.heap.size 49 7 v N (flatL ls) → LotBox W Bn x → v.ownBlock ≠ some Bn → Below wr.heap.size wr W → Calls Tryz.prog 110 #[v, .int .i64 (m : Int), .slice (some ⟨Bn, 0, none⟩) 1 1] W fun e w' => ∃ v', e = .returned v' ∧ w'.ownsRow wr.heap.size 49 7 v' (N + 1) (flatL (insAt ls m ⟨x, HSZ.out⟩)) ∧ Below wr.heap.size W w') := fun v Bn W h1 h2 h3 h4 => by
    refine (insLots_any wr.heap.size v N (flatL ls) x Bn 1 m W h1 HFO.out h2 h3 HKN.out HNL.out h4.size).mono ?_
    rintro e w' ⟨v7, rfl, ho, bn⟩
    rw [HFL.out] at ho
    exact ⟨v7, rfl, ho, bn⟩
   clear HFO HFL HNL HCLO
   go_upto_region 18 with fail
   have hgS : Below wr.heap.size wr wr.drew := (Below.refl _ _).drew
   have mixed : Tryz.prog.follows .mixedOrders = true := by kernel_rfl
   refine wp_region_any mixed (wpAny_inv (OPJ wr x w.heap.size A N c m (flatL ls) (flatL (insAt ls m ⟨x, HSZ.out⟩)) _ _ _ _ _ _ _ _ _ _ _ _ _ _ _ _ _ _ _ _ _ _ _ _ _ _ _ _ _ _ _ _ _ _ _ _ _ _ _ _ _) ?stOP ?dnOP _ _ _ _ ⟨by simp, ⟨0, _, _, _, _, _, _, _, _, rfl, fun h => by simp at h, fun h => by simp at h, fun h => by simp at h, fun h => by simp at h, fun h => by simp at h, hgS, fun h => by simp at h, fun h => by simp at h, fun h => by simp at h, fun h => by simp at h, fun h => by simp at h, fun h => by simp at h, fun h => by simp at h⟩⟩ (by decide))
   case dnOP =>
    intro L a w' hj hr
    have all : ∀ i, i < 8 → L.getD i false = true := by
     intro i
     induction i using Nat.strongRecOn with
     | ind i ih =>
       intro hi
       refine (off_or_on L i).resolve_left fun h => ?_
       refine List.eq_nil_iff_forall_not_mem.1 hr i (ready_of (by rw [hj.sz]; exact hi) h (Array.getElem?_eq_getElem (by simpa using hi)) (fun e he hbd => ih e.on ?_ ?_))
       ·rcases (show i = 0 ∨ i = 1 ∨ i = 2 ∨ i = 3 ∨ i = 4 ∨ i = 5 ∨ i = 6 ∨ i = 7 from by omega) with rfl | rfl | rfl | rfl | rfl | rfl | rfl | rfl
        ·simp at he
        ·simp at he
         subst he
         first | decide | (exact absurd hbd (by decide))
        ·simp at he
        ·simp at he
        ·simp at he
         subst he
         first | decide | (exact absurd hbd (by decide))
        ·simp at he
         rcases he with rfl | rfl | rfl | rfl
         all_goals first | decide | (exact absurd hbd (by decide))
        ·simp at he
         rcases he with rfl | rfl | rfl | rfl | rfl | rfl | rfl | rfl
         all_goals first | decide | (exact absurd hbd (by decide))
        ·simp at he
         rcases he with rfl | rfl | rfl | rfl | rfl | rfl | rfl | rfl
         all_goals first | decide | (exact absurd hbd (by decide))
       ·rcases (show i = 0 ∨ i = 1 ∨ i = 2 ∨ i = 3 ∨ i = 4 ∨ i = 5 ∨ i = 6 ∨ i = 7 from by omega) with rfl | rfl | rfl | rfl | rfl | rfl | rfl | rfl
        ·simp at he
        ·simp at he
         subst he
         first | decide | (exact absurd hbd (by decide))
        ·simp at he
        ·simp at he
        ·simp at he
         subst he
         first | decide | (exact absurd hbd (by decide))
        ·simp at he
         rcases he with rfl | rfl | rfl | rfl
         all_goals first | decide | (exact absurd hbd (by decide))
        ·simp at he
         rcases he with rfl | rfl | rfl | rfl | rfl | rfl | rfl | rfl
         all_goals first | decide | (exact absurd hbd (by decide))
        ·simp at he
         rcases he with rfl | rfl | rfl | rfl | rfl | rfl | rfl | rfl
         all_goals first | decide | (exact absurd hbd (by decide))
    obtain ⟨Bn, s4, s5, s46, s47, s48, s49, s50, s51, rfl, hv⟩ := hj.fr
    have e5 := hv.k7 (all 7 (by omega))
    subst e5
    have HF := Lib.hid (And.intro hv.g (hv.r6 (all 6 (by omega))))
    clear all hv hj hr
    have ho : w'.ownsRow wr.heap.size 49 7 s4 (insAt ls m ⟨x, HSZ.out⟩).length (flatL (insAt ls m ⟨x, HSZ.out⟩)) := by rw [insAt_len _ (by rw [HN.out]; exact HKN.out), HN.out]; exact HF.out.2
    obtain ⟨A2, c2, e4, hc2, _, hr2⟩ := RdB.of_own ho
    subst e4
    have HF2 := Lib.hid (And.intro hc2 hr2)
    clear hc2 hr2 ho
    dsimp only
    go_wp2_with fail
    go_ret2
    exact ⟨A2, c2, insAt ls m ⟨x, HSZ.out⟩, by rw [HLZ.out, HE.out]; rfl, HGS.out.trans (HF.out.1.mono HGS.out.size), HF2.out.2, HF2.out.1, fun h => absurd (by rw [HLZ.out]; exact HE.out) h, fun _ => ⟨m, by rw [HLZ.out]; exact HPL.out, rfl⟩⟩
   case stOP =>
    intro L a w' hj i hi
    obtain ⟨hun, o, ho, hall⟩ := mem_ready.1 hi
    have hoff := getD_off hun
    have hlt := (Array.getElem?_eq_some_iff.1 ho).1
    simp at hlt
    obtain ⟨Bn, s4, s5, s46, s47, s48, s49, s50, s51, rfl, hv⟩ := hj.fr
    have HV := Lib.hid hv
    have HJ := Lib.hid hj
    clear hv hj
    rcases (show i = 0 ∨ i = 1 ∨ i = 2 ∨ i = 3 ∨ i = 4 ∨ i = 5 ∨ i = 6 ∨ i = 7 from by omega) with rfl | rfl | rfl | rfl | rfl | rfl | rfl | rfl
    ·simp at ho
     subst ho
     clear hall hi
     refine wpOp_step rfl (fun K' hK' => ?_)
     have HK := Lib.hid hK'
     clear hK'
     go_simp
     exact HK.out _ _ ⟨by simp [HJ.out.sz], ⟨_, _, _, _, _, _, _, _, _, rfl, fun _ => rfl, Um HV.out.k2, Um HV.out.k3, Um HV.out.k4, Um HV.out.k7, HV.out.g, fun h i => HV.out.r1 (Uz h) (Dz i), fun h i => HV.out.t4 (Uz h) (Dz i), fun h i j => HV.out.ne (Uz h) (Uz i) (Dz j), Um HV.out.r5, Um HV.out.r6, fun h => ⟨getD_up hun (HV.out.q5 (Uz h)).1, getD_up hun (HV.out.q5 (Uz h)).2⟩, fun h => getD_up hun (HV.out.q6 (Uz h))⟩⟩
    ·simp at ho
     subst ho
     have H0 := Lib.hid (hall { on := 0, ground := .data } (by simp) (by decide))
     clear hall hi
     have e0 := HV.out.k0 H0.out
     subst e0
     refine wpOp_step rfl (fun K' hK' => ?_)
     have HK := Lib.hid hK'
     clear hK'
     go_simp
     refine (HCLO2.out w' HV.out.g).mono ?_
     rintro e wn ⟨v7, rfl, ho, bn⟩
     exact HK.out _ _ ⟨by simp [HJ.out.sz], ⟨_, _, _, _, _, _, _, _, _, rfl, Um HV.out.k0, Um HV.out.k2, Um HV.out.k3, Um HV.out.k4, Um HV.out.k7, HV.out.g.trans (bn.mono HV.out.g.size), fun _ _ => own_mono ho HV.out.g.size, fun h i => (HV.out.t4 (Uz h) (Dz i)).below bn, fun _ h i e => by have h1 := (HV.out.t4 (Uz h) (Dz i)).lt; have h2 := (ho.lt _ e).1; omega, fun h => (not_on hoff (HV.out.q5 (Uz h)).1).elim, fun h => (not_on hoff (HV.out.q5 (HV.out.q6 (Uz h))).1).elim, fun h => ⟨getD_up hun (HV.out.q5 (Uz h)).1, getD_up hun (HV.out.q5 (Uz h)).2⟩, fun h => getD_up hun (HV.out.q6 (Uz h))⟩⟩
    ·simp at ho
     subst ho
     clear hall hi
     refine wpOp_step rfl (fun K' hK' => ?_)
     have HK := Lib.hid hK'
     clear hK'
     go_simp
     exact HK.out _ _ ⟨by simp [HJ.out.sz], ⟨_, _, _, _, _, _, _, _, _, rfl, Um HV.out.k0, fun _ => rfl, Um HV.out.k3, Um HV.out.k4, Um HV.out.k7, HV.out.g, fun h i => HV.out.r1 (Uz h) (Dz i), fun h i => HV.out.t4 (Uz h) (Dz i), fun h i j => HV.out.ne (Uz h) (Uz i) (Dz j), Um HV.out.r5, Um HV.out.r6, fun h => ⟨getD_up hun (HV.out.q5 (Uz h)).1, getD_up hun (HV.out.q5 (Uz h)).2⟩, fun h => getD_up hun (HV.out.q6 (Uz h))⟩⟩
    ·simp at ho
     subst ho
     clear hall hi
     have hxx := HX.out.below HV.out.g
     have c0 := Lib.cell_of_heap hxx 0; have c1 := Lib.cell_of_heap hxx 1; have c2 := Lib.cell_of_heap hxx 2; have c3 := Lib.cell_of_heap hxx 3; have c4 := Lib.cell_of_heap hxx 4; have c5 := Lib.cell_of_heap hxx 5; have c6 := Lib.cell_of_heap hxx 6; simp [Lot.cells] at c0 c1 c2 c3 c4 c5 c6
     refine wpOp_step rfl (fun K' hK' => ?_)
     have HK := Lib.hid hK'
     clear hK'
     go_simp
     exact HK.out _ _ ⟨by simp [HJ.out.sz], ⟨_, _, _, _, _, _, _, _, _, rfl, Um HV.out.k0, Um HV.out.k2, fun _ => rfl, Um HV.out.k4, Um HV.out.k7, HV.out.g, fun h i => HV.out.r1 (Uz h) (Dz i), fun h i => HV.out.t4 (Uz h) (Dz i), fun h i j => HV.out.ne (Uz h) (Uz i) (Dz j), Um HV.out.r5, Um HV.out.r6, fun h => ⟨getD_up hun (HV.out.q5 (Uz h)).1, getD_up hun (HV.out.q5 (Uz h)).2⟩, fun h => getD_up hun (HV.out.q6 (Uz h))⟩⟩
    ·simp at ho
     subst ho
     have H3 := Lib.hid (hall { on := 3, ground := .data } (by simp) (by decide))
     clear hall hi
     have e0 := HV.out.k3 H3.out
     subst e0
     have ba : Below w'.heap.size w' (w'.alloc (.cells #[.string x.id, .string x.inst, .int .i64 x.acq, .int .i64 x.opn, .string x.qty, .string x.cost, .string x.used] 49)) := (Below.refl _ _).alloc (Nat.le_refl _) _
     refine wpOp_step rfl (fun K' hK' => ?_)
     have HK := Lib.hid hK'
     clear hK'
     go_simp
     exact HK.out _ _ ⟨by simp [HJ.out.sz], ⟨w'.heap.size, _, _, _, _, _, _, _, _, rfl, Um HV.out.k0, Um HV.out.k2, Um HV.out.k3, fun _ => rfl, Um HV.out.k7, HV.out.g.trans (ba.mono HV.out.g.size), fun h i => own_below (HV.out.r1 (Uz h) (Dz i)) ba, fun _ _ => heap_alloc_new _ _, fun h _ i e => by have h2 := ((HV.out.r1 (Uz h) (Dz i)).lt _ e).2; omega, fun h => (not_on hoff (HV.out.q5 (Uz h)).2).elim, fun h => (not_on hoff (HV.out.q5 (HV.out.q6 (Uz h))).2).elim, fun h => ⟨getD_up hun (HV.out.q5 (Uz h)).1, getD_up hun (HV.out.q5 (Uz h)).2⟩, fun h => getD_up hun (HV.out.q6 (Uz h))⟩⟩
    ·simp at ho
     subst ho
     have H1 := Lib.hid (hall { on := 1, ground := .data } (by simp) (by decide))
     have H2 := Lib.hid (hall { on := 2, ground := .data } (by simp) (by decide))
     have H4 := Lib.hid (hall { on := 4, ground := .data } (by simp) (by decide))
     clear hall hi
     have e0 := HV.out.k2 H2.out
     subst e0
     have e1 := HV.out.k4 H4.out
     subst e1
     refine wpOp_step rfl (fun K' hK' => ?_)
     have HK := Lib.hid hK'
     clear hK'
     go_simp
     refine (HINS.out s47 Bn w' (HV.out.r1 H1.out hoff) (HV.out.t4 H4.out hoff) (HV.out.ne H1.out H4.out hoff) HV.out.g).mono ?_
     rintro e wn ⟨v7, rfl, ho, bn⟩
     exact HK.out _ _ ⟨by simp [HJ.out.sz], ⟨_, _, _, _, _, _, _, _, _, rfl, Um HV.out.k0, Um HV.out.k2, Um HV.out.k3, Um HV.out.k4, Um HV.out.k7, HV.out.g.trans bn, fun _ i => (not_on i (getD_set_same hun)).elim, fun _ i => (not_on i (getD_set_same hun)).elim, fun _ _ i => (not_on i (getD_set_same hun)).elim, fun _ => ho, fun h => (not_on hoff (HV.out.q6 (Uz h))).elim, fun _ => ⟨getD_up hun H1.out, getD_up hun H4.out⟩, fun h => getD_up hun (HV.out.q6 (Uz h))⟩⟩
    ·simp at ho
     subst ho
     have H5 := Lib.hid (hall { on := 5, ground := .data } (by simp) (by decide))
     clear hall hi
     refine wpOp_step rfl (fun K' hK' => ?_)
     have HK := Lib.hid hK'
     clear hK'
     go_simp
     exact HK.out _ _ ⟨by simp [HJ.out.sz], ⟨_, _, _, _, _, _, _, _, _, rfl, Um HV.out.k0, Um HV.out.k2, Um HV.out.k3, Um HV.out.k4, Um HV.out.k7, HV.out.g, fun h i => HV.out.r1 (Uz h) (Dz i), fun h i => HV.out.t4 (Uz h) (Dz i), fun h i j => HV.out.ne (Uz h) (Uz i) (Dz j), Um HV.out.r5, fun _ => HV.out.r5 H5.out, fun h => ⟨getD_up hun (HV.out.q5 (Uz h)).1, getD_up hun (HV.out.q5 (Uz h)).2⟩, fun _ => getD_up hun H5.out⟩⟩
    ·simp at ho
     subst ho
     clear hall hi
     refine wpOp_step rfl (fun K' hK' => ?_)
     have HK := Lib.hid hK'
     clear hK'
     go_simp
     exact HK.out _ _ ⟨by simp [HJ.out.sz], ⟨_, _, _, _, _, _, _, _, _, rfl, Um HV.out.k0, Um HV.out.k2, Um HV.out.k3, Um HV.out.k4, fun _ => rfl, HV.out.g, fun h i => HV.out.r1 (Uz h) (Dz i), fun h i => HV.out.t4 (Uz h) (Dz i), fun h i j => HV.out.ne (Uz h) (Uz i) (Dz j), Um HV.out.r5, Um HV.out.r6, fun h => ⟨getD_up hun (HV.out.q5 (Uz h)).1, getD_up hun (HV.out.q5 (Uz h)).2⟩, fun h => getD_up hun (HV.out.q6 (Uz h))⟩⟩
end Go.Proofs.YtdnmpgoigagjmaaGreatDoor
