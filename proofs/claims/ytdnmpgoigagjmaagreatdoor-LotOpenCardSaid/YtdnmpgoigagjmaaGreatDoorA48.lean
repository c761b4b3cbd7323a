/-
  tranchelaw19.LotChecks returns true. (Printed by gen_law14.py.)
-/
import Derived.Test.YtdnmpgoigagjmaaGreatDoorA41
import Derived.Test.YtdnmpgoigagjmaaGreatDoorA47
set_option linter.unusedVariables false
set_option linter.unusedSimpArgs false
namespace Go.Proofs.YtdnmpgoigagjmaaGreatDoor
open Go.RowKit Tr Go.Shelf
theorem opn_same {ls : List SLot} {lz : List Lot} {x : SLot} {r1 r2 : List SLot} (h1 : opnE lz x.1 ≠ 0 → r1 = []) (h2 : opnE lz x.1 = 0 → ∃ k, IsPl lz x.1.inst k ∧ r1 = insAt ls k x)
 (h3 : opnE lz x.1 ≠ 0 → r2 = []) (h4 : opnE lz x.1 = 0 → ∃ k, IsPl lz x.1.inst k ∧ r2 = insAt ls k x) : r1 = r2 := by
 by_cases h : opnE lz x.1 = 0
 ·obtain ⟨a, ha, rfl⟩ := h2 h
  obtain ⟨b, hb, rfl⟩ := h4 h
  rw [ha.uniq hb]
 ·rw [h1 h, h3 h]
theorem opn_len {ls : List SLot} {lz : List Lot} (hz : lz.length = ls.length) {x : SLot} {r1 : List SLot} (h1 : opnE lz x.1 ≠ 0 → r1 = []) (h2 : opnE lz x.1 = 0 → ∃ k, IsPl lz x.1.inst k ∧ r1 = insAt ls k x) : r1.length ≤ ls.length + 1 := by
 by_cases h : opnE lz x.1 = 0
 ·obtain ⟨a, ha, rfl⟩ := h2 h
  rw [insAt_len _ (by rw [← hz]; exact ha.le)]
  omega
 ·rw [h1 h]; simp
structure LCV (wS : World) (x : Lot) (Bx : Nat) (A : Option Addr) (N c kf : Nat) (bf : Bool) (E zc za : Int) (A3 A4 : Option Addr) (n3 c3 c4 : Nat)  (L : Array Bool) (W : World) (s4 s46 s47 s48 s49 s50 s51 s52 s53 s54 s55 s56 s57 s58 s59 s60 s61 s62 s63 s64 s65 s66 s67 s68 s69 s70 s71 s72 s73 s74 s75 s76 s77 s78 s79 s80 : Value) : Prop where
 k0 : L.getD 0 false = true → s46 = .agg #[.string x.id, .string x.inst, .int .i64 x.acq, .int .i64 x.opn, .string x.qty, .string x.cost, .string x.used]
 k1 : L.getD 1 false = true → s47 = .int .i64 zc
 k2 : L.getD 2 false = true → s48 = .agg #[.string x.id, .string x.inst, .int .i64 x.acq, .int .i64 x.opn, .string x.qty, .string x.cost, .string x.used]
 k3 : L.getD 3 false = true → s49 = .int .i64 zc
 k4 : L.getD 4 false = true → s50 = .bool true
 k5 : L.getD 5 false = true → s51 = .bool true
 k6 : L.getD 6 false = true → s52 = .slice A N c
 k7 : L.getD 7 false = true → s53 = .int .i64 za
 k8 : L.getD 8 false = true → s54 = .slice A N c
 k9 : L.getD 9 false = true → s55 = .int .i64 za
 k10 : L.getD 10 false = true → s56 = .bool true
 k11 : L.getD 11 false = true → s57 = .bool true
 k12 : L.getD 12 false = true → s58 = .bool true
 k13 : L.getD 13 false = true → s59 = .int .i64 (kf : Int)
 k14 : L.getD 14 false = true → s60 = .int .i64 (kf : Int)
 k15 : L.getD 15 false = true → s61 = .bool true
 k16 : L.getD 16 false = true → s62 = .bool true
 k17 : L.getD 17 false = true → s63 = .bool true
 k18 : L.getD 18 false = true → s64 = .bool bf
 k19 : L.getD 19 false = true → s65 = .bool bf
 k20 : L.getD 20 false = true → s66 = .bool true
 k21 : L.getD 21 false = true → s67 = .bool true
 k22 : L.getD 22 false = true → s68 = .bool true
 k23 : L.getD 23 false = true → s69 = .slice A3 n3 c3
 k24 : L.getD 24 false = true → s70 = .slice A4 n3 c4
 k25 : L.getD 25 false = true → s71 = .bool true
 k26 : L.getD 26 false = true → s72 = .bool true
 k27 : L.getD 27 false = true → s73 = .bool true
 k28 : L.getD 28 false = true → s74 = .int .i64 E
 k29 : L.getD 29 false = true → s75 = .int .i64 E
 k30 : L.getD 30 false = true → s76 = .bool true
 k31 : L.getD 31 false = true → s77 = .bool true
 k32 : L.getD 32 false = true → s78 = .bool true
 k33 : L.getD 33 false = true → s79 = .bool true
 k34 : L.getD 34 false = true → s80 = .bool true
 k35 : L.getD 35 false = true → s4 = .bool true
 g : Below wS.heap.size wS W
structure LCJ (wS : World) (x : Lot) (Bx : Nat) (A : Option Addr) (N c kf : Nat) (bf : Bool) (E zc za : Int) (A3 A4 : Option Addr) (n3 c3 c4 : Nat) (x1 x2 x13 x14 x15 x16 x17 x18 x19 x20 x21 x22 x23 x24 x25 x26 x27 x28 x29 x30 x31 x32 x33 x34 x35 x36 x37 x38 x39 x40 x41 x42 x43 x44 x45 : Value) (L : Array Bool) (a : Act) (W : World) : Prop where
 sz : L.size = 36
 fr : ∃ s4 s46 s47 s48 s49 s50 s51 s52 s53 s54 s55 s56 s57 s58 s59 s60 s61 s62 s63 s64 s65 s66 s67 s68 s69 s70 s71 s72 s73 s74 s75 s76 s77 s78 s79 s80 : Value, a = { tmps := #[.slice A N c, x1, x2, .pointer (some ⟨Bx, 0, none⟩), s4, .int .i64 (kf : Int), .bool bf, .int .i64 (kf : Int), .bool bf, .slice A3 n3 c3, .int .i64 E, .slice A4 n3 c4, .int .i64 E, x13, x14, x15, x16, x17, x18, x19, x20, x21, x22, x23, x24, x25, x26, x27, x28, x29, x30, x31, x32, x33, x34, x35, x36, x37, x38, x39, x40, x41, x42, x43, x44, x45, s46, s47, s48, s49, s50, s51, s52, s53, s54, s55, s56, s57, s58, s59, s60, s61, s62, s63, s64, s65, s66, s67, s68, s69, s70, s71, s72, s73, s74, s75, s76, s77, s78, s79, s80], defers := [] } ∧ LCV wS x Bx A N c kf bf E zc za A3 A4 n3 c3 c4  L W s4 s46 s47 s48 s49 s50 s51 s52 s53 s54 s55 s56 s57 s58 s59 s60 s61 s62 s63 s64 s65 s66 s67 s68 s69 s70 s71 s72 s73 s74 s75 s76 s77 s78 s79 s80
set_option maxHeartbeats 8000000 in
set_option maxRecDepth 100000 in
theorem LotChecks_any (A : Option Addr) (ls : List Lot) (c : Nat) (hcap : ls.length ≤ c) (h1 : ls.length ≤ 9223372036854775807) (hA : A = none → ls.length = 0 ∧ c = 0) (x : Lot) (w : World) (hR : RdL w A ls) (ht : Tabs w) :
 Calls Tryz.prog 10 #[.slice A ls.length c, x.enc] w (TruePost19 w) := by
 obtain ⟨W0, hW0, hB0, hk0⟩ := lbox x w
 have HT := Lib.hid ht
 have HR := Lib.hid hR
 have HA := Lib.hid hA
 have HCP := Lib.hid hcap
 have HB0 := Lib.hid hB0
 have HX0 : Hid (LotBox W0 w.heap.size x) := hk0
 have HGR := Lib.hid (fun W (hW : Below w.heap.size w W) => rGreat19_len A ls c h1 W (hR.below hW))
 have hG1 := fun W => rGreatOne_any x W
 have hC1 := fun (hs : x.sized) W (hW : Below w.heap.size w W) => lCheck_any x hs W (ht.below hW)
 have hC2 := fun (hs : x.tiny) W => rCheck19_ex x hs W
 unfold Lot.enc Lot.cells at hG1 hC1 hC2
 have HG1 := Lib.hid hG1
 have HCC1 := Lib.hid hC1
 have HCC2 := Lib.hid hC2
 clear ht hR hA hcap hB0 hk0 h1 hG1 hC1 hC2
 unfold Lot.enc Lot.cells at *
 go_enter Tryz.func10, Tryz.ntmps10
 go_wp2_with fail
 refine (HGR.out W0 HB0.out).mono ?_
 rintro e wa ⟨g, rfl, hg, ba⟩
 have HBa := Lib.hid (HB0.out.trans (ba.mono HB0.out.size))
 have HXa := Lib.hid (HX0.out.below ba)
 have HV1 := Lib.hid hg
 clear ba hg
 cases g
 case true =>
  go_wp2_with fail
  refine (awake19_any _ (HT.out.below HBa.out)).mono ?_
  rintro e wz ⟨rfl, bz⟩
  have HZ := Lib.hid (HBa.out.trans (bz.mono HBa.out.size))
  clear bz
  go_wp2_with fail
  go_ret
  exact ⟨rfl, HZ.out⟩
 have HX1 := Lib.hid (HV1.out rfl)
 clear HV1
 have x0 := Lib.cell_of_heap HXa.out 0
 have x1 := Lib.cell_of_heap HXa.out 1
 have x2 := Lib.cell_of_heap HXa.out 2
 have x3 := Lib.cell_of_heap HXa.out 3
 have x4 := Lib.cell_of_heap HXa.out 4
 have x5 := Lib.cell_of_heap HXa.out 5
 have x6 := Lib.cell_of_heap HXa.out 6
 simp [Lot.cells] at x0 x1 x2 x3 x4 x5 x6
 go_wp2_with fail
 refine (HG1.out wa).mono ?_
 rintro e wb ⟨g, rfl, hg, bb⟩
 have HBb := Lib.hid (HBa.out.trans (bb.mono HBa.out.size))
 have HXb := Lib.hid (HXa.out.below bb)
 have HV2 := Lib.hid hg
 clear bb hg HBa HXa x0 x1 x2 x3 x4 x5 x6
 cases g
 case true =>
  go_wp2_with fail
  refine (awake19_any _ (HT.out.below HBb.out)).mono ?_
  rintro e wz ⟨rfl, bz⟩
  have HZ := Lib.hid (HBb.out.trans (bz.mono HBb.out.size))
  clear bz
  go_wp2_with fail
  go_ret
  exact ⟨rfl, HZ.out⟩
 have htx := HV2.out rfl
 obtain ⟨_, v2, v3⟩ := HX1.out
 obtain ⟨sl, hsl⟩ := exists_slots ls (fun l hl => (v3 l hl).sized)
 obtain ⟨N, hN⟩ : ∃ N, sl.length = N := ⟨_, rfl⟩
 have hNm : ls.length = N := by rw [← hsl, List.length_map, hN]
 have hRB : RdB w.heap.size w A sl := RdL.rdb (by rw [hsl]; exact HR.out)
 have hRL : RdB' w.heap.size w A ls := HR.out
 have hca := HCP.out
 have hal := HA.out
 rw [hNm] at hca v2 hal ⊢
 have hti : ∀ l ∈ sl, l.1.tiny := fun l hl => v3 l.1 (by rw [← hsl]; exact List.mem_map.2 ⟨l, hl, rfl⟩)
 have hF1 := fun W (hW : Below w.heap.size w W) => lFind_any w.heap.size A ls c x.id (by rw [hNm]; omega) W (hRL.below hW) hW.size
 have hF2 := fun W (hW : Below w.heap.size w W) => rFind_any A ls N c (by rw [hNm]; exact Nat.le_refl _) (by rw [hNm]; omega) x.id W ((hRL.below hW).rdl hW.size)
 have htk : ls.take N = ls := List.take_of_length_le (by rw [hNm]; exact Nat.le_refl _)
 have hO1 := fun W (hW : Below w.heap.size w W) => lOpen_any w.heap.size A sl c (by rw [hN]; exact hca) (by rw [hN]; omega) ⟨x, htx.sized⟩ W (hRB.below hW) hW.size (by rw [hN]; exact hal) (HT.out.below hW)
 have hO2 := fun W (hW : Below w.heap.size w W) => rOpen19_any w.heap.size A sl c (by rw [hN]; exact hca) (by rw [hN]; omega) hti ⟨x, htx.sized⟩ htx W (hRB.below hW) hW.size (by rw [hN]; exact hal)
 have hK1 := fun W (hW : Below w.heap.size w W) => lCheckAll_any A c ls (by rw [hNm]; exact hca) (by rw [hNm]; omega) W ((hRL.below hW).rdl hW.size) (fun l hl => (v3 l hl).sized) (HT.out.below hW)
 have hK2 := fun W (hW : Below w.heap.size w W) => rCheckAll19_ex A ls c (by rw [hNm]; exact hca) (by rw [hNm]; omega) v3 W ((hRL.below hW).rdl hW.size)
 unfold OpnPost at hO1 hO2
 rw [htk] at hF2
 rw [hN, hsl] at hO1 hO2
 rw [hNm] at hF1 hK1 hK2
 unfold Lot.enc Lot.cells at hO1 hO2
 have HF1 := Lib.hid hF1
 have HF2 := Lib.hid hF2
 have HO1 := Lib.hid hO1
 have HO2 := Lib.hid hO2
 have HK1 := Lib.hid hK1
 have HK2 := Lib.hid hK2
 have HLN : Hid (ls.length = sl.length) := by rw [Hid, hN, hNm]
 have HTX := Lib.hid htx
 have HNN := Lib.hid (And.intro hN v2)
 clear hF1 hF2 hO1 hO2 hK1 hK2 htk hti hca hal hRB hRL hN hNm hsl v2 v3 HX1 HV2 HG1 HGR HR HA HCP
 have x0 := Lib.cell_of_heap HXb.out 0
 have x1 := Lib.cell_of_heap HXb.out 1
 have x2 := Lib.cell_of_heap HXb.out 2
 have x3 := Lib.cell_of_heap HXb.out 3
 have x4 := Lib.cell_of_heap HXb.out 4
 have x5 := Lib.cell_of_heap HXb.out 5
 have x6 := Lib.cell_of_heap HXb.out 6
 simp [Lot.cells] at x0 x1 x2 x3 x4 x5 x6
 go_wp2_with fail
 refine (HF1.out wb HBb.out).mono ?_
 rintro e wc ⟨rfl, bc⟩
 have HBc := Lib.hid (HBb.out.trans (bc.mono HBb.out.size))
 have HXc := Lib.hid (HXb.out.below bc)
 clear bc x0 x1 x2 x3 x4 x5 x6 HBb HXb HF1
 generalize hf : findR ls x.id 0 = fr at *
 obtain ⟨kf, bf⟩ := fr
 have x0 := Lib.cell_of_heap HXc.out 0
 have x1 := Lib.cell_of_heap HXc.out 1
 have x2 := Lib.cell_of_heap HXc.out 2
 have x3 := Lib.cell_of_heap HXc.out 3
 have x4 := Lib.cell_of_heap HXc.out 4
 have x5 := Lib.cell_of_heap HXc.out 5
 have x6 := Lib.cell_of_heap HXc.out 6
 simp [Lot.cells] at x0 x1 x2 x3 x4 x5 x6
 go_wp2_with fail
 refine (HF2.out wc HBc.out).mono ?_
 rintro e wd ⟨rfl, rfl⟩
 clear HF2 hf
 go_wp2_with fail
 refine (HO1.out wc HBc.out).mono ?_
 rintro e we ⟨A3, c3, r3, rfl, be, hr3, hc3, hp1, hp2⟩
 have HBe := Lib.hid (HBc.out.trans (be.mono HBc.out.size))
 have HXe := Lib.hid (HXc.out.below be)
 have HR3 := Lib.hid (And.intro hr3 (And.intro hp1 hp2))
 clear be hr3 hc3 hp1 hp2 x0 x1 x2 x3 x4 x5 x6 HBc HXc HO1
 have x0 := Lib.cell_of_heap HXe.out 0
 have x1 := Lib.cell_of_heap HXe.out 1
 have x2 := Lib.cell_of_heap HXe.out 2
 have x3 := Lib.cell_of_heap HXe.out 3
 have x4 := Lib.cell_of_heap HXe.out 4
 have x5 := Lib.cell_of_heap HXe.out 5
 have x6 := Lib.cell_of_heap HXe.out 6
 simp [Lot.cells] at x0 x1 x2 x3 x4 x5 x6
 go_wp2_with fail
 refine (HO2.out we HBe.out).mono ?_
 rintro e w7 ⟨A4, c4, r4, rfl, bg, hr4, hc4, hp3, hp4⟩
 have HG := Lib.hid (HBe.out.trans (bg.mono HBe.out.size))
 have HX := Lib.hid (HXe.out.below bg)
 obtain rfl := opn_same (x := ⟨x, HTX.out.sized⟩) HR3.out.2.1 HR3.out.2.2 hp3 hp4
 have hl3 := opn_len (x := ⟨x, HTX.out.sized⟩) HLN.out hp3 hp4
 have hS := fun W (hW : Below w7.heap.size w7 W) => rSame_any A3 A4 (r3.map Subtype.val) (r3.map Subtype.val) c3 c4 (by rw [List.length_map]; have := HNN.out; omega) (by rw [List.length_map]; have := HNN.out; omega) we.heap.size w7.heap.size W (((HR3.out.1.below bg).below (hW.mono bg.size))).rdb' (hr4.below hW).rdb'
 rw [List.length_map, sameB_yes rfl] at hS
 obtain ⟨n3, hn3⟩ : ∃ n3, r3.length = n3 := ⟨_, rfl⟩
 rw [hn3] at hS ⊢
 have HC5 : Hid (∀ W, Below w7.heap.size w7 W → Calls Tryz.prog 54 #[.slice A3 n3 c3, .slice A4 n3 c4] W fun e w' => e = .returned (.bool true) ∧ Below W.heap.size W w') := fun W hW => (hS W hW).mono (by
  rintro e w' ⟨rfl, m, rfl⟩
  exact ⟨rfl, below_drewN (Below.refl _ _) m⟩)
 obtain ⟨E, hE⟩ : ∃ E, opnE ls x = E := ⟨_, rfl⟩
 obtain ⟨zc, hzc⟩ : ∃ z, lchk x = z := ⟨_, rfl⟩
 obtain ⟨za, hza⟩ : ∃ z, lall ls = z := ⟨_, rfl⟩
 have HC1 := Lib.hid (fun W (hW : Below w7.heap.size w7 W) => HCC1.out HTX.out.sized W (HG.out.trans (hW.mono HG.out.size)))
 have HC2 := Lib.hid (fun W (hW : Below w7.heap.size w7 W) => HCC2.out HTX.out W)
 have HC3 := Lib.hid (fun W (hW : Below w7.heap.size w7 W) => HK1.out W (HG.out.trans (hW.mono HG.out.size)))
 have HC4 := Lib.hid (fun W (hW : Below w7.heap.size w7 W) => HK2.out W (HG.out.trans (hW.mono HG.out.size)))
 have HC6 := Lib.hid (fun W (hW : Below w7.heap.size w7 W) => awake19_any W (HT.out.below (HG.out.trans (hW.mono HG.out.size))))
 rw [hzc] at HC1 HC2
 rw [hza] at HC3 HC4
 rw [hE]
 clear bg hr4 hc4 hp3 hp4 hl3 HLN hS hn3 hE hzc hza x0 x1 x2 x3 x4 x5 x6 HBe HXe HO2 HK1 HK2 HCC1 HCC2 HTX HNN HR3
 have hgS : Below w7.heap.size w7 w7.drew := (Below.refl _ _).drew
 go_upto_region 7 with fail
 have mixed : Tryz.prog.follows .mixedOrders = true := by kernel_rfl
 refine wp_region_any mixed (wpAny_inv (LCJ w7 x w.heap.size A N c kf bf E zc za A3 A4 n3 c3 c4 _ _ _ _ _ _ _ _ _ _ _ _ _ _ _ _ _ _ _ _ _ _ _ _ _ _ _ _ _ _ _ _ _ _ _) ?stLC ?dnLC _ _ _ _ ⟨by simp, ⟨_, _, _, _, _, _, _, _, _, _, _, _, _, _, _, _, _, _, _, _, _, _, _, _, _, _, _, _, _, _, _, _, _, _, _, _, rfl, fun h => by simp at h, fun h => by simp at h, fun h => by simp at h, fun h => by simp at h, fun h => by simp at h, fun h => by simp at h, fun h => by simp at h, fun h => by simp at h, fun h => by simp at h, fun h => by simp at h, fun h => by simp at h, fun h => by simp at h, fun h => by simp at h, fun h => by simp at h, fun h => by simp at h, fun h => by simp at h, fun h => by simp at h, fun h => by simp at h, fun h => by simp at h, fun h => by simp at h, fun h => by simp at h, fun h => by simp at h, fun h => by simp at h, fun h => by simp at h, fun h => by simp at h, fun h => by simp at h, fun h => by simp at h, fun h => by simp at h, fun h => by simp at h, fun h => by simp at h, fun h => by simp at h, fun h => by simp at h, fun h => by simp at h, fun h => by simp at h, fun h => by simp at h, fun h => by simp at h, hgS⟩⟩ (by decide))
 case dnLC =>
  intro L a w' hj hr
  have all : ∀ i, i < 36 → L.getD i false = true := by
   intro i
   induction i using Nat.strongRecOn with
   | ind i ih =>
     intro hi
     refine (off_or_on L i).resolve_left fun h => ?_
     refine List.eq_nil_iff_forall_not_mem.1 hr i (ready_of (by rw [hj.sz]; exact hi) h (Array.getElem?_eq_getElem (by simpa using hi)) (fun e he hbd => ih e.on ?_ ?_))
     ·rcases (show i = 0 ∨ i = 1 ∨ i = 2 ∨ i = 3 ∨ i = 4 ∨ i = 5 ∨ i = 6 ∨ i = 7 ∨ i = 8 ∨ i = 9 ∨ i = 10 ∨ i = 11 ∨ i = 12 ∨ i = 13 ∨ i = 14 ∨ i = 15 ∨ i = 16 ∨ i = 17 ∨ i = 18 ∨ i = 19 ∨ i = 20 ∨ i = 21 ∨ i = 22 ∨ i = 23 ∨ i = 24 ∨ i = 25 ∨ i = 26 ∨ i = 27 ∨ i = 28 ∨ i = 29 ∨ i = 30 ∨ i = 31 ∨ i = 32 ∨ i = 33 ∨ i = 34 ∨ i = 35 from by omega) with rfl | rfl | rfl | rfl | rfl | rfl | rfl | rfl | rfl | rfl | rfl | rfl | rfl | rfl | rfl | rfl | rfl | rfl | rfl | rfl | rfl | rfl | rfl | rfl | rfl | rfl | rfl | rfl | rfl | rfl | rfl | rfl | rfl | rfl | rfl | rfl
      ·simp at he
      ·simp at he
       subst he
       first | decide | (exact absurd hbd (by decide))
      ·simp at he
      ·simp at he
       rcases he with rfl | rfl
       all_goals first | decide | (exact absurd hbd (by decide))
      ·simp at he
       rcases he with rfl | rfl
       all_goals first | decide | (exact absurd hbd (by decide))
      ·simp at he
       rcases he with rfl | rfl
       all_goals first | decide | (exact absurd hbd (by decide))
      ·simp at he
       subst he
       first | decide | (exact absurd hbd (by decide))
      ·simp at he
       rcases he with rfl | rfl | rfl
       all_goals first | decide | (exact absurd hbd (by decide))
      ·simp at he
       subst he
       first | decide | (exact absurd hbd (by decide))
      ·simp at he
       rcases he with rfl | rfl | rfl
       all_goals first | decide | (exact absurd hbd (by decide))
      ·simp at he
       rcases he with rfl | rfl | rfl
       all_goals first | decide | (exact absurd hbd (by decide))
      ·simp at he
       rcases he with rfl | rfl
       all_goals first | decide | (exact absurd hbd (by decide))
      ·simp at he
       rcases he with rfl | rfl
       all_goals first | decide | (exact absurd hbd (by decide))
      ·simp at he
       subst he
       first | decide | (exact absurd hbd (by decide))
      ·simp at he
       subst he
       first | decide | (exact absurd hbd (by decide))
      ·simp at he
       rcases he with rfl | rfl | rfl
       all_goals first | decide | (exact absurd hbd (by decide))
      ·simp at he
       rcases he with rfl | rfl
       all_goals first | decide | (exact absurd hbd (by decide))
      ·simp at he
       rcases he with rfl | rfl
       all_goals first | decide | (exact absurd hbd (by decide))
      ·simp at he
       subst he
       first | decide | (exact absurd hbd (by decide))
      ·simp at he
       subst he
       first | decide | (exact absurd hbd (by decide))
      ·simp at he
       rcases he with rfl | rfl | rfl
       all_goals first | decide | (exact absurd hbd (by decide))
      ·simp at he
       rcases he with rfl | rfl
       all_goals first | decide | (exact absurd hbd (by decide))
      ·simp at he
       rcases he with rfl | rfl
       all_goals first | decide | (exact absurd hbd (by decide))
      ·simp at he
       subst he
       first | decide | (exact absurd hbd (by decide))
      ·simp at he
       subst he
       first | decide | (exact absurd hbd (by decide))
      ·simp at he
       rcases he with rfl | rfl | rfl | rfl
       all_goals first | decide | (exact absurd hbd (by decide))
      ·simp at he
       rcases he with rfl | rfl
       all_goals first | decide | (exact absurd hbd (by decide))
      ·simp at he
       rcases he with rfl | rfl
       all_goals first | decide | (exact absurd hbd (by decide))
      ·simp at he
       subst he
       first | decide | (exact absurd hbd (by decide))
      ·simp at he
       subst he
       first | decide | (exact absurd hbd (by decide))
      ·simp at he
       rcases he with rfl | rfl | rfl
       all_goals first | decide | (exact absurd hbd (by decide))
      ·simp at he
       rcases he with rfl | rfl
       all_goals first | decide | (exact absurd hbd (by decide))
      ·simp at he
       rcases he with rfl | rfl
       all_goals first | decide | (exact absurd hbd (by decide))
      ·simp at he
       rcases he with rfl | rfl
       all_goals first | decide | (exact absurd hbd (by decide))
      ·simp at he
       rcases he with rfl | rfl
       all_goals first | decide | (exact absurd hbd (by decide))
      ·simp at he
       rcases he with rfl | rfl | rfl | rfl | rfl | rfl | rfl | rfl | rfl | rfl | rfl | rfl | rfl | rfl | rfl | rfl | rfl | rfl | rfl | rfl | rfl | rfl | rfl | rfl | rfl | rfl | rfl | rfl | rfl | rfl | rfl | rfl | rfl | rfl | rfl | rfl | rfl
       all_goals first | decide | (exact absurd hbd (by decide))
     ·rcases (show i = 0 ∨ i = 1 ∨ i = 2 ∨ i = 3 ∨ i = 4 ∨ i = 5 ∨ i = 6 ∨ i = 7 ∨ i = 8 ∨ i = 9 ∨ i = 10 ∨ i = 11 ∨ i = 12 ∨ i = 13 ∨ i = 14 ∨ i = 15 ∨ i = 16 ∨ i = 17 ∨ i = 18 ∨ i = 19 ∨ i = 20 ∨ i = 21 ∨ i = 22 ∨ i = 23 ∨ i = 24 ∨ i = 25 ∨ i = 26 ∨ i = 27 ∨ i = 28 ∨ i = 29 ∨ i = 30 ∨ i = 31 ∨ i = 32 ∨ i = 33 ∨ i = 34 ∨ i = 35 from by omega) with rfl | rfl | rfl | rfl | rfl | rfl | rfl | rfl | rfl | rfl | rfl | rfl | rfl | rfl | rfl | rfl | rfl | rfl | rfl | rfl | rfl | rfl | rfl | rfl | rfl | rfl | rfl | rfl | rfl | rfl | rfl | rfl | rfl | rfl | rfl | rfl
      ·simp at he
      ·simp at he
       subst he
       first | decide | (exact absurd hbd (by decide))
      ·simp at he
      ·simp at he
       rcases he with rfl | rfl
       all_goals first | decide | (exact absurd hbd (by decide))
      ·simp at he
       rcases he with rfl | rfl
       all_goals first | decide | (exact absurd hbd (by decide))
      ·simp at he
       rcases he with rfl | rfl
       all_goals first | decide | (exact absurd hbd (by decide))
      ·simp at he
       subst he
       first | decide | (exact absurd hbd (by decide))
      ·simp at he
       rcases he with rfl | rfl | rfl
       all_goals first | decide | (exact absurd hbd (by decide))
      ·simp at he
       subst he
       first | decide | (exact absurd hbd (by decide))
      ·simp at he
       rcases he with rfl | rfl | rfl
       all_goals first | decide | (exact absurd hbd (by decide))
      ·simp at he
       rcases he with rfl | rfl | rfl
       all_goals first | decide | (exact absurd hbd (by decide))
      ·simp at he
       rcases he with rfl | rfl
       all_goals first | decide | (exact absurd hbd (by decide))
      ·simp at he
       rcases he with rfl | rfl
       all_goals first | decide | (exact absurd hbd (by decide))
      ·simp at he
       subst he
       first | decide | (exact absurd hbd (by decide))
      ·simp at he
       subst he
       first | decide | (exact absurd hbd (by decide))
      ·simp at he
       rcases he with rfl | rfl | rfl
       all_goals first | decide | (exact absurd hbd (by decide))
      ·simp at he
       rcases he with rfl | rfl
       all_goals first | decide | (exact absurd hbd (by decide))
      ·simp at he
       rcases he with rfl | rfl
       all_goals first | decide | (exact absurd hbd (by decide))
      ·simp at he
       subst he
       first | decide | (exact absurd hbd (by decide))
      ·simp at he
       subst he
       first | decide | (exact absurd hbd (by decide))
      ·simp at he
       rcases he with rfl | rfl | rfl
       all_goals first | decide | (exact absurd hbd (by decide))
      ·simp at he
       rcases he with rfl | rfl
       all_goals first | decide | (exact absurd hbd (by decide))
      ·simp at he
       rcases he with rfl | rfl
       all_goals first | decide | (exact absurd hbd (by decide))
      ·simp at he
       subst he
       first | decide | (exact absurd hbd (by decide))
      ·simp at he
       subst he
       first | decide | (exact absurd hbd (by decide))
      ·simp at he
       rcases he with rfl | rfl | rfl | rfl
       all_goals first | decide | (exact absurd hbd (by decide))
      ·simp at he
       rcases he with rfl | rfl
       all_goals first | decide | (exact absurd hbd (by decide))
      ·simp at he
       rcases he with rfl | rfl
       all_goals first | decide | (exact absurd hbd (by decide))
      ·simp at he
       subst he
       first | decide | (exact absurd hbd (by decide))
      ·simp at he
       subst he
       first | decide | (exact absurd hbd (by decide))
      ·simp at he
       rcases he with rfl | rfl | rfl
       all_goals first | decide | (exact absurd hbd (by decide))
      ·simp at he
       rcases he with rfl | rfl
       all_goals first | decide | (exact absurd hbd (by decide))
      ·simp at he
       rcases he with rfl | rfl
       all_goals first | decide | (exact absurd hbd (by decide))
      ·simp at he
       rcases he with rfl | rfl
       all_goals first | decide | (exact absurd hbd (by decide))
      ·simp at he
       rcases he with rfl | rfl
       all_goals first | decide | (exact absurd hbd (by decide))
      ·simp at he
       rcases he with rfl | rfl | rfl | rfl | rfl | rfl | rfl | rfl | rfl | rfl | rfl | rfl | rfl | rfl | rfl | rfl | rfl | rfl | rfl | rfl | rfl | rfl | rfl | rfl | rfl | rfl | rfl | rfl | rfl | rfl | rfl | rfl | rfl | rfl | rfl | rfl | rfl
       all_goals first | decide | (exact absurd hbd (by decide))
  obtain ⟨s4, s46, s47, s48, s49, s50, s51, s52, s53, s54, s55, s56, s57, s58, s59, s60, s61, s62, s63, s64, s65, s66, s67, s68, s69, s70, s71, s72, s73, s74, s75, s76, s77, s78, s79, s80, rfl, hv⟩ := hj.fr
  have e35 := hv.k35 (all 35 (by omega))
  subst e35
  have HF := Lib.hid (HG.out.trans (hv.g.mono HG.out.size))
  clear all hv hj hr
  dsimp only
  go_wp2_with fail
  go_ret
  exact ⟨rfl, HF.out⟩
 case stLC =>
  intro L a w' hj i hi
  obtain ⟨hun, o, ho, hall⟩ := mem_ready.1 hi
  have hoff := getD_off hun
  have hlt := (Array.getElem?_eq_some_iff.1 ho).1
  simp at hlt
  obtain ⟨s4, s46, s47, s48, s49, s50, s51, s52, s53, s54, s55, s56, s57, s58, s59, s60, s61, s62, s63, s64, s65, s66, s67, s68, s69, s70, s71, s72, s73, s74, s75, s76, s77, s78, s79, s80, rfl, hv⟩ := hj.fr
  have HV := Lib.hid hv
  have HJ := Lib.hid hj
  clear hv hj
  rcases (show i = 0 ∨ i = 1 ∨ i = 2 ∨ i = 3 ∨ i = 4 ∨ i = 5 ∨ i = 6 ∨ i = 7 ∨ i = 8 ∨ i = 9 ∨ i = 10 ∨ i = 11 ∨ i = 12 ∨ i = 13 ∨ i = 14 ∨ i = 15 ∨ i = 16 ∨ i = 17 ∨ i = 18 ∨ i = 19 ∨ i = 20 ∨ i = 21 ∨ i = 22 ∨ i = 23 ∨ i = 24 ∨ i = 25 ∨ i = 26 ∨ i = 27 ∨ i = 28 ∨ i = 29 ∨ i = 30 ∨ i = 31 ∨ i = 32 ∨ i = 33 ∨ i = 34 ∨ i = 35 from by omega) with rfl | rfl | rfl | rfl | rfl | rfl | rfl | rfl | rfl | rfl | rfl | rfl | rfl | rfl | rfl | rfl | rfl | rfl | rfl | rfl | rfl | rfl | rfl | rfl | rfl | rfl | rfl | rfl | rfl | rfl | rfl | rfl | rfl | rfl | rfl | rfl
  ·simp at ho
   subst ho
   clear hall hi
   have hxx := HX.out.below HV.out.g
   have c0 := Lib.cell_of_heap hxx 0; have c1 := Lib.cell_of_heap hxx 1; have c2 := Lib.cell_of_heap hxx 2; have c3 := Lib.cell_of_heap hxx 3; have c4 := Lib.cell_of_heap hxx 4; have c5 := Lib.cell_of_heap hxx 5; have c6 := Lib.cell_of_heap hxx 6; simp [Lot.cells] at c0 c1 c2 c3 c4 c5 c6
   refine wpOp_step rfl (fun K' hK' => ?_)
   have HK := Lib.hid hK'
   clear hK'
   go_simp
   exact HK.out _ _ ⟨by simp [HJ.out.sz], ⟨_, _, _, _, _, _, _, _, _, _, _, _, _, _, _, _, _, _, _, _, _, _, _, _, _, _, _, _, _, _, _, _, _, _, _, _, rfl, fun _ => rfl, Um HV.out.k1, Um HV.out.k2, Um HV.out.k3, Um HV.out.k4, Um HV.out.k5, Um HV.out.k6, Um HV.out.k7, Um HV.out.k8, Um HV.out.k9, Um HV.out.k10, Um HV.out.k11, Um HV.out.k12, Um HV.out.k13, Um HV.out.k14, Um HV.out.k15, Um HV.out.k16, Um HV.out.k17, Um HV.out.k18, Um HV.out.k19, Um HV.out.k20, Um HV.out.k21, Um HV.out.k22, Um HV.out.k23, Um HV.out.k24, Um HV.out.k25, Um HV.out.k26, Um HV.out.k27, Um HV.out.k28, Um HV.out.k29, Um HV.out.k30, Um HV.out.k31, Um HV.out.k32, Um HV.out.k33, Um HV.out.k34, Um HV.out.k35, HV.out.g⟩⟩
  ·simp at ho
   subst ho
   have H0 := Lib.hid (hall { on := 0, ground := .data } (by simp) (by decide))
   clear hall hi
   have e0 := HV.out.k0 H0.out
   subst e0
   refine wpOp_step rfl (fun K' hK' => ?_)
   have HK := Lib.hid hK'
   clear hK'
   go_simp
   refine (HC1.out w' HV.out.g).mono ?_
   rintro e wn ⟨rfl, bn⟩
   exact HK.out _ _ ⟨by simp [HJ.out.sz], ⟨_, _, _, _, _, _, _, _, _, _, _, _, _, _, _, _, _, _, _, _, _, _, _, _, _, _, _, _, _, _, _, _, _, _, _, _, rfl, Um HV.out.k0, fun _ => rfl, Um HV.out.k2, Um HV.out.k3, Um HV.out.k4, Um HV.out.k5, Um HV.out.k6, Um HV.out.k7, Um HV.out.k8, Um HV.out.k9, Um HV.out.k10, Um HV.out.k11, Um HV.out.k12, Um HV.out.k13, Um HV.out.k14, Um HV.out.k15, Um HV.out.k16, Um HV.out.k17, Um HV.out.k18, Um HV.out.k19, Um HV.out.k20, Um HV.out.k21, Um HV.out.k22, Um HV.out.k23, Um HV.out.k24, Um HV.out.k25, Um HV.out.k26, Um HV.out.k27, Um HV.out.k28, Um HV.out.k29, Um HV.out.k30, Um HV.out.k31, Um HV.out.k32, Um HV.out.k33, Um HV.out.k34, Um HV.out.k35, HV.out.g.trans (bn.mono HV.out.g.size)⟩⟩
  ·simp at ho
   subst ho
   clear hall hi
   have hxx := HX.out.below HV.out.g
   have c0 := Lib.cell_of_heap hxx 0; have c1 := Lib.cell_of_heap hxx 1; have c2 := Lib.cell_of_heap hxx 2; have c3 := Lib.cell_of_heap hxx 3; have c4 := Lib.cell_of_heap hxx 4; have c5 := Lib.cell_of_heap hxx 5; have c6 := Lib.cell_of_heap hxx 6; simp [Lot.cells] at c0 c1 c2 c3 c4 c5 c6
   refine wpOp_step rfl (fun K' hK' => ?_)
   have HK := Lib.hid hK'
   clear hK'
   go_simp
   exact HK.out _ _ ⟨by simp [HJ.out.sz], ⟨_, _, _, _, _, _, _, _, _, _, _, _, _, _, _, _, _, _, _, _, _, _, _, _, _, _, _, _, _, _, _, _, _, _, _, _, rfl, Um HV.out.k0, Um HV.out.k1, fun _ => rfl, Um HV.out.k3, Um HV.out.k4, Um HV.out.k5, Um HV.out.k6, Um HV.out.k7, Um HV.out.k8, Um HV.out.k9, Um HV.out.k10, Um HV.out.k11, Um HV.out.k12, Um HV.out.k13, Um HV.out.k14, Um HV.out.k15, Um HV.out.k16, Um HV.out.k17, Um HV.out.k18, Um HV.out.k19, Um HV.out.k20, Um HV.out.k21, Um HV.out.k22, Um HV.out.k23, Um HV.out.k24, Um HV.out.k25, Um HV.out.k26, Um HV.out.k27, Um HV.out.k28, Um HV.out.k29, Um HV.out.k30, Um HV.out.k31, Um HV.out.k32, Um HV.out.k33, Um HV.out.k34, Um HV.out.k35, HV.out.g⟩⟩
  ·simp at ho
   subst ho
   have H2 := Lib.hid (hall { on := 2, ground := .data } (by simp) (by decide))
   clear hall hi
   have e0 := HV.out.k2 H2.out
   subst e0
   refine wpOp_step rfl (fun K' hK' => ?_)
   have HK := Lib.hid hK'
   clear hK'
   go_simp
   refine (HC2.out w' HV.out.g).mono ?_
   rintro e wn ⟨rfl, bn⟩
   exact HK.out _ _ ⟨by simp [HJ.out.sz], ⟨_, _, _, _, _, _, _, _, _, _, _, _, _, _, _, _, _, _, _, _, _, _, _, _, _, _, _, _, _, _, _, _, _, _, _, _, rfl, Um HV.out.k0, Um HV.out.k1, Um HV.out.k2, fun _ => rfl, Um HV.out.k4, Um HV.out.k5, Um HV.out.k6, Um HV.out.k7, Um HV.out.k8, Um HV.out.k9, Um HV.out.k10, Um HV.out.k11, Um HV.out.k12, Um HV.out.k13, Um HV.out.k14, Um HV.out.k15, Um HV.out.k16, Um HV.out.k17, Um HV.out.k18, Um HV.out.k19, Um HV.out.k20, Um HV.out.k21, Um HV.out.k22, Um HV.out.k23, Um HV.out.k24, Um HV.out.k25, Um HV.out.k26, Um HV.out.k27, Um HV.out.k28, Um HV.out.k29, Um HV.out.k30, Um HV.out.k31, Um HV.out.k32, Um HV.out.k33, Um HV.out.k34, Um HV.out.k35, HV.out.g.trans (bn.mono HV.out.g.size)⟩⟩
  ·simp at ho
   subst ho
   have H1 := Lib.hid (hall { on := 1, ground := .data } (by simp) (by decide))
   have H3 := Lib.hid (hall { on := 3, ground := .data } (by simp) (by decide))
   clear hall hi
   have e0 := HV.out.k1 H1.out
   subst e0
   have e1 := HV.out.k3 H3.out
   subst e1
   refine wpOp_step rfl (fun K' hK' => ?_)
   have HK := Lib.hid hK'
   clear hK'
   go_simp
   exact HK.out _ _ ⟨by simp [HJ.out.sz], ⟨_, _, _, _, _, _, _, _, _, _, _, _, _, _, _, _, _, _, _, _, _, _, _, _, _, _, _, _, _, _, _, _, _, _, _, _, rfl, Um HV.out.k0, Um HV.out.k1, Um HV.out.k2, Um HV.out.k3, fun _ => rfl, Um HV.out.k5, Um HV.out.k6, Um HV.out.k7, Um HV.out.k8, Um HV.out.k9, Um HV.out.k10, Um HV.out.k11, Um HV.out.k12, Um HV.out.k13, Um HV.out.k14, Um HV.out.k15, Um HV.out.k16, Um HV.out.k17, Um HV.out.k18, Um HV.out.k19, Um HV.out.k20, Um HV.out.k21, Um HV.out.k22, Um HV.out.k23, Um HV.out.k24, Um HV.out.k25, Um HV.out.k26, Um HV.out.k27, Um HV.out.k28, Um HV.out.k29, Um HV.out.k30, Um HV.out.k31, Um HV.out.k32, Um HV.out.k33, Um HV.out.k34, Um HV.out.k35, HV.out.g⟩⟩
  ·simp at ho
   subst ho
   have H4 := Lib.hid (hall { on := 4, ground := .data } (by simp) (by decide))
   clear hall hi
   have e0 := HV.out.k4 H4.out
   subst e0
   refine wpOp_step rfl (fun K' hK' => ?_)
   have HK := Lib.hid hK'
   clear hK'
   go_simp
   exact HK.out _ _ ⟨by simp [HJ.out.sz], ⟨_, _, _, _, _, _, _, _, _, _, _, _, _, _, _, _, _, _, _, _, _, _, _, _, _, _, _, _, _, _, _, _, _, _, _, _, rfl, Um HV.out.k0, Um HV.out.k1, Um HV.out.k2, Um HV.out.k3, Um HV.out.k4, fun _ => rfl, Um HV.out.k6, Um HV.out.k7, Um HV.out.k8, Um HV.out.k9, Um HV.out.k10, Um HV.out.k11, Um HV.out.k12, Um HV.out.k13, Um HV.out.k14, Um HV.out.k15, Um HV.out.k16, Um HV.out.k17, Um HV.out.k18, Um HV.out.k19, Um HV.out.k20, Um HV.out.k21, Um HV.out.k22, Um HV.out.k23, Um HV.out.k24, Um HV.out.k25, Um HV.out.k26, Um HV.out.k27, Um HV.out.k28, Um HV.out.k29, Um HV.out.k30, Um HV.out.k31, Um HV.out.k32, Um HV.out.k33, Um HV.out.k34, Um HV.out.k35, HV.out.g⟩⟩
  ·simp at ho
   subst ho
   have H5 := Lib.hid (hall { on := 5, ground := .guard } (by simp) (by decide))
   clear hall hi
   have e0 := HV.out.k5 H5.out
   subst e0
   refine wpOp_step rfl (fun K' hK' => ?_)
   have HK := Lib.hid hK'
   clear hK'
   go_simp
   exact HK.out _ _ ⟨by simp [HJ.out.sz], ⟨_, _, _, _, _, _, _, _, _, _, _, _, _, _, _, _, _, _, _, _, _, _, _, _, _, _, _, _, _, _, _, _, _, _, _, _, rfl, Um HV.out.k0, Um HV.out.k1, Um HV.out.k2, Um HV.out.k3, Um HV.out.k4, Um HV.out.k5, fun _ => rfl, Um HV.out.k7, Um HV.out.k8, Um HV.out.k9, Um HV.out.k10, Um HV.out.k11, Um HV.out.k12, Um HV.out.k13, Um HV.out.k14, Um HV.out.k15, Um HV.out.k16, Um HV.out.k17, Um HV.out.k18, Um HV.out.k19, Um HV.out.k20, Um HV.out.k21, Um HV.out.k22, Um HV.out.k23, Um HV.out.k24, Um HV.out.k25, Um HV.out.k26, Um HV.out.k27, Um HV.out.k28, Um HV.out.k29, Um HV.out.k30, Um HV.out.k31, Um HV.out.k32, Um HV.out.k33, Um HV.out.k34, Um HV.out.k35, HV.out.g⟩⟩
  ·simp at ho
   subst ho
   have H6 := Lib.hid (hall { on := 6, ground := .data } (by simp) (by decide))
   have H5 := Lib.hid (hall { on := 5, ground := .chain } (by simp) (by decide))
   clear hall hi
   have e0 := HV.out.k6 H6.out
   subst e0
   have e1 := HV.out.k5 H5.out
   subst e1
   refine wpOp_step rfl (fun K' hK' => ?_)
   have HK := Lib.hid hK'
   clear hK'
   go_simp
   refine (HC3.out w' HV.out.g).mono ?_
   rintro e wn ⟨rfl, bn⟩
   exact HK.out _ _ ⟨by simp [HJ.out.sz], ⟨_, _, _, _, _, _, _, _, _, _, _, _, _, _, _, _, _, _, _, _, _, _, _, _, _, _, _, _, _, _, _, _, _, _, _, _, rfl, Um HV.out.k0, Um HV.out.k1, Um HV.out.k2, Um HV.out.k3, Um HV.out.k4, Um HV.out.k5, Um HV.out.k6, fun _ => rfl, Um HV.out.k8, Um HV.out.k9, Um HV.out.k10, Um HV.out.k11, Um HV.out.k12, Um HV.out.k13, Um HV.out.k14, Um HV.out.k15, Um HV.out.k16, Um HV.out.k17, Um HV.out.k18, Um HV.out.k19, Um HV.out.k20, Um HV.out.k21, Um HV.out.k22, Um HV.out.k23, Um HV.out.k24, Um HV.out.k25, Um HV.out.k26, Um HV.out.k27, Um HV.out.k28, Um HV.out.k29, Um HV.out.k30, Um HV.out.k31, Um HV.out.k32, Um HV.out.k33, Um HV.out.k34, Um HV.out.k35, HV.out.g.trans (bn.mono HV.out.g.size)⟩⟩
  ·simp at ho
   subst ho
   have H5 := Lib.hid (hall { on := 5, ground := .guard } (by simp) (by decide))
   clear hall hi
   have e0 := HV.out.k5 H5.out
   subst e0
   refine wpOp_step rfl (fun K' hK' => ?_)
   have HK := Lib.hid hK'
   clear hK'
   go_simp
   exact HK.out _ _ ⟨by simp [HJ.out.sz], ⟨_, _, _, _, _, _, _, _, _, _, _, _, _, _, _, _, _, _, _, _, _, _, _, _, _, _, _, _, _, _, _, _, _, _, _, _, rfl, Um HV.out.k0, Um HV.out.k1, Um HV.out.k2, Um HV.out.k3, Um HV.out.k4, Um HV.out.k5, Um HV.out.k6, Um HV.out.k7, fun _ => rfl, Um HV.out.k9, Um HV.out.k10, Um HV.out.k11, Um HV.out.k12, Um HV.out.k13, Um HV.out.k14, Um HV.out.k15, Um HV.out.k16, Um HV.out.k17, Um HV.out.k18, Um HV.out.k19, Um HV.out.k20, Um HV.out.k21, Um HV.out.k22, Um HV.out.k23, Um HV.out.k24, Um HV.out.k25, Um HV.out.k26, Um HV.out.k27, Um HV.out.k28, Um HV.out.k29, Um HV.out.k30, Um HV.out.k31, Um HV.out.k32, Um HV.out.k33, Um HV.out.k34, Um HV.out.k35, HV.out.g⟩⟩
  ·simp at ho
   subst ho
   have H8 := Lib.hid (hall { on := 8, ground := .data } (by simp) (by decide))
   have H5 := Lib.hid (hall { on := 5, ground := .guard } (by simp) (by decide))
   clear hall hi
   have e0 := HV.out.k8 H8.out
   subst e0
   have e1 := HV.out.k5 H5.out
   subst e1
   refine wpOp_step rfl (fun K' hK' => ?_)
   have HK := Lib.hid hK'
   clear hK'
   go_simp
   refine (HC4.out w' HV.out.g).mono ?_
   rintro e wn ⟨rfl, bn⟩
   exact HK.out _ _ ⟨by simp [HJ.out.sz], ⟨_, _, _, _, _, _, _, _, _, _, _, _, _, _, _, _, _, _, _, _, _, _, _, _, _, _, _, _, _, _, _, _, _, _, _, _, rfl, Um HV.out.k0, Um HV.out.k1, Um HV.out.k2, Um HV.out.k3, Um HV.out.k4, Um HV.out.k5, Um HV.out.k6, Um HV.out.k7, Um HV.out.k8, fun _ => rfl, Um HV.out.k10, Um HV.out.k11, Um HV.out.k12, Um HV.out.k13, Um HV.out.k14, Um HV.out.k15, Um HV.out.k16, Um HV.out.k17, Um HV.out.k18, Um HV.out.k19, Um HV.out.k20, Um HV.out.k21, Um HV.out.k22, Um HV.out.k23, Um HV.out.k24, Um HV.out.k25, Um HV.out.k26, Um HV.out.k27, Um HV.out.k28, Um HV.out.k29, Um HV.out.k30, Um HV.out.k31, Um HV.out.k32, Um HV.out.k33, Um HV.out.k34, Um HV.out.k35, HV.out.g.trans (bn.mono HV.out.g.size)⟩⟩
  ·simp at ho
   subst ho
   have H7 := Lib.hid (hall { on := 7, ground := .data } (by simp) (by decide))
   have H9 := Lib.hid (hall { on := 9, ground := .data } (by simp) (by decide))
   have H5 := Lib.hid (hall { on := 5, ground := .guard } (by simp) (by decide))
   clear hall hi
   have e0 := HV.out.k7 H7.out
   subst e0
   have e1 := HV.out.k9 H9.out
   subst e1
   have e2 := HV.out.k5 H5.out
   subst e2
   refine wpOp_step rfl (fun K' hK' => ?_)
   have HK := Lib.hid hK'
   clear hK'
   go_simp
   exact HK.out _ _ ⟨by simp [HJ.out.sz], ⟨_, _, _, _, _, _, _, _, _, _, _, _, _, _, _, _, _, _, _, _, _, _, _, _, _, _, _, _, _, _, _, _, _, _, _, _, rfl, Um HV.out.k0, Um HV.out.k1, Um HV.out.k2, Um HV.out.k3, Um HV.out.k4, Um HV.out.k5, Um HV.out.k6, Um HV.out.k7, Um HV.out.k8, Um HV.out.k9, fun _ => rfl, Um HV.out.k11, Um HV.out.k12, Um HV.out.k13, Um HV.out.k14, Um HV.out.k15, Um HV.out.k16, Um HV.out.k17, Um HV.out.k18, Um HV.out.k19, Um HV.out.k20, Um HV.out.k21, Um HV.out.k22, Um HV.out.k23, Um HV.out.k24, Um HV.out.k25, Um HV.out.k26, Um HV.out.k27, Um HV.out.k28, Um HV.out.k29, Um HV.out.k30, Um HV.out.k31, Um HV.out.k32, Um HV.out.k33, Um HV.out.k34, Um HV.out.k35, HV.out.g⟩⟩
  ·simp at ho
   subst ho
   have H5 := Lib.hid (hall { on := 5, ground := .data } (by simp) (by decide))
   have H10 := Lib.hid (hall { on := 10, ground := .data } (by simp) (by decide))
   clear hall hi
   have e0 := HV.out.k5 H5.out
   subst e0
   have e1 := HV.out.k10 H10.out
   subst e1
   refine wpOp_step rfl (fun K' hK' => ?_)
   have HK := Lib.hid hK'
   clear hK'
   go_simp
   exact HK.out _ _ ⟨by simp [HJ.out.sz], ⟨_, _, _, _, _, _, _, _, _, _, _, _, _, _, _, _, _, _, _, _, _, _, _, _, _, _, _, _, _, _, _, _, _, _, _, _, rfl, Um HV.out.k0, Um HV.out.k1, Um HV.out.k2, Um HV.out.k3, Um HV.out.k4, Um HV.out.k5, Um HV.out.k6, Um HV.out.k7, Um HV.out.k8, Um HV.out.k9, Um HV.out.k10, fun _ => rfl, Um HV.out.k12, Um HV.out.k13, Um HV.out.k14, Um HV.out.k15, Um HV.out.k16, Um HV.out.k17, Um HV.out.k18, Um HV.out.k19, Um HV.out.k20, Um HV.out.k21, Um HV.out.k22, Um HV.out.k23, Um HV.out.k24, Um HV.out.k25, Um HV.out.k26, Um HV.out.k27, Um HV.out.k28, Um HV.out.k29, Um HV.out.k30, Um HV.out.k31, Um HV.out.k32, Um HV.out.k33, Um HV.out.k34, Um HV.out.k35, HV.out.g⟩⟩
  ·simp at ho
   subst ho
   have H11 := Lib.hid (hall { on := 11, ground := .data } (by simp) (by decide))
   clear hall hi
   have e0 := HV.out.k11 H11.out
   subst e0
   refine wpOp_step rfl (fun K' hK' => ?_)
   have HK := Lib.hid hK'
   clear hK'
   go_simp
   exact HK.out _ _ ⟨by simp [HJ.out.sz], ⟨_, _, _, _, _, _, _, _, _, _, _, _, _, _, _, _, _, _, _, _, _, _, _, _, _, _, _, _, _, _, _, _, _, _, _, _, rfl, Um HV.out.k0, Um HV.out.k1, Um HV.out.k2, Um HV.out.k3, Um HV.out.k4, Um HV.out.k5, Um HV.out.k6, Um HV.out.k7, Um HV.out.k8, Um HV.out.k9, Um HV.out.k10, Um HV.out.k11, fun _ => rfl, Um HV.out.k13, Um HV.out.k14, Um HV.out.k15, Um HV.out.k16, Um HV.out.k17, Um HV.out.k18, Um HV.out.k19, Um HV.out.k20, Um HV.out.k21, Um HV.out.k22, Um HV.out.k23, Um HV.out.k24, Um HV.out.k25, Um HV.out.k26, Um HV.out.k27, Um HV.out.k28, Um HV.out.k29, Um HV.out.k30, Um HV.out.k31, Um HV.out.k32, Um HV.out.k33, Um HV.out.k34, Um HV.out.k35, HV.out.g⟩⟩
  ·simp at ho
   subst ho
   have H12 := Lib.hid (hall { on := 12, ground := .guard } (by simp) (by decide))
   clear hall hi
   have e0 := HV.out.k12 H12.out
   subst e0
   refine wpOp_step rfl (fun K' hK' => ?_)
   have HK := Lib.hid hK'
   clear hK'
   go_simp
   exact HK.out _ _ ⟨by simp [HJ.out.sz], ⟨_, _, _, _, _, _, _, _, _, _, _, _, _, _, _, _, _, _, _, _, _, _, _, _, _, _, _, _, _, _, _, _, _, _, _, _, rfl, Um HV.out.k0, Um HV.out.k1, Um HV.out.k2, Um HV.out.k3, Um HV.out.k4, Um HV.out.k5, Um HV.out.k6, Um HV.out.k7, Um HV.out.k8, Um HV.out.k9, Um HV.out.k10, Um HV.out.k11, Um HV.out.k12, fun _ => rfl, Um HV.out.k14, Um HV.out.k15, Um HV.out.k16, Um HV.out.k17, Um HV.out.k18, Um HV.out.k19, Um HV.out.k20, Um HV.out.k21, Um HV.out.k22, Um HV.out.k23, Um HV.out.k24, Um HV.out.k25, Um HV.out.k26, Um HV.out.k27, Um HV.out.k28, Um HV.out.k29, Um HV.out.k30, Um HV.out.k31, Um HV.out.k32, Um HV.out.k33, Um HV.out.k34, Um HV.out.k35, HV.out.g⟩⟩
  ·simp at ho
   subst ho
   have H12 := Lib.hid (hall { on := 12, ground := .guard } (by simp) (by decide))
   clear hall hi
   have e0 := HV.out.k12 H12.out
   subst e0
   refine wpOp_step rfl (fun K' hK' => ?_)
   have HK := Lib.hid hK'
   clear hK'
   go_simp
   exact HK.out _ _ ⟨by simp [HJ.out.sz], ⟨_, _, _, _, _, _, _, _, _, _, _, _, _, _, _, _, _, _, _, _, _, _, _, _, _, _, _, _, _, _, _, _, _, _, _, _, rfl, Um HV.out.k0, Um HV.out.k1, Um HV.out.k2, Um HV.out.k3, Um HV.out.k4, Um HV.out.k5, Um HV.out.k6, Um HV.out.k7, Um HV.out.k8, Um HV.out.k9, Um HV.out.k10, Um HV.out.k11, Um HV.out.k12, Um HV.out.k13, fun _ => rfl, Um HV.out.k15, Um HV.out.k16, Um HV.out.k17, Um HV.out.k18, Um HV.out.k19, Um HV.out.k20, Um HV.out.k21, Um HV.out.k22, Um HV.out.k23, Um HV.out.k24, Um HV.out.k25, Um HV.out.k26, Um HV.out.k27, Um HV.out.k28, Um HV.out.k29, Um HV.out.k30, Um HV.out.k31, Um HV.out.k32, Um HV.out.k33, Um HV.out.k34, Um HV.out.k35, HV.out.g⟩⟩
  ·simp at ho
   subst ho
   have H13 := Lib.hid (hall { on := 13, ground := .data } (by simp) (by decide))
   have H14 := Lib.hid (hall { on := 14, ground := .data } (by simp) (by decide))
   have H12 := Lib.hid (hall { on := 12, ground := .guard } (by simp) (by decide))
   clear hall hi
   have e0 := HV.out.k13 H13.out
   subst e0
   have e1 := HV.out.k14 H14.out
   subst e1
   have e2 := HV.out.k12 H12.out
   subst e2
   refine wpOp_step rfl (fun K' hK' => ?_)
   have HK := Lib.hid hK'
   clear hK'
   go_simp
   exact HK.out _ _ ⟨by simp [HJ.out.sz], ⟨_, _, _, _, _, _, _, _, _, _, _, _, _, _, _, _, _, _, _, _, _, _, _, _, _, _, _, _, _, _, _, _, _, _, _, _, rfl, Um HV.out.k0, Um HV.out.k1, Um HV.out.k2, Um HV.out.k3, Um HV.out.k4, Um HV.out.k5, Um HV.out.k6, Um HV.out.k7, Um HV.out.k8, Um HV.out.k9, Um HV.out.k10, Um HV.out.k11, Um HV.out.k12, Um HV.out.k13, Um HV.out.k14, fun _ => rfl, Um HV.out.k16, Um HV.out.k17, Um HV.out.k18, Um HV.out.k19, Um HV.out.k20, Um HV.out.k21, Um HV.out.k22, Um HV.out.k23, Um HV.out.k24, Um HV.out.k25, Um HV.out.k26, Um HV.out.k27, Um HV.out.k28, Um HV.out.k29, Um HV.out.k30, Um HV.out.k31, Um HV.out.k32, Um HV.out.k33, Um HV.out.k34, Um HV.out.k35, HV.out.g⟩⟩
  ·simp at ho
   subst ho
   have H12 := Lib.hid (hall { on := 12, ground := .data } (by simp) (by decide))
   have H15 := Lib.hid (hall { on := 15, ground := .data } (by simp) (by decide))
   clear hall hi
   have e0 := HV.out.k12 H12.out
   subst e0
   have e1 := HV.out.k15 H15.out
   subst e1
   refine wpOp_step rfl (fun K' hK' => ?_)
   have HK := Lib.hid hK'
   clear hK'
   go_simp
   exact HK.out _ _ ⟨by simp [HJ.out.sz], ⟨_, _, _, _, _, _, _, _, _, _, _, _, _, _, _, _, _, _, _, _, _, _, _, _, _, _, _, _, _, _, _, _, _, _, _, _, rfl, Um HV.out.k0, Um HV.out.k1, Um HV.out.k2, Um HV.out.k3, Um HV.out.k4, Um HV.out.k5, Um HV.out.k6, Um HV.out.k7, Um HV.out.k8, Um HV.out.k9, Um HV.out.k10, Um HV.out.k11, Um HV.out.k12, Um HV.out.k13, Um HV.out.k14, Um HV.out.k15, fun _ => rfl, Um HV.out.k17, Um HV.out.k18, Um HV.out.k19, Um HV.out.k20, Um HV.out.k21, Um HV.out.k22, Um HV.out.k23, Um HV.out.k24, Um HV.out.k25, Um HV.out.k26, Um HV.out.k27, Um HV.out.k28, Um HV.out.k29, Um HV.out.k30, Um HV.out.k31, Um HV.out.k32, Um HV.out.k33, Um HV.out.k34, Um HV.out.k35, HV.out.g⟩⟩
  ·simp at ho
   subst ho
   have H16 := Lib.hid (hall { on := 16, ground := .data } (by simp) (by decide))
   clear hall hi
   have e0 := HV.out.k16 H16.out
   subst e0
   refine wpOp_step rfl (fun K' hK' => ?_)
   have HK := Lib.hid hK'
   clear hK'
   go_simp
   exact HK.out _ _ ⟨by simp [HJ.out.sz], ⟨_, _, _, _, _, _, _, _, _, _, _, _, _, _, _, _, _, _, _, _, _, _, _, _, _, _, _, _, _, _, _, _, _, _, _, _, rfl, Um HV.out.k0, Um HV.out.k1, Um HV.out.k2, Um HV.out.k3, Um HV.out.k4, Um HV.out.k5, Um HV.out.k6, Um HV.out.k7, Um HV.out.k8, Um HV.out.k9, Um HV.out.k10, Um HV.out.k11, Um HV.out.k12, Um HV.out.k13, Um HV.out.k14, Um HV.out.k15, Um HV.out.k16, fun _ => rfl, Um HV.out.k18, Um HV.out.k19, Um HV.out.k20, Um HV.out.k21, Um HV.out.k22, Um HV.out.k23, Um HV.out.k24, Um HV.out.k25, Um HV.out.k26, Um HV.out.k27, Um HV.out.k28, Um HV.out.k29, Um HV.out.k30, Um HV.out.k31, Um HV.out.k32, Um HV.out.k33, Um HV.out.k34, Um HV.out.k35, HV.out.g⟩⟩
  ·simp at ho
   subst ho
   have H17 := Lib.hid (hall { on := 17, ground := .guard } (by simp) (by decide))
   clear hall hi
   have e0 := HV.out.k17 H17.out
   subst e0
   refine wpOp_step rfl (fun K' hK' => ?_)
   have HK := Lib.hid hK'
   clear hK'
   go_simp
   exact HK.out _ _ ⟨by simp [HJ.out.sz], ⟨_, _, _, _, _, _, _, _, _, _, _, _, _, _, _, _, _, _, _, _, _, _, _, _, _, _, _, _, _, _, _, _, _, _, _, _, rfl, Um HV.out.k0, Um HV.out.k1, Um HV.out.k2, Um HV.out.k3, Um HV.out.k4, Um HV.out.k5, Um HV.out.k6, Um HV.out.k7, Um HV.out.k8, Um HV.out.k9, Um HV.out.k10, Um HV.out.k11, Um HV.out.k12, Um HV.out.k13, Um HV.out.k14, Um HV.out.k15, Um HV.out.k16, Um HV.out.k17, fun _ => rfl, Um HV.out.k19, Um HV.out.k20, Um HV.out.k21, Um HV.out.k22, Um HV.out.k23, Um HV.out.k24, Um HV.out.k25, Um HV.out.k26, Um HV.out.k27, Um HV.out.k28, Um HV.out.k29, Um HV.out.k30, Um HV.out.k31, Um HV.out.k32, Um HV.out.k33, Um HV.out.k34, Um HV.out.k35, HV.out.g⟩⟩
  ·simp at ho
   subst ho
   have H17 := Lib.hid (hall { on := 17, ground := .guard } (by simp) (by decide))
   clear hall hi
   have e0 := HV.out.k17 H17.out
   subst e0
   refine wpOp_step rfl (fun K' hK' => ?_)
   have HK := Lib.hid hK'
   clear hK'
   go_simp
   exact HK.out _ _ ⟨by simp [HJ.out.sz], ⟨_, _, _, _, _, _, _, _, _, _, _, _, _, _, _, _, _, _, _, _, _, _, _, _, _, _, _, _, _, _, _, _, _, _, _, _, rfl, Um HV.out.k0, Um HV.out.k1, Um HV.out.k2, Um HV.out.k3, Um HV.out.k4, Um HV.out.k5, Um HV.out.k6, Um HV.out.k7, Um HV.out.k8, Um HV.out.k9, Um HV.out.k10, Um HV.out.k11, Um HV.out.k12, Um HV.out.k13, Um HV.out.k14, Um HV.out.k15, Um HV.out.k16, Um HV.out.k17, Um HV.out.k18, fun _ => rfl, Um HV.out.k20, Um HV.out.k21, Um HV.out.k22, Um HV.out.k23, Um HV.out.k24, Um HV.out.k25, Um HV.out.k26, Um HV.out.k27, Um HV.out.k28, Um HV.out.k29, Um HV.out.k30, Um HV.out.k31, Um HV.out.k32, Um HV.out.k33, Um HV.out.k34, Um HV.out.k35, HV.out.g⟩⟩
  ·simp at ho
   subst ho
   have H18 := Lib.hid (hall { on := 18, ground := .data } (by simp) (by decide))
   have H19 := Lib.hid (hall { on := 19, ground := .data } (by simp) (by decide))
   have H17 := Lib.hid (hall { on := 17, ground := .guard } (by simp) (by decide))
   clear hall hi
   have e0 := HV.out.k18 H18.out
   subst e0
   have e1 := HV.out.k19 H19.out
   subst e1
   have e2 := HV.out.k17 H17.out
   subst e2
   refine wpOp_step rfl (fun K' hK' => ?_)
   have HK := Lib.hid hK'
   clear hK'
   go_simp
   exact HK.out _ _ ⟨by simp [HJ.out.sz], ⟨_, _, _, _, _, _, _, _, _, _, _, _, _, _, _, _, _, _, _, _, _, _, _, _, _, _, _, _, _, _, _, _, _, _, _, _, rfl, Um HV.out.k0, Um HV.out.k1, Um HV.out.k2, Um HV.out.k3, Um HV.out.k4, Um HV.out.k5, Um HV.out.k6, Um HV.out.k7, Um HV.out.k8, Um HV.out.k9, Um HV.out.k10, Um HV.out.k11, Um HV.out.k12, Um HV.out.k13, Um HV.out.k14, Um HV.out.k15, Um HV.out.k16, Um HV.out.k17, Um HV.out.k18, Um HV.out.k19, fun _ => rfl, Um HV.out.k21, Um HV.out.k22, Um HV.out.k23, Um HV.out.k24, Um HV.out.k25, Um HV.out.k26, Um HV.out.k27, Um HV.out.k28, Um HV.out.k29, Um HV.out.k30, Um HV.out.k31, Um HV.out.k32, Um HV.out.k33, Um HV.out.k34, Um HV.out.k35, HV.out.g⟩⟩
  ·simp at ho
   subst ho
   have H17 := Lib.hid (hall { on := 17, ground := .data } (by simp) (by decide))
   have H20 := Lib.hid (hall { on := 20, ground := .data } (by simp) (by decide))
   clear hall hi
   have e0 := HV.out.k17 H17.out
   subst e0
   have e1 := HV.out.k20 H20.out
   subst e1
   refine wpOp_step rfl (fun K' hK' => ?_)
   have HK := Lib.hid hK'
   clear hK'
   go_simp
   exact HK.out _ _ ⟨by simp [HJ.out.sz], ⟨_, _, _, _, _, _, _, _, _, _, _, _, _, _, _, _, _, _, _, _, _, _, _, _, _, _, _, _, _, _, _, _, _, _, _, _, rfl, Um HV.out.k0, Um HV.out.k1, Um HV.out.k2, Um HV.out.k3, Um HV.out.k4, Um HV.out.k5, Um HV.out.k6, Um HV.out.k7, Um HV.out.k8, Um HV.out.k9, Um HV.out.k10, Um HV.out.k11, Um HV.out.k12, Um HV.out.k13, Um HV.out.k14, Um HV.out.k15, Um HV.out.k16, Um HV.out.k17, Um HV.out.k18, Um HV.out.k19, Um HV.out.k20, fun _ => rfl, Um HV.out.k22, Um HV.out.k23, Um HV.out.k24, Um HV.out.k25, Um HV.out.k26, Um HV.out.k27, Um HV.out.k28, Um HV.out.k29, Um HV.out.k30, Um HV.out.k31, Um HV.out.k32, Um HV.out.k33, Um HV.out.k34, Um HV.out.k35, HV.out.g⟩⟩
  ·simp at ho
   subst ho
   have H21 := Lib.hid (hall { on := 21, ground := .data } (by simp) (by decide))
   clear hall hi
   have e0 := HV.out.k21 H21.out
   subst e0
   refine wpOp_step rfl (fun K' hK' => ?_)
   have HK := Lib.hid hK'
   clear hK'
   go_simp
   exact HK.out _ _ ⟨by simp [HJ.out.sz], ⟨_, _, _, _, _, _, _, _, _, _, _, _, _, _, _, _, _, _, _, _, _, _, _, _, _, _, _, _, _, _, _, _, _, _, _, _, rfl, Um HV.out.k0, Um HV.out.k1, Um HV.out.k2, Um HV.out.k3, Um HV.out.k4, Um HV.out.k5, Um HV.out.k6, Um HV.out.k7, Um HV.out.k8, Um HV.out.k9, Um HV.out.k10, Um HV.out.k11, Um HV.out.k12, Um HV.out.k13, Um HV.out.k14, Um HV.out.k15, Um HV.out.k16, Um HV.out.k17, Um HV.out.k18, Um HV.out.k19, Um HV.out.k20, Um HV.out.k21, fun _ => rfl, Um HV.out.k23, Um HV.out.k24, Um HV.out.k25, Um HV.out.k26, Um HV.out.k27, Um HV.out.k28, Um HV.out.k29, Um HV.out.k30, Um HV.out.k31, Um HV.out.k32, Um HV.out.k33, Um HV.out.k34, Um HV.out.k35, HV.out.g⟩⟩
  ·simp at ho
   subst ho
   have H22 := Lib.hid (hall { on := 22, ground := .guard } (by simp) (by decide))
   clear hall hi
   have e0 := HV.out.k22 H22.out
   subst e0
   refine wpOp_step rfl (fun K' hK' => ?_)
   have HK := Lib.hid hK'
   clear hK'
   go_simp
   exact HK.out _ _ ⟨by simp [HJ.out.sz], ⟨_, _, _, _, _, _, _, _, _, _, _, _, _, _, _, _, _, _, _, _, _, _, _, _, _, _, _, _, _, _, _, _, _, _, _, _, rfl, Um HV.out.k0, Um HV.out.k1, Um HV.out.k2, Um HV.out.k3, Um HV.out.k4, Um HV.out.k5, Um HV.out.k6, Um HV.out.k7, Um HV.out.k8, Um HV.out.k9, Um HV.out.k10, Um HV.out.k11, Um HV.out.k12, Um HV.out.k13, Um HV.out.k14, Um HV.out.k15, Um HV.out.k16, Um HV.out.k17, Um HV.out.k18, Um HV.out.k19, Um HV.out.k20, Um HV.out.k21, Um HV.out.k22, fun _ => rfl, Um HV.out.k24, Um HV.out.k25, Um HV.out.k26, Um HV.out.k27, Um HV.out.k28, Um HV.out.k29, Um HV.out.k30, Um HV.out.k31, Um HV.out.k32, Um HV.out.k33, Um HV.out.k34, Um HV.out.k35, HV.out.g⟩⟩
  ·simp at ho
   subst ho
   have H22 := Lib.hid (hall { on := 22, ground := .guard } (by simp) (by decide))
   clear hall hi
   have e0 := HV.out.k22 H22.out
   subst e0
   refine wpOp_step rfl (fun K' hK' => ?_)
   have HK := Lib.hid hK'
   clear hK'
   go_simp
   exact HK.out _ _ ⟨by simp [HJ.out.sz], ⟨_, _, _, _, _, _, _, _, _, _, _, _, _, _, _, _, _, _, _, _, _, _, _, _, _, _, _, _, _, _, _, _, _, _, _, _, rfl, Um HV.out.k0, Um HV.out.k1, Um HV.out.k2, Um HV.out.k3, Um HV.out.k4, Um HV.out.k5, Um HV.out.k6, Um HV.out.k7, Um HV.out.k8, Um HV.out.k9, Um HV.out.k10, Um HV.out.k11, Um HV.out.k12, Um HV.out.k13, Um HV.out.k14, Um HV.out.k15, Um HV.out.k16, Um HV.out.k17, Um HV.out.k18, Um HV.out.k19, Um HV.out.k20, Um HV.out.k21, Um HV.out.k22, Um HV.out.k23, fun _ => rfl, Um HV.out.k25, Um HV.out.k26, Um HV.out.k27, Um HV.out.k28, Um HV.out.k29, Um HV.out.k30, Um HV.out.k31, Um HV.out.k32, Um HV.out.k33, Um HV.out.k34, Um HV.out.k35, HV.out.g⟩⟩
  ·simp at ho
   subst ho
   have H23 := Lib.hid (hall { on := 23, ground := .data } (by simp) (by decide))
   have H24 := Lib.hid (hall { on := 24, ground := .data } (by simp) (by decide))
   have H22 := Lib.hid (hall { on := 22, ground := .chain } (by simp) (by decide))
   clear hall hi
   have e0 := HV.out.k23 H23.out
   subst e0
   have e1 := HV.out.k24 H24.out
   subst e1
   have e2 := HV.out.k22 H22.out
   subst e2
   refine wpOp_step rfl (fun K' hK' => ?_)
   have HK := Lib.hid hK'
   clear hK'
   go_simp
   refine (HC5.out w' HV.out.g).mono ?_
   rintro e wn ⟨rfl, bn⟩
   exact HK.out _ _ ⟨by simp [HJ.out.sz], ⟨_, _, _, _, _, _, _, _, _, _, _, _, _, _, _, _, _, _, _, _, _, _, _, _, _, _, _, _, _, _, _, _, _, _, _, _, rfl, Um HV.out.k0, Um HV.out.k1, Um HV.out.k2, Um HV.out.k3, Um HV.out.k4, Um HV.out.k5, Um HV.out.k6, Um HV.out.k7, Um HV.out.k8, Um HV.out.k9, Um HV.out.k10, Um HV.out.k11, Um HV.out.k12, Um HV.out.k13, Um HV.out.k14, Um HV.out.k15, Um HV.out.k16, Um HV.out.k17, Um HV.out.k18, Um HV.out.k19, Um HV.out.k20, Um HV.out.k21, Um HV.out.k22, Um HV.out.k23, Um HV.out.k24, fun _ => rfl, Um HV.out.k26, Um HV.out.k27, Um HV.out.k28, Um HV.out.k29, Um HV.out.k30, Um HV.out.k31, Um HV.out.k32, Um HV.out.k33, Um HV.out.k34, Um HV.out.k35, HV.out.g.trans (bn.mono HV.out.g.size)⟩⟩
  ·simp at ho
   subst ho
   have H22 := Lib.hid (hall { on := 22, ground := .data } (by simp) (by decide))
   have H25 := Lib.hid (hall { on := 25, ground := .data } (by simp) (by decide))
   clear hall hi
   have e0 := HV.out.k22 H22.out
   subst e0
   have e1 := HV.out.k25 H25.out
   subst e1
   refine wpOp_step rfl (fun K' hK' => ?_)
   have HK := Lib.hid hK'
   clear hK'
   go_simp
   exact HK.out _ _ ⟨by simp [HJ.out.sz], ⟨_, _, _, _, _, _, _, _, _, _, _, _, _, _, _, _, _, _, _, _, _, _, _, _, _, _, _, _, _, _, _, _, _, _, _, _, rfl, Um HV.out.k0, Um HV.out.k1, Um HV.out.k2, Um HV.out.k3, Um HV.out.k4, Um HV.out.k5, Um HV.out.k6, Um HV.out.k7, Um HV.out.k8, Um HV.out.k9, Um HV.out.k10, Um HV.out.k11, Um HV.out.k12, Um HV.out.k13, Um HV.out.k14, Um HV.out.k15, Um HV.out.k16, Um HV.out.k17, Um HV.out.k18, Um HV.out.k19, Um HV.out.k20, Um HV.out.k21, Um HV.out.k22, Um HV.out.k23, Um HV.out.k24, Um HV.out.k25, fun _ => rfl, Um HV.out.k27, Um HV.out.k28, Um HV.out.k29, Um HV.out.k30, Um HV.out.k31, Um HV.out.k32, Um HV.out.k33, Um HV.out.k34, Um HV.out.k35, HV.out.g⟩⟩
  ·simp at ho
   subst ho
   have H26 := Lib.hid (hall { on := 26, ground := .data } (by simp) (by decide))
   clear hall hi
   have e0 := HV.out.k26 H26.out
   subst e0
   refine wpOp_step rfl (fun K' hK' => ?_)
   have HK := Lib.hid hK'
   clear hK'
   go_simp
   exact HK.out _ _ ⟨by simp [HJ.out.sz], ⟨_, _, _, _, _, _, _, _, _, _, _, _, _, _, _, _, _, _, _, _, _, _, _, _, _, _, _, _, _, _, _, _, _, _, _, _, rfl, Um HV.out.k0, Um HV.out.k1, Um HV.out.k2, Um HV.out.k3, Um HV.out.k4, Um HV.out.k5, Um HV.out.k6, Um HV.out.k7, Um HV.out.k8, Um HV.out.k9, Um HV.out.k10, Um HV.out.k11, Um HV.out.k12, Um HV.out.k13, Um HV.out.k14, Um HV.out.k15, Um HV.out.k16, Um HV.out.k17, Um HV.out.k18, Um HV.out.k19, Um HV.out.k20, Um HV.out.k21, Um HV.out.k22, Um HV.out.k23, Um HV.out.k24, Um HV.out.k25, Um HV.out.k26, fun _ => rfl, Um HV.out.k28, Um HV.out.k29, Um HV.out.k30, Um HV.out.k31, Um HV.out.k32, Um HV.out.k33, Um HV.out.k34, Um HV.out.k35, HV.out.g⟩⟩
  ·simp at ho
   subst ho
   have H27 := Lib.hid (hall { on := 27, ground := .guard } (by simp) (by decide))
   clear hall hi
   have e0 := HV.out.k27 H27.out
   subst e0
   refine wpOp_step rfl (fun K' hK' => ?_)
   have HK := Lib.hid hK'
   clear hK'
   go_simp
   exact HK.out _ _ ⟨by simp [HJ.out.sz], ⟨_, _, _, _, _, _, _, _, _, _, _, _, _, _, _, _, _, _, _, _, _, _, _, _, _, _, _, _, _, _, _, _, _, _, _, _, rfl, Um HV.out.k0, Um HV.out.k1, Um HV.out.k2, Um HV.out.k3, Um HV.out.k4, Um HV.out.k5, Um HV.out.k6, Um HV.out.k7, Um HV.out.k8, Um HV.out.k9, Um HV.out.k10, Um HV.out.k11, Um HV.out.k12, Um HV.out.k13, Um HV.out.k14, Um HV.out.k15, Um HV.out.k16, Um HV.out.k17, Um HV.out.k18, Um HV.out.k19, Um HV.out.k20, Um HV.out.k21, Um HV.out.k22, Um HV.out.k23, Um HV.out.k24, Um HV.out.k25, Um HV.out.k26, Um HV.out.k27, fun _ => rfl, Um HV.out.k29, Um HV.out.k30, Um HV.out.k31, Um HV.out.k32, Um HV.out.k33, Um HV.out.k34, Um HV.out.k35, HV.out.g⟩⟩
  ·simp at ho
   subst ho
   have H27 := Lib.hid (hall { on := 27, ground := .guard } (by simp) (by decide))
   clear hall hi
   have e0 := HV.out.k27 H27.out
   subst e0
   refine wpOp_step rfl (fun K' hK' => ?_)
   have HK := Lib.hid hK'
   clear hK'
   go_simp
   exact HK.out _ _ ⟨by simp [HJ.out.sz], ⟨_, _, _, _, _, _, _, _, _, _, _, _, _, _, _, _, _, _, _, _, _, _, _, _, _, _, _, _, _, _, _, _, _, _, _, _, rfl, Um HV.out.k0, Um HV.out.k1, Um HV.out.k2, Um HV.out.k3, Um HV.out.k4, Um HV.out.k5, Um HV.out.k6, Um HV.out.k7, Um HV.out.k8, Um HV.out.k9, Um HV.out.k10, Um HV.out.k11, Um HV.out.k12, Um HV.out.k13, Um HV.out.k14, Um HV.out.k15, Um HV.out.k16, Um HV.out.k17, Um HV.out.k18, Um HV.out.k19, Um HV.out.k20, Um HV.out.k21, Um HV.out.k22, Um HV.out.k23, Um HV.out.k24, Um HV.out.k25, Um HV.out.k26, Um HV.out.k27, Um HV.out.k28, fun _ => rfl, Um HV.out.k30, Um HV.out.k31, Um HV.out.k32, Um HV.out.k33, Um HV.out.k34, Um HV.out.k35, HV.out.g⟩⟩
  ·simp at ho
   subst ho
   have H28 := Lib.hid (hall { on := 28, ground := .data } (by simp) (by decide))
   have H29 := Lib.hid (hall { on := 29, ground := .data } (by simp) (by decide))
   have H27 := Lib.hid (hall { on := 27, ground := .guard } (by simp) (by decide))
   clear hall hi
   have e0 := HV.out.k28 H28.out
   subst e0
   have e1 := HV.out.k29 H29.out
   subst e1
   have e2 := HV.out.k27 H27.out
   subst e2
   refine wpOp_step rfl (fun K' hK' => ?_)
   have HK := Lib.hid hK'
   clear hK'
   go_simp
   exact HK.out _ _ ⟨by simp [HJ.out.sz], ⟨_, _, _, _, _, _, _, _, _, _, _, _, _, _, _, _, _, _, _, _, _, _, _, _, _, _, _, _, _, _, _, _, _, _, _, _, rfl, Um HV.out.k0, Um HV.out.k1, Um HV.out.k2, Um HV.out.k3, Um HV.out.k4, Um HV.out.k5, Um HV.out.k6, Um HV.out.k7, Um HV.out.k8, Um HV.out.k9, Um HV.out.k10, Um HV.out.k11, Um HV.out.k12, Um HV.out.k13, Um HV.out.k14, Um HV.out.k15, Um HV.out.k16, Um HV.out.k17, Um HV.out.k18, Um HV.out.k19, Um HV.out.k20, Um HV.out.k21, Um HV.out.k22, Um HV.out.k23, Um HV.out.k24, Um HV.out.k25, Um HV.out.k26, Um HV.out.k27, Um HV.out.k28, Um HV.out.k29, fun _ => rfl, Um HV.out.k31, Um HV.out.k32, Um HV.out.k33, Um HV.out.k34, Um HV.out.k35, HV.out.g⟩⟩
  ·simp at ho
   subst ho
   have H27 := Lib.hid (hall { on := 27, ground := .data } (by simp) (by decide))
   have H30 := Lib.hid (hall { on := 30, ground := .data } (by simp) (by decide))
   clear hall hi
   have e0 := HV.out.k27 H27.out
   subst e0
   have e1 := HV.out.k30 H30.out
   subst e1
   refine wpOp_step rfl (fun K' hK' => ?_)
   have HK := Lib.hid hK'
   clear hK'
   go_simp
   exact HK.out _ _ ⟨by simp [HJ.out.sz], ⟨_, _, _, _, _, _, _, _, _, _, _, _, _, _, _, _, _, _, _, _, _, _, _, _, _, _, _, _, _, _, _, _, _, _, _, _, rfl, Um HV.out.k0, Um HV.out.k1, Um HV.out.k2, Um HV.out.k3, Um HV.out.k4, Um HV.out.k5, Um HV.out.k6, Um HV.out.k7, Um HV.out.k8, Um HV.out.k9, Um HV.out.k10, Um HV.out.k11, Um HV.out.k12, Um HV.out.k13, Um HV.out.k14, Um HV.out.k15, Um HV.out.k16, Um HV.out.k17, Um HV.out.k18, Um HV.out.k19, Um HV.out.k20, Um HV.out.k21, Um HV.out.k22, Um HV.out.k23, Um HV.out.k24, Um HV.out.k25, Um HV.out.k26, Um HV.out.k27, Um HV.out.k28, Um HV.out.k29, Um HV.out.k30, fun _ => rfl, Um HV.out.k32, Um HV.out.k33, Um HV.out.k34, Um HV.out.k35, HV.out.g⟩⟩
  ·simp at ho
   subst ho
   have H31 := Lib.hid (hall { on := 31, ground := .data } (by simp) (by decide))
   clear hall hi
   have e0 := HV.out.k31 H31.out
   subst e0
   refine wpOp_step rfl (fun K' hK' => ?_)
   have HK := Lib.hid hK'
   clear hK'
   go_simp
   exact HK.out _ _ ⟨by simp [HJ.out.sz], ⟨_, _, _, _, _, _, _, _, _, _, _, _, _, _, _, _, _, _, _, _, _, _, _, _, _, _, _, _, _, _, _, _, _, _, _, _, rfl, Um HV.out.k0, Um HV.out.k1, Um HV.out.k2, Um HV.out.k3, Um HV.out.k4, Um HV.out.k5, Um HV.out.k6, Um HV.out.k7, Um HV.out.k8, Um HV.out.k9, Um HV.out.k10, Um HV.out.k11, Um HV.out.k12, Um HV.out.k13, Um HV.out.k14, Um HV.out.k15, Um HV.out.k16, Um HV.out.k17, Um HV.out.k18, Um HV.out.k19, Um HV.out.k20, Um HV.out.k21, Um HV.out.k22, Um HV.out.k23, Um HV.out.k24, Um HV.out.k25, Um HV.out.k26, Um HV.out.k27, Um HV.out.k28, Um HV.out.k29, Um HV.out.k30, Um HV.out.k31, fun _ => rfl, Um HV.out.k33, Um HV.out.k34, Um HV.out.k35, HV.out.g⟩⟩
  ·simp at ho
   subst ho
   have H32 := Lib.hid (hall { on := 32, ground := .chain } (by simp) (by decide))
   clear hall hi
   have e0 := HV.out.k32 H32.out
   subst e0
   refine wpOp_step rfl (fun K' hK' => ?_)
   have HK := Lib.hid hK'
   clear hK'
   go_simp
   refine (HC6.out w' HV.out.g).mono ?_
   rintro e wn ⟨rfl, bn⟩
   exact HK.out _ _ ⟨by simp [HJ.out.sz], ⟨_, _, _, _, _, _, _, _, _, _, _, _, _, _, _, _, _, _, _, _, _, _, _, _, _, _, _, _, _, _, _, _, _, _, _, _, rfl, Um HV.out.k0, Um HV.out.k1, Um HV.out.k2, Um HV.out.k3, Um HV.out.k4, Um HV.out.k5, Um HV.out.k6, Um HV.out.k7, Um HV.out.k8, Um HV.out.k9, Um HV.out.k10, Um HV.out.k11, Um HV.out.k12, Um HV.out.k13, Um HV.out.k14, Um HV.out.k15, Um HV.out.k16, Um HV.out.k17, Um HV.out.k18, Um HV.out.k19, Um HV.out.k20, Um HV.out.k21, Um HV.out.k22, Um HV.out.k23, Um HV.out.k24, Um HV.out.k25, Um HV.out.k26, Um HV.out.k27, Um HV.out.k28, Um HV.out.k29, Um HV.out.k30, Um HV.out.k31, Um HV.out.k32, fun _ => rfl, Um HV.out.k34, Um HV.out.k35, HV.out.g.trans (bn.mono HV.out.g.size)⟩⟩
  ·simp at ho
   subst ho
   have H32 := Lib.hid (hall { on := 32, ground := .data } (by simp) (by decide))
   have H33 := Lib.hid (hall { on := 33, ground := .data } (by simp) (by decide))
   clear hall hi
   have e0 := HV.out.k32 H32.out
   subst e0
   have e1 := HV.out.k33 H33.out
   subst e1
   refine wpOp_step rfl (fun K' hK' => ?_)
   have HK := Lib.hid hK'
   clear hK'
   go_simp
   exact HK.out _ _ ⟨by simp [HJ.out.sz], ⟨_, _, _, _, _, _, _, _, _, _, _, _, _, _, _, _, _, _, _, _, _, _, _, _, _, _, _, _, _, _, _, _, _, _, _, _, rfl, Um HV.out.k0, Um HV.out.k1, Um HV.out.k2, Um HV.out.k3, Um HV.out.k4, Um HV.out.k5, Um HV.out.k6, Um HV.out.k7, Um HV.out.k8, Um HV.out.k9, Um HV.out.k10, Um HV.out.k11, Um HV.out.k12, Um HV.out.k13, Um HV.out.k14, Um HV.out.k15, Um HV.out.k16, Um HV.out.k17, Um HV.out.k18, Um HV.out.k19, Um HV.out.k20, Um HV.out.k21, Um HV.out.k22, Um HV.out.k23, Um HV.out.k24, Um HV.out.k25, Um HV.out.k26, Um HV.out.k27, Um HV.out.k28, Um HV.out.k29, Um HV.out.k30, Um HV.out.k31, Um HV.out.k32, Um HV.out.k33, fun _ => rfl, Um HV.out.k35, HV.out.g⟩⟩
  ·simp at ho
   subst ho
   have H34 := Lib.hid (hall { on := 34, ground := .data } (by simp) (by decide))
   clear hall hi
   have e0 := HV.out.k34 H34.out
   subst e0
   refine wpOp_step rfl (fun K' hK' => ?_)
   have HK := Lib.hid hK'
   clear hK'
   go_simp
   exact HK.out _ _ ⟨by simp [HJ.out.sz], ⟨_, _, _, _, _, _, _, _, _, _, _, _, _, _, _, _, _, _, _, _, _, _, _, _, _, _, _, _, _, _, _, _, _, _, _, _, rfl, Um HV.out.k0, Um HV.out.k1, Um HV.out.k2, Um HV.out.k3, Um HV.out.k4, Um HV.out.k5, Um HV.out.k6, Um HV.out.k7, Um HV.out.k8, Um HV.out.k9, Um HV.out.k10, Um HV.out.k11, Um HV.out.k12, Um HV.out.k13, Um HV.out.k14, Um HV.out.k15, Um HV.out.k16, Um HV.out.k17, Um HV.out.k18, Um HV.out.k19, Um HV.out.k20, Um HV.out.k21, Um HV.out.k22, Um HV.out.k23, Um HV.out.k24, Um HV.out.k25, Um HV.out.k26, Um HV.out.k27, Um HV.out.k28, Um HV.out.k29, Um HV.out.k30, Um HV.out.k31, Um HV.out.k32, Um HV.out.k33, Um HV.out.k34, fun _ => rfl, HV.out.g⟩⟩
end Go.Proofs.YtdnmpgoigagjmaaGreatDoor
