/-
  tranchelaw19.LotReads returns true.
-/
import Derived.Test.YthmfkgcoocikjaaGreatDoorR41
import Derived.Test.YthmfkgcoocikjaaGreatDoorR45
set_option linter.unusedVariables false
set_option linter.unusedSimpArgs false
namespace Go.Proofs.YthmfkgcoocikjaaGreatDoor
open Go.RowKit Tr Go.Shelf

set_option maxHeartbeats 8000000 in
set_option maxRecDepth 100000 in
theorem LotReads_any (A1 : Option Addr) (l1 : List Lot) (c1 : Nat) (h1 : l1.length ≤ 9223372036854775807) (A2 : Option Addr) (l2 : List Lot) (c2 : Nat) (h2 : l2.length ≤ 9223372036854775807) (s : ByteArray) (w : World) (hR1 : RdL w A1 l1) (hR2 : RdL w A2 l2) (ht : Tabs w) :
    Calls Tryz.prog 3 #[.slice A1 l1.length c1, .slice A2 l2.length c2, .string s] w (TruePost19 w) := by
  have HT := Lib.hid ht
  have HR1 := Lib.hid hR1
  have HR2 := Lib.hid hR2
  clear ht hR1 hR2
  go_enter Tryz.func3, Tryz.ntmps3
  go_wp2_with fail
  refine (rGreat19_len A1 l1 c1 h1 w HR1.out).mono ?_
  rintro e wa ⟨g, rfl, hg, ba⟩
  have HBa := Lib.hid ba
  have HV1 := Lib.hid hg
  clear ba hg
  cases g
  case true =>
    go_wp2_with fail
    refine (awake19_any _ (HT.out.below HBa.out)).mono ?_
    rintro e wz ⟨rfl, bz⟩
    have HZ := Lib.hid (HBa.out.trans (bz.mono HBa.out.size))
    clear bz
    go_wp2_with fail
    go_ret
    exact ⟨rfl, HZ.out⟩
  have HX1 := Lib.hid (HV1.out rfl)
  clear HV1
  go_wp2_with fail
  refine (rGreat19_len A2 l2 c2 h2 wa (HR2.out.below HBa.out)).mono ?_
  rintro e wb ⟨g, rfl, hg, bb⟩
  have HBb := Lib.hid (HBa.out.trans (bb.mono HBa.out.size))
  have HV2 := Lib.hid hg
  clear bb hg HBa
  cases g
  case true =>
    go_wp2_with fail
    refine (awake19_any _ (HT.out.below HBb.out)).mono ?_
    rintro e wz ⟨rfl, bz⟩
    have HZ := Lib.hid (HBb.out.trans (bz.mono HBb.out.size))
    clear bz
    go_wp2_with fail
    go_ret
    exact ⟨rfl, HZ.out⟩
  obtain ⟨_, v2, v3⟩ := HX1.out
  obtain ⟨_, u2, u3⟩ := HV2.out rfl
  obtain ⟨sl1, rfl⟩ := exists_slots l1 (fun l hl => (v3 l hl).sized)
  obtain ⟨sl2, rfl⟩ := exists_slots l2 (fun l hl => (u3 l hl).sized)
  have HRA := Lib.hid HR1.out.rdb
  have HRB := Lib.hid HR2.out.rdb
  simp only [List.length_map] at v2 u2 ⊢
  clear v3 u3 HX1 HV2 h1 h2 HR1 HR2
  have hol : (ownL sl1 s).length ≤ 1002 := Nat.le_trans (List.length_filter_le _ _) v2
  have hpl : (posL sl1).length ≤ 1002 := by rw [posL_len]; exact Nat.le_trans (names_len sl1) v2
  have HZN : Hid (sl1.length ≤ 1002 ∧ sl2.length ≤ 1002 ∧ (ownL sl1 s).length ≤ 1002 ∧ (posL sl1).length ≤ 1002) := ⟨v2, u2, hol, hpl⟩
  clear v2 u2 hol hpl
  go_wp2_with fail
  refine (lTotal_any w.heap.size A1 sl1 c1 s wb (by have := HZN.out.1; omega) (HRA.out.below HBb.out) HBb.out.size (HT.out.below HBb.out)).mono ?_
  rintro e wc ⟨rfl, bc⟩
  have HBc := Lib.hid (HBb.out.trans (bc.mono HBb.out.size))
  clear bc HBb
  go_wp2_with fail
  refine (rTotal19_any wc.heap.size A1 sl1 c1 s wc (by have := HZN.out.1; omega) ((HRA.out.below HBc.out).mono HBc.out.size) (Nat.le_refl _)).mono ?_
  rintro e wd ⟨rfl, bd⟩
  have HBd := Lib.hid (HBc.out.trans (bd.mono HBc.out.size))
  clear bd HBc
  go_wp2_with fail
  refine (lOf_any w.heap.size A1 sl1 c1 s wd (by have := HZN.out.1; omega) (HRA.out.below HBd.out) HBd.out.size).mono ?_
  rintro e we ⟨A3, c3, rfl, _, _, hr3, be⟩
  have HBe := Lib.hid (HBd.out.trans (be.mono HBd.out.size))
  have HR3 := Lib.hid hr3
  clear be hr3 HBd
  go_wp2_with fail
  refine (rOf19_any w.heap.size A1 sl1 c1 s we (by have := HZN.out.1; omega) (HRA.out.below HBe.out) HBe.out.size).mono ?_
  rintro e wf ⟨A4, c4, rfl, _, _, hr4, bf⟩
  have HBf := Lib.hid (HBe.out.trans (bf.mono HBe.out.size))
  have hS := rSame_any A3 A4 ((ownL sl1 s).map Subtype.val) ((ownL sl1 s).map Subtype.val) c3 c4 (by rw [List.length_map]; have := HZN.out.2.2.1; omega) (by rw [List.length_map]; have := HZN.out.2.2.1; omega) we.heap.size wf.heap.size wf (HR3.out.below bf).rdb' hr4.rdb'
  rw [List.length_map, sameB_yes rfl] at hS
  have HS1 := Lib.hid hS
  clear bf hr4 HBe HR3 hS
  go_wp2_with fail
  refine HS1.out.mono ?_
  rintro e wg ⟨rfl, m, rfl⟩
  have HBg := Lib.hid (below_drewN HBf.out m)
  clear HBf HS1
  generalize wf.drewN m = wg at *
  go_wp2_with fail
  refine (lPositions_any w.heap.size A1 sl1 c1 wg (by have := HZN.out.1; omega) (HRA.out.below HBg.out) HBg.out.size (HT.out.below HBg.out)).mono ?_
  rintro e wh ⟨A5, c5, rfl, _, _, hr5, bh⟩
  have HBh := Lib.hid (HBg.out.trans (bh.mono HBg.out.size))
  have HR5 := Lib.hid hr5
  clear bh hr5 HBg
  go_wp2_with fail
  refine (rPositions19_any w.heap.size A1 sl1 c1 wh (by have := HZN.out.1; omega) (HRA.out.below HBh.out) HBh.out.size).mono ?_
  rintro e wi ⟨A6, c6, rfl, _, _, hr6, bi⟩
  have HBi := Lib.hid (HBh.out.trans (bi.mono HBh.out.size))
  have hS := rSamePos_any A5 A6 (posL sl1) (posL sl1) c5 c6 (by have := HZN.out.2.2.2; omega) (by have := HZN.out.2.2.2; omega) wh.heap.size wi.heap.size wi (HR5.out.below bi) hr6
  rw [sameB_yes rfl] at hS
  have HS2 := Lib.hid hS
  clear bi hr6 HBh HR5 hS
  go_wp2_with fail
  refine HS2.out.mono ?_
  rintro e wj ⟨rfl, m2, rfl⟩
  have HBj := Lib.hid (below_drewN HBi.out m2)
  clear HBi HS2
  generalize wi.drewN m2 = wj at *
  have hS := lSame_any A1 A2 (sl1.map Subtype.val) (sl2.map Subtype.val) c1 c2 (by rw [List.length_map]; have := HZN.out.1; omega) (by rw [List.length_map]; have := HZN.out.2.1; omega) w.heap.size w.heap.size wj (HRA.out.below HBj.out).rdb' (HRB.out.below HBj.out).rdb'
  have HQ := Lib.hid (fun W (hW : Below w.heap.size w W) => rSame_any A1 A2 (sl1.map Subtype.val) (sl2.map Subtype.val) c1 c2 (by rw [List.length_map]; have := HZN.out.1; omega) (by rw [List.length_map]; have := HZN.out.2.1; omega) w.heap.size w.heap.size W (HRA.out.below hW).rdb' (HRB.out.below hW).rdb')
  rw [List.length_map, List.length_map] at hS
  simp only [List.length_map] at HQ
  have HS3 := Lib.hid hS
  clear hS
  generalize sameB (sl1.map Subtype.val) (sl2.map Subtype.val) = t at HS3 HQ
  go_wp2_with fail
  refine HS3.out.mono ?_
  rintro e wk ⟨rfl, m3, rfl⟩
  have HBk := Lib.hid (below_drewN HBj.out m3)
  clear HBj HS3
  generalize wj.drewN m3 = wk at *
  go_wp2_with fail
  refine (HQ.out _ HBk.out).mono ?_
  rintro e wl ⟨rfl, m4, rfl⟩
  have HBl := Lib.hid (below_drewN HBk.out m4)
  clear HBk HQ
  generalize wk.drewN m4 = wl at *
  go_wp2_with fail
  refine (awake19_any _ (HT.out.below HBl.out)).mono ?_
  rintro e wz ⟨rfl, bz⟩
  have HZ := Lib.hid (HBl.out.trans (bz.mono HBl.out.size))
  clear bz
  go_wp2_with fail
  go_ret
  exact ⟨rfl, HZ.out⟩
end Go.Proofs.YthmfkgcoocikjaaGreatDoor
