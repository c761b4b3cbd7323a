/-
  tranchelaw40.awake returns true.
-/
import Derived.Test.YtbkmhmaldljgmaaGreatDoorC42
import Derived.Test.YtbkmhmaldljgmaaGreatDoorC26
set_option linter.unusedVariables false
set_option linter.unusedSimpArgs false
set_option maxHeartbeats 16000000
set_option maxRecDepth 100000
namespace Go.Proofs.YtbkmhmaldljgmaaGreatDoor
open Go.RowKit Tr Go.Shelf
theorem awake40_any (w : World) (ht : Tabs w) : Calls Tryz.prog 8 #[] w fun e w' => e = .returned (.bool true) ∧ Below w.heap.size w w' := by
 obtain ⟨Wa, hWa⟩ : ∃ Wa, w.alloc (.cells #[.string ⟨#[]⟩, .int .i64 0, .string ⟨#[]⟩, .int .i64 0, .int .i64 0, .int .i64 0, .string ⟨#[]⟩, .string ⟨#[]⟩, .string ⟨#[]⟩, .string ⟨#[]⟩, .int .i64 0, .int .i64 0, .string ⟨#[]⟩, .string ⟨#[]⟩, .string ⟨#[]⟩] 27) = Wa := ⟨_, rfl⟩
 have ka : Wa.heap[w.heap.size]? = some (.cells #[.string ⟨#[]⟩, .int .i64 0, .string ⟨#[]⟩, .int .i64 0, .int .i64 0, .int .i64 0, .string ⟨#[]⟩, .string ⟨#[]⟩, .string ⟨#[]⟩, .string ⟨#[]⟩, .int .i64 0, .int .i64 0, .string ⟨#[]⟩, .string ⟨#[]⟩, .string ⟨#[]⟩] 27 (0, 0)) := by rw [← hWa]; exact heap_alloc_new w _
 have ba : Below w.heap.size w Wa := by rw [← hWa]; exact (Below.refl _ w).alloc (Nat.le_refl _) _
 have hrun := run_store_rowK Wa w.heap.size 15 27 _ i40.cells (by kernel_rfl) ka rfl rfl (fun u hu => by simp [i40, Inst.cells] at hu; rcases hu with rfl | rfl | rfl | rfl | rfl | rfl | rfl | rfl | rfl | rfl | rfl | rfl | rfl | rfl | rfl <;> rfl)
 obtain ⟨W1, hW1⟩ : ∃ W1, Wa.setRow w.heap.size i40.cells = W1 := ⟨_, rfl⟩
 rw [hW1] at hrun
 have k1 : W1.heap[w.heap.size]? = some (.cells i40.cells 27 (0, 0)) := by rw [← hW1]; exact setRow_heap Wa _ _ _ _ _ ka
 have b1 : Below w.heap.size w W1 := by rw [← hW1]; exact below_setRowK ba (Nat.le_refl _) _
 obtain ⟨W2, hW2⟩ : ∃ W2, W1.alloc (.cells #[.string ⟨#[97, 47, 49]⟩, .string ⟨#[97, 98, 99]⟩, .int .i64 5, .int .i64 5, .string ⟨#[49, 48]⟩, .string ⟨#[49, 48, 48]⟩, .string ⟨#[]⟩, .string ⟨#[98, 47, 49]⟩, .string ⟨#[97, 98, 99]⟩, .int .i64 6, .int .i64 6, .string ⟨#[53]⟩, .string ⟨#[56, 48]⟩, .string ⟨#[]⟩] 55) = W2 := ⟨_, rfl⟩
 have k2 : W2.heap[W1.heap.size]? = some (.cells (flatV l40).toArray 55 (0, 0)) := by rw [← hW2]; exact heap_alloc_new W1 _
 have b2 : Below W1.heap.size W1 W2 := by rw [← hW2]; exact (Below.refl _ W1).alloc (Nat.le_refl _) _
 obtain ⟨W3, hW3⟩ : ∃ W3, W2.alloc (.cells #[.string ⟨#[112]⟩, .int .i64 0, .bool false, .int .i64 8, .int .i64 15, .string ⟨#[97, 98, 99]⟩, .string ⟨#[]⟩, .string ⟨#[]⟩, .string ⟨#[]⟩, .string ⟨#[]⟩, .string ⟨#[]⟩, .string ⟨#[]⟩, .string ⟨#[50, 53]⟩, .string ⟨#[50]⟩, .string ⟨#[]⟩, .string ⟨#[]⟩, .string ⟨#[]⟩, .string ⟨#[]⟩, .slice none 0 0, .slice none 0 0, .int .i64 0] 60) = W3 := ⟨_, rfl⟩
 have k3 : W3.heap[W2.heap.size]? = some (.cells y40.cells 60 (0, 0)) := by rw [← hW3]; exact heap_alloc_new W2 _
 have b3 : Below W2.heap.size W2 W3 := by rw [← hW3]; exact (Below.refl _ W2).alloc (Nat.le_refl _) _
 have HB3 := hI ((b1.trans (b2.mono b1.size)).trans (b3.mono (Nat.le_trans b1.size b2.size)))
 have k1' : W3.heap[w.heap.size]? = some (.cells i40.cells 27 (0, 0)) := bkeepK b3 (bkeepK b2 k1)
 have k2' : W3.heap[W1.heap.size]? = some (.cells (flatV l40).toArray 55 (0, 0)) := bkeepK b3 k2
 have hrow : SRow (fun _ => True) W3 W1.heap.size [] l40 W3 := ⟨by rw [List.append_nil]; exact k2', fun _ _ => trivial, ⟨rfl, rfl, rfl, Nat.le_refl _, fun _ _ _ => rfl⟩, (Array.getElem?_eq_some_iff.1 k2').1⟩
 have hrd : RdB W3.heap.size W3 (some ⟨W1.heap.size, 0, none⟩) s40 := fun _ => ⟨_, rfl, hrow.lt, fun j l hj => by rw [addr_add0]; exact hrow.at (by rw [← s40_l40, List.getElem?_map, hj]; rfl)⟩
 have hvr : VRd W3 W2.heap.size [y40] := ⟨(Array.getElem?_eq_some_iff.1 k3).1, fun k y hy => by
  match k, hy with
  | 0, hy =>
    simp at hy
    subst hy
    exact rangeAt_row k3⟩
 have hfv : ∀ y ∈ [y40], FactV y.x y.p y.o := fun y hy => by
  rw [List.mem_singleton] at hy
  subst hy
  exact ⟨⟨_, _, rfl⟩, ⟨_, _, rfl⟩⟩
 have hts : ∀ W, Below W3.heap.size W3 W → Tabs W := fun W hb => ht.below (HB3.out.trans (hb.mono HB3.out.size))
 have hV : ∀ W, Below W3.heap.size W3 W → Calls Tryz.prog 110 #[.slice (some ⟨W2.heap.size, 0, none⟩) 1 1] W fun e w' => e = .returned (.int .i64 0) ∧ Below W.heap.size W w' := fun W hb => by
  refine (vCheck_any (fun _ _ => True) W2.heap.size [y40] 1 W (hvr.below hb) hfv (fun y hy => ?_) (by decide) (fun y hy W' hb' => ?_) (fun j y z _ hz => by simp at hz)).mono ?_
  ·rw [List.mem_singleton] at hy; subst hy; decide
  ·rw [List.mem_singleton] at hy
   subst hy
   have ht' := hts W' (hb.trans (hb'.mono hb.size))
   exact fcCheck_of x40 _ _ (hfv y40 (List.mem_singleton.2 rfl)) x40_tiny (by decide) rfl W' ht' (fun f hf => fieldC_simple x40_tiny ht' hf (by rintro rfl; revert hf; decide) (by rintro rfl; revert hf; decide))
  ·rintro e w' ⟨c, rfl, hc, hb'⟩
   exact ⟨by rw [hc.2 vok40], hb'⟩
 have hC : RvC W3 (.slice (some ⟨W2.heap.size, 0, none⟩) 1 1) (.slice (some ⟨W1.heap.size, 0, none⟩) 2 2) i40 9 3 := by
  refine ⟨hV, fun W hb => ?_, fun W hb => iCheck_ok i40 i40_small.sized i40_ok W (hts W hb), by unfold okDay; decide, by decide⟩
  have h := lCheckAll_any (some ⟨W1.heap.size, 0, none⟩) 2 l40 (by decide) (by decide) W (by have := (hrd.below hb).rdl hb.size; rwa [s40_l40] at this) (fun l hl => by unfold l40 at hl; simp at hl; rcases hl with rfl | rfl; exact la40_tiny.sized; exact lb40_tiny.sized) (hts W hb)
  rw [l40_lall] at h
  exact h
 have hM : RvM W3 (.slice (some ⟨W2.heap.size, 0, none⟩) 1 1) (.slice (some ⟨W1.heap.size, 0, none⟩) 2 2) i40 9 3 ⟨#[49, 53]⟩ (I 180) ⟨#[50, 53]⟩ ⟨#[50]⟩ (I 188) := by
  refine ⟨fun W hb => ?_, by decide, fun W hb => ?_, fun W hb => ?_⟩
  ·have h := lTotal_any W3.heap.size (some ⟨W1.heap.size, 0, none⟩) s40 2 i40.id W (by decide) (hrd.below hb) hb.size (hts W hb)
   rw [own40, sq40, sc40, I15] at h
   exact h
  ·exact pFresh_yes W3.heap.size W2.heap.size i40.id [y40] 1 9 3 (by unfold okDay; decide) (by decide) ⟨8, ⟨#[50, 53]⟩, ⟨#[50]⟩⟩ quo40 (by decide) (by rw [IntKind.wrap_i64]; decide) W (by decide) (hvr.below hb) hvr.lt hfv hb.size (fun W' hb' => hV W' (hb.trans (hb'.mono hb.size)))
  ·have h := pValue_any ⟨#[50, 53]⟩ ⟨#[50]⟩ ⟨#[49, 53]⟩ (by decide) (by decide) (by decide) W (hts W hb)
   rw [val40] at h
   exact h
 have HL := hI (rvLots_ok (.slice (some ⟨W2.heap.size, 0, none⟩) 1 1) ⟨_, _, _, rfl⟩ W3.heap.size (some ⟨W1.heap.size, 0, none⟩) s40 2 (by decide) i40 9 3 ⟨#[49, 53]⟩ (I 180) ⟨#[50, 53]⟩ ⟨#[50]⟩ 188 W3 hC hM hrd (Nat.le_refl _) (fun l hl => by rw [own40] at hl; unfold s40 at hl; simp at hl; rcases hl with rfl | rfl; exact la40_ok.cq; exact lb40_ok.cq) 3 (by rw [own40, q40]; exact wok40) (by decide) (by decide) (by rw [own40, q40, sp40]; intro z hz; simp at hz; rcases hz with rfl | rfl <;> decide) (fun l hl => by rw [own40] at hl; unfold s40 at hl; simp at hl; rcases hl with rfl | rfl <;> decide) (hts W3 (Below.refl _ _)))
 rw [own40, gain40] at HL
 have HU := hI (fun W (hb : Below W3.heap.size W3 W) => rvUnrealized_ok (.slice (some ⟨W2.heap.size, 0, none⟩) 1 1) (.slice (some ⟨W1.heap.size, 0, none⟩) 2 2) ⟨_, _, _, rfl⟩ ⟨_, _, _, rfl⟩ i40 9 3 ⟨#[49, 53]⟩ (I 180) ⟨#[50, 53]⟩ ⟨#[50]⟩ (I 188) ⟨#[49, 56, 48]⟩ (by decide) (by decide) W (hC.below hb) (hM.below hb) (fun W' hb' => by
  have hbb := hb.trans (hb'.mono hb.size)
  have h := aBook_ok W3.heap.size i40 (some ⟨W1.heap.size, 0, none⟩) s40 2 (by decide) 9 ⟨i40_small, i40_ok, l40_lots, by decide, by unfold okDay; decide⟩ W' (hrd.below hbb) hbb.size (hts W' hbb) bz40
  rw [book40] at h
  exact h) (hts W hb))
 rw [show I (vl (I 188) - vl ⟨#[49, 56, 48]⟩) = ⟨#[56]⟩ from by rw [vl_I]; decide] at HU
 have HK1 := hI k1'
 obtain ⟨c0, c1, c2, c3, c4, c5, c6, c7, c8, c9, c10, c11, c12, c13, c14⟩ := icellsV k1'
 clear ka ba hW1 k1 k2 k3 b1 b2 b3 k1' k2' hrow hrd hvr hfv hts hV hC hM ht
 rw [show s40.length = 2 from rfl] at HL
 unfold stpC Inst.enc Inst.cells i40 at HL HU
 unfold Inst.cells i40 at hrun
 unfold i40 at c0 c1 c2 c3 c4 c5 c6 c7 c8 c9 c10 c11 c12 c13 c14
 simp only at hrun HL HU c0 c1 c2 c3 c4 c5 c6 c7 c8 c9 c10 c11 c12 c13 c14
 go_enter Tryz.func8, Tryz.ntmps8
 go_wp2_with (first | (refine wpList_store_runK hrun rfl _ _ rfl rfl rfl ?_) | fail)
 refine HL.out.mono ?_
 rintro e w4 ⟨q, rfl, hq, hqr, b4⟩
 have HB34 := hI b4
 have HB4 := hI (HB3.out.trans (b4.mono HB3.out.size))
 have HQ4 := hI hqr
 have k4 := bkeepK b4 HK1.out
 clear c0 c1 c2 c3 c4 c5 c6 c7 c8 c9 c10 c11 c12 c13 c14 hq hqr b4 HL hrun hWa hW2 hW3
 obtain ⟨c0, c1, c2, c3, c4, c5, c6, c7, c8, c9, c10, c11, c12, c13, c14⟩ := icellsV k4
 clear k4
 unfold i40 at c0 c1 c2 c3 c4 c5 c6 c7 c8 c9 c10 c11 c12 c13 c14
 simp only at c0 c1 c2 c3 c4 c5 c6 c7 c8 c9 c10 c11 c12 c13 c14
 go_wp2_with fail
 refine (HU.out w4 HB34.out).mono ?_
 rintro e w5 ⟨rfl, b5⟩
 have HB5 := hI (HB4.out.trans (b5.mono HB4.out.size))
 obtain ⟨W6, hW6⟩ : ∃ W6, w5.alloc (.cells #[.string ⟨#[50, 53]⟩, .string ⟨#[45, 49, 55]⟩] 23) = W6 := ⟨_, rfl⟩
 have k6 : W6.heap[w5.heap.size]? = some (.cells #[.string ⟨#[50, 53]⟩, .string ⟨#[45, 49, 55]⟩] 23 (0, 0)) := by rw [← hW6]; exact heap_alloc_new w5 _
 have b6 : Below w5.heap.size w5 W6 := by rw [← hW6]; exact (Below.refl _ w5).alloc (Nat.le_refl _) _
 have hq6 : W6.heap[q]? = some (sRow [25, -17]) := bkeepK b6 (bkeepK b5 HQ4.out)
 have HB6 := hI (HB5.out.trans (b6.mono HB5.out.size))
 have HEQ := hI (eqInts_any (some ⟨q, 0, none⟩) (some ⟨w5.heap.size, 0, none⟩) 2 2 2 (fun k => if k = 0 then ⟨#[50, 53]⟩ else ⟨#[45, 49, 55]⟩) (by omega) W6 (fun _ => ⟨_, _, rfl, rfl, fun k hk => by
  rw [addr_add0, addr_add0]
  rcases (show k = 0 ∨ k = 1 from by omega) with rfl | rfl
  ·exact ⟨by have h := sRow_cell hq6 (k := 0) (z := 25) rfl; rw [I25z] at h; exact h, Lib.cell_of_heap k6 0⟩
  ·exact ⟨by have h := sRow_cell hq6 (k := 1) (z := -17) rfl; rw [Im17] at h; exact h, Lib.cell_of_heap k6 1⟩⟩))
 clear c0 c1 c2 c3 c4 c5 c6 c7 c8 c9 c10 c11 c12 c13 c14 b5 k6 b6 hq6 HU HB4 HB5 HQ4
 go_wp2_with fail
 refine HEQ.out.mono ?_
 rintro e w7 ⟨rfl, b7⟩
 have HB7 := hI (HB6.out.trans (b7.mono HB6.out.size))
 clear b7 HEQ HB6
 go_wp2_with fail
 go_ret
 exact ⟨rfl, HB7.out⟩
end Go.Proofs.YtbkmhmaldljgmaaGreatDoor
