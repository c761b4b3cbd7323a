/-
  The walk of integer.add.
  The walk of integer.add, different signs.
  The walks of integer.Canonical, Check, Of, Add, Sub, Neg, Mul, Compare.
  The walks of integer.Canonical, Check, Of, Compare.
-/
import Derived.Test.YtbkmhmaldljgmaaGreatDoorC07
import Derived.Deep.RegionHeld3
set_option linter.unusedVariables false
set_option linter.unusedSimpArgs false
set_option maxHeartbeats 16000000
set_option maxRecDepth 100000
namespace Go.Proofs.YtbkmhmaldljgmaaGreatDoor
open Go.RowKit Tr Go.Shelf
def Nm (w : World) (nb : Bool) (A : Option Addr) (l : List Nat) (c : Nat) (z : Int) : Prop := Dig l ∧ Norm l ∧ sg nb (mval l) = z ∧ Mg w A c l
theorem Nm.below {w w' : World} {nb : Bool} {A : Option Addr} {l : List Nat} {c : Nat} {z : Int} (h : Nm w nb A l c z) (hb : Below w.heap.size w w') : Nm w' nb A l c z := ⟨h.1, h.2.1, h.2.2.1, h.2.2.2.below hb⟩
def NumPost (w : World) (z : Int) (e : Ending) (w' : World) : Prop :=
 ∃ (nb : Bool) (A : Option Addr) (l : List Nat) (c : Nat), e = .returned (.agg #[.bool nb, .slice A l.length c]) ∧ Nm w' nb A l c z ∧ Below w.heap.size w w'
theorem ReadPost.num {w : World} {a : ByteArray} {e : Ending} {w' : World} (h : ReadPost w a e w') : NumPost w (vl a) e w' := by
 obtain ⟨A, l, c, rfl, ⟨h1, h2, h3⟩, h4, h5⟩ := h
 refine ⟨_, A, l, c, rfl, ⟨h1, h2, ?_, h4⟩, h5⟩
 unfold sg
 rw [h3]
 by_cases hn : vl a < 0
 ·simp only [hn, decide_true, if_true]; omega
 ·simp only [hn, decide_false]; simp; omega
theorem add_same (nb : Bool) (A1 A2 : Option Addr) (l1 l2 : List Nat) (c1 c2 : Nat) (z1 z2 : Int) (w : World) (b1 : l1.length ≤ 536870912) (b2 : l2.length ≤ 536870912) (h1 : Nm w nb A1 l1 c1 z1) (h2 : Nm w nb A2 l2 c2 z2) :
 Calls Tryz.prog 49 #[.agg #[.bool nb, .slice A1 l1.length c1], .agg #[.bool nb, .slice A2 l2.length c2]] w (NumPost w (z1 + z2)) := by
 have H1 := Lib.hid h1
 have H2 := Lib.hid h2
 clear h1 h2
 have hnn : (nb == nb) = true := by simp
 go_enter Tryz.func49, Tryz.ntmps49
 go_wp2_with fail
 obtain ⟨W0, hW0⟩ : ∃ W0, W0 = ((w.alloc (.cells #[.bool nb, .slice A1 l1.length c1] 100)).alloc (.cells #[.bool nb, .slice A2 l2.length c2] 100)).alloc (.cells #[.bool false, .slice none 0 0] 100) := ⟨_, rfl⟩
 rw [← hW0]
 have hB0 : Below w.heap.size w W0 := by rw [hW0]; exact (((Below.refl _ _).alloc (Nat.le_refl _) _).alloc (by simp) _).alloc (by simp; omega) _
 have hz : W0.heap.size = w.heap.size + 3 := by rw [hW0]; simp
 have k0 : W0.cell? ⟨w.heap.size, 0, none⟩ = some (.bool nb) := by rw [hW0]; go_simp
 have k1 : W0.cell? ⟨w.heap.size, 1, none⟩ = some (.slice A1 l1.length c1) := by rw [hW0]; go_simp
 have k2 : W0.cell? ⟨w.heap.size + 1, 1, none⟩ = some (.slice A2 l2.length c2) := by rw [hW0]; go_simp
 have k3 : W0.heap[w.heap.size + 1 + 1]? = some (.cells #[.bool false, .slice none 0 0] 100 (0, 0)) := by
  rw [hW0]
  have h := heap_alloc_new ((w.alloc (.cells #[.bool nb, .slice A1 l1.length c1] 100)).alloc (.cells #[.bool nb, .slice A2 l2.length c2] 100)) (.cells #[.bool false, .slice none 0 0] 100)
  rw [World.size_alloc, World.size_alloc] at h
  exact h
 have HB0 := Lib.hid hB0
 have HZ := Lib.hid hz
 have HK3 := Lib.hid k3
 clear hB0 hz k3 hW0
 go_region_held3 (fun W => W.cell? ⟨w.heap.size, 0, none⟩ = some (.bool nb) ∧ W.cell? ⟨w.heap.size, 1, none⟩ = some (.slice A1 l1.length c1) ∧ W.cell? ⟨w.heap.size + 1, 1, none⟩ = some (.slice A2 l2.length c2))
  (refine ⟨?_, ?_, ?_⟩ <;> first | assumption | (go_simp; done))
  (first
    | (go_at_call 82; refine (plus_any A1 A2 l1 l2 c1 c2 W0.drew (by omega) (by omega) H1.out.1 H2.out.1 (H1.out.2.2.2.below HB0.out.drew).2.2 (H2.out.2.2.2.below HB0.out.drew).2.2).mono ?_; rintro e w1 ⟨A3, r, c3, rfl, hc3, hS, hA3, hR3, hb3⟩; have j0 : w1.cell? ⟨w.heap.size, 0, none⟩ = some (.bool nb) := (hb3.cell (by simp [HZ.out])).trans k0; have j1 : w1.cell? ⟨w.heap.size, 1, none⟩ = some (.slice A1 l1.length c1) := (hb3.cell (by simp [HZ.out])).trans k1; have j2 : w1.cell? ⟨w.heap.size + 1, 1, none⟩ = some (.slice A2 l2.length c2) := (hb3.cell (by simp [HZ.out])).trans k2; have j3 := (hb3.block (w.heap.size + 1 + 1) (by simp [HZ.out])).trans HK3.out; have m0 := Lib.cell_of_heap j3 0; have m1 := Lib.cell_of_heap j3 1; have f0 := Lib.frozen_of_heap j3 0; have f1 := Lib.frozen_of_heap j3 1; have HJ3 := Lib.hid j3; clear j3; simp at m0 m1))
 go_wp2_with fail
 refine bodyPost_ret (v := .agg #[.bool nb, .slice A3 r.length c3]) (by simp [results, Tryz.results49, go_sem, m0, m1]) rfl ?_
 have hz := HZ.out
 have hb0 := HB0.out
 have hne : ∀ ad : Addr, A3 = some ad → ad.block ≠ w.heap.size + 1 + 1 := fun ad e => by have := hA3.2 ad e; simp at this; omega
 refine ⟨nb, A3, r, c3, rfl, ⟨hS.1, hS.2.1 H1.out.2.1 H2.out.2.1, ?_, hc3, hA3.1, (hR3.far (p := ⟨w.heap.size + 1 + 1, 0, none⟩) hne _).far (p := ⟨w.heap.size + 1 + 1, 1, none⟩) hne _⟩, ?_⟩
 ·rw [hS.2.2, ← H1.out.2.2.1, ← H2.out.2.2.1]; unfold sg; cases nb <;> simp <;> omega
 ·exact ((hb0.drew.trans (hb3.mono (by simp; omega))).setCell (p := ⟨w.heap.size + 1 + 1, 0, none⟩) (by simp; omega) _).setCell (p := ⟨w.heap.size + 1 + 1, 1, none⟩) (by simp; omega) _
theorem len_of_le {l m : List Nat} (hl : Dig l) (nm : Norm m) (h : mval m ≤ mval l) : m.length ≤ l.length := by
 rcases Nat.lt_or_ge l.length m.length with h1 | h1
 ·have := mval_lt_of_length hl nm h1; omega
 ·exact h1
theorem sg_diff (nb : Bool) (a b : Nat) : sg nb a + sg (!nb) b = if a < b then sg (!nb) (b - a) else sg nb (a - b) := by
 by_cases h : a < b
 ·rw [if_pos h]
  cases nb
  ·show (a : Int) + -(b : Int) = -((b - a : Nat) : Int); omega
  ·show -(a : Int) + (b : Int) = ((b - a : Nat) : Int); omega
 ·rw [if_neg h]
  cases nb
  ·show (a : Int) + -(b : Int) = ((a - b : Nat) : Int); omega
  ·show -(a : Int) + (b : Int) = -((a - b : Nat) : Int); omega
theorem box3 (w : World) (o1 o2 o3 : Obj) : ∃ W0, W0 = ((w.alloc o1).alloc o2).alloc o3 ∧ Below w.heap.size w W0 ∧ W0.heap.size = w.heap.size + 3 ∧ W0.heap[w.heap.size]? = some o1 ∧ W0.heap[w.heap.size + 1]? = some o2 ∧ W0.heap[w.heap.size + 1 + 1]? = some o3 := by
 refine ⟨_, rfl, (((Below.refl _ _).alloc (Nat.le_refl _) _).alloc (by simp) _).alloc (by simp; omega) _, by simp, ?_, ?_, ?_⟩
 ·rw [Below.heap_alloc _ _ _ (by simp; omega), Below.heap_alloc _ _ _ (by simp)]; exact heap_alloc_new w o1
 ·rw [Below.heap_alloc _ _ _ (by simp)]
  have h := heap_alloc_new (w.alloc o1) o2
  rw [World.size_alloc] at h; exact h
 ·have h := heap_alloc_new ((w.alloc o1).alloc o2) o3
  rw [World.size_alloc, World.size_alloc] at h; exact h
theorem add_diff (nb : Bool) (A1 A2 : Option Addr) (l1 l2 : List Nat) (c1 c2 : Nat) (z1 z2 : Int) (w : World) (b1 : l1.length ≤ 536870912) (b2 : l2.length ≤ 536870912) (h1 : Nm w nb A1 l1 c1 z1) (h2 : Nm w (!nb) A2 l2 c2 z2) :
 Calls Tryz.prog 49 #[.agg #[.bool nb, .slice A1 l1.length c1], .agg #[.bool (!nb), .slice A2 l2.length c2]] w (NumPost w (z1 + z2)) := by
 have H1 := Lib.hid h1
 have H2 := Lib.hid h2
 clear h1 h2
 have hnn : (nb == !nb) = false := by cases nb <;> rfl
 have hz12 : z1 + z2 = if mval l1 < mval l2 then sg (!nb) (mval l2 - mval l1) else sg nb (mval l1 - mval l2) := by
  rw [← H1.out.2.2.1, ← H2.out.2.2.1]
  exact sg_diff nb _ _
 have HZ12 := Lib.hid hz12
 clear hz12
 obtain ⟨W0, hW0, hB0, hz, k0, k1, k2⟩ := box3 w (.cells #[.bool nb, .slice A1 l1.length c1] 100) (.cells #[.bool (!nb), .slice A2 l2.length c2] 100) (.cells #[.bool false, .slice none 0 0] 100)
 have HC := Lib.hid (compare_any A1 A2 l1 l2 c1 c2 W0 (by omega) (by omega) H1.out.1 H2.out.1 H1.out.2.1 H2.out.2.1 (H1.out.2.2.2.below hB0).2.2 (H2.out.2.2.2.below hB0).2.2)
 go_enter Tryz.func49, Tryz.ntmps49
 go_wp2_with fail
 rw [← hW0]
 refine HC.out.mono ?_
 rintro e w1 ⟨r, rfl, hs, q, rfl⟩
 have hBq : Below w.heap.size w (W0.drewN q) := below_drewN hB0 q
 have HBq := Lib.hid hBq
 have HZ : Hid ((W0.drewN q).heap.size = w.heap.size + 3) := hz
 have K0 : Hid ((W0.drewN q).heap[w.heap.size]? = some (.cells #[.bool nb, .slice A1 l1.length c1] 100)) := k0
 have K1 : Hid ((W0.drewN q).heap[w.heap.size + 1]? = some (.cells #[.bool (!nb), .slice A2 l2.length c2] 100)) := k1
 have K2 : Hid ((W0.drewN q).heap[w.heap.size + 1 + 1]? = some (.cells #[.bool false, .slice none 0 0] 100)) := k2
 have HS := Lib.hid hs
 clear hB0 hz k0 k1 k2 hW0 HC hs hBq
 generalize W0.drewN q = W1 at HBq HZ K0 K1 K2 ⊢
 have c10 := Lib.cell_of_heap K0.out 0
 have c11 := Lib.cell_of_heap K0.out 1
 have c20 := Lib.cell_of_heap K1.out 0
 have c21 := Lib.cell_of_heap K1.out 1
 have f10 := Lib.frozen_of_heap K0.out 0
 have f11 := Lib.frozen_of_heap K0.out 1
 have f20 := Lib.frozen_of_heap K1.out 0
 have f21 := Lib.frozen_of_heap K1.out 1
 simp at c10 c11 c20 c21
 by_cases hlt : mval l1 < mval l2
 ·have hr0 := HS.out.1.2 hlt
  have hd : decide (r < 0) = true := by simpa using hr0
  go_wp2_with fail
  obtain ⟨W2, hW2⟩ : ∃ W2, W2 = (((W1.setCell ⟨w.heap.size, 0, none⟩ (.bool (!nb))).setCell ⟨w.heap.size, 1, none⟩ (.slice A2 l2.length c2)).setCell ⟨w.heap.size + 1, 0, none⟩ (.bool nb)).setCell ⟨w.heap.size + 1, 1, none⟩ (.slice A1 l1.length c1) := ⟨_, rfl⟩
  rw [← hW2]
  have E0 : W2.heap[w.heap.size]? = some (.cells #[.bool (!nb), .slice A2 l2.length c2] 100 (0, 0)) := by
   rw [hW2, Below.heap_setCell _ _ _ _ (by simp), Below.heap_setCell _ _ _ _ (by simp)]
   exact heap_setCell_same _ _ 1 _ _ _ (heap_setCell_same _ _ 0 _ _ _ K0.out)
  have E1 : W2.heap[w.heap.size + 1]? = some (.cells #[.bool nb, .slice A1 l1.length c1] 100 (0, 0)) := by
   have e : ((W1.setCell ⟨w.heap.size, 0, none⟩ (.bool (!nb))).setCell ⟨w.heap.size, 1, none⟩ (.slice A2 l2.length c2)).heap[w.heap.size + 1]? = some (.cells #[.bool (!nb), .slice A2 l2.length c2] 100 (0, 0)) := by
    rw [Below.heap_setCell _ _ _ _ (by simp), Below.heap_setCell _ _ _ _ (by simp)]
    exact K1.out
   rw [hW2]
   exact heap_setCell_same _ _ 1 _ _ _ (heap_setCell_same _ _ 0 _ _ _ e)
  have E2 : Hid (W2.heap[w.heap.size + 1 + 1]? = some (.cells #[.bool false, .slice none 0 0] 100 (0, 0))) := by
   rw [Hid, hW2, Below.heap_setCell _ _ _ _ (by simp), Below.heap_setCell _ _ _ _ (by simp), Below.heap_setCell _ _ _ _ (by simp; omega), Below.heap_setCell _ _ _ _ (by simp; omega)]
   exact K2.out
  have EB : Hid (Below w.heap.size w W2) := by
   rw [Hid, hW2]
   exact (((HBq.out.setCell (p := ⟨w.heap.size, 0, none⟩) (Nat.le_refl _) _).setCell (p := ⟨w.heap.size, 1, none⟩) (Nat.le_refl _) _).setCell (p := ⟨w.heap.size + 1, 0, none⟩) (Nat.le_succ _) _).setCell (p := ⟨w.heap.size + 1, 1, none⟩) (Nat.le_succ _) _
  have EZ : Hid (W2.heap.size = w.heap.size + 3) := by rw [Hid, hW2]; simpa [World.setCell] using HZ.out
  have HIF : (if mval l1 < mval l2 then sg (!nb) (mval l2 - mval l1) else sg nb (mval l1 - mval l2)) = sg (!nb) (mval l2 - mval l1) := if_pos hlt
  have hlen := len_of_le H2.out.1 H1.out.2.1 (Nat.le_of_lt hlt)
  clear hW2 c10 c11 c20 c21 f10 f11 f20 f21
  have k0 := Lib.cell_of_heap E0 0
  have k1 := Lib.cell_of_heap E0 1
  have k2 := Lib.cell_of_heap E1 1
  simp at k0 k1 k2
  clear E0 E1
  go_region_held3 (fun W => W.cell? ⟨w.heap.size, 0, none⟩ = some (.bool (!nb)) ∧ W.cell? ⟨w.heap.size, 1, none⟩ = some (.slice A2 l2.length c2) ∧ W.cell? ⟨w.heap.size + 1, 1, none⟩ = some (.slice A1 l1.length c1))
   (refine ⟨?_, ?_, ?_⟩ <;> first | assumption | (go_simp; done))
   (first
     | (go_at_call 84; refine (minus_any A2 A1 l2 l1 c2 c1 W2.drew (by omega) hlen H2.out.1 H1.out.1 (Nat.le_of_lt hlt) (H2.out.2.2.2.below EB.out.drew).2.2 (H1.out.2.2.2.below EB.out.drew).2.2 (H2.out.2.2.2.below EB.out.drew).2.1).mono ?_; rintro e w1 ⟨A3, r3, c3, rfl, hc3, hS3, hA3, hR3, hb3⟩; have j0 : w1.cell? ⟨w.heap.size, 0, none⟩ = some (.bool (!nb)) := (hb3.cell (by simp [EZ.out])).trans k0; have j1 : w1.cell? ⟨w.heap.size, 1, none⟩ = some (.slice A2 l2.length c2) := (hb3.cell (by simp [EZ.out])).trans k1; have j2 : w1.cell? ⟨w.heap.size + 1, 1, none⟩ = some (.slice A1 l1.length c1) := (hb3.cell (by simp [EZ.out])).trans k2; have j3 := (hb3.block (w.heap.size + 1 + 1) (by simp [EZ.out])).trans E2.out; have m0 := Lib.cell_of_heap j3 0; have m1 := Lib.cell_of_heap j3 1; have f0 := Lib.frozen_of_heap j3 0; have f1 := Lib.frozen_of_heap j3 1; clear j3; simp at m0 m1))
  go_wp2_with fail
  refine bodyPost_ret (v := .agg #[.bool (!nb), .slice A3 r3.length c3]) (by simp [results, Tryz.results49, go_sem, m0, m1]) rfl ?_
  have hz := EZ.out
  have hb0 := EB.out
  have hne : ∀ ad : Addr, A3 = some ad → ad.block ≠ w.heap.size + 1 + 1 := fun ad e => by have := hA3.2 ad e; simp at this; omega
  refine ⟨(!nb), A3, r3, c3, rfl, ⟨hS3.1, hS3.2.1, ?_, hc3, hA3.1, (hR3.far (p := ⟨w.heap.size + 1 + 1, 0, none⟩) hne _).far (p := ⟨w.heap.size + 1 + 1, 1, none⟩) hne _⟩, ?_⟩
  ·rw [hS3.2.2, HZ12.out, HIF]
  ·exact ((hb0.drew.trans (hb3.mono (by simp; omega))).setCell (p := ⟨w.heap.size + 1 + 1, 0, none⟩) (by simp; omega) _).setCell (p := ⟨w.heap.size + 1 + 1, 1, none⟩) (by simp; omega) _
 ·have hr0 := HS.out.1
  have hd : decide (r < 0) = false := by simp only [decide_eq_false_iff_not]; exact fun h => hlt (hr0.1 h)
  have HIF : (if mval l1 < mval l2 then sg (!nb) (mval l2 - mval l1) else sg nb (mval l1 - mval l2)) = sg nb (mval l1 - mval l2) := if_neg hlt
  have hlen := len_of_le H1.out.1 H2.out.2.1 (Nat.le_of_not_lt hlt)
  clear hr0 f10 f11 f20 f21
  go_wp2_with fail
  obtain ⟨W2, hW2⟩ : ∃ W2, W2 = W1 := ⟨_, rfl⟩
  subst hW2
  have E0 := K0.out
  have E1 := K1.out
  have E2 := K2
  have EB := HBq
  have EZ := HZ
  clear c10 c11 c20 c21
  have k0 := Lib.cell_of_heap E0 0
  have k1 := Lib.cell_of_heap E0 1
  have k2 := Lib.cell_of_heap E1 1
  simp at k0 k1 k2
  clear E0 E1
  go_region_held3 (fun W => W.cell? ⟨w.heap.size, 0, none⟩ = some (.bool nb) ∧ W.cell? ⟨w.heap.size, 1, none⟩ = some (.slice A1 l1.length c1) ∧ W.cell? ⟨w.heap.size + 1, 1, none⟩ = some (.slice A2 l2.length c2))
   (refine ⟨?_, ?_, ?_⟩ <;> first | assumption | (go_simp; done))
   (first
     | (go_at_call 84; refine (minus_any A1 A2 l1 l2 c1 c2 W2.drew (by omega) hlen H1.out.1 H2.out.1 (Nat.le_of_not_lt hlt) (H1.out.2.2.2.below EB.out.drew).2.2 (H2.out.2.2.2.below EB.out.drew).2.2 (H1.out.2.2.2.below EB.out.drew).2.1).mono ?_; rintro e w1 ⟨A3, r3, c3, rfl, hc3, hS3, hA3, hR3, hb3⟩; have j0 : w1.cell? ⟨w.heap.size, 0, none⟩ = some (.bool nb) := (hb3.cell (by simp [EZ.out])).trans k0; have j1 : w1.cell? ⟨w.heap.size, 1, none⟩ = some (.slice A1 l1.length c1) := (hb3.cell (by simp [EZ.out])).trans k1; have j2 : w1.cell? ⟨w.heap.size + 1, 1, none⟩ = some (.slice A2 l2.length c2) := (hb3.cell (by simp [EZ.out])).trans k2; have j3 := (hb3.block (w.heap.size + 1 + 1) (by simp [EZ.out])).trans E2.out; have m0 := Lib.cell_of_heap j3 0; have m1 := Lib.cell_of_heap j3 1; have f0 := Lib.frozen_of_heap j3 0; have f1 := Lib.frozen_of_heap j3 1; clear j3; simp at m0 m1))
  go_wp2_with fail
  refine bodyPost_ret (v := .agg #[.bool nb, .slice A3 r3.length c3]) (by simp [results, Tryz.results49, go_sem, m0, m1]) rfl ?_
  have hz := EZ.out
  have hb0 := EB.out
  have hne : ∀ ad : Addr, A3 = some ad → ad.block ≠ w.heap.size + 1 + 1 := fun ad e => by have := hA3.2 ad e; simp at this; omega
  refine ⟨nb, A3, r3, c3, rfl, ⟨hS3.1, hS3.2.1, ?_, hc3, hA3.1, (hR3.far (p := ⟨w.heap.size + 1 + 1, 0, none⟩) hne _).far (p := ⟨w.heap.size + 1 + 1, 1, none⟩) hne _⟩, ?_⟩
  ·rw [hS3.2.2, HZ12.out, HIF]
  ·exact ((hb0.drew.trans (hb3.mono (by simp; omega))).setCell (p := ⟨w.heap.size + 1 + 1, 0, none⟩) (by simp; omega) _).setCell (p := ⟨w.heap.size + 1 + 1, 1, none⟩) (by simp; omega) _
theorem add_any (n1 n2 : Bool) (A1 A2 : Option Addr) (l1 l2 : List Nat) (c1 c2 : Nat) (z1 z2 : Int) (w : World) (b1 : l1.length ≤ 536870912) (b2 : l2.length ≤ 536870912) (h1 : Nm w n1 A1 l1 c1 z1) (h2 : Nm w n2 A2 l2 c2 z2) :
 Calls Tryz.prog 49 #[.agg #[.bool n1, .slice A1 l1.length c1], .agg #[.bool n2, .slice A2 l2.length c2]] w (NumPost w (z1 + z2)) := by
 by_cases h : n2 = n1
 ·subst h; exact add_same n2 A1 A2 l1 l2 c1 c2 z1 z2 w b1 b2 h1 h2
 ·obtain rfl : n2 = !n1 := by cases n1 <;> cases n2 <;> simp_all
  exact add_diff n1 A1 A2 l1 l2 c1 c2 z1 z2 w b1 b2 h1 h2
theorem sg_natAbs (nb : Bool) (n : Nat) : (sg nb n).natAbs = n := by cases nb <;> simp [sg]
theorem Nm.len {w : World} {nb : Bool} {A : Option Addr} {l : List Nat} {c : Nat} {z : Int} (h : Nm w nb A l c z) {k : Nat} (hk : z.natAbs < 10 ^ k) : l.length ≤ k := by
 refine length_le_of_lt h.2.1 ?_
 have e : mval l = z.natAbs := by rw [← h.2.2.1, sg_natAbs]
 have : (10 : Nat) ^ k ≤ 1000000000 ^ k := Nat.pow_le_pow_left (by omega) k
 omega
theorem Nm.mval {w : World} {nb : Bool} {A : Option Addr} {l : List Nat} {c : Nat} {z : Int} (h : Nm w nb A l c z) : Tr.mval l = z.natAbs := by rw [← h.2.2.1, sg_natAbs]
theorem Nm.neg {w : World} {nb : Bool} {A : Option Addr} {l : List Nat} {c : Nat} {z : Int} (h : Nm w nb A l c z) : Nm w (!nb) A l c (-z) := by
 refine ⟨h.1, h.2.1, ?_, h.2.2.2⟩
 rw [← h.2.2.1]; cases nb <;> simp [sg]
theorem Nm.len_add {w : World} {nb : Bool} {A : Option Addr} {l : List Nat} {c : Nat} {x y : Int} (h : Nm w nb A l c (x + y)) {a b K : Nat} (hx : x.natAbs < 10 ^ a) (hy : y.natAbs < 10 ^ b) (ha : a ≤ K) (hb : b ≤ K) : l.length ≤ K + 1 :=
 h.len (add_lt_pow hx hy (by omega) (by omega))
theorem Nm.len_mul {w : World} {nb : Bool} {A : Option Addr} {l : List Nat} {c : Nat} {x y : Int} (h : Nm w nb A l c (x * y)) {a b : Nat} (hx : x.natAbs < 10 ^ a) (hy : y.natAbs < 10 ^ b) : l.length ≤ a + b :=
 h.len (mul_lt_pow hx hy)
theorem sg_mul (n1 n2 : Bool) (a b : Nat) : sg (n1 != n2) (a * b) = sg n1 a * sg n2 b := by
 cases n1 <;> cases n2 <;> simp [sg, Int.neg_mul, Int.mul_neg]
theorem Nm.mul {w w' : World} {n1 n2 : Bool} {A1 A2 A3 : Option Addr} {l1 l2 r : List Nat} {c1 c2 c3 : Nat} {x y : Int} (h1 : Nm w n1 A1 l1 c1 x) (h2 : Nm w n2 A2 l2 c2 y) (h : Prod l1 l2 r) (hc : r.length ≤ c3) (hA : A3 = none → c3 = 0) (hR : RdM w' A3 r) : Nm w' (n1 != n2) A3 r c3 (x * y) := by
 refine ⟨h.1, h.2.1, ?_, hc, hA, hR⟩
 rw [h.2.2, sg_mul, h1.2.2.1, h2.2.2.1]
theorem box2 (w : World) (o1 o2 : Obj) : ∃ W0, W0 = (w.alloc o1).alloc o2 ∧ Below w.heap.size w W0 ∧ W0.heap.size = w.heap.size + 2 ∧ W0.heap[w.heap.size]? = some o1 ∧ W0.heap[w.heap.size + 1]? = some o2 := by
 refine ⟨_, rfl, ((Below.refl _ _).alloc (Nat.le_refl _) _).alloc (by simp) _, by simp, ?_, ?_⟩
 ·rw [Below.heap_alloc _ _ _ (by simp)]; exact heap_alloc_new w o1
 ·have h := heap_alloc_new (w.alloc o1) o2
  rw [World.size_alloc] at h; exact h
theorem text_num (nb : Bool) (A : Option Addr) (l : List Nat) (c : Nat) (z : Int) (w : World) (h : Nm w nb A l c z) (b : l.length ≤ 536870912) (ht : Tabs w) :
 Calls Tryz.prog 50 #[.agg #[.bool nb, .slice A l.length c]] w fun e w' => e = .returned (.string (I z)) ∧ Below w.heap.size w w' := by
 have := text_any nb A l c w h.1 h.2.2.2 b ht
 rw [h.2.2.1] at this
 exact this
theorem Add_any (a b : ByteArray) (w : World) (ha : a.size ≤ 4000000) (hb : b.size ≤ 4000000) (ht : Tabs w) :
 Calls Tryz.prog 28 #[.string a, .string b] w fun e w' => e = .returned (.string (I (vl a + vl b))) ∧ Below w.heap.size w w' := by
 have HT := Lib.hid ht
 have la := vl_lt a
 have lb := vl_lt b
 have HLA := Lib.hid la
 have HLB := Lib.hid lb
 clear ht la lb
 go_enter Tryz.func28, Tryz.ntmps28
 go_wp2_with fail
 refine (read_any a _ (by omega)).mono ?_
 rintro e w1 hr1
 obtain ⟨n1, A1, l1, c1, rfl, h1, hb1⟩ := hr1.num
 clear hr1
 go_wp2_with fail
 refine (read_any b _ (by omega)).mono ?_
 rintro e w2 hr2
 obtain ⟨n2, A2, l2, c2, rfl, h2, hb2⟩ := hr2.num
 clear hr2
 have h1' := h1.below hb2
 have hb12 := hb1.trans (hb2.mono hb1.size)
 go_wp2_with fail
 refine (add_any n1 n2 A1 A2 l1 l2 c1 c2 _ _ _ (by have := h1.len HLA.out; omega) (by have := h2.len HLB.out; omega) h1' h2).mono ?_
 rintro e w3 ⟨n3, A3, l3, c3, rfl, h3, hb3⟩
 have hb13 := hb12.trans (hb3.mono hb12.size)
 go_wp2_with fail
 refine (text_num n3 A3 l3 c3 _ _ h3 (by have := h3.len_add HLA.out HLB.out ha hb; omega) (HT.out.below hb13)).mono ?_
 rintro e w4 ⟨rfl, hb4⟩
 go_wp2_with fail
 go_ret
 exact ⟨rfl, hb13.trans (hb4.mono hb13.size)⟩
theorem Neg_any (a : ByteArray) (w : World) (ha : a.size ≤ 4000000) (ht : Tabs w) :
 Calls Tryz.prog 124 #[.string a] w fun e w' => e = .returned (.string (I (-vl a))) ∧ Below w.heap.size w w' := by
 have HT := Lib.hid ht
 have HLA := Lib.hid (vl_lt a)
 clear ht
 go_enter Tryz.func124, Tryz.ntmps124
 go_wp2_with fail
 refine (read_any a _ (by omega)).mono ?_
 rintro e w1 hr1
 obtain ⟨n1, A1, l1, c1, rfl, h1, hb1⟩ := hr1.num
 clear hr1
 have H1 := Lib.hid h1
 have HB1 := Lib.hid hb1
 clear h1 hb1
 go_wp2_with fail
 have hB2 := HB1.out.alloc HB1.out.size (.cells #[.bool (!n1), .slice A1 l1.length c1] 100)
 refine (text_num (!n1) A1 l1 c1 _ _ ((H1.out.below ((Below.refl _ _).alloc (Nat.le_refl _) _)).neg) (by have := H1.out.len HLA.out; omega) (HT.out.below hB2)).mono ?_
 rintro e w4 ⟨rfl, hb4⟩
 go_wp2_with fail
 go_ret
 exact ⟨rfl, hB2.trans (hb4.mono hB2.size)⟩
theorem Sub_any (a b : ByteArray) (w : World) (ha : a.size ≤ 4000000) (hb : b.size ≤ 4000000) (ht : Tabs w) :
 Calls Tryz.prog 26 #[.string a, .string b] w fun e w' => e = .returned (.string (I (vl a - vl b))) ∧ Below w.heap.size w w' := by
 have HT := Lib.hid ht
 have HLA := Lib.hid (vl_lt a)
 have HLB := Lib.hid (vl_lt b)
 clear ht
 go_enter Tryz.func26, Tryz.ntmps26
 go_wp2_with fail
 refine (read_any b _ (by omega)).mono ?_
 rintro e w1 hr1
 obtain ⟨n1, A1, l1, c1, rfl, h1, hb1⟩ := hr1.num
 clear hr1
 have hB2 := hb1.alloc hb1.size (.cells #[.bool (!n1), .slice A1 l1.length c1] 100)
 have h2 := (h1.below ((Below.refl _ _).alloc (Nat.le_refl _) (.cells #[.bool (!n1), .slice A1 l1.length c1] 100))).neg
 have hblk := heap_alloc_new w1 (.cells #[.bool (!n1), .slice A1 l1.length c1] 100)
 have H2 := Lib.hid h2
 have HB2 := Lib.hid hB2
 have HK := Lib.hid hblk
 clear h1 hb1 hB2 h2 hblk
 go_wp2_with fail
 have hsz : (w1.alloc (.cells #[.bool (!n1), .slice A1 l1.length c1] 100)).heap.size = w1.heap.size + 1 := by simp
 have HZ := Lib.hid hsz
 clear hsz
 generalize w1.alloc (.cells #[.bool (!n1), .slice A1 l1.length c1] 100) = W2 at H2 HB2 HK HZ ⊢
 have k0 := Lib.cell_of_heap HK.out 0
 have k1 := Lib.cell_of_heap HK.out 1
 simp at k0 k1
 go_region_held3 (fun W => W.cell? ⟨w1.heap.size, 0, none⟩ = some (.bool (!n1)) ∧ W.cell? ⟨w1.heap.size, 1, none⟩ = some (.slice A1 l1.length c1))
  (refine ⟨?_, ?_⟩ <;> first | assumption | (go_simp; done))
  (first
    | (go_at_call 48; refine (read_any a _ (by omega)).mono ?_; rintro e w3 hr3; obtain ⟨n3, A3, l3, c3, rfl, h3, hb3⟩ := hr3.num; clear hr3; have j0 : w3.cell? ⟨w1.heap.size, 0, none⟩ = some (.bool (!n1)) := (hb3.cell (by simp [HZ.out])).trans k0; have j1 : w3.cell? ⟨w1.heap.size, 1, none⟩ = some (.slice A1 l1.length c1) := (hb3.cell (by simp [HZ.out])).trans k1; have hB3 := HB2.out.drew.trans (hb3.mono (by have := HB2.out.size; simpa using this)); have hh2 := (show Nm W2.drew _ _ _ _ _ from H2.out).below hb3)
    | (go_at_call 49; refine (add_any n3 (!n1) A3 A1 l3 l1 c3 c1 _ _ _ (by have := h3.len HLA.out; omega) (by have := H2.out.len (k := b.size) (by have h5 := HLB.out; omega); omega) h3 hh2).mono ?_; rintro e w4 ⟨n4, A4, l4, c4, rfl, h4, hb4⟩; have i0 : w4.cell? ⟨w1.heap.size, 0, none⟩ = some (.bool (!n1)) := (hb4.cell (cell_lt j0)).trans j0; have i1 := keepc j1 hb4; have hB4 := hB3.trans (hb4.mono hB3.size))
    | (go_at_call 50; refine (text_num n4 A4 l4 c4 _ _ h4 (by have := h4.len_add HLA.out (show (-vl b).natAbs < 10 ^ b.size by have := HLB.out; omega) ha hb; omega) (HT.out.below hB4)).mono ?_; rintro e w5 ⟨rfl, hb5⟩; have g0 : w5.cell? ⟨w1.heap.size, 0, none⟩ = some (.bool (!n1)) := (hb5.cell (cell_lt i0)).trans i0; have g1 := keepc i1 hb5))
 go_wp2_with fail
 go_ret
 exact ⟨rfl, hB4.trans (hb5.mono hB4.size)⟩
theorem Mul_any (a b : ByteArray) (w : World) (ha : a.size ≤ 4000000) (hb : b.size ≤ 4000000) (ht : Tabs w) :
 Calls Tryz.prog 166 #[.string a, .string b] w fun e w' => e = .returned (.string (I (vl a * vl b))) ∧ Below w.heap.size w w' := by
 have HT := Lib.hid ht
 have HLA := Lib.hid (vl_lt a)
 have HLB := Lib.hid (vl_lt b)
 clear ht
 go_enter Tryz.func166, Tryz.ntmps166
 go_wp2_with fail
 refine (read_any a _ (by omega)).mono ?_
 rintro e w1 hr1
 obtain ⟨n1, A1, l1, c1, rfl, h1, hb1⟩ := hr1.num
 clear hr1
 go_wp2_with fail
 refine (read_any b _ (by omega)).mono ?_
 rintro e w2 hr2
 obtain ⟨n2, A2, l2, c2, rfl, h2, hb2⟩ := hr2.num
 clear hr2
 have h1' := h1.below hb2
 have hb12 := hb1.trans (hb2.mono hb1.size)
 obtain ⟨W2, hW2, hBW, hz, k0, k1⟩ := box2 w2 (.cells #[.bool n1, .slice A1 l1.length c1] 100) (.cells #[.bool n2, .slice A2 l2.length c2] 100)
 have H1 := Lib.hid (h1'.below hBW)
 have H2 := Lib.hid (h2.below hBW)
 have HB2 := Lib.hid (hb12.trans (hBW.mono hb12.size))
 have HZ := Lib.hid hz
 have K0 := Lib.hid k0
 have K1 := Lib.hid k1
 clear h1 hb1 h2 hb2 h1' hb12 hBW hz k0 k1
 go_wp2_with fail
 rw [← hW2]
 clear hW2
 have a0 := Lib.cell_of_heap K0.out 0
 have a1 := Lib.cell_of_heap K0.out 1
 have b0 := Lib.cell_of_heap K1.out 0
 have b1 := Lib.cell_of_heap K1.out 1
 simp at a0 a1 b0 b1
 go_region_held3 (fun W => W.cell? ⟨w2.heap.size, 0, none⟩ = some (.bool n1) ∧ W.cell? ⟨w2.heap.size, 1, none⟩ = some (.slice A1 l1.length c1) ∧ W.cell? ⟨w2.heap.size + 1, 0, none⟩ = some (.bool n2) ∧ W.cell? ⟨w2.heap.size + 1, 1, none⟩ = some (.slice A2 l2.length c2))
  (refine ⟨?_, ?_, ?_, ?_⟩ <;> first | assumption | (go_simp; done))
  (first
    | (go_at_call 220; refine (times_any A1 A2 l1 l2 c1 c2 W2.drew (by have := H1.out.len HLA.out; omega) (by have := H2.out.len HLB.out; omega) H1.out.1 H2.out.1 (show RdM W2 _ _ from H1.out.2.2.2.2.2) (show RdM W2 _ _ from H2.out.2.2.2.2.2)).mono ?_; rintro e w3 hq3; obtain ⟨A3, r3, c3, rfl, hc3, hS3, hA3, hR3, hb3⟩ := hq3.mag; clear hq3; have j0 : w3.cell? ⟨w2.heap.size, 0, none⟩ = some (.bool n1) := (hb3.cell (by simp [HZ.out])).trans a0; have j1 : w3.cell? ⟨w2.heap.size, 1, none⟩ = some (.slice A1 l1.length c1) := (hb3.cell (by simp [HZ.out])).trans a1; have j2 : w3.cell? ⟨w2.heap.size + 1, 0, none⟩ = some (.bool n2) := (hb3.cell (by simp [HZ.out])).trans b0; have j3 : w3.cell? ⟨w2.heap.size + 1, 1, none⟩ = some (.slice A2 l2.length c2) := (hb3.cell (by simp [HZ.out])).trans b1; have hB3 := HB2.out.drew.trans (hb3.mono (by have := HB2.out.size; simpa using this)); have h3 : Nm w3 (n1 != n2) A3 r3 c3 (vl a * vl b) := Nm.mul H1.out H2.out hS3 hc3 hA3.1 hR3)
    | (go_at_call 50; refine (text_num _ A3 r3 c3 _ _ h3 (by have := h3.len_mul HLA.out HLB.out; omega) (HT.out.below hB3)).mono ?_; rintro e w5 ⟨rfl, hb5⟩; have g0 := keepc j0 hb5; have g1 := keepc j1 hb5; have g2 := keepc j2 hb5; have g3 := keepc j3 hb5))
 go_wp2_with fail
 go_ret
 exact ⟨rfl, hB3.trans (hb5.mono hB3.size)⟩
theorem Canonical_any (a : ByteArray) (w : World) (ha : a.size ≤ 1000000000) :
 Calls Tryz.prog 43 #[.string a] w fun e w' => e = .returned (.string (I (vl a))) ∧ Below w.heap.size w w' := by
 go_enter Tryz.func43, Tryz.ntmps43
 go_wp2_with fail
 refine (digits_any a _ (by omega)).mono ?_
 rintro e w1 ⟨rfl, hb1⟩
 have hlen : (digits (vl a).natAbs).length ≤ a.size := by rw [digits_length_le_iff]; exact vl_lt a
 have hz : (bs (digits (vl a).natAbs)).size = (digits (vl a).natAbs).length := bs_size _
 have HB1 := Lib.hid hb1
 clear hb1
 by_cases hn : vl a < 0
 ·have hd : decide (vl a < 0) = true := by simpa using hn
  have HI : Hid (I (vl a) = bs ([45] ++ digits (vl a).natAbs)) := by rw [Hid, I, can, if_pos hn]; rfl
  have HN := Lib.hid hn
  rw [hd]
  clear hn hd
  generalize digits (vl a).natAbs = ds at *
  go_wp2_with fail
  go_ret
  rw [HI.out]
  exact ⟨by rw [← bs_append]; rfl, HB1.out⟩
 ·have hd : decide (vl a < 0) = false := by simpa using hn
  have HI : Hid (I (vl a) = bs (digits (vl a).natAbs)) := by rw [Hid, I, can, if_neg hn]
  rw [hd]
  clear hn hd
  generalize digits (vl a).natAbs = ds at *
  go_wp2_with fail
  go_ret
  rw [HI.out]
  exact ⟨rfl, HB1.out⟩
theorem Check_yes (a : ByteArray) (w : World) (ha : a.size ≤ 1000000000) (h : Can a) :
 Calls Tryz.prog 23 #[.string a] w fun e w' => e = .returned (.int .i64 0) ∧ Below w.heap.size w w' := by
 go_enter Tryz.func23, Tryz.ntmps23
 go_wp2_with fail
 refine (Canonical_any a _ ha).mono ?_
 rintro e w1 ⟨rfl, hb1⟩
 rw [show I (vl a) = a from h]
 clear h
 go_wp2_with fail
 go_ret
 exact ⟨rfl, hb1⟩
theorem Check_no (a : ByteArray) (w : World) (ha : a.size ≤ 1000000000) (h : ¬ Can a) :
 Calls Tryz.prog 23 #[.string a] w fun e w' => e = .returned (.int .i64 1) ∧ Below w.heap.size w w' := by
 go_enter Tryz.func23, Tryz.ntmps23
 go_wp2_with fail
 refine (Canonical_any a _ ha).mono ?_
 rintro e w1 ⟨rfl, hb1⟩
 have h1 : (a.toList == (I (vl a)).toList) = false := neq_toList (fun e => h e.symm)
 clear h
 generalize I (vl a) = b at h1 ⊢
 go_wp2_with fail
 go_ret
 exact ⟨rfl, hb1⟩
theorem cmp_diff {n1 n2 : Bool} {x y : Int} {a b : Nat} (h1 : sg n1 a = x) (h2 : sg n2 b = y) (hn1 : n1 = decide (x < 0)) (hn2 : n2 = decide (y < 0)) (h : n1 ≠ n2) : cmpI x y = if n1 then -1 else 1 := by
 subst hn1 hn2
 unfold cmpI
 by_cases hx : x < 0 <;> by_cases hy : y < 0 <;> simp [hx, hy] at h ⊢ <;> split <;> (try split) <;> omega
theorem cmp_same {nb : Bool} {x y r : Int} {a b : Nat} (h1 : sg nb a = x) (h2 : sg nb b = y) (hs : Sgn r a b) : cmpI x y = max (-1) (min (if nb then -r else r) 1) := by
 obtain ⟨s1, s2, _, _⟩ := hs
 unfold cmpI
 subst h1 h2
 unfold sg
 cases nb
 ·simp only [Bool.false_eq_true, if_false]
  split <;> (try split) <;> omega
 ·simp only [if_true]
  split <;> (try split) <;> omega
theorem Compare_any (a b : ByteArray) (w : World) (ha : a.size ≤ 4000000) (hb : b.size ≤ 4000000) :
 Calls Tryz.prog 162 #[.string a, .string b] w fun e w' => e = .returned (.int .i64 (cmpI (vl a) (vl b))) ∧ Below w.heap.size w w' := by
 have HLA := Lib.hid (vl_lt a)
 have HLB := Lib.hid (vl_lt b)
 go_enter Tryz.func162, Tryz.ntmps162
 go_wp2_with fail
 refine (read_any a _ (by omega)).mono ?_
 rintro e w1 hr1
 obtain ⟨A1, l1, c1, rfl, ⟨d1, m1, v1⟩, g1, hb1⟩ := hr1
 go_wp2_with fail
 refine (read_any b _ (by omega)).mono ?_
 rintro e w2 hr2
 obtain ⟨A2, l2, c2, rfl, ⟨d2, m2, v2⟩, g2, hb2⟩ := hr2
 have hb12 := hb1.trans (hb2.mono hb1.size)
 have g1' := g1.below hb2
 have e1 : sg (decide (vl a < 0)) (mval l1) = vl a := by unfold sg; rw [v1]; by_cases h : vl a < 0 <;> simp [h] <;> omega
 have e2 : sg (decide (vl b < 0)) (mval l2) = vl b := by unfold sg; rw [v2]; by_cases h : vl b < 0 <;> simp [h] <;> omega
 have q1 : l1.length ≤ a.size := by
  refine length_le_of_lt m1 ?_
  have h5 := HLA.out
  have : (10 : Nat) ^ a.size ≤ 1000000000 ^ a.size := Nat.pow_le_pow_left (by omega) _
  omega
 have q2 : l2.length ≤ b.size := by
  refine length_le_of_lt m2 ?_
  have h5 := HLB.out
  have : (10 : Nat) ^ b.size ≤ 1000000000 ^ b.size := Nat.pow_le_pow_left (by omega) _
  omega
 generalize hn1 : decide (vl a < 0) = n1 at e1 ⊢
 generalize hn2 : decide (vl b < 0) = n2 at e2 ⊢
 obtain ⟨W2, hW2, hBW, hz, k0, k1⟩ := box2 w2 (.cells #[.bool n1, .slice A1 l1.length c1] 100) (.cells #[.bool n2, .slice A2 l2.length c2] 100)
 have HC := Lib.hid (compare_any A1 A2 l1 l2 c1 c2 W2 (by omega) (by omega) d1 d2 m1 m2 (g1'.below hBW).2.2 (g2.below hBW).2.2)
 have HB2 := Lib.hid (hb12.trans (hBW.mono hb12.size))
 have HE1 := Lib.hid e1
 have HE2 := Lib.hid e2
 have HN1 := Lib.hid hn1
 have HN2 := Lib.hid hn2
 have a0 := Lib.cell_of_heap k0 0
 have a1 := Lib.cell_of_heap k0 1
 have b0 := Lib.cell_of_heap k1 0
 have b1 := Lib.cell_of_heap k1 1
 simp at a0 a1 b0 b1
 clear g1 g1' g2 hb1 hb2 hb12 hBW hz k0 k1 d1 d2 m1 m2 v1 v2 e1 e2 q1 q2 hn1 hn2
 go_wp2_with fail
 rw [← hW2]
 refine HC.out.mono ?_
 rintro e w3 ⟨r, rfl, hs, q, rfl⟩
 have HS := Lib.hid hs
 have r1 := hs.2.2.1
 have r2 := hs.2.2.2
 have HB3 := Lib.hid (below_drewN HB2.out q)
 clear hs hW2 HC HB2
 by_cases hnn : n1 = n2
 ·subst hnn
  have HR : Hid (cmpI (vl a) (vl b) = max (-1) (min (if n1 then -r else r) 1)) := cmp_same HE1.out HE2.out HS.out
  have hxx : (n1 != n1) = false := by simp
  cases n1
  all_goals
   go_wp2_with fail
   go_ret
   refine ⟨?_, HB3.out⟩
   rw [HR.out]
   rfl
 ·have HR : Hid (cmpI (vl a) (vl b) = if n1 then -1 else 1) := cmp_diff HE1.out HE2.out HN1.out.symm HN2.out.symm hnn
  obtain rfl : n2 = !n1 := by cases n1 <;> cases n2 <;> simp_all
  clear hnn
  cases n1
  all_goals
   go_wp2_with fail
   go_ret
   refine ⟨?_, HB3.out⟩
   rw [HR.out]
   rfl
end Go.Proofs.YtbkmhmaldljgmaaGreatDoor
