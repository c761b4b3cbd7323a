/-
  The walks of trancheref19.Put and Open. (Printed by gen_opn3.py.)
-/
import Derived.Test.YtdnmpgoigagjmaaGreatDoorA46
import Derived.Test.YtdnmpgoigagjmaaGreatDoorA33
set_option linter.unusedVariables false
set_option linter.unusedSimpArgs false
namespace Go.Proofs.YtdnmpgoigagjmaaGreatDoor
open Go.RowKit Tr Go.Shelf
theorem sl_lo (A : Option Addr) (N c k : Nat) (hA : A = none → N = 0 ∧ c = 0) (hk : k ≤ N) (hc : N ≤ c) (W : World) : (Instr.sliceAt 22 (.slice A N c) none (some (.int .i64 (k : Int))) none).run Tryz.prog W = .ok (.slice A k c) W := by
 cases A with
 | some ad => exact lslice_lo W ad N c k (by omega)
 | none =>
   obtain ⟨rfl, rfl⟩ := hA rfl
   obtain rfl : k = 0 := by omega
   kernel_rfl
theorem sl_hi (A : Option Addr) (N c k : Nat) (hA : A = none → N = 0 ∧ c = 0) (hk : k ≤ N) (hc : N ≤ c) : ∃ A2, (∀ W, (Instr.sliceAt 22 (.slice A N c) (some (.int .i64 (k : Int))) none none).run Tryz.prog W = .ok (.slice A2 (N - k) (c - k)) W) ∧ (A2 = none → N - k = 0 ∧ c - k = 0) ∧
 ∀ n w ls, RdB n w A ls → ls.length = N → RdB n w A2 (ls.drop k) := by
 cases A with
 | some ad => exact ⟨_, fun W => lslice_hi W ad N c k hk, (fun e => by cases e), fun n w ls h hl => h.drop k (by omega) (by omega)⟩
 | none =>
   obtain ⟨rfl, rfl⟩ := hA rfl
   obtain rfl : k = 0 := by omega
   exact ⟨none, fun W => lslice_nil W, fun _ => ⟨rfl, rfl⟩, fun n w ls h hl => h⟩
theorem app_lots (w : World) (base : Nat) (v : Value) (n : Nat) (xs : List Value) (hown : w.ownsRow base 49 7 v n xs) (A : Option Addr) (m c : Nat) (ls : List SLot) (n₁ : Nat) (hR : RdB n₁ w A ls) (hl : ls.length = m) (hA : A = none → m = 0 ∧ c = 0) (hnm : n + m ≤ 200000) (hb : base ≤ w.heap.size) :
 ∃ v' w', (Builtin.append_ #[22, 22] 22 #[v, .slice A m c]).run Tryz.prog w = .ok v' w' ∧ w'.ownsRow base 49 7 v' (n + m) (xs ++ flatL ls) ∧ w.grownBy w' v.ownBlock := by
 obtain ⟨i0, hi0, hz0, hz1, hz2⟩ := info_parts Tryz.infoLot
 cases A with
 | some ad =>
   obtain ⟨v', w', h1, h2, h3, _⟩ := run_append_own (P := Tryz.prog) w base 22 22 49 i0 _ 7 96 Tryz.underlying22 hi0 hz0 hz1 hz2 rfl (by decide) v n xs hown ad m c (flatL ls) (by rw [flatL_len, hl]) hR.flat (flatL_one _) (by unfold maxLen; omega) (by omega) hb
   exact ⟨v', w', h1, h2, h3⟩
 | none =>
   obtain ⟨rfl, rfl⟩ := hA rfl
   obtain rfl : ls = [] := List.eq_nil_of_length_eq_zero hl
   refine ⟨v, w, ?_, by simpa [flatL] using hown, ⟨rfl, rfl, rfl, Nat.le_refl _, fun _ _ _ => rfl⟩⟩
   rcases hown.2 with ⟨rfl, rfl⟩ | ⟨g, cap, cur, rfl, hbg, hg, hnc, _, _, _⟩
   ·simp [Builtin.append_, run_underlying Tryz.underlying22, sizeOf, typeInfo, hi0, Builtin.lenOf, Builtin.firstCells, loadCells, loadCellsFrom]
   ·simp [Builtin.append_, run_underlying Tryz.underlying22, sizeOf, typeInfo, hi0, Builtin.lenOf, Builtin.firstCells, loadCells, loadCellsFrom, hnc, storeCells]
theorem app_one (w : World) (base : Nat) (v : Value) (n : Nat) (xs : List Value) (hown : w.ownsRow base 49 7 v n xs) (B cB : Nat) (x : Lot) (hx : LotBox w B x) (hn : n ≤ 200000) (hb : base ≤ w.heap.size) :
 ∃ v' w', (Builtin.append_ #[22, 22] 22 #[v, .slice (some ⟨B, 0, none⟩) 1 cB]).run Tryz.prog w = .ok v' w' ∧ w'.ownsRow base 49 7 v' (n + 1) (xs ++ x.cells.toList) ∧ w.grownBy w' v.ownBlock := by
 obtain ⟨i0, hi0, hz0, hz1, hz2⟩ := info_parts Tryz.infoLot
 obtain ⟨v', w', h1, h2, h3, _⟩ := run_append_own (P := Tryz.prog) w base 22 22 49 i0 _ 7 96 Tryz.underlying22 hi0 hz0 hz1 hz2 rfl (by decide) v n xs hown ⟨B, 0, none⟩ 1 cB x.cells.toList rfl (lotbox_src hx) (lotcells_one x) (by unfold maxLen; omega) (by omega) hb
 exact ⟨v', w', h1, h2, h3⟩
def PutPost (w : World) (ls : List SLot) (x : SLot) (e : Ending) (w' : World) : Prop :=
 ∃ (A' : Option Addr) (c' k : Nat), IsPl (ls.map Subtype.val) x.1.inst k ∧ e = .returned (.slice A' (insAt ls k x).length c') ∧ Below w.heap.size w w' ∧ RdB w'.heap.size w' A' (insAt ls k x) ∧ (insAt ls k x).length ≤ c'
set_option maxHeartbeats 4000000 in
set_option maxRecDepth 100000 in
theorem rPut19_any (n₀ : Nat) (A : Option Addr) (ls : List SLot) (c : Nat) (hc : ls.length ≤ c) (hlen : ls.length ≤ 100000) (x : SLot) (w : World) (hR : RdB n₀ w A ls) (hn : n₀ ≤ w.heap.size) (hA : A = none → ls.length = 0 ∧ c = 0) :
 Calls Tryz.prog 111 #[.slice A ls.length c, x.1.enc] w (PutPost w ls x) := by
 obtain ⟨x, hs⟩ := x
 obtain ⟨W0, hW0, hB0, hk0⟩ := lbox x w
 obtain ⟨N, hN⟩ : ∃ N, ls.length = N := ⟨_, rfl⟩
 obtain ⟨lz, hlz⟩ : ∃ lz, ls.map Subtype.val = lz := ⟨_, rfl⟩
 have hNm : lz.length = N := by rw [← hlz, List.length_map, hN]
 have HLZ := Lib.hid hlz
 rw [hN] at hc hlen hA ⊢
 have HX : Hid (LotBox W0 w.heap.size x) := hk0
 have HB0 := Lib.hid hB0
 have HR : Hid (RdB n₀ W0 A ls) := hR.below (hB0.mono hn)
 have HA := Lib.hid hA
 have HN0 : Hid (n₀ ≤ W0.heap.size) := Nat.le_trans hn hB0.size
 have HSZ := Lib.hid hs
 have HNM := Lib.hid hNm
 have HN := Lib.hid hN
 have HL := Lib.hid hlen
 have HSL := Lib.hid (fun k (hk : k ≤ N) => sl_lo A N c k hA hk hc)
 have HSH := Lib.hid (fun k (hk : k ≤ N) => sl_hi A N c k hA hk hc)
 clear hR hA hn hc hk0 hB0 hNm hN hlz
 unfold Lot.enc Lot.cells at *
 go_enter Tryz.func111, Tryz.ntmps111
 go_wp2_with fail
 go_loopw [5] (fun v wr => ∃ k m : Nat, v = .int .i64 (k : Int) ∧ k ≤ N ∧ (∀ i y, k ≤ i → lz[i]? = some y → bl x.inst y.inst = true) ∧ wr = W0.drewN m) (fun v _ => (intOf v).toNat)
 case atStart => exact ⟨N, 0, rfl, Nat.le_refl _, fun i y h1 h2 => by have h3 := (List.getElem?_eq_some_iff.1 h2).1; rw [HNM.out] at h3; omega, rfl⟩
 case round =>
  obtain ⟨kk, m, rfl, hk, hu, rfl⟩ := hrel
  have HU := Lib.hid hu
  have HK := Lib.hid hk
  clear hu
  rcases Nat.eq_zero_or_pos kk with hz | hpos
  ·have tg : decide ((kk : Int) > 0) = false := decide_eq_false (by omega)
   have tg' : decide ((0 : Int) < (kk : Int)) = false := decide_eq_false (by omega)
   have tg2 : ¬ 0 < kk := by omega
   have HPL : Hid (IsPl lz x.inst kk) := ⟨by rw [HNM.out]; exact hk, HU.out, fun y h => by omega⟩
   clear hz hk
   go_wp2_with fail
   go_quiet (fail)
   go_upto_region 4 with fail
   have HBT := Lib.hid (show Below W0.heap.size W0 ((W0.drewN m).drewN nq) from below_drewN (below_drewN (Below.refl _ _) m) nq)
   generalize (W0.drewN m).drewN nq = Wt at *
   have HKL : Hid (kk ≤ N) := by have h := HPL.out.le; rwa [HNM.out] at h
   obtain ⟨A2, hs2, hA2, hR2⟩ := HSH.out kk HKL.out
   have hs1 := HSL.out kk HKL.out
   have HS2 := Lib.hid hs2
   have HS1 := Lib.hid hs1
   clear hs1 hs2
   have hbt := HBT.out
   have hown0 : (Wt.alloc (.cells #[] 49)).ownsRow W0.heap.size 49 7 (.slice (some ⟨Wt.heap.size, 0, none⟩) 0 0) 0 [] := World.ownsRow_made Wt #[] 0 hbt.size (Nat.zero_le _) rfl
   have hba : Below W0.heap.size W0 (Wt.alloc (.cells #[] 49)) := hbt.alloc hbt.size _
   have hn0 : n₀ ≤ W0.heap.size := HN0.out
   have hlt : (ls.take kk).length = kk := by rw [List.length_take, HN.out]; exact Nat.min_eq_left HKL.out
   have hld : (ls.drop kk).length = N - kk := by rw [List.length_drop, HN.out]
   obtain ⟨v1, w1, r1, o1, g1⟩ := app_lots (Wt.alloc (.cells #[] 49)) W0.heap.size _ 0 [] hown0 _ kk c (ls.take kk) n₀ ((HR.out.below (hba.mono hn0)).take kk) hlt (fun e => by have h := HA.out e; have h2 := HKL.out; omega) (by have h2 := HKL.out; have h3 := HL.out; omega) hba.size
   rw [Nat.zero_add, List.nil_append] at o1
   have hb1 : Below W0.heap.size W0 w1 := hba.grown g1 hba.size (fun k hk => (hown0.lt k hk).1)
   have hx1 : LotBox w1 w.heap.size x := HX.out.below hb1
   have hb1' : Below W0.heap.size W0 (w1.alloc (.cells #[.string x.id, .string x.inst, .int .i64 x.acq, .int .i64 x.opn, .string x.qty, .string x.cost, .string x.used] 49)) := hb1.alloc hb1.size _
   have o1' : (w1.alloc (.cells #[.string x.id, .string x.inst, .int .i64 x.acq, .int .i64 x.opn, .string x.qty, .string x.cost, .string x.used] 49)).ownsRow W0.heap.size 49 7 v1 kk (flatL (ls.take kk)) := o1.alloc _
   obtain ⟨v2, w2, r2, o2, g2⟩ := app_one (w1.alloc (.cells #[.string x.id, .string x.inst, .int .i64 x.acq, .int .i64 x.opn, .string x.qty, .string x.cost, .string x.used] 49)) W0.heap.size v1 kk _ o1' w1.heap.size 1 x (heap_alloc_new w1 _) (by have h2 := HKL.out; have h3 := HL.out; omega) hb1'.size
   have hb2 : Below W0.heap.size W0 w2 := hb1'.grown g2 hb1'.size (fun k hk => (o1'.lt k hk).1)
   obtain ⟨v3, w3, r3, o3, g3⟩ := app_lots w2 W0.heap.size v2 (kk + 1) _ o2 A2 (N - kk) (c - kk) (ls.drop kk) n₀ (hR2 n₀ w2 ls (HR.out.below (hb2.mono hn0)) HN.out) hld hA2 (by have h2 := HKL.out; have h3 := HL.out; omega) hb2.size
   have hb3 : Below W0.heap.size W0 w3 := hb2.grown g3 hb2.size (fun k hk => (o2.lt k hk).1)
   have ho : w3.ownsRow W0.heap.size 49 7 v3 (insAt ls kk ⟨x, HSZ.out⟩).length (flatL (insAt ls kk ⟨x, HSZ.out⟩)) := by
    have h := o3
    rw [List.append_assoc, ← flatL_take ls kk (by rw [HN.out]; exact HKL.out), ← flatL_drop ls kk (by rw [HN.out]; exact HKL.out), insAt_flat ls kk ⟨x, HSZ.out⟩ (by rw [HN.out]; exact HKL.out)] at h
    rw [insAt_len _ (by rw [HN.out]; exact HKL.out), HN.out, show N + 1 = kk + 1 + (N - kk) from by have h2 := HKL.out; omega]
    exact h
   obtain ⟨A3, c3, e3, hc3, _, hr3⟩ := RdB.of_own ho
   have HF := Lib.hid (And.intro e3 (And.intro hc3 (And.intro hr3 (HB0.out.trans (hb3.mono HB0.out.size)))))
   have x0 := Lib.cell_of_heap hx1 0
   have x1 := Lib.cell_of_heap hx1 1
   have x2 := Lib.cell_of_heap hx1 2
   have x3 := Lib.cell_of_heap hx1 3
   have x4 := Lib.cell_of_heap hx1 4
   have x5 := Lib.cell_of_heap hx1 5
   have x6 := Lib.cell_of_heap hx1 6
   simp [Lot.cells] at x0 x1 x2 x3 x4 x5 x6
   clear hown0 hba hlt hld o1 hb1 hx1 hb1' o1' o2 hb2 o3 hb3 g1 g2 g3 ho e3 hc3 hr3 hbt hn0 hA2 hR2
   have hs1 := HS1.out
   go_upto_region 5 with (at_builtin; refine Lib.wpList_append_run _ rfl _ _ _ _ rfl _ _ rfl rfl _ _ r1 ?_)
   go_upto_region 6 with (at_builtin; refine Lib.wpList_append_run _ rfl _ _ _ _ rfl _ _ rfl rfl _ _ r2 ?_)
   clear hs1
   have hs2 := HS2.out
   go_wp2_with (at_builtin; refine Lib.wpList_append_run _ rfl _ _ _ _ rfl _ _ rfl rfl _ _ r3 ?_)
   go_ret
   exact ⟨A3, c3, kk, by rw [HLZ.out]; exact HPL.out, by rw [HF.out.1]; rfl, HF.out.2.2.2, HF.out.2.2.1, HF.out.2.1⟩
  ·obtain ⟨j, hj⟩ : ∃ j, kk = j + 1 := ⟨kk - 1, by omega⟩
   have hjN : j < N := by omega
   obtain ⟨y, hy⟩ : ∃ y, ls[j]? = some y := ⟨_, List.getElem?_eq_getElem (by rw [HN.out]; exact hjN)⟩
   obtain ⟨ad, rfl, had, hcell⟩ := HR.out (by intro e; rw [e] at hy; cases hy)
   obtain ⟨c0, c1, c2, c3, c4, c5, c6⟩ := hcell j y hy
   have HY : Hid (lz[j]? = some y.1) := by rw [Hid, ← HLZ.out, List.getElem?_map, hy]; rfl
   have tg : decide ((kk : Int) > 0) = true := decide_eq_true (by omega)
   have tg' : decide ((0 : Int) < (kk : Int)) = true := decide_eq_true (by omega)
   have tg2 : 0 < kk := by omega
   have hw1 : IntKind.i64.wrap ((kk : Int) - 1) = (j : Int) := by rw [IntKind.wrap_i64]; omega
   have hjl : (j : Int) < (N : Int) := by omega
   have k6 : LotBox W0 w.heap.size x := HX.out
   have x1 := Lib.cell_of_heap k6 1
   simp [Lot.cells] at x1
   have HJ := Lib.hid hj
   clear hcell hy k6 hpos hk hj
   rcases le_cases y.1.inst x.inst with ⟨h1, h2, h3⟩ | ⟨h1, h2, h3⟩ | ⟨h1, h2, h3⟩
   ·have HPL : Hid (IsPl lz x.inst kk) := ⟨by rw [HNM.out]; exact HK.out, HU.out, fun z h hz => by rw [HJ.out, Nat.add_sub_cancel, HY.out] at hz; injection hz with hz; rw [← hz]; exact h1⟩
    clear h1
    go_wp2_with fail
    go_quiet (fail)
    go_upto_region 4 with fail
    clear hw1 hjl c0 c1 c2 c3 c4 c5 c6 x1 h2 h3 tg tg' tg2
    have HBT := Lib.hid (show Below W0.heap.size W0 ((W0.drewN m).drewN nq) from below_drewN (below_drewN (Below.refl _ _) m) nq)
    generalize (W0.drewN m).drewN nq = Wt at *
    have HKL : Hid (kk ≤ N) := by have h := HPL.out.le; rwa [HNM.out] at h
    obtain ⟨A2, hs2, hA2, hR2⟩ := HSH.out kk HKL.out
    have hs1 := HSL.out kk HKL.out
    have HS2 := Lib.hid hs2
    have HS1 := Lib.hid hs1
    clear hs1 hs2
    have hbt := HBT.out
    have hown0 : (Wt.alloc (.cells #[] 49)).ownsRow W0.heap.size 49 7 (.slice (some ⟨Wt.heap.size, 0, none⟩) 0 0) 0 [] := World.ownsRow_made Wt #[] 0 hbt.size (Nat.zero_le _) rfl
    have hba : Below W0.heap.size W0 (Wt.alloc (.cells #[] 49)) := hbt.alloc hbt.size _
    have hn0 : n₀ ≤ W0.heap.size := HN0.out
    have hlt : (ls.take kk).length = kk := by rw [List.length_take, HN.out]; exact Nat.min_eq_left HKL.out
    have hld : (ls.drop kk).length = N - kk := by rw [List.length_drop, HN.out]
    obtain ⟨v1, w1, r1, o1, g1⟩ := app_lots (Wt.alloc (.cells #[] 49)) W0.heap.size _ 0 [] hown0 _ kk c (ls.take kk) n₀ ((HR.out.below (hba.mono hn0)).take kk) hlt (fun e => by have h := HA.out e; have h2 := HKL.out; omega) (by have h2 := HKL.out; have h3 := HL.out; omega) hba.size
    rw [Nat.zero_add, List.nil_append] at o1
    have hb1 : Below W0.heap.size W0 w1 := hba.grown g1 hba.size (fun k hk => (hown0.lt k hk).1)
    have hx1 : LotBox w1 w.heap.size x := HX.out.below hb1
    have hb1' : Below W0.heap.size W0 (w1.alloc (.cells #[.string x.id, .string x.inst, .int .i64 x.acq, .int .i64 x.opn, .string x.qty, .string x.cost, .string x.used] 49)) := hb1.alloc hb1.size _
    have o1' : (w1.alloc (.cells #[.string x.id, .string x.inst, .int .i64 x.acq, .int .i64 x.opn, .string x.qty, .string x.cost, .string x.used] 49)).ownsRow W0.heap.size 49 7 v1 kk (flatL (ls.take kk)) := o1.alloc _
    obtain ⟨v2, w2, r2, o2, g2⟩ := app_one (w1.alloc (.cells #[.string x.id, .string x.inst, .int .i64 x.acq, .int .i64 x.opn, .string x.qty, .string x.cost, .string x.used] 49)) W0.heap.size v1 kk _ o1' w1.heap.size 1 x (heap_alloc_new w1 _) (by have h2 := HKL.out; have h3 := HL.out; omega) hb1'.size
    have hb2 : Below W0.heap.size W0 w2 := hb1'.grown g2 hb1'.size (fun k hk => (o1'.lt k hk).1)
    obtain ⟨v3, w3, r3, o3, g3⟩ := app_lots w2 W0.heap.size v2 (kk + 1) _ o2 A2 (N - kk) (c - kk) (ls.drop kk) n₀ (hR2 n₀ w2 ls (HR.out.below (hb2.mono hn0)) HN.out) hld hA2 (by have h2 := HKL.out; have h3 := HL.out; omega) hb2.size
    have hb3 : Below W0.heap.size W0 w3 := hb2.grown g3 hb2.size (fun k hk => (o2.lt k hk).1)
    have ho : w3.ownsRow W0.heap.size 49 7 v3 (insAt ls kk ⟨x, HSZ.out⟩).length (flatL (insAt ls kk ⟨x, HSZ.out⟩)) := by
     have h := o3
     rw [List.append_assoc, ← flatL_take ls kk (by rw [HN.out]; exact HKL.out), ← flatL_drop ls kk (by rw [HN.out]; exact HKL.out), insAt_flat ls kk ⟨x, HSZ.out⟩ (by rw [HN.out]; exact HKL.out)] at h
     rw [insAt_len _ (by rw [HN.out]; exact HKL.out), HN.out, show N + 1 = kk + 1 + (N - kk) from by have h2 := HKL.out; omega]
     exact h
    obtain ⟨A3, c3, e3, hc3, _, hr3⟩ := RdB.of_own ho
    have HF := Lib.hid (And.intro e3 (And.intro hc3 (And.intro hr3 (HB0.out.trans (hb3.mono HB0.out.size)))))
    have x0 := Lib.cell_of_heap hx1 0
    have x1 := Lib.cell_of_heap hx1 1
    have x2 := Lib.cell_of_heap hx1 2
    have x3 := Lib.cell_of_heap hx1 3
    have x4 := Lib.cell_of_heap hx1 4
    have x5 := Lib.cell_of_heap hx1 5
    have x6 := Lib.cell_of_heap hx1 6
    simp [Lot.cells] at x0 x1 x2 x3 x4 x5 x6
    clear hown0 hba hlt hld o1 hb1 hx1 hb1' o1' o2 hb2 o3 hb3 g1 g2 g3 ho e3 hc3 hr3 hbt hn0 hA2 hR2
    have hs1 := HS1.out
    go_upto_region 5 with (at_builtin; refine Lib.wpList_append_run _ rfl _ _ _ _ rfl _ _ rfl rfl _ _ r1 ?_)
    go_upto_region 6 with (at_builtin; refine Lib.wpList_append_run _ rfl _ _ _ _ rfl _ _ rfl rfl _ _ r2 ?_)
    clear hs1
    have hs2 := HS2.out
    go_wp2_with (at_builtin; refine Lib.wpList_append_run _ rfl _ _ _ _ rfl _ _ rfl rfl _ _ r3 ?_)
    go_ret
    exact ⟨A3, c3, kk, by rw [HLZ.out]; exact HPL.out, by rw [HF.out.1]; rfl, HF.out.2.2.2, HF.out.2.2.1, HF.out.2.1⟩
   ·have HPL : Hid (IsPl lz x.inst kk) := ⟨by rw [HNM.out]; exact HK.out, HU.out, fun z h hz => by rw [HJ.out, Nat.add_sub_cancel, HY.out] at hz; injection hz with hz; rw [← hz]; exact h1⟩
    clear h1
    go_wp2_with fail
    go_quiet (fail)
    go_upto_region 4 with fail
    clear hw1 hjl c0 c1 c2 c3 c4 c5 c6 x1 h2 h3 tg tg' tg2
    have HBT := Lib.hid (show Below W0.heap.size W0 ((W0.drewN m).drewN nq) from below_drewN (below_drewN (Below.refl _ _) m) nq)
    generalize (W0.drewN m).drewN nq = Wt at *
    have HKL : Hid (kk ≤ N) := by have h := HPL.out.le; rwa [HNM.out] at h
    obtain ⟨A2, hs2, hA2, hR2⟩ := HSH.out kk HKL.out
    have hs1 := HSL.out kk HKL.out
    have HS2 := Lib.hid hs2
    have HS1 := Lib.hid hs1
    clear hs1 hs2
    have hbt := HBT.out
    have hown0 : (Wt.alloc (.cells #[] 49)).ownsRow W0.heap.size 49 7 (.slice (some ⟨Wt.heap.size, 0, none⟩) 0 0) 0 [] := World.ownsRow_made Wt #[] 0 hbt.size (Nat.zero_le _) rfl
    have hba : Below W0.heap.size W0 (Wt.alloc (.cells #[] 49)) := hbt.alloc hbt.size _
    have hn0 : n₀ ≤ W0.heap.size := HN0.out
    have hlt : (ls.take kk).length = kk := by rw [List.length_take, HN.out]; exact Nat.min_eq_left HKL.out
    have hld : (ls.drop kk).length = N - kk := by rw [List.length_drop, HN.out]
    obtain ⟨v1, w1, r1, o1, g1⟩ := app_lots (Wt.alloc (.cells #[] 49)) W0.heap.size _ 0 [] hown0 _ kk c (ls.take kk) n₀ ((HR.out.below (hba.mono hn0)).take kk) hlt (fun e => by have h := HA.out e; have h2 := HKL.out; omega) (by have h2 := HKL.out; have h3 := HL.out; omega) hba.size
    rw [Nat.zero_add, List.nil_append] at o1
    have hb1 : Below W0.heap.size W0 w1 := hba.grown g1 hba.size (fun k hk => (hown0.lt k hk).1)
    have hx1 : LotBox w1 w.heap.size x := HX.out.below hb1
    have hb1' : Below W0.heap.size W0 (w1.alloc (.cells #[.string x.id, .string x.inst, .int .i64 x.acq, .int .i64 x.opn, .string x.qty, .string x.cost, .string x.used] 49)) := hb1.alloc hb1.size _
    have o1' : (w1.alloc (.cells #[.string x.id, .string x.inst, .int .i64 x.acq, .int .i64 x.opn, .string x.qty, .string x.cost, .string x.used] 49)).ownsRow W0.heap.size 49 7 v1 kk (flatL (ls.take kk)) := o1.alloc _
    obtain ⟨v2, w2, r2, o2, g2⟩ := app_one (w1.alloc (.cells #[.string x.id, .string x.inst, .int .i64 x.acq, .int .i64 x.opn, .string x.qty, .string x.cost, .string x.used] 49)) W0.heap.size v1 kk _ o1' w1.heap.size 1 x (heap_alloc_new w1 _) (by have h2 := HKL.out; have h3 := HL.out; omega) hb1'.size
    have hb2 : Below W0.heap.size W0 w2 := hb1'.grown g2 hb1'.size (fun k hk => (o1'.lt k hk).1)
    obtain ⟨v3, w3, r3, o3, g3⟩ := app_lots w2 W0.heap.size v2 (kk + 1) _ o2 A2 (N - kk) (c - kk) (ls.drop kk) n₀ (hR2 n₀ w2 ls (HR.out.below (hb2.mono hn0)) HN.out) hld hA2 (by have h2 := HKL.out; have h3 := HL.out; omega) hb2.size
    have hb3 : Below W0.heap.size W0 w3 := hb2.grown g3 hb2.size (fun k hk => (o2.lt k hk).1)
    have ho : w3.ownsRow W0.heap.size 49 7 v3 (insAt ls kk ⟨x, HSZ.out⟩).length (flatL (insAt ls kk ⟨x, HSZ.out⟩)) := by
     have h := o3
     rw [List.append_assoc, ← flatL_take ls kk (by rw [HN.out]; exact HKL.out), ← flatL_drop ls kk (by rw [HN.out]; exact HKL.out), insAt_flat ls kk ⟨x, HSZ.out⟩ (by rw [HN.out]; exact HKL.out)] at h
     rw [insAt_len _ (by rw [HN.out]; exact HKL.out), HN.out, show N + 1 = kk + 1 + (N - kk) from by have h2 := HKL.out; omega]
     exact h
    obtain ⟨A3, c3, e3, hc3, _, hr3⟩ := RdB.of_own ho
    have HF := Lib.hid (And.intro e3 (And.intro hc3 (And.intro hr3 (HB0.out.trans (hb3.mono HB0.out.size)))))
    have x0 := Lib.cell_of_heap hx1 0
    have x1 := Lib.cell_of_heap hx1 1
    have x2 := Lib.cell_of_heap hx1 2
    have x3 := Lib.cell_of_heap hx1 3
    have x4 := Lib.cell_of_heap hx1 4
    have x5 := Lib.cell_of_heap hx1 5
    have x6 := Lib.cell_of_heap hx1 6
    simp [Lot.cells] at x0 x1 x2 x3 x4 x5 x6
    clear hown0 hba hlt hld o1 hb1 hx1 hb1' o1' o2 hb2 o3 hb3 g1 g2 g3 ho e3 hc3 hr3 hbt hn0 hA2 hR2
    have hs1 := HS1.out
    go_upto_region 5 with (at_builtin; refine Lib.wpList_append_run _ rfl _ _ _ _ rfl _ _ rfl rfl _ _ r1 ?_)
    go_upto_region 6 with (at_builtin; refine Lib.wpList_append_run _ rfl _ _ _ _ rfl _ _ rfl rfl _ _ r2 ?_)
    clear hs1
    have hs2 := HS2.out
    go_wp2_with (at_builtin; refine Lib.wpList_append_run _ rfl _ _ _ _ rfl _ _ rfl rfl _ _ r3 ?_)
    go_ret
    exact ⟨A3, c3, kk, by rw [HLZ.out]; exact HPL.out, by rw [HF.out.1]; rfl, HF.out.2.2.2, HF.out.2.2.1, HF.out.2.1⟩
   ·have HU2 : Hid (∀ i z, j ≤ i → lz[i]? = some z → bl x.inst z.inst = true) := fun i z hi hz => by
     rcases Nat.eq_or_lt_of_le hi with rfl | hlt
     ·rw [HY.out] at hz; injection hz with hz; rw [← hz]; exact h1
     ·exact HU.out i z (by rw [HJ.out]; exact hlt) hz
    clear h1
    go_wp2_with fail
    go_quiet (fail)
    go_wp2_with fail
    go_roundw
    case rel => exact ⟨j, m + nq, rfl, by omega, HU2.out, by first | rfl | rw [World.drewN_drewN]⟩
    case measure => have hj2 := HJ.out; simp [intOf]; omega
set_option maxHeartbeats 4000000 in
set_option maxRecDepth 100000 in
theorem rOpen19_any (n₀ : Nat) (A : Option Addr) (ls : List SLot) (c : Nat) (hc : ls.length ≤ c) (hlen : ls.length ≤ 100000) (hti : ∀ l ∈ ls, l.1.tiny) (x : SLot) (hxt : x.1.tiny) (w : World) (hR : RdB n₀ w A ls) (hn : n₀ ≤ w.heap.size) (hA : A = none → ls.length = 0 ∧ c = 0) :
 Calls Tryz.prog 50 #[.slice A ls.length c, x.1.enc] w (OpnPost w ls x) := by
 obtain ⟨x, hs⟩ := x
 obtain ⟨W0, hW0, hB0, hk0⟩ := lbox x w
 obtain ⟨N, hN⟩ : ∃ N, ls.length = N := ⟨_, rfl⟩
 obtain ⟨lz, hlz⟩ : ∃ lz, ls.map Subtype.val = lz := ⟨_, rfl⟩
 have hNm : lz.length = N := by rw [← hlz, List.length_map, hN]
 have HLZ := Lib.hid hlz
 have HX0 : Hid (LotBox W0 w.heap.size x) := hk0
 have HB0 := Lib.hid hB0
 have HSZ := Lib.hid hs
 have HCA := fun W (hW : Below w.heap.size w W) => rCheckAll19_ex A (ls.map Subtype.val) c (by rw [List.length_map]; exact hc) (by rw [List.length_map]; omega) (fun l hl => by obtain ⟨y, hy, rfl⟩ := List.mem_map.1 hl; exact hti y hy) W (((hR.below (hW.mono hn)).rdb').rdl (Nat.le_trans hn hW.size))
 have HFI := fun W (hW : Below w.heap.size w W) => rFind_any A (ls.map Subtype.val) N c (by rw [hlz, hNm]; exact Nat.le_refl _) (by rw [List.length_map]; omega) x.id W (((hR.below (hW.mono hn)).rdb').rdl (Nat.le_trans hn hW.size))
 have HPU := fun W (hW : Below w.heap.size w W) => rPut19_any n₀ A ls c hc hlen ⟨x, hs⟩ W (hR.below (hW.mono hn)) (Nat.le_trans hn hW.size) hA
 have htk : lz.take N = lz := List.take_of_length_le (by rw [hNm]; exact Nat.le_refl _)
 rw [hN] at HPU hlen ⊢
 rw [hlz] at HCA HFI
 rw [hNm] at HCA
 rw [htk] at HFI
 unfold Lot.enc Lot.cells at HPU
 replace HCA := Lib.hid HCA
 replace HFI := Lib.hid HFI
 replace HPU := Lib.hid HPU
 have HCK := fun W => rCheck19_ex x hxt W
 unfold Lot.enc Lot.cells at HCK
 replace HCK := Lib.hid HCK
 have HNM := Lib.hid hNm
 have HN := Lib.hid hN
 have x0 := Lib.cell_of_heap hk0 0
 have x1 := Lib.cell_of_heap hk0 1
 have x2 := Lib.cell_of_heap hk0 2
 have x3 := Lib.cell_of_heap hk0 3
 have x4 := Lib.cell_of_heap hk0 4
 have x5 := Lib.cell_of_heap hk0 5
 have x6 := Lib.cell_of_heap hk0 6
 simp [Lot.cells] at x0 x1 x2 x3 x4 x5 x6
 clear hR hA hn hc hk0 hB0 hNm hN hti hxt htk hlz
 unfold Lot.enc Lot.cells at *
 go_enter Tryz.func50, Tryz.ntmps50
 go_wp2_with fail
 refine (HCA.out W0 HB0.out).mono ?_
 rintro e w1 ⟨rfl, b1⟩
 have HB1 := Lib.hid (HB0.out.trans (b1.mono HB0.out.size))
 have HX1 := Lib.hid (HX0.out.below b1)
 clear b1 x0 x1 x2 x3 x4 x5 x6
 by_cases h0 : lall lz = 0
 case neg =>
  have t1 : (lall lz == 0) = false := beq_eq_false_iff_ne.2 h0
  have t2 : (lall lz != 0) = true := by rw [bne, t1]; rfl
  have HE := Lib.hid (opnE_all (x := x) h0)
  clear h0
  go_wp2_with fail
  go_ret2
  exact opnPost_no (x := ⟨x, HSZ.out⟩) HLZ.out HE.out (by decide) _ _ (HB1.out.alloc HB1.out.size _)
 have H0 := Lib.hid h0
 rw [h0]
 clear h0
 have x0 := Lib.cell_of_heap HX1.out 0
 have x1 := Lib.cell_of_heap HX1.out 1
 have x2 := Lib.cell_of_heap HX1.out 2
 have x3 := Lib.cell_of_heap HX1.out 3
 have x4 := Lib.cell_of_heap HX1.out 4
 have x5 := Lib.cell_of_heap HX1.out 5
 have x6 := Lib.cell_of_heap HX1.out 6
 simp [Lot.cells] at x0 x1 x2 x3 x4 x5 x6
 go_wp2_with fail
 refine (HCK.out w1).mono ?_
 rintro e w2 ⟨rfl, b2⟩
 have HB2 := Lib.hid (HB1.out.trans (b2.mono HB1.out.size))
 have HX2 := Lib.hid (HX1.out.below b2)
 clear b2 x0 x1 x2 x3 x4 x5 x6 HX1 HB1
 by_cases h1 : lchk x = 0
 case neg =>
  have t1 : (lchk x == 0) = false := beq_eq_false_iff_ne.2 h1
  have t2 : (lchk x != 0) = true := by rw [bne, t1]; rfl
  have HE := Lib.hid (And.intro (opnE_chk H0.out h1) h1)
  clear h1
  go_wp2_with fail
  go_ret2
  exact opnPost_no (x := ⟨x, HSZ.out⟩) HLZ.out HE.out.1 HE.out.2 _ _ (HB2.out.alloc HB2.out.size _)
 have H1 := Lib.hid h1
 rw [h1]
 clear h1
 have x0 := Lib.cell_of_heap HX2.out 0
 simp [Lot.cells] at x0
 go_wp2_with fail
 refine (HFI.out w2 HB2.out).mono ?_
 rintro e w3 ⟨rfl, rfl⟩
 clear x0
 generalize hf : findR lz x.id 0 = fr
 obtain ⟨kf, bf⟩ := fr
 have HFR := Lib.hid hf
 clear hf
 cases bf
 case true =>
  have HE := Lib.hid (opnE_was H0.out H1.out (by rw [HFR.out]))
  go_wp2_with fail
  go_ret2
  exact opnPost_no (x := ⟨x, HSZ.out⟩) HLZ.out HE.out (by decide) _ _ (HB2.out.alloc HB2.out.size _)
 have hN1 : N ≤ 1000 := by have h := ((lall_zero _).1 H0.out).len; rwa [HNM.out] at h
 rcases Nat.lt_or_ge N 1000 with hlt | hge
 case inr =>
  have t1 : ((N : Int) == 1000) = true := beq_iff_eq.2 (by omega)
  have t2 : (N == 1000) = true := beq_iff_eq.2 (by omega)
  have HE := Lib.hid (opnE_lim H0.out H1.out (by rw [HFR.out]) (by rw [HNM.out]; exact hge))
  clear hge hN1
  go_wp2_with fail
  go_ret2
  exact opnPost_no (x := ⟨x, HSZ.out⟩) HLZ.out HE.out (by decide) _ _ (HB2.out.alloc HB2.out.size _)
 have t1 : ((N : Int) == 1000) = false := beq_eq_false_iff_ne.2 (by omega)
 have t2 : (N == 1000) = false := beq_eq_false_iff_ne.2 (by omega)
 have HE := Lib.hid (opnE_ok H0.out H1.out (by rw [HFR.out]) (by rw [HNM.out]; exact hlt))
 clear hlt HCA HCK HFI hN1
 have x0 := Lib.cell_of_heap HX2.out 0
 have x1 := Lib.cell_of_heap HX2.out 1
 have x2 := Lib.cell_of_heap HX2.out 2
 have x3 := Lib.cell_of_heap HX2.out 3
 have x4 := Lib.cell_of_heap HX2.out 4
 have x5 := Lib.cell_of_heap HX2.out 5
 have x6 := Lib.cell_of_heap HX2.out 6
 simp [Lot.cells] at x0 x1 x2 x3 x4 x5 x6
 go_wp2_with fail
 refine (HPU.out w2 HB2.out).mono ?_
 rintro e w4 ⟨A4, c4, k, hp, rfl, b4, hr4, hc4⟩
 have HF := Lib.hid (And.intro hp (And.intro (HB2.out.trans (b4.mono HB2.out.size)) (And.intro hr4 hc4)))
 clear hp b4 hr4 hc4 x0 x1 x2 x3 x4 x5 x6
 go_wp2_with fail
 go_ret2
 exact ⟨A4, c4, insAt ls k ⟨x, HSZ.out⟩, by rw [HLZ.out, HE.out]; rfl, HF.out.2.1, HF.out.2.2.1, HF.out.2.2.2, fun h => absurd (by rw [HLZ.out]; exact HE.out) h, fun _ => ⟨k, HF.out.1, rfl⟩⟩
end Go.Proofs.YtdnmpgoigagjmaaGreatDoor
