/-
  tranchelaw19.awake returns true.
-/
import Derived.Test.YtdnmpgoigagjmaaGreatDoorA34
import Derived.Test.YtdnmpgoigagjmaaGreatDoorA38
set_option linter.unusedVariables false
set_option linter.unusedSimpArgs false
namespace Go.Proofs.YtdnmpgoigagjmaaGreatDoor
open Go.RowKit Tr Go.Shelf
def x0 : Lot := ⟨⟨#[97, 47, 49]⟩, ⟨#[97, 98, 99]⟩, 0, 0, ⟨#[49, 48]⟩, ⟨#[50, 53]⟩, ⟨#[]⟩⟩
def xa : Lot := ⟨⟨#[97, 47, 49]⟩, ⟨#[97, 98, 99]⟩, 0, 0, ⟨#[53]⟩, ⟨#[49, 50]⟩, ⟨#[]⟩⟩
def xb : Lot := ⟨⟨#[97, 47, 49]⟩, ⟨#[97, 98, 99]⟩, 0, 0, ⟨#[53]⟩, ⟨#[49, 51]⟩, ⟨#[]⟩⟩
def q5 : ByteArray := ⟨#[53]⟩
theorem x0_sized : x0.sized := ⟨by decide, by decide, by decide, by decide, by decide⟩
theorem xa_sized : xa.sized := ⟨by decide, by decide, by decide, by decide, by decide⟩
theorem xb_sized : xb.sized := ⟨by decide, by decide, by decide, by decide, by decide⟩
theorem x0_ok : x0.ok where
 id := by kernel_rfl
 inst := by decide
 acq := by unfold okDay; decide
 opn := by unfold okDay; decide
 ord := by decide
 cq := by unfold Can; decide
 cc := by unfold Can; decide
 cu := by unfold Can; decide
 pq := by decide
 pc := by decide
 us := .inl rfl
theorem w10 : vl ⟨#[49, 48]⟩ = 10 := by decide
theorem w25 : vl ⟨#[50, 53]⟩ = 25 := by decide
theorem w5 : vl ⟨#[53]⟩ = 5 := by decide
theorem w12 : vl ⟨#[49, 50]⟩ = 12 := by decide
theorem w13 : vl ⟨#[49, 51]⟩ = 13 := by decide
theorem cut0 : shareZ 25 5 10 = 12 := by kernel_rfl
theorem cutZ0 : cutZ x0 q5 = 12 := by
 unfold cutZ
 rw [show vl x0.cost = 25 from w25, show vl q5 = 5 from w5, show vl x0.qty = 10 from w10, cut0]
theorem I12 : I 12 = ⟨#[49, 50]⟩ := by decide
theorem I13 : I 13 = ⟨#[49, 51]⟩ := by decide
theorem I5 : I 5 = ⟨#[53]⟩ := by decide
theorem I10 : I 10 = ⟨#[49, 48]⟩ := by decide
theorem I25 : I 25 = ⟨#[50, 53]⟩ := by decide
theorem cutA0 : cutA x0 q5 = xa := by
 unfold cutA cutU
 rw [cutZ0, I12, if_pos (show x0.used = ⟨#[]⟩ from rfl)]
 rfl
theorem cutB0 : cutB x0 q5 = xb := by
 unfold cutB cutU
 rw [cutZ0, if_pos (show x0.used = ⟨#[]⟩ from rfl), show vl x0.qty = 10 from w10, show vl q5 = 5 from w5, show vl x0.cost = 25 from w25, show (25 : Int) - 12 = 13 from rfl, I13, show (10 : Int) - 5 = 5 from rfl, I5]
 rfl
def sab : List SLot := [⟨xa, xa_sized⟩, ⟨xb, xb_sized⟩]
def p0 : Pos := ⟨⟨#[97, 98, 99]⟩, ⟨#[49, 48]⟩, ⟨#[50, 53]⟩⟩
theorem names0 : names sab = [[97, 98, 99]] := by
 refine (names_unique (List.pairwise_singleton _ _) fun b => ?_).symm
 rw [List.mem_singleton]
 constructor
 ·rintro rfl; exact ⟨_, List.mem_cons_self, rfl⟩
 ·rintro ⟨y, hy, e⟩
  have : y.1.inst = ⟨#[97, 98, 99]⟩ := by
   rcases List.mem_cons.1 hy with rfl | hy
   ·rfl
   ·rw [List.mem_singleton] at hy; subst hy; rfl
  rw [this] at e
  have := congrArg (fun s : ByteArray => s.data.toList) e
  rw [bs_data] at this
  exact this.symm
theorem own0' : ownL sab (bs [97, 98, 99]) = sab := by
 unfold ownL
 refine List.filter_eq_self.2 fun x hx => ?_
 rcases List.mem_cons.1 hx with rfl | hx
 ·exact decide_eq_true rfl
 ·rw [List.mem_singleton] at hx; subst hx; exact decide_eq_true rfl
theorem pos0 : posL sab = [p0] := by
 unfold posL
 rw [names0, List.map_singleton]
 refine congrArg (fun p => [p]) ?_
 unfold posOf
 rw [own0']
 show (⟨_, I (0 + vl xa.qty + vl xb.qty), I (0 + vl xa.cost + vl xb.cost)⟩ : Pos) = _
 rw [show vl xa.qty = 5 from w5, show vl xb.qty = 5 from w5, show vl xa.cost = 12 from w12, show vl xb.cost = 13 from w13, show (0 : Int) + 5 + 5 = 10 from rfl, show (0 : Int) + 12 + 13 = 25 from rfl, I10, I25]
 rfl
theorem rdb_alloc (W : World) (ls : List SLot) (cs : Array Value) (h : cs.toList = flatL ls) : RdB (W.heap.size + 1) (W.alloc (.cells cs 49)) (some ⟨W.heap.size, 0, none⟩) ls := by
 intro _
 refine ⟨_, rfl, Nat.lt_succ_self _, fun j l hj => ?_⟩
 have hk := heap_alloc_new W (.cells cs 49)
 have q : ∀ f, f < 7 → ∀ u, l.1.cells[f]? = some u → (W.alloc (.cells cs 49)).cell? ⟨W.heap.size, j * 7 + f, none⟩ = some u := by
  intro f hf u hu
  rw [Lib.cell_of_heap hk, ← Array.getElem?_toList, h, flatL_get ls j l hj f hf, hu]
 rw [addr_add0]
 exact ⟨q 0 (by omega) _ rfl, q 1 (by omega) _ rfl, q 2 (by omega) _ rfl, q 3 (by omega) _ rfl, q 4 (by omega) _ rfl, q 5 (by omega) _ rfl, q 6 (by omega) _ rfl⟩
theorem rdpos_alloc (W : World) (p : Pos) : RdPos (W.heap.size + 1) (W.alloc (.cells p.cells 80)) (some ⟨W.heap.size, 0, none⟩) [p] := by
 intro _
 refine ⟨_, rfl, Nat.lt_succ_self _, fun j l hj => ?_⟩
 have hk := heap_alloc_new W (.cells p.cells 80)
 have hj0 : j = 0 := by have := (List.getElem?_eq_some_iff.1 hj).1; simp at this; omega
 subst hj0
 simp at hj
 subst hj
 exact ⟨Lib.cell_of_heap hk 0, Lib.cell_of_heap hk 1, Lib.cell_of_heap hk 2⟩
theorem rdl_one19 (W : World) (l : Lot) : RdL (W.alloc (.cells l.cells 49)) (some ⟨W.heap.size, 0, none⟩) [l] := by
 have hk := heap_alloc_new W (.cells l.cells 49)
 intro _
 refine ⟨_, rfl, (Array.getElem?_eq_some_iff.1 hk).1, fun j x hx => ?_⟩
 have hj : j = 0 := by have := (List.getElem?_eq_some_iff.1 hx).1; simp at this; omega
 subst hj
 simp at hx
 subst hx
 exact ⟨Lib.cell_of_heap hk 0, Lib.cell_of_heap hk 1, Lib.cell_of_heap hk 2, Lib.cell_of_heap hk 3, Lib.cell_of_heap hk 4, Lib.cell_of_heap hk 5, Lib.cell_of_heap hk 6⟩
structure AW (w : World) (W : World) : Prop where
 xb : LotBox W w.heap.size x0
 be : Below w.heap.size w W
theorem AW.below {w : World} {W W' : World} (h : AW w W) (hb : Below W.heap.size W W') : AW w W' := ⟨h.xb.below hb, h.be.trans (hb.mono h.be.size)⟩
set_option maxHeartbeats 8000000 in
set_option maxRecDepth 100000 in
theorem awake19_any (w : World) (ht : Tabs w) : Calls Tryz.prog 47 #[] w fun e w' => e = .returned (.bool true) ∧ Below w.heap.size w w' := by
 have HT := Lib.hid ht
 have HW0 : Hid (AW w (w.alloc (.cells x0.cells 49))) := ⟨heap_alloc_new w _, (Below.refl _ w).alloc (Nat.le_refl _) _⟩
 have HCUT := Lib.hid (fun W (hW : AW w W) => lCut_ok x0 q5 x0_sized x0_ok (by unfold Can; decide) (by decide) (by decide) (by decide) W (ht.below hW.be))
 rw [cutA0, cutB0] at HCUT
 have HX : Hid (∀ W, AW w W → W.cell? ⟨w.heap.size, 0, none⟩ = some (.string ⟨#[97, 47, 49]⟩) ∧ W.cell? ⟨w.heap.size, 1, none⟩ = some (.string ⟨#[97, 98, 99]⟩) ∧ W.cell? ⟨w.heap.size, 2, none⟩ = some (.int .i64 0) ∧ W.cell? ⟨w.heap.size, 3, none⟩ = some (.int .i64 0) ∧ W.cell? ⟨w.heap.size, 4, none⟩ = some (.string ⟨#[49, 48]⟩) ∧ W.cell? ⟨w.heap.size, 5, none⟩ = some (.string ⟨#[50, 53]⟩) ∧ W.cell? ⟨w.heap.size, 6, none⟩ = some (.string ⟨#[]⟩)) := fun W hW => ⟨Lib.cell_of_heap hW.xb 0, Lib.cell_of_heap hW.xb 1, Lib.cell_of_heap hW.xb 2, Lib.cell_of_heap hW.xb 3, Lib.cell_of_heap hW.xb 4, Lib.cell_of_heap hW.xb 5, Lib.cell_of_heap hW.xb 6⟩
 dsimp only [Lot.enc, Lot.cells, x0, xa, xb, q5] at HCUT
 clear ht
 go_enter Tryz.func47, Tryz.ntmps47
 go_wp2_with fail
 refine (HCUT.out _ HW0.out).mono ?_
 rintro e w1 ⟨rfl, b1⟩
 have HW1 := Lib.hid (HW0.out.below b1)
 clear b1 HW0 HCUT
 go_wp2_with fail
 have e1 : ((w1.alloc (.cells #[.string ⟨#[97, 47, 49]⟩, .string ⟨#[97, 98, 99]⟩, .int .i64 0, .int .i64 0, .string ⟨#[53]⟩, .string ⟨#[49, 50]⟩, .string ⟨#[]⟩] 49)).alloc (.cells #[.string ⟨#[97, 47, 49]⟩, .string ⟨#[97, 98, 99]⟩, .int .i64 0, .int .i64 0, .string ⟨#[53]⟩, .string ⟨#[49, 51]⟩, .string ⟨#[]⟩] 49)).heap.size = w1.heap.size + 1 + 1 := by simp
 have hb2 : Below w1.heap.size w1 (((w1.alloc (.cells #[.string ⟨#[97, 47, 49]⟩, .string ⟨#[97, 98, 99]⟩, .int .i64 0, .int .i64 0, .string ⟨#[53]⟩, .string ⟨#[49, 50]⟩, .string ⟨#[]⟩] 49)).alloc (.cells #[.string ⟨#[97, 47, 49]⟩, .string ⟨#[97, 98, 99]⟩, .int .i64 0, .int .i64 0, .string ⟨#[53]⟩, .string ⟨#[49, 51]⟩, .string ⟨#[]⟩] 49)).alloc (.cells #[.string ⟨#[97, 47, 49]⟩, .string ⟨#[97, 98, 99]⟩, .int .i64 0, .int .i64 0, .string ⟨#[53]⟩, .string ⟨#[49, 50]⟩, .string ⟨#[]⟩, .string ⟨#[97, 47, 49]⟩, .string ⟨#[97, 98, 99]⟩, .int .i64 0, .int .i64 0, .string ⟨#[53]⟩, .string ⟨#[49, 51]⟩, .string ⟨#[]⟩] 49)) := (((Below.refl _ w1).alloc (Nat.le_refl _) _).alloc (by simp) _).alloc (by simp; omega) _
 have hrd := rdb_alloc ((w1.alloc (.cells #[.string ⟨#[97, 47, 49]⟩, .string ⟨#[97, 98, 99]⟩, .int .i64 0, .int .i64 0, .string ⟨#[53]⟩, .string ⟨#[49, 50]⟩, .string ⟨#[]⟩] 49)).alloc (.cells #[.string ⟨#[97, 47, 49]⟩, .string ⟨#[97, 98, 99]⟩, .int .i64 0, .int .i64 0, .string ⟨#[53]⟩, .string ⟨#[49, 51]⟩, .string ⟨#[]⟩] 49)) sab #[.string ⟨#[97, 47, 49]⟩, .string ⟨#[97, 98, 99]⟩, .int .i64 0, .int .i64 0, .string ⟨#[53]⟩, .string ⟨#[49, 50]⟩, .string ⟨#[]⟩, .string ⟨#[97, 47, 49]⟩, .string ⟨#[97, 98, 99]⟩, .int .i64 0, .int .i64 0, .string ⟨#[53]⟩, .string ⟨#[49, 51]⟩, .string ⟨#[]⟩] rfl
 have hxa : LotBox (((w1.alloc (.cells #[.string ⟨#[97, 47, 49]⟩, .string ⟨#[97, 98, 99]⟩, .int .i64 0, .int .i64 0, .string ⟨#[53]⟩, .string ⟨#[49, 50]⟩, .string ⟨#[]⟩] 49)).alloc (.cells #[.string ⟨#[97, 47, 49]⟩, .string ⟨#[97, 98, 99]⟩, .int .i64 0, .int .i64 0, .string ⟨#[53]⟩, .string ⟨#[49, 51]⟩, .string ⟨#[]⟩] 49)).alloc (.cells #[.string ⟨#[97, 47, 49]⟩, .string ⟨#[97, 98, 99]⟩, .int .i64 0, .int .i64 0, .string ⟨#[53]⟩, .string ⟨#[49, 50]⟩, .string ⟨#[]⟩, .string ⟨#[97, 47, 49]⟩, .string ⟨#[97, 98, 99]⟩, .int .i64 0, .int .i64 0, .string ⟨#[53]⟩, .string ⟨#[49, 51]⟩, .string ⟨#[]⟩] 49)) w1.heap.size xa := ((LotBox.below (W := w1.alloc (.cells #[.string ⟨#[97, 47, 49]⟩, .string ⟨#[97, 98, 99]⟩, .int .i64 0, .int .i64 0, .string ⟨#[53]⟩, .string ⟨#[49, 50]⟩, .string ⟨#[]⟩] 49)) (B := w1.heap.size) (l := xa) (heap_alloc_new w1 _) ((Below.refl _ _).alloc (Nat.le_refl _) _))).below ((Below.refl _ _).alloc (Nat.le_refl _) _)
 have hxb : LotBox (((w1.alloc (.cells #[.string ⟨#[97, 47, 49]⟩, .string ⟨#[97, 98, 99]⟩, .int .i64 0, .int .i64 0, .string ⟨#[53]⟩, .string ⟨#[49, 50]⟩, .string ⟨#[]⟩] 49)).alloc (.cells #[.string ⟨#[97, 47, 49]⟩, .string ⟨#[97, 98, 99]⟩, .int .i64 0, .int .i64 0, .string ⟨#[53]⟩, .string ⟨#[49, 51]⟩, .string ⟨#[]⟩] 49)).alloc (.cells #[.string ⟨#[97, 47, 49]⟩, .string ⟨#[97, 98, 99]⟩, .int .i64 0, .int .i64 0, .string ⟨#[53]⟩, .string ⟨#[49, 50]⟩, .string ⟨#[]⟩, .string ⟨#[97, 47, 49]⟩, .string ⟨#[97, 98, 99]⟩, .int .i64 0, .int .i64 0, .string ⟨#[53]⟩, .string ⟨#[49, 51]⟩, .string ⟨#[]⟩] 49)) (w1.heap.size + 1) xb := by
  refine LotBox.below (W := (w1.alloc (.cells #[.string ⟨#[97, 47, 49]⟩, .string ⟨#[97, 98, 99]⟩, .int .i64 0, .int .i64 0, .string ⟨#[53]⟩, .string ⟨#[49, 50]⟩, .string ⟨#[]⟩] 49)).alloc (.cells #[.string ⟨#[97, 47, 49]⟩, .string ⟨#[97, 98, 99]⟩, .int .i64 0, .int .i64 0, .string ⟨#[53]⟩, .string ⟨#[49, 51]⟩, .string ⟨#[]⟩] 49)) (B := w1.heap.size + 1) (l := xb) ?_ ((Below.refl _ _).alloc (Nat.le_refl _) _)
  have h := heap_alloc_new (w1.alloc (.cells #[.string ⟨#[97, 47, 49]⟩, .string ⟨#[97, 98, 99]⟩, .int .i64 0, .int .i64 0, .string ⟨#[53]⟩, .string ⟨#[49, 50]⟩, .string ⟨#[]⟩] 49)) (.cells #[.string ⟨#[97, 47, 49]⟩, .string ⟨#[97, 98, 99]⟩, .int .i64 0, .int .i64 0, .string ⟨#[53]⟩, .string ⟨#[49, 51]⟩, .string ⟨#[]⟩] 49)
  rw [World.size_alloc] at h
  exact h
 rw [e1] at hrd
 have hs4 : (((w1.alloc (.cells #[.string ⟨#[97, 47, 49]⟩, .string ⟨#[97, 98, 99]⟩, .int .i64 0, .int .i64 0, .string ⟨#[53]⟩, .string ⟨#[49, 50]⟩, .string ⟨#[]⟩] 49)).alloc (.cells #[.string ⟨#[97, 47, 49]⟩, .string ⟨#[97, 98, 99]⟩, .int .i64 0, .int .i64 0, .string ⟨#[53]⟩, .string ⟨#[49, 51]⟩, .string ⟨#[]⟩] 49)).alloc (.cells #[.string ⟨#[97, 47, 49]⟩, .string ⟨#[97, 98, 99]⟩, .int .i64 0, .int .i64 0, .string ⟨#[53]⟩, .string ⟨#[49, 50]⟩, .string ⟨#[]⟩, .string ⟨#[97, 47, 49]⟩, .string ⟨#[97, 98, 99]⟩, .int .i64 0, .int .i64 0, .string ⟨#[53]⟩, .string ⟨#[49, 51]⟩, .string ⟨#[]⟩] 49)).heap.size = w1.heap.size + 1 + 1 + 1 := by simp
 have HW4 := Lib.hid (HW1.out.below hb2)
 have hP := lPositions_any (w1.heap.size + 1 + 1 + 1) (some ⟨w1.heap.size + 1 + 1, 0, none⟩) sab 2 (((w1.alloc (.cells #[.string ⟨#[97, 47, 49]⟩, .string ⟨#[97, 98, 99]⟩, .int .i64 0, .int .i64 0, .string ⟨#[53]⟩, .string ⟨#[49, 50]⟩, .string ⟨#[]⟩] 49)).alloc (.cells #[.string ⟨#[97, 47, 49]⟩, .string ⟨#[97, 98, 99]⟩, .int .i64 0, .int .i64 0, .string ⟨#[53]⟩, .string ⟨#[49, 51]⟩, .string ⟨#[]⟩] 49)).alloc (.cells #[.string ⟨#[97, 47, 49]⟩, .string ⟨#[97, 98, 99]⟩, .int .i64 0, .int .i64 0, .string ⟨#[53]⟩, .string ⟨#[49, 50]⟩, .string ⟨#[]⟩, .string ⟨#[97, 47, 49]⟩, .string ⟨#[97, 98, 99]⟩, .int .i64 0, .int .i64 0, .string ⟨#[53]⟩, .string ⟨#[49, 51]⟩, .string ⟨#[]⟩] 49)) (by decide) hrd (by rw [hs4]; exact Nat.le_refl _) (HT.out.below HW4.out.be)
 rw [pos0] at hP
 have HP := Lib.hid hP
 have HXA := Lib.hid hxa
 have HXB := Lib.hid hxb
 clear hP hrd hb2 hxa hxb hs4 e1
 refine HP.out.mono ?_
 rintro e w5 ⟨A5, c5, rfl, _, _, hr5, b5⟩
 have HW5 := Lib.hid (HW4.out.below b5)
 have hxa := HXA.out.below b5
 have hxb := HXB.out.below b5
 have HR5 := Lib.hid hr5
 obtain ⟨Ba, hBa⟩ : ∃ Ba, w1.heap.size = Ba := ⟨_, rfl⟩
 obtain ⟨Bb, hBb⟩ : ∃ Bb, w1.heap.size + 1 = Bb := ⟨_, rfl⟩
 rw [hBb] at hxb
 rw [hBb]
 rw [hBa] at hxa
 rw [hBa]
 clear hBa hBb b5 hr5 HP HXA HXB HW4 HW1
 have a4 := Lib.cell_of_heap hxa 4
 have a5 := Lib.cell_of_heap hxa 5
 have g5 := Lib.cell_of_heap hxb 5
 simp [Lot.cells, xa, xb] at a4 a5 g5
 obtain ⟨m0, m1, m2, m3, m4, m5, m6⟩ := HX.out w5 HW5.out
 have HCA : Hid (Calls Tryz.prog 14 #[.slice (some ⟨w5.heap.size, 0, none⟩) 1 1] (w5.alloc (.cells #[.string ⟨#[97, 47, 49]⟩, .string ⟨#[97, 98, 99]⟩, .int .i64 0, .int .i64 0, .string ⟨#[49, 48]⟩, .string ⟨#[50, 53]⟩, .string ⟨#[]⟩] 49)) fun e w' => e = .returned (.int .i64 0) ∧ Below (w5.alloc (.cells #[.string ⟨#[97, 47, 49]⟩, .string ⟨#[97, 98, 99]⟩, .int .i64 0, .int .i64 0, .string ⟨#[49, 48]⟩, .string ⟨#[50, 53]⟩, .string ⟨#[]⟩] 49)).heap.size (w5.alloc (.cells #[.string ⟨#[97, 47, 49]⟩, .string ⟨#[97, 98, 99]⟩, .int .i64 0, .int .i64 0, .string ⟨#[49, 48]⟩, .string ⟨#[50, 53]⟩, .string ⟨#[]⟩] 49)) w') :=
  lCheckAll_ok (some ⟨w5.heap.size, 0, none⟩) 1 [x0] (by decide) (w5.alloc (.cells #[.string ⟨#[97, 47, 49]⟩, .string ⟨#[97, 98, 99]⟩, .int .i64 0, .int .i64 0, .string ⟨#[49, 48]⟩, .string ⟨#[50, 53]⟩, .string ⟨#[]⟩] 49)) (rdl_one19 w5 x0) ⟨by decide, fun l hl => by rw [List.mem_singleton] at hl; subst hl; exact ⟨x0_sized, x0_ok⟩, by simp⟩ (HT.out.below (HW5.out.be.alloc HW5.out.be.size _))
 have HB6 : Hid (Below w5.heap.size w5 (w5.alloc (.cells #[.string ⟨#[97, 47, 49]⟩, .string ⟨#[97, 98, 99]⟩, .int .i64 0, .int .i64 0, .string ⟨#[49, 48]⟩, .string ⟨#[50, 53]⟩, .string ⟨#[]⟩] 49))) := (Below.refl _ w5).alloc (Nat.le_refl _) _
 clear hxa hxb HX
 go_wp2_with fail
 refine HCA.out.mono ?_
 rintro e w6 ⟨rfl, b6⟩
 have HW6 := Lib.hid (HB6.out.trans (b6.mono HB6.out.size))
 clear b6 HCA HB6 m0 m1 m2 m3 m4 m5 m6 a4 a5 g5
 have hEQ := eqPos_any A5 (some ⟨w6.heap.size, 0, none⟩) [p0] [p0] c5 1 (by decide) (by decide) w5.heap.size (w6.heap.size + 1) (w6.alloc (.cells #[.string ⟨#[97, 98, 99]⟩, .string ⟨#[49, 48]⟩, .string ⟨#[50, 53]⟩] 80)) (HR5.out.below (HW6.out.trans (((Below.refl _ w6).alloc (Nat.le_refl _) _).mono HW6.out.size))) (rdpos_alloc w6 p0)
 rw [sameB_yes rfl] at hEQ
 have HEQ := Lib.hid hEQ
 have HB7 : Hid (Below w6.heap.size w6 (w6.alloc (.cells #[.string ⟨#[97, 98, 99]⟩, .string ⟨#[49, 48]⟩, .string ⟨#[50, 53]⟩] 80))) := (Below.refl _ w6).alloc (Nat.le_refl _) _
 clear hEQ
 go_wp2_with fail
 refine HEQ.out.mono ?_
 rintro e w7 ⟨rfl, m, rfl⟩
 have HF := Lib.hid ((HW5.out.be.trans (HW6.out.mono HW5.out.be.size)).trans ((below_drewN HB7.out m).mono (Nat.le_trans HW5.out.be.size HW6.out.size)))
 clear HB7
 go_wp2_with fail
 go_ret
 exact ⟨rfl, HF.out⟩
end Go.Proofs.YtdnmpgoigagjmaaGreatDoor
