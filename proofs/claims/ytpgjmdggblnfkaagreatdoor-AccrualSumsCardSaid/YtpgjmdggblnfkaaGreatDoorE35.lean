/-
  The walks of accrual.checkOne and Amortized on what is valid. (Printed by gen_acc9.py.)
  The walk of accrual.Effect on what is valid. (Printed by gen_acc10.py.)
  The example of the chapter: the walks of day, slices.Equal at terms; the example's values.
  A region that draws its order, outside of a fence, by an invariant over what has come up.
-/
import Derived.Test.YtpgjmdggblnfkaaGreatDoorE34
import Derived.Test.YtpgjmdggblnfkaaGreatDoorE32
set_option linter.unusedVariables false
set_option linter.unusedSimpArgs false
namespace Go.Proofs.YtpgjmdggblnfkaaGreatDoor
open Go.RowKit Tr Go.Shelf

/-- the k-th number, 0 beyond the end; not to be opened by the walk -/
def ith (ds : List Int) (k : Nat) : Int := ds.getD k 0
/-- the slice at A reads as the days ds -/
def RdD (w : World) (A : Option Addr) (ds : List Int) : Prop :=
  ds ≠ [] → ∃ ad : Addr, A = some ad ∧ ad.block < w.heap.size ∧ ∀ j, j < ds.length → w.cell? (ad.add j) = some (.int .i64 (ith ds j))
theorem RdD.below {w w' : World} {A : Option Addr} {ds : List Int} (h : RdD w A ds) (hb : Below w.heap.size w w') : RdD w' A ds := by
  intro hl
  obtain ⟨ad, rfl, h1, h2⟩ := h hl
  exact ⟨ad, rfl, Nat.lt_of_lt_of_le h1 hb.size, fun j hj => (hb.cell (by rw [add_block]; exact h1)).trans (h2 j hj)⟩
theorem ith_mem {ds : List Int} {k : Nat} (h : k < ds.length) : ith ds k ∈ ds := by
  unfold ith; rw [List.getD_eq_getElem?_getD, List.getElem?_eq_getElem h]; exact List.getElem_mem h
/-- a valid instrument, a valid lot of it -/
structure BOk (i : Inst) (l : Lot) : Prop where
  small : i.small
  ok : i.ok
  sized : l.sized
  lok : l.ok
  inst : l.inst = i.id
theorem ilbox (i : Inst) (l : Lot) (w : World) : ∃ W0, (w.alloc (.cells i.cells 27)).alloc (.cells l.cells 39) = W0 ∧ Below w.heap.size w W0 ∧ InstBox W0 w.heap.size i ∧ LotBox W0 (w.heap.size + 1) l := by
  obtain ⟨W0, hW0, hB, hz, k0, k1⟩ := box2 w (.cells i.cells 27) (.cells l.cells 39)
  exact ⟨W0, hW0.symm, hB, k0, k1⟩

set_option maxHeartbeats 1000000 in
set_option maxRecDepth 100000 in
theorem checkOne_ok (i : Inst) (l : Lot) (A : Option Addr) (ds : List Int) (c : Nat) (hl : ds.length ≤ 1000000) (h : BOk i l) (hd : ∀ d ∈ ds, okDay d) (w : World) (hR : RdD w A ds) (ht : Tabs w) :
    Calls Tryz.prog 50 #[i.enc, l.enc, .slice A ds.length c] w fun e w' => e = .returned (.int .i64 0) ∧ Below w.heap.size w w' := by
  obtain ⟨W0, hW0, hB0, k0, k1⟩ := ilbox i l w
  have c0 := Lib.cell_of_heap k0 0
  have c1 := Lib.cell_of_heap k0 1
  have c2 := Lib.cell_of_heap k0 2
  have c3 := Lib.cell_of_heap k0 3
  have c4 := Lib.cell_of_heap k0 4
  have c5 := Lib.cell_of_heap k0 5
  have c6 := Lib.cell_of_heap k0 6
  have c7 := Lib.cell_of_heap k0 7
  have c8 := Lib.cell_of_heap k0 8
  have c9 := Lib.cell_of_heap k0 9
  have c10 := Lib.cell_of_heap k0 10
  have c11 := Lib.cell_of_heap k0 11
  have c12 := Lib.cell_of_heap k0 12
  have c13 := Lib.cell_of_heap k0 13
  have c14 := Lib.cell_of_heap k0 14
  simp at c0 c1 c2 c3 c4 c5 c6 c7 c8 c9 c10 c11 c12 c13 c14
  have o0 := Lib.cell_of_heap k1 0
  have o1 := Lib.cell_of_heap k1 1
  have o2 := Lib.cell_of_heap k1 2
  have o3 := Lib.cell_of_heap k1 3
  have o4 := Lib.cell_of_heap k1 4
  have o5 := Lib.cell_of_heap k1 5
  have o6 := Lib.cell_of_heap k1 6
  simp at o0 o1 o2 o3 o4 o5 o6
  have HT := Lib.hid ht
  have HB0 := Lib.hid hB0
  have HK0 := Lib.hid k0
  have HK1 := Lib.hid k1
  have HC1 := Lib.hid (iCheck_ok i h.small.sized h.ok W0 (ht.below hB0))
  have HC2 := Lib.hid (fun W hW => lCheck_ok l h.sized h.lok W hW)
  have HR := Lib.hid (fun W (hb : Below w.heap.size w W) => hR.below hb)
  have HD := Lib.hid hd
  have HV := Lib.hid (fun (k : Nat) (hk : k < ds.length) (W : World) => avalid_any (ith ds k) W)
  have heq := str_eq l.inst i.id
  rw [decide_eq_true h.inst] at heq
  clear h hR ht hB0 k0 k1 hd
  unfold Inst.enc Inst.cells Lot.enc Lot.cells at *
  go_enter Tryz.func50, Tryz.ntmps50
  go_wp2_with fail
  refine HC1.out.mono ?_
  rintro e w1 ⟨rfl, b1⟩
  have HB1 := Lib.hid (HB0.out.trans (b1.mono HB0.out.size))
  have g0 := HK0.out.below b1
  have g1 := HK1.out.below b1
  clear c0 c1 c2 c3 c4 c5 c6 c7 c8 c9 c10 c11 c12 c13 c14
  clear o0 o1 o2 o3 o4 o5 o6
  have o0 := Lib.cell_of_heap g1 0
  have o1 := Lib.cell_of_heap g1 1
  have o2 := Lib.cell_of_heap g1 2
  have o3 := Lib.cell_of_heap g1 3
  have o4 := Lib.cell_of_heap g1 4
  have o5 := Lib.cell_of_heap g1 5
  have o6 := Lib.cell_of_heap g1 6
  simp at o0 o1 o2 o3 o4 o5 o6
  have HG0 := Lib.hid g0
  have HG1 := Lib.hid g1
  clear b1 g0 g1 HK0 HK1 HB0 HC1 hW0
  go_wp2_with fail
  refine (HC2.out _ (HT.out.below HB1.out)).mono ?_
  rintro e w2 ⟨rfl, b2⟩
  have HB2 := Lib.hid (HB1.out.trans (b2.mono HB1.out.size))
  have g0 := HG0.out.below b2
  have g1 := HG1.out.below b2
  clear o0 o1 o2 o3 o4 o5 o6
  have c0 := Lib.cell_of_heap g0 0
  have o1 := Lib.cell_of_heap g1 1
  simp at c0 o1
  clear b2 g0 g1 HG0 HG1 HB1 HC2
  go_wp2_with fail
  go_loopw [24] (fun v wr => ∃ k : Nat, v = .int .i64 (k : Int) ∧ k ≤ ds.length ∧ w2 = wr) (fun v _ => ds.length - (intOf v).toNat)
  case atStart => exact ⟨0, rfl, by omega, rfl⟩
  case round =>
    obtain ⟨k, rfl, hk, rfl⟩ := hrel
    clear c0 o1
    rcases Nat.lt_or_ge k ds.length with hlt | hge
    · obtain ⟨ad, rfl, had, hcell⟩ := HR.out w2 HB2.out (by intro e; rw [e] at hlt; cases hlt)
      have hcx : decide ((k : Int) < (ds.length : Int)) = true := by simp; omega
      have ck := hcell k hlt
      have HVK := Lib.hid (HV.out k hlt)
      rw [decide_eq_true (HD.out _ (ith_mem hlt))] at HVK
      clear hcell
      go_wp2_with fail
      refine (HVK.out _).mono ?_
      rintro e w3 ⟨rfl, rfl⟩
      go_wp2_with fail
      go_roundw
      case rel => exact ⟨k + 1, by go_num, by omega, by trivial⟩
      case measure => simp [intOf]; omega
    · have hcx : decide ((k : Int) < (ds.length : Int)) = false := by simp; omega
      go_wp2_with fail
      go_ret
      exact ⟨rfl, HB2.out⟩

set_option maxHeartbeats 1000000 in
set_option maxRecDepth 100000 in
theorem Amortized_ok (i : Inst) (l : Lot) (d : Int) (h : BOk i l) (hd : okDay d) (w : World) (ht : Tabs w) :
    Calls Tryz.prog 14 #[i.enc, l.enc, .int .i64 d] w fun e w' => e = .returned (.tuple #[.string (I (rnd (exactQ i l d))), .int .i64 0]) ∧ Below w.heap.size w w' := by
  obtain ⟨W0, hW0, hB0, k0, k1⟩ := ilbox i l w
  have c0 := Lib.cell_of_heap k0 0
  have c1 := Lib.cell_of_heap k0 1
  have c2 := Lib.cell_of_heap k0 2
  have c3 := Lib.cell_of_heap k0 3
  have c4 := Lib.cell_of_heap k0 4
  have c5 := Lib.cell_of_heap k0 5
  have c6 := Lib.cell_of_heap k0 6
  have c7 := Lib.cell_of_heap k0 7
  have c8 := Lib.cell_of_heap k0 8
  have c9 := Lib.cell_of_heap k0 9
  have c10 := Lib.cell_of_heap k0 10
  have c11 := Lib.cell_of_heap k0 11
  have c12 := Lib.cell_of_heap k0 12
  have c13 := Lib.cell_of_heap k0 13
  have c14 := Lib.cell_of_heap k0 14
  simp at c0 c1 c2 c3 c4 c5 c6 c7 c8 c9 c10 c11 c12 c13 c14
  have o0 := Lib.cell_of_heap k1 0
  have o1 := Lib.cell_of_heap k1 1
  have o2 := Lib.cell_of_heap k1 2
  have o3 := Lib.cell_of_heap k1 3
  have o4 := Lib.cell_of_heap k1 4
  have o5 := Lib.cell_of_heap k1 5
  have o6 := Lib.cell_of_heap k1 6
  simp at o0 o1 o2 o3 o4 o5 o6
  have HT := Lib.hid ht
  obtain ⟨W1, hW1⟩ : ∃ W1, W0.alloc (.cells #[.int .i64 d] 22) = W1 := ⟨_, rfl⟩
  have b1 : Below W0.heap.size W0 W1 := by rw [← hW1]; exact (Below.refl _ W0).alloc (Nat.le_refl _) _
  have k2 : W1.heap[W0.heap.size]? = some (.cells #[.int .i64 d] 22) := by rw [← hW1]; exact heap_alloc_new W0 _
  have hR : RdD W1 (some ⟨W0.heap.size, 0, none⟩) [d] := fun _ => ⟨_, rfl, (Array.getElem?_eq_some_iff.1 k2).1, fun j hj => by
    have : j = 0 := by simp at hj; omega
    subst this
    have := Lib.cell_of_heap k2 0
    simp at this
    exact this⟩
  have B1 := hB0.trans (b1.mono hB0.size)
  have HC1 := Lib.hid (checkOne_ok i l (some ⟨W0.heap.size, 0, none⟩) [d] 1 (by simp) h (fun x hx => by simp at hx; subst hx; exact hd) W1 hR (ht.below B1))
  have hex : ExOk i d := ⟨h.small.fn, h.small.fd, hd, h.ok.mt⟩
  have HEX := Lib.hid (fun W hW => exact_any i l d hex h.sized h.lok.opn W hW)
  have HRD := Lib.hid (fun W hW => roundQ (exact_bd i l d hex h.sized h.lok.opn) (by unfold qB; omega) W hW)
  have HK0 := Lib.hid (k0.below b1)
  have HK1 := Lib.hid (k1.below b1)
  have HB1 := Lib.hid B1
  generalize exactQ i l d = rq at *
  clear h hR ht hB0 b1 k0 k1 k2 B1 hex hd
  unfold Inst.enc Inst.cells Lot.enc Lot.cells at *
  go_enter Tryz.func14, Tryz.ntmps14
  go_wp2_with fail
  refine HC1.out.mono ?_
  rintro e w1 ⟨rfl, b1⟩
  have HB2 := Lib.hid (HB1.out.trans (b1.mono HB1.out.size))
  have g0 := HK0.out.below b1
  have g1 := HK1.out.below b1
  clear c0 c1 c2 c3 c4 c5 c6 c7 c8 c9 c10 c11 c12 c13 c14
  clear o0 o1 o2 o3 o4 o5 o6
  have c0 := Lib.cell_of_heap g0 0
  have c1 := Lib.cell_of_heap g0 1
  have c2 := Lib.cell_of_heap g0 2
  have c3 := Lib.cell_of_heap g0 3
  have c4 := Lib.cell_of_heap g0 4
  have c5 := Lib.cell_of_heap g0 5
  have c6 := Lib.cell_of_heap g0 6
  have c7 := Lib.cell_of_heap g0 7
  have c8 := Lib.cell_of_heap g0 8
  have c9 := Lib.cell_of_heap g0 9
  have c10 := Lib.cell_of_heap g0 10
  have c11 := Lib.cell_of_heap g0 11
  have c12 := Lib.cell_of_heap g0 12
  have c13 := Lib.cell_of_heap g0 13
  have c14 := Lib.cell_of_heap g0 14
  simp at c0 c1 c2 c3 c4 c5 c6 c7 c8 c9 c10 c11 c12 c13 c14
  have o0 := Lib.cell_of_heap g1 0
  have o1 := Lib.cell_of_heap g1 1
  have o2 := Lib.cell_of_heap g1 2
  have o3 := Lib.cell_of_heap g1 3
  have o4 := Lib.cell_of_heap g1 4
  have o5 := Lib.cell_of_heap g1 5
  have o6 := Lib.cell_of_heap g1 6
  simp at o0 o1 o2 o3 o4 o5 o6
  clear b1 g0 g1 HK0 HK1 HB1 HC1 hW0 hW1
  go_wp2_with fail
  refine (HEX.out _ (HT.out.below HB2.out)).mono ?_
  rintro e w2 ⟨rfl, b2⟩
  have HB3 := Lib.hid (HB2.out.trans (b2.mono HB2.out.size))
  clear b2 HB2
  clear c0 c1 c2 c3 c4 c5 c6 c7 c8 c9 c10 c11 c12 c13 c14
  clear o0 o1 o2 o3 o4 o5 o6
  go_wp2_with fail
  refine (HRD.out _ (HT.out.below HB3.out)).mono ?_
  rintro e w3 ⟨rfl, b3⟩
  have B4 := HB3.out.trans (b3.mono HB3.out.size)
  clear b3
  go_wp2_with fail
  go_ret2
  exact ⟨rfl, B4⟩
end Go.Proofs.YtpgjmdggblnfkaaGreatDoor
namespace Go.Proofs.YtpgjmdggblnfkaaGreatDoor
open Go.RowKit Tr Go.Shelf

abbrev effZero : Array Value := #[.int .i64 0, .int .i64 0, .string ⟨#[]⟩, .string ⟨#[]⟩, .string ⟨#[]⟩, .string ⟨#[]⟩, .slice none 0 0]
theorem date_exists {d : Int} (hd : okDay d) (w : World) : ∃ (y : Int) (m : Nat) (dd : Int), VDate y m dd ∧ dayOf y m dd = d := by
  obtain ⟨e, w', fr, hR, _⟩ := Parts_any d hd w []
  obtain ⟨y, m, dd, _, hv, hd', _⟩ := hR
  exact ⟨y, m, dd, hv, hd'⟩
theorem ptext_size {d : Int} (hd : okDay d) (w : World) : (ptext d).size ≤ 100 := by
  obtain ⟨y, m, dd, hv, hd'⟩ := date_exists hd w
  obtain ⟨q, rfl⟩ : ∃ q : Nat, dd = (q : Int) := ⟨dd.toNat, by have := hv.2.2.2.2.1; omega⟩
  rw [ptext_eq hv hd']
  have b1 := hv.1
  have b2 := hv.2.1
  have b3 := hv.2.2.2.1
  have b4 := hv.2.2.2.2.2
  have b5 := lenB_pos (leapB y) m
  have hz2 := nDigits_size y (by omega) (by omega)
  have t2 : ∀ k : Nat, k < 100 → (two k).length = 2 := by
    intro k hk
    have := itoa_len hk
    unfold two; simp; omega
  have hm2 := t2 m (by omega)
  have hq2 := t2 q (by omega)
  unfold dtext
  rw [bs_size]
  simp only [List.length_append, List.length_cons, List.length_nil]
  omega
/-- the cause of effects on a mark -/
noncomputable def causeB (d : Int) (id : ByteArray) : ByteArray := ⟨#[109, 97, 114, 107, 32]⟩ ++ ptext d ++ ⟨#[32]⟩ ++ id
theorem set7 {w : World} {b : Nat} {a0 a1 a2 a3 a4 a5 a6 : Value} {t : TypeId} {m : Nat × Nat} (h : w.heap[b]? = some (.cells #[a0, a1, a2, a3, a4, a5, a6] t m)) (x0 x1 x2 x3 x4 x5 x6 : Value) :
    (((((((w.setCell ⟨b, 0, none⟩ x0).setCell ⟨b, 1, none⟩ x1).setCell ⟨b, 2, none⟩ x2).setCell ⟨b, 3, none⟩ x3).setCell ⟨b, 4, none⟩ x4).setCell ⟨b, 5, none⟩ x5).setCell ⟨b, 6, none⟩ x6).heap[b]? = some (.cells #[x0, x1, x2, x3, x4, x5, x6] t m) := by
  simp [World.setCell, Array.getElem?_modify, h]
theorem below7 {w W : World} {b : Nat} (hb : w.heap.size ≤ b) (h : Below w.heap.size w W) (x0 x1 x2 x3 x4 x5 x6 : Value) :
    Below w.heap.size w (((((((W.setCell ⟨b, 0, none⟩ x0).setCell ⟨b, 1, none⟩ x1).setCell ⟨b, 2, none⟩ x2).setCell ⟨b, 3, none⟩ x3).setCell ⟨b, 4, none⟩ x4).setCell ⟨b, 5, none⟩ x5).setCell ⟨b, 6, none⟩ x6) :=
  (((((((h.setCell (p := ⟨b, 0, none⟩) hb x0).setCell (p := ⟨b, 1, none⟩) hb x1).setCell (p := ⟨b, 2, none⟩) hb x2).setCell (p := ⟨b, 3, none⟩) hb x3).setCell (p := ⟨b, 4, none⟩) hb x4).setCell (p := ⟨b, 5, none⟩) hb x5).setCell (p := ⟨b, 6, none⟩) hb x6)
theorem far7 {W : World} {b k : Nat} (hk : k ≠ b) (x0 x1 x2 x3 x4 x5 x6 : Value) :
    (((((((W.setCell ⟨b, 0, none⟩ x0).setCell ⟨b, 1, none⟩ x1).setCell ⟨b, 2, none⟩ x2).setCell ⟨b, 3, none⟩ x3).setCell ⟨b, 4, none⟩ x4).setCell ⟨b, 5, none⟩ x5).setCell ⟨b, 6, none⟩ x6).heap[k]? = W.heap[k]? := by
  simp [World.setCell, Array.getElem?_modify, Ne.symm hk]

/-- what an effect is -/
def EffPost (w : World) (kind d : Int) (i : Inst) (ch : ByteArray) (e : Ending) (w' : World) : Prop :=
  ∃ B : Nat, e = .returned (.tuple #[.agg #[.int .i64 kind, .int .i64 d, .string (causeB d i.id), .string i.id, .string ⟨#[]⟩, .string i.cur, .slice (some ⟨B, 0, none⟩) 1 1], .bool true, .int .i64 0]) ∧ w'.heap[B]? = some (.cells #[.string ⟨#[97, 109, 111, 117, 110, 116]⟩, .string ch] 57 (0, 0)) ∧ w.heap.size ≤ B ∧ Below w.heap.size w w'
set_option maxHeartbeats 4000000 in
set_option maxRecDepth 100000 in
theorem Effect_none (kind : Int) (hk : kind = 17 ∨ kind = 18 ∨ kind = 19) (d : Int) (hd : okDay d) (i : Inst) (hsm : i.small) (hok : i.ok) (w : World) (ht : Tabs w) :
    Calls Tryz.prog 24 #[.int .i64 kind, .int .i64 d, i.enc, .string ⟨#[]⟩] w fun e w' => e = .returned (.tuple #[.agg effZero, .bool false, .int .i64 0]) ∧ Below w.heap.size w w' := by
  obtain ⟨ch, hce⟩ : ∃ ch : ByteArray, ch = ⟨#[]⟩ := ⟨_, rfl⟩
  have hch : Can ⟨#[]⟩ := rfl
  have hcz : (⟨#[]⟩ : ByteArray).size ≤ 1000 := by decide
  clear hce ch
  obtain ⟨W0, hW0', hB0, hz, k0, k1⟩ := box2 w (.cells i.cells 27) (.cells effZero 50)
  have hW0 := hW0'.symm
  have c0 := Lib.cell_of_heap k0 0
  have c1 := Lib.cell_of_heap k0 1
  have c2 := Lib.cell_of_heap k0 2
  have c3 := Lib.cell_of_heap k0 3
  have c4 := Lib.cell_of_heap k0 4
  have c5 := Lib.cell_of_heap k0 5
  have c6 := Lib.cell_of_heap k0 6
  have c7 := Lib.cell_of_heap k0 7
  have c8 := Lib.cell_of_heap k0 8
  have c9 := Lib.cell_of_heap k0 9
  have c10 := Lib.cell_of_heap k0 10
  have c11 := Lib.cell_of_heap k0 11
  have c12 := Lib.cell_of_heap k0 12
  have c13 := Lib.cell_of_heap k0 13
  have c14 := Lib.cell_of_heap k0 14
  simp at c0 c1 c2 c3 c4 c5 c6 c7 c8 c9 c10 c11 c12 c13 c14
  have HT := Lib.hid ht
  have HB0 := Lib.hid hB0
  have HK0 : Hid (InstBox W0 w.heap.size i) := k0
  have HK1 := Lib.hid k1
  have HC1 := Lib.hid (iCheck_ok i hsm.sized hok W0 (ht.below hB0))
  have HC2 := Lib.hid (fun W => Check_yes ⟨#[]⟩ W (by show 0 ≤ _; omega) hch)
  have HP := Lib.hid (fun W hW => Print_any d hd W hW)
  have hpz := ptext_size hd w
  have hiz := hsm.id
  have t1 : (kind != 17 && kind != 18 && kind != 19) = false := by rcases hk with rfl | rfl | rfl <;> rfl
  clear hW0' hz ht hB0 k0 k1 hsm hok hch hd
  unfold Inst.enc Inst.cells effZero at *
  rcases hk with rfl | rfl | rfl
  all_goals
    clear t1
    go_enter Tryz.func24, Tryz.ntmps24
    go_wp2_with fail
    refine HC1.out.mono ?_
    rintro e w1 ⟨rfl, b1⟩
    have HB1 := Lib.hid (HB0.out.trans (b1.mono HB0.out.size))
    have HG0 := Lib.hid (HK0.out.below b1)
    have HG1 := Lib.hid ((b1.block (w.heap.size + 1) (Array.getElem?_eq_some_iff.1 HK1.out).1).trans HK1.out)
    clear b1 HK0 HK1 HB0 HC1 hW0
    clear c0 c1 c2 c3 c4 c5 c6 c7 c8 c9 c10 c11 c12 c13 c14
    go_wp2_with fail
    refine (HC2.out _).mono ?_
    rintro e w2 ⟨rfl, b2⟩
    have HB2 := Lib.hid (HB1.out.trans (b2.mono HB1.out.size))
    have HH0 := Lib.hid (HG0.out.below b2)
    have HH1 := Lib.hid ((b2.block (w.heap.size + 1) (Array.getElem?_eq_some_iff.1 HG1.out).1).trans HG1.out)
    clear b2 HG0 HG1 HB1 HC2
    go_wp2_with fail
    refine (HP.out _ (HT.out.below HB2.out)).mono ?_
    rintro e w3 ⟨rfl, b3⟩
    have HB3 := Lib.hid (HB2.out.trans (b3.mono HB2.out.size))
    have g0 := HH0.out.below b3
    have g1 := (b3.block (w.heap.size + 1) (Array.getElem?_eq_some_iff.1 HH1.out).1).trans HH1.out
    have HL0 := Lib.hid g0
    have HL1 := Lib.hid g1
    have hl3 : w.heap.size + 1 < w3.heap.size := (Array.getElem?_eq_some_iff.1 g1).1
    have c0 := Lib.cell_of_heap g0 0
    have c2 := Lib.cell_of_heap g0 2
    simp at c0 c2
    have r0 := Lib.cell_of_heap g1 0
    have r1 := Lib.cell_of_heap g1 1
    have r2 := Lib.cell_of_heap g1 2
    have r3 := Lib.cell_of_heap g1 3
    have r4 := Lib.cell_of_heap g1 4
    have r5 := Lib.cell_of_heap g1 5
    have r6 := Lib.cell_of_heap g1 6
    simp at r0 r1 r2 r3 r4 r5 r6
    have f0 := Lib.frozen_of_heap g1 0
    have f1 := Lib.frozen_of_heap g1 1
    have f2 := Lib.frozen_of_heap g1 2
    have f3 := Lib.frozen_of_heap g1 3
    have f4 := Lib.frozen_of_heap g1 4
    have f5 := Lib.frozen_of_heap g1 5
    have f6 := Lib.frozen_of_heap g1 6
    clear b3 HH0 HH1 HB2 g0 g1 HP
    go_wp2_with fail
    have q7 := set7 HL1.out (.int .i64 0) (.int .i64 0) (.string ⟨#[]⟩) (.string ⟨#[]⟩) (.string ⟨#[]⟩) (.string ⟨#[]⟩) (.slice none 0 0)
    have q8 := below7 (b := w.heap.size + 1) (by omega) HB3.out (.int .i64 0) (.int .i64 0) (.string ⟨#[]⟩) (.string ⟨#[]⟩) (.string ⟨#[]⟩) (.string ⟨#[]⟩) (.slice none 0 0)
    generalize (((((((w3.setCell ⟨w.heap.size + 1, 0, none⟩ (.int .i64 0)).setCell ⟨w.heap.size + 1, 1, none⟩ (.int .i64 0)).setCell ⟨w.heap.size + 1, 2, none⟩ (.string ⟨#[]⟩)).setCell ⟨w.heap.size + 1, 3, none⟩ (.string ⟨#[]⟩)).setCell ⟨w.heap.size + 1, 4, none⟩ (.string ⟨#[]⟩)).setCell ⟨w.heap.size + 1, 5, none⟩ (.string ⟨#[]⟩)).setCell ⟨w.heap.size + 1, 6, none⟩ (.slice none 0 0)) = W9 at q7 q8 ⊢
    have m0 := Lib.cell_of_heap q7 0
    have m1 := Lib.cell_of_heap q7 1
    have m2 := Lib.cell_of_heap q7 2
    have m3 := Lib.cell_of_heap q7 3
    have m4 := Lib.cell_of_heap q7 4
    have m5 := Lib.cell_of_heap q7 5
    have m6 := Lib.cell_of_heap q7 6
    simp at m0 m1 m2 m3 m4 m5 m6
    exact bodyPost_ret (v := .tuple #[.agg effZero, .bool false, .int .i64 0]) (by simp [results, Tryz.results24, go_sem, m0, m1, m2, m3, m4, m5, m6]) rfl ⟨rfl, q8⟩

theorem eff_close {w W4 : World} {B : Nat} {kind d : Int} {i : Inst} {ch : ByteArray} {a : Act} (h1 : W4.heap[w.heap.size + 1]? = some (.cells effZero 50 (0, 0))) (hB : Below w.heap.size w W4)
    (hT : W4.heap[B]? = some (.cells #[.string ⟨#[97, 109, 111, 117, 110, 116]⟩, .string ch] 57 (0, 0))) (hl : w.heap.size + 1 < B) (hd : a.defers = [])
    (hr : ∀ W9 : World, W9.cell? ⟨w.heap.size + 1, 0, none⟩ = some (.int .i64 kind) → W9.cell? ⟨w.heap.size + 1, 1, none⟩ = some (.int .i64 d) → W9.cell? ⟨w.heap.size + 1, 2, none⟩ = some (.string (⟨#[109, 97, 114, 107, 32]⟩ ++ ptext d ++ ⟨#[32]⟩ ++ i.id)) → W9.cell? ⟨w.heap.size + 1, 3, none⟩ = some (.string i.id) → W9.cell? ⟨w.heap.size + 1, 4, none⟩ = some (.string ⟨#[]⟩) → W9.cell? ⟨w.heap.size + 1, 5, none⟩ = some (.string i.cur) → W9.cell? ⟨w.heap.size + 1, 6, none⟩ = some (.slice (some ⟨B, 0, none⟩) 1 1) →
      (results Tryz.f24 a.tmps).run Tryz.prog W9 = .ok (.tuple #[.agg #[.int .i64 kind, .int .i64 d, .string (⟨#[109, 97, 114, 107, 32]⟩ ++ ptext d ++ ⟨#[32]⟩ ++ i.id), .string i.id, .string ⟨#[]⟩, .string i.cur, .slice (some ⟨B, 0, none⟩) 1 1], .bool true, .int .i64 0]) W9) :
    bodyPost Tryz.prog Tryz.f24 (EffPost w kind d i ch) .ret a (((((((W4.setCell ⟨w.heap.size + 1, 0, none⟩ (.int .i64 kind)).setCell ⟨w.heap.size + 1, 1, none⟩ (.int .i64 d)).setCell ⟨w.heap.size + 1, 2, none⟩ (.string (⟨#[109, 97, 114, 107, 32]⟩ ++ ptext d ++ ⟨#[32]⟩ ++ i.id))).setCell ⟨w.heap.size + 1, 3, none⟩ (.string i.id)).setCell ⟨w.heap.size + 1, 4, none⟩ (.string ⟨#[]⟩)).setCell ⟨w.heap.size + 1, 5, none⟩ (.string i.cur)).setCell ⟨w.heap.size + 1, 6, none⟩ (.slice (some ⟨B, 0, none⟩) 1 1)) := by
  have q7 := set7 h1 (.int .i64 kind) (.int .i64 d) (.string (⟨#[109, 97, 114, 107, 32]⟩ ++ ptext d ++ ⟨#[32]⟩ ++ i.id)) (.string i.id) (.string ⟨#[]⟩) (.string i.cur) (.slice (some ⟨B, 0, none⟩) 1 1)
  have q8 := below7 (b := w.heap.size + 1) (by omega) hB (.int .i64 kind) (.int .i64 d) (.string (⟨#[109, 97, 114, 107, 32]⟩ ++ ptext d ++ ⟨#[32]⟩ ++ i.id)) (.string i.id) (.string ⟨#[]⟩) (.string i.cur) (.slice (some ⟨B, 0, none⟩) 1 1)
  have q9 := (far7 (W := W4) (b := w.heap.size + 1) (k := B) (by omega) (.int .i64 kind) (.int .i64 d) (.string (⟨#[109, 97, 114, 107, 32]⟩ ++ ptext d ++ ⟨#[32]⟩ ++ i.id)) (.string i.id) (.string ⟨#[]⟩) (.string i.cur) (.slice (some ⟨B, 0, none⟩) 1 1)).trans hT
  generalize (((((((W4.setCell ⟨w.heap.size + 1, 0, none⟩ (.int .i64 kind)).setCell ⟨w.heap.size + 1, 1, none⟩ (.int .i64 d)).setCell ⟨w.heap.size + 1, 2, none⟩ (.string (⟨#[109, 97, 114, 107, 32]⟩ ++ ptext d ++ ⟨#[32]⟩ ++ i.id))).setCell ⟨w.heap.size + 1, 3, none⟩ (.string i.id)).setCell ⟨w.heap.size + 1, 4, none⟩ (.string ⟨#[]⟩)).setCell ⟨w.heap.size + 1, 5, none⟩ (.string i.cur)).setCell ⟨w.heap.size + 1, 6, none⟩ (.slice (some ⟨B, 0, none⟩) 1 1)) = W9 at q7 q8 q9 ⊢
  have m0 := Lib.cell_of_heap q7 0
  have m1 := Lib.cell_of_heap q7 1
  have m2 := Lib.cell_of_heap q7 2
  have m3 := Lib.cell_of_heap q7 3
  have m4 := Lib.cell_of_heap q7 4
  have m5 := Lib.cell_of_heap q7 5
  have m6 := Lib.cell_of_heap q7 6
  exact bodyPost_ret (hr W9 m0 m1 m2 m3 m4 m5 m6) hd ⟨B, rfl, q9, by omega, q8⟩
set_option maxHeartbeats 4000000 in
set_option maxRecDepth 100000 in
theorem Effect_some (kind : Int) (hk : kind = 17 ∨ kind = 18 ∨ kind = 19) (d : Int) (hd : okDay d) (i : Inst) (hsm : i.small) (hok : i.ok) (ch : ByteArray) (hch : Can ch) (hcz : ch.size ≤ 1000) (hne : ch ≠ ⟨#[]⟩) (w : World) (ht : Tabs w) :
    Calls Tryz.prog 24 #[.int .i64 kind, .int .i64 d, i.enc, .string ch] w (EffPost w kind d i ch) := by
  have hne' := str_empty ch
  rw [decide_eq_false hne] at hne'
  clear hne
  obtain ⟨W0, hW0', hB0, hz, k0, k1⟩ := box2 w (.cells i.cells 27) (.cells effZero 50)
  have hW0 := hW0'.symm
  have c0 := Lib.cell_of_heap k0 0
  have c1 := Lib.cell_of_heap k0 1
  have c2 := Lib.cell_of_heap k0 2
  have c3 := Lib.cell_of_heap k0 3
  have c4 := Lib.cell_of_heap k0 4
  have c5 := Lib.cell_of_heap k0 5
  have c6 := Lib.cell_of_heap k0 6
  have c7 := Lib.cell_of_heap k0 7
  have c8 := Lib.cell_of_heap k0 8
  have c9 := Lib.cell_of_heap k0 9
  have c10 := Lib.cell_of_heap k0 10
  have c11 := Lib.cell_of_heap k0 11
  have c12 := Lib.cell_of_heap k0 12
  have c13 := Lib.cell_of_heap k0 13
  have c14 := Lib.cell_of_heap k0 14
  simp at c0 c1 c2 c3 c4 c5 c6 c7 c8 c9 c10 c11 c12 c13 c14
  have HT := Lib.hid ht
  have HB0 := Lib.hid hB0
  have HK0 : Hid (InstBox W0 w.heap.size i) := k0
  have HK1 := Lib.hid k1
  have HC1 := Lib.hid (iCheck_ok i hsm.sized hok W0 (ht.below hB0))
  have HC2 := Lib.hid (fun W => Check_yes ch W (by omega) hch)
  have HP := Lib.hid (fun W hW => Print_any d hd W hW)
  have hpz := ptext_size hd w
  have hiz := hsm.id
  have t1 : (kind != 17 && kind != 18 && kind != 19) = false := by rcases hk with rfl | rfl | rfl <;> rfl
  clear hW0' hz ht hB0 k0 k1 hsm hok hch hd
  unfold Inst.enc Inst.cells effZero at *
  rcases hk with rfl | rfl | rfl
  all_goals
    clear t1
    go_enter Tryz.func24, Tryz.ntmps24
    go_wp2_with fail
    refine HC1.out.mono ?_
    rintro e w1 ⟨rfl, b1⟩
    have HB1 := Lib.hid (HB0.out.trans (b1.mono HB0.out.size))
    have HG0 := Lib.hid (HK0.out.below b1)
    have HG1 := Lib.hid ((b1.block (w.heap.size + 1) (Array.getElem?_eq_some_iff.1 HK1.out).1).trans HK1.out)
    clear b1 HK0 HK1 HB0 HC1 hW0
    clear c0 c1 c2 c3 c4 c5 c6 c7 c8 c9 c10 c11 c12 c13 c14
    go_wp2_with fail
    refine (HC2.out _).mono ?_
    rintro e w2 ⟨rfl, b2⟩
    have HB2 := Lib.hid (HB1.out.trans (b2.mono HB1.out.size))
    have HH0 := Lib.hid (HG0.out.below b2)
    have HH1 := Lib.hid ((b2.block (w.heap.size + 1) (Array.getElem?_eq_some_iff.1 HG1.out).1).trans HG1.out)
    clear b2 HG0 HG1 HB1 HC2
    go_wp2_with fail
    refine (HP.out _ (HT.out.below HB2.out)).mono ?_
    rintro e w3 ⟨rfl, b3⟩
    have HB3 := Lib.hid (HB2.out.trans (b3.mono HB2.out.size))
    have g0 := HH0.out.below b3
    have g1 := (b3.block (w.heap.size + 1) (Array.getElem?_eq_some_iff.1 HH1.out).1).trans HH1.out
    have HL0 := Lib.hid g0
    have HL1 := Lib.hid g1
    have hl3 : w.heap.size + 1 < w3.heap.size := (Array.getElem?_eq_some_iff.1 g1).1
    have c0 := Lib.cell_of_heap g0 0
    have c2 := Lib.cell_of_heap g0 2
    simp at c0 c2
    have r0 := Lib.cell_of_heap g1 0
    have r1 := Lib.cell_of_heap g1 1
    have r2 := Lib.cell_of_heap g1 2
    have r3 := Lib.cell_of_heap g1 3
    have r4 := Lib.cell_of_heap g1 4
    have r5 := Lib.cell_of_heap g1 5
    have r6 := Lib.cell_of_heap g1 6
    simp at r0 r1 r2 r3 r4 r5 r6
    have f0 := Lib.frozen_of_heap g1 0
    have f1 := Lib.frozen_of_heap g1 1
    have f2 := Lib.frozen_of_heap g1 2
    have f3 := Lib.frozen_of_heap g1 3
    have f4 := Lib.frozen_of_heap g1 4
    have f5 := Lib.frozen_of_heap g1 5
    have f6 := Lib.frozen_of_heap g1 6
    clear b3 HH0 HH1 HB2 g0 g1 HP
    obtain ⟨W4, hW4⟩ : ∃ W4, w3.alloc (.cells #[.string ⟨#[97, 109, 111, 117, 110, 116]⟩, .string ch] 57) = W4 := ⟨_, rfl⟩
    have b4 : Below w3.heap.size w3 W4 := by rw [← hW4]; exact (Below.refl _ w3).alloc (Nat.le_refl _) _
    have HB4 := Lib.hid (HB3.out.trans (b4.mono HB3.out.size))
    have HT4 : Hid (W4.heap[w3.heap.size]? = some (.cells #[.string ⟨#[97, 109, 111, 117, 110, 116]⟩, .string ch] 57 (0, 0))) := by rw [Hid, ← hW4]; exact heap_alloc_new w3 _
    have g1 := (b4.block (w.heap.size + 1) (Array.getElem?_eq_some_iff.1 HL1.out).1).trans HL1.out
    clear r0 r1 r2 r3 r4 r5 r6 f0 f1 f2 f3 f4 f5 f6
    have r0 := Lib.cell_of_heap g1 0
    have r1 := Lib.cell_of_heap g1 1
    have r2 := Lib.cell_of_heap g1 2
    have r3 := Lib.cell_of_heap g1 3
    have r4 := Lib.cell_of_heap g1 4
    have r5 := Lib.cell_of_heap g1 5
    have r6 := Lib.cell_of_heap g1 6
    simp at r0 r1 r2 r3 r4 r5 r6
    have f0 := Lib.frozen_of_heap g1 0
    have f1 := Lib.frozen_of_heap g1 1
    have f2 := Lib.frozen_of_heap g1 2
    have f3 := Lib.frozen_of_heap g1 3
    have f4 := Lib.frozen_of_heap g1 4
    have f5 := Lib.frozen_of_heap g1 5
    have f6 := Lib.frozen_of_heap g1 6
    have HL4 := Lib.hid g1
    clear b4 g1 HL0 HL1 HB3
    go_wp2_with fail
    exact eff_close HL4.out HB4.out HT4.out hl3 rfl (fun W9 m0 m1 m2 m3 m4 m5 m6 => by simp [results, Tryz.results24, go_sem, m0, m1, m2, m3, m4, m5, m6])
end Go.Proofs.YtpgjmdggblnfkaaGreatDoor
namespace Go.Proofs.YtpgjmdggblnfkaaGreatDoor
open Go.RowKit Tr Go.Shelf

theorem day_any (y : Int) (m : Nat) (d : Int) (hv : VDate y m d) (w : World) :
    Calls Tryz.prog 39 #[.int .i64 y, .int .i64 (m : Int), .int .i64 d] w fun e w' => e = .returned (.int .i64 (dayOf y m d)) ∧ Below w.heap.size w w' := by
  have HO := Lib.hid (dOf_any y m d hv w)
  generalize dayOf y m d = z at *
  go_enter Tryz.func39, Tryz.ntmps39
  go_wp2_with fail
  refine HO.out.mono ?_
  rintro e w1 ⟨rfl, b1⟩
  go_wp2_with fail
  go_ret
  exact ⟨rfl, b1⟩
theorem day_a (w : World) : Calls Tryz.prog 39 #[.int .i64 2024, .int .i64 1, .int .i64 14] w fun e w' => e = .returned (.int .i64 19736) ∧ Below w.heap.size w w' := day_any 2024 1 14 (by unfold VDate lenB leapB; decide) w
theorem day_b (w : World) : Calls Tryz.prog 39 #[.int .i64 2025, .int .i64 1, .int .i64 14] w fun e w' => e = .returned (.int .i64 20102) ∧ Below w.heap.size w w' := day_any 2025 1 14 (by unfold VDate lenB leapB; decide) w
theorem day_c (w : World) : Calls Tryz.prog 39 #[.int .i64 2024, .int .i64 1, .int .i64 15] w fun e w' => e = .returned (.int .i64 19737) ∧ Below w.heap.size w w' := day_any 2024 1 15 (by unfold VDate lenB leapB; decide) w
theorem day_d (w : World) : Calls Tryz.prog 39 #[.int .i64 2024, .int .i64 3, .int .i64 28] w fun e w' => e = .returned (.int .i64 19810) ∧ Below w.heap.size w w' := day_any 2024 3 28 (by unfold VDate lenB leapB; decide) w

/-- the bond and the lot of the example -/
def i0 : Inst := ⟨⟨#[98]⟩, 2, ⟨#[85, 83, 68]⟩, 0, 19736, 20102, ⟨#[49, 48, 48, 48]⟩, ⟨#[]⟩, ⟨#[]⟩, ⟨#[]⟩, 12, 3, ⟨#[]⟩, ⟨#[]⟩, ⟨#[]⟩⟩
def l0 : Lot := ⟨⟨#[120, 47, 49]⟩, ⟨#[98]⟩, 19737, 19737, ⟨#[49, 48]⟩, ⟨#[57, 56, 48, 48]⟩, ⟨#[]⟩⟩
theorem v1000 : vl ⟨#[49, 48, 48, 48]⟩ = 1000 := by decide
theorem v10 : vl ⟨#[49, 48]⟩ = 10 := by decide
theorem v9800 : vl ⟨#[57, 56, 48, 48]⟩ = 9800 := by decide
theorem v0 : vl ⟨#[]⟩ = 0 := by decide
theorem fv_int {n : ByteArray} : fv n ⟨#[]⟩ = (vl n : Rat) := by
  unfold fv dd
  rw [if_pos v0, show vl one1 = 1 from by decide]
  exact divInt_one' _
theorem canQ_int {n : ByteArray} (h : Can n) : CanQ n ⟨#[]⟩ := by
  unfold CanQ
  rw [fv_int]
  refine ⟨h.symm, ?_⟩
  unfold dn
  rw [if_pos (show ((vl n : Int) : Rat).den = 1 from rfl)]
theorem numchk_int {n : ByteArray} (h : Can n) (hz : n.size ≤ 40) : numchk n ⟨#[]⟩ = 0 := by
  unfold numchk
  rw [if_neg (fun x => x (canQ_int h)), if_neg]
  rintro (x | x)
  · unfold ndig at x; split at x <;> omega
  · rw [show ndig ⟨#[]⟩ = 0 from by decide] at x; omega
theorem i0_small : i0.small := ⟨by decide, by decide, by decide, by decide, by decide, by decide, by decide, by decide, by decide⟩
theorem i0_ok : i0.ok where
  id := by decide
  kind := by decide
  cur := by decide
  places := by decide
  issued := by unfold okDay; decide
  matures := .inr ⟨by decide, by unfold okDay; decide, by decide⟩
  n1 := numchk_int (by unfold Can; decide) (by decide)
  n2 := numchk_int (by unfold Can; decide) (by decide)
  n3 := numchk_int (by unfold Can; decide) (by decide)
  plain := fun h => absurd rfl h
  bond := fun _ => ⟨by decide, by decide, by decide, by decide, by decide, rfl, by decide⟩
  fwd := fun h => absurd h (by decide)
theorem l0_sized : l0.sized := ⟨by decide, by decide, by decide, by decide, by decide⟩
theorem l0_ok : l0.ok where
  id := by kernel_rfl
  inst := by decide
  acq := by unfold okDay; decide
  opn := by unfold okDay; decide
  ord := by decide
  cq := by unfold Can; decide
  cc := by unfold Can; decide
  cu := by unfold Can; decide
  pq := by decide
  pc := by decide
  us := .inl rfl
theorem all0 : allQ i0 l0 = 200 := by
  unfold allQ
  rw [show i0.fd = ⟨#[]⟩ from rfl, fv_int, show vl i0.fn = 1000 from v1000, show vl l0.qty = 10 from v10, show vl l0.cost = 9800 from v9800]
  kernel_rfl
theorem ex0 : exactQ i0 l0 19810 = 40 := by
  unfold exactQ
  rw [if_neg (by decide), if_neg (by decide), all0]
  kernel_rfl
theorem ex1 : exactQ i0 l0 20102 = 200 := by
  unfold exactQ
  rw [if_neg (by decide), if_pos (by decide), all0]
theorem r40 : I (rnd 40) = ⟨#[52, 48]⟩ := by rfl
theorem r200 : I (rnd 200) = ⟨#[50, 48, 48]⟩ := by rfl
theorem cause_bytes : (⟨#[109, 97, 114, 107, 32]⟩ : ByteArray) ++ dtext 2024 3 28 ++ ⟨#[32]⟩ ++ ⟨#[98]⟩ = ⟨#[109, 97, 114, 107, 32, 50, 48, 50, 52, 45, 48, 51, 45, 50, 56, 32, 98]⟩ := by kernel_rfl
theorem cause0 : causeB 19810 ⟨#[98]⟩ = ⟨#[109, 97, 114, 107, 32, 50, 48, 50, 52, 45, 48, 51, 45, 50, 56, 32, 98]⟩ := by
  have hv : VDate 2024 3 28 := by unfold VDate lenB leapB; decide
  have hp : ptext 19810 = dtext 2024 3 28 := ptext_eq (y := 2024) (m := 3) (dd := 28) hv (by decide)
  unfold causeB
  rw [hp]
  exact cause_bytes
set_option maxHeartbeats 1000000 in
theorem eqTerms_any (B1 B2 : Nat) (a b : ByteArray) (w : World) (h1 : w.heap[B1]? = some (.cells #[.string a, .string b] 57 (0, 0))) (h2 : w.heap[B2]? = some (.cells #[.string a, .string b] 57 (0, 0))) :
    Calls Tryz.prog 26 #[.slice (some ⟨B1, 0, none⟩) 1 1, .slice (some ⟨B2, 0, none⟩) 1 1] w fun e w' => e = .returned (.bool true) ∧ Below w.heap.size w w' := by
  have c0 := Lib.cell_of_heap h1 0
  have c1 := Lib.cell_of_heap h1 1
  have d0 := Lib.cell_of_heap h2 0
  have d1 := Lib.cell_of_heap h2 1
  simp at c0 c1 d0 d1
  clear h1 h2
  go_enter Tryz.func26, Tryz.ntmps26
  go_wp2_with fail
  refine wp_loop_rounds 2 ?_
  rw [rounds_succ]
  go_wp2_with fail
  go_quiet (fail)
  go_wp2_with fail
  rw [rounds_succ]
  go_wp2_with fail
  go_ret
  exact ⟨rfl, below_drewN (Below.refl _ _) _⟩
end Go.Proofs.YtpgjmdggblnfkaaGreatDoor
namespace Go.Proofs.YtpgjmdggblnfkaaGreatDoor
open Go.RowKit Tr Go.Shelf
variable {P : Program} {md : Region.Mode} {ops : Array Oper} {Q : Exit → Act → World → Prop}
theorem wpAny_inv (J : Array Bool → Act → World → Prop)
    (hstep : ∀ L a w, J L a w → ∀ i ∈ Region.ready md ops L, wpOp P ops Q i (J (L.setIfInBounds i true)) a w)
    (hdone : ∀ L a w, J L a w → Region.ready md ops L = [] → Q .normal a w) :
    ∀ (fuel : Nat) (L : Array Bool) (a : Act) (w : World), J L a w → waits L.toList ≤ fuel → wpAny P md ops Q fuel L a w := by
  intro fuel
  induction fuel with
  | zero =>
    intro L a w hj hw
    have hr : Region.ready md ops L = [] := by
      refine List.eq_nil_iff_forall_not_mem.2 fun i hi => ?_
      exact waits_zero L.toList i (by omega) (getD_false (mem_ready.1 hi).1)
    exact ⟨hr, hdone L a w hj hr⟩
  | succ fuel ih =>
    intro L a w hj hw
    refine ⟨fun hr => hdone L a w hj hr, fun i hi => wpOp_mono (fun a' w' h' => ih _ a' w' h' ?_) (hstep L a w hj i hi)⟩
    have := waits_set L.toList i (getD_false (mem_ready.1 hi).1)
    rw [Array.toList_setIfInBounds]
    omega
end Go.Proofs.YtpgjmdggblnfkaaGreatDoor
