/-
  The walk of lot.Positions. (Printed by gen_pos2.py.)
-/
import Derived.Test.YtdnmpgoigagjmaaGreatDoorL22
import Derived.Test.YtdnmpgoigagjmaaGreatDoorL23
import Derived.Test.YtdnmpgoigagjmaaGreatDoorL21
import Derived.Test.YtdnmpgoigagjmaaGreatDoorL09
set_option linter.unusedVariables false
set_option linter.unusedSimpArgs false
set_option maxHeartbeats 16000000
set_option maxRecDepth 100000
namespace Go.Proofs.YtdnmpgoigagjmaaGreatDoor
open Go.RowKit Tr Go.Shelf Go.Maps Go.Sort Go.WideMaps
theorem zeroPosV (w : World) : (zeroValue 80).run Tryz.prog w = .ok zeroPos.enc w := by kernel_rfl
theorem Tryz.infoPos : (Tryz.prog.info? 80).map (fun i => (i.zero, i.size, i.bytes)) = some (some (.agg #[.string ⟨#[]⟩, .string ⟨#[]⟩, .string ⟨#[]⟩]), 3, 48) := by kernel_rfl
def PosBox (W : World) (B : Nat) (p : Pos) : Prop := W.heap[B]? = some (.cells p.cells 80 (0, 0))
theorem PosBox.below {W W' : World} {B : Nat} {p : Pos} (h : PosBox W B p) (hb : Below W.heap.size W W') : PosBox W' B p := (hb.block B (Array.getElem?_eq_some_iff.1 h).1).trans h
theorem PosBox.lt {W : World} {B : Nat} {p : Pos} (h : PosBox W B p) : B < W.heap.size := (Array.getElem?_eq_some_iff.1 h).1
theorem ownsMapP_below {w w' : World} {P : Program} {k : TypeId} {R : Value → Option (DataW Pos × List MemPlace)} {b n : Nat} {D : DataW Pos} (h : w.ownsMap P k R b n D) (hb : Below w.heap.size w w') : w'.ownsMap P k R b n D := by
 have hlt := h.lt
 obtain ⟨es, clock, e, F, hs, hD⟩ := h
 exact ⟨es, clock, (hb.block b hlt).trans e, F, hs, hD⟩
def posPut (l : Lot) (p : Pos) (D : DataW Pos) : DataW Pos := D.put (keyS l.inst) (.held ⟨l.inst, I (vl p.qty + vl l.qty), I (vl p.cost + vl l.cost)⟩)
def PWc (l : Lot) (p : Pos) (Bx Bp : Nat) (W : World) : Prop := W.cell? ⟨Bx, 1, none⟩ = some (.string l.inst) ∧ W.cell? ⟨Bx, 4, none⟩ = some (.string l.qty) ∧ W.cell? ⟨Bx, 5, none⟩ = some (.string l.cost) ∧ W.cell? ⟨Bp, 1, none⟩ = some (.string p.qty) ∧ W.cell? ⟨Bp, 2, none⟩ = some (.string p.cost)
structure PW (w : World) (l : Lot) (p : Pos) (D : DataW Pos) (n : Nat) (Bx Bp : Nat) (W : World) : Prop where
 own : W.ownsMap Tryz.prog 9 posR w.heap.size n D
 bx : LotBox W Bx l
 bp : PosBox W Bp p
 be : Below w.heap.size w W
theorem PW.cells {w : World} {l : Lot} {p : Pos} {D : DataW Pos} {n Bx Bp : Nat} {W : World} (h : PW w l p D n Bx Bp W) : PWc l p Bx Bp W :=
 ⟨Lib.cell_of_heap h.bx 1, Lib.cell_of_heap h.bx 4, Lib.cell_of_heap h.bx 5, Lib.cell_of_heap h.bp 1, Lib.cell_of_heap h.bp 2⟩
theorem PW.below {w : World} {l : Lot} {p : Pos} {D : DataW Pos} {n Bx Bp : Nat} {W W' : World} (h : PW w l p D n Bx Bp W) (hb : Below W.heap.size W W') : PW w l p D n Bx Bp W' :=
 ⟨ownsMapP_below h.own hb, h.bx.below hb, h.bp.below hb, h.be.trans (hb.mono h.be.size)⟩
theorem PW.put {w : World} {l : Lot} {p : Pos} {D : DataW Pos} {n Bx Bp : Nat} {W : World} (h : PW w l p D n Bx Bp W) (hne : w.heap.size ≠ Bx ∧ w.heap.size ≠ Bp) (hr : n < maxLen ∧ l.inst.size ≤ maxLen) :
 ∃ w7, (Instr.mapUpdate 134 (.map (some w.heap.size)) (.string l.inst) (.agg #[.string l.inst, .string (I (vl p.qty + vl l.qty)), .string (I (vl p.cost + vl l.cost))])).run Tryz.prog W = .ok () w7 ∧ PW w l p (posPut l p D) (n + 1) Bx Bp w7 := by
 obtain ⟨w7, hup, hO7, hg7⟩ := h.own.update strKeyed Tryz.underlying134 hr.1 (keyOf_string_mk Tryz.underlying9 hr.2) (posR_enc ⟨l.inst, I (vl p.qty + vl l.qty), I (vl p.cost + vl l.cost)⟩)
 exact ⟨w7, hup, hO7, (hg7.block _ h.bx.lt (fun e => hne.1 (Option.some.inj e).symm)).trans h.bx, (hg7.block _ h.bp.lt (fun e => hne.2 (Option.some.inj e).symm)).trans h.bp, h.be.grown hg7 h.be.size (fun j hj => by cases hj; exact Nat.le_refl _)⟩
theorem held_inj {a b : Pos} (h : (DataW.held a : DataW Pos) = .held b) : a = b := by cases h; rfl
theorem look_pos {w : World} {b n : Nat} {ls : List SLot} {D : DataW Pos} {s : ByteArray} (h : w.ownsMap Tryz.prog 9 posR b n D) (hd : PosD ls D) (hs : s.size ≤ maxLen) :
 ∃ nm, (Instr.lookup 134 (.map (some b)) (.string s) false).run Tryz.prog w = .ok (.agg #[.string nm, .string (I (sumBy qtyOf (ownL ls s))), .string (I (sumBy costOf (ownL ls s)))]) w := by
 obtain ⟨v, ps, hrun, hv⟩ := h.lookup strKeyed Tryz.underlying134 (zeroPosV w) (posR_enc zeroPos) (keyOf_string_mk Tryz.underlying9 hs)
 obtain ⟨nm, e⟩ := hd.look s
 rw [show (Lit.string s.data.toList) = keyS s from rfl, e] at hv
 obtain ⟨p, rfl, hp⟩ := posR_inv hv
 injection hp with hp _
 injection hp with hp
 subst hp
 exact ⟨nm, hrun⟩
theorem look_has {w : World} {b n : Nat} {ls : List SLot} {D : DataW Pos} {s : ByteArray} (h : w.ownsMap Tryz.prog 9 posR b n D) (hd : PosD ls D) (hs : s.size ≤ maxLen) (hi : hasI ls s) :
 (Instr.lookup 134 (.map (some b)) (.string s) false).run Tryz.prog w = .ok (posOf ls s).enc w := by
 obtain ⟨v, ps, hrun, hv⟩ := h.lookup strKeyed Tryz.underlying134 (zeroPosV w) (posR_enc zeroPos) (keyOf_string_mk Tryz.underlying9 hs)
 rw [show (Lit.string s.data.toList) = keyS s from rfl, hd.yes s hi] at hv
 obtain ⟨p, rfl, hp⟩ := posR_inv hv
 have e : posOf ls s = p := held_inj (congrArg Prod.fst hp)
 rw [e]
 exact hrun
structure PosAt (w : World) (p : Addr) (x : Pos) : Prop where
 c0 : w.cell? p = some (.string x.inst)
 c1 : w.cell? ⟨p.block, p.off + 1, none⟩ = some (.string x.qty)
 c2 : w.cell? ⟨p.block, p.off + 2, none⟩ = some (.string x.cost)
theorem PosAt.below {w w' : World} {p : Addr} {x : Pos} {B : Nat} (h : PosAt w p x) (hb : Below B w w') (hp : p.block < B) : PosAt w' p x :=
 ⟨(hb.cell hp).trans h.c0, (hb.cell (p := ⟨p.block, p.off + 1, none⟩) hp).trans h.c1, (hb.cell (p := ⟨p.block, p.off + 2, none⟩) hp).trans h.c2⟩
def RdPos (n₀ : Nat) (w : World) (A : Option Addr) (ps : List Pos) : Prop :=
 ps ≠ [] → ∃ ad : Addr, A = some ad ∧ ad.block < n₀ ∧ ∀ (j : Nat) (x : Pos), ps[j]? = some x → PosAt w (ad.add (j * 3)) x
theorem RdPos.below {n₀ : Nat} {w w' : World} {A : Option Addr} {ps : List Pos} (h : RdPos n₀ w A ps) (hb : Below n₀ w w') : RdPos n₀ w' A ps := by
 intro hl
 obtain ⟨ad, rfl, h1, h2⟩ := h hl
 exact ⟨ad, rfl, h1, fun j l hj => (h2 j l hj).below hb (by rw [add_block]; exact h1)⟩
theorem RdPos.mono {n₀ n₁ : Nat} {w : World} {A : Option Addr} {ps : List Pos} (h : RdPos n₀ w A ps) (hn : n₀ ≤ n₁) : RdPos n₁ w A ps := by
 intro hl
 obtain ⟨ad, rfl, h1, h2⟩ := h hl
 exact ⟨ad, rfl, by omega, h2⟩
def flatP (ps : List Pos) : List Value := ps.flatMap fun x => x.cells.toList
theorem flatP_snoc (ps : List Pos) (x : Pos) : flatP (ps ++ [x]) = flatP ps ++ x.cells.toList := by simp [flatP]
theorem flatP_get : ∀ (ls : List Pos) (j : Nat) (l : Pos), ls[j]? = some l → ∀ f, f < 3 → (flatP ls)[j * 3 + f]? = l.cells[f]?
 | [], j, l, h, f, hf => by simp at h
 | x :: r, 0, l, h, f, hf => by
   simp at h
   subst h
   simp only [flatP, List.flatMap_cons]
   rw [List.getElem?_append_left (by simp [Pos.cells]; omega)]
   simp
 | x :: r, j + 1, l, h, f, hf => by
   simp at h
   have := flatP_get r j l h f hf
   simp only [flatP, List.flatMap_cons] at this ⊢
   rw [List.getElem?_append_right (by simp [Pos.cells]; omega)]
   rw [← this]
   congr 1
   simp [Pos.cells]; omega
theorem RdPos.of_own {w : World} {base : Nat} {v : Value} {ls : List Pos} (h : w.ownsRow base 80 3 v ls.length (flatP ls)) :
 ∃ A c, v = .slice A ls.length c ∧ ls.length ≤ c ∧ (∀ ad, A = some ad → base ≤ ad.block) ∧ RdPos w.heap.size w A ls := by
 rcases h.2 with ⟨rfl, h0⟩ | ⟨g, cap, cur, rfl, hb, hg, hnc, hcm, _⟩
 ·have : ls = [] := List.eq_nil_of_length_eq_zero h0
  subst this
  exact ⟨none, 0, rfl, Nat.le_refl _, (fun _ e => by cases e), fun e => absurd rfl e⟩
 ·refine ⟨_, _, rfl, hnc, fun ad e => by cases e; exact hb, fun _ => ⟨_, rfl, (Array.getElem?_eq_some_iff.1 hg).1, fun j l hj => ?_⟩⟩
  have hc := h.cells (g := g) rfl
  have q : ∀ f, f < 3 → ∀ u, l.cells[f]? = some u → w.cell? ⟨g, j * 3 + f, none⟩ = some u := by
   intro f hf u hu
   have := hc (j * 3 + f) u (by rw [flatP_get ls j l hj f hf]; exact hu)
   rwa [addr_add0] at this
  rw [addr_add0]
  exact ⟨q 0 (by omega) _ rfl, q 1 (by omega) _ rfl, q 2 (by omega) _ rfl⟩
def PosPost (w : World) (ps : List Pos) (e : Ending) (w' : World) : Prop := ∃ A c, e = .returned (.slice A ps.length c) ∧ ps.length ≤ c ∧ (∀ ad, A = some ad → w.heap.size ≤ ad.block) ∧ RdPos w'.heap.size w' A ps ∧ Below w.heap.size w w'
def RdNm (n₀ : Nat) (w : World) (A : Option Addr) (ns : List (List UInt8)) : Prop := ∀ k b, ns[k]? = some b → ∃ ad : Addr, A = some ad ∧ ad.block < n₀ ∧ w.cell? (ad.add k) = some (.string (bs b))
theorem RdNm.of_own {w : World} {base : Nat} {v : Value} {ns : List (List UInt8)} (h : w.ownsRow base 9 1 v ns.length (ns.map encStr)) : ∃ A c, v = .slice A ns.length c ∧ RdNm w.heap.size w A ns := by
 rcases h.2 with ⟨rfl, h0⟩ | ⟨g, cap, cur, rfl, hb, hg, hnc, hcm, _⟩
 ·have : ns = [] := List.eq_nil_of_length_eq_zero h0
  subst this
  exact ⟨none, 0, rfl, fun k b e => by simp at e⟩
 ·refine ⟨_, _, rfl, fun k b e => ⟨_, rfl, (Array.getElem?_eq_some_iff.1 hg).1, ?_⟩⟩
  exact h.cells (g := g) rfl k _ (by rw [List.getElem?_map, e]; rfl)
theorem RdNm.below {n₀ : Nat} {w w' : World} {A : Option Addr} {ns : List (List UInt8)} (h : RdNm n₀ w A ns) (hb : Below n₀ w w') : RdNm n₀ w' A ns := by
 intro k b e
 obtain ⟨ad, rfl, h1, h2⟩ := h k b e
 exact ⟨ad, rfl, h1, (hb.cell (by rw [add_block]; exact h1)).trans h2⟩
theorem posL_len (ls : List SLot) : (posL ls).length = (names ls).length := by unfold posL; rw [List.length_map]
theorem posL_get {ls : List SLot} {k : Nat} {b : List UInt8} (h : (names ls)[k]? = some b) : (posL ls)[k]? = some (posOf ls (bs b)) := by unfold posL; rw [List.getElem?_map, h]; rfl
structure PPV (w : World) (l : Lot) (p : Pos) (D : DataW Pos) (n : Nat) (Bx Bp : Nat)  (L : Array Bool) (W : World) (s21 s22 s23 s24 s25 s26 s27 s28 s29 s30 s31 s32 s33 s34 s35 s36 : Value) : Prop where
 k0 : L.getD 0 false = true → s21 = .map (some w.heap.size)
 k1 : L.getD 1 false = true → s22 = .pointer (some ⟨Bx, 1, none⟩)
 k2 : L.getD 2 false = true → s23 = .string l.inst
 k3 : L.getD 3 false = true → s24 = .pointer (some ⟨Bx, 1, none⟩)
 k4 : L.getD 4 false = true → s25 = .string l.inst
 k5 : L.getD 5 false = true → s26 = .pointer (some ⟨Bp, 1, none⟩)
 k6 : L.getD 6 false = true → s27 = .string p.qty
 k7 : L.getD 7 false = true → s28 = .pointer (some ⟨Bx, 4, none⟩)
 k8 : L.getD 8 false = true → s29 = .string l.qty
 k9 : L.getD 9 false = true → s30 = .string (I (vl p.qty + vl l.qty))
 k10 : L.getD 10 false = true → s31 = .pointer (some ⟨Bp, 2, none⟩)
 k11 : L.getD 11 false = true → s32 = .string p.cost
 k12 : L.getD 12 false = true → s33 = .pointer (some ⟨Bx, 5, none⟩)
 k13 : L.getD 13 false = true → s34 = .string l.cost
 k14 : L.getD 14 false = true → s35 = .string (I (vl p.cost + vl l.cost))
 k15 : L.getD 15 false = true → s36 = .agg #[.string l.inst, .string (I (vl p.qty + vl l.qty)), .string (I (vl p.cost + vl l.cost))]
 g : L.getD 16 false = false → PW w l p D n Bx Bp W
 h : L.getD 16 false = true → PW w l p (posPut l p D) (n + 1) Bx Bp W
 c : PWc l p Bx Bp W
 be : Below w.heap.size w W
 q : L.getD 16 false = true → L.getD 15 false = true
 qa : L.getD 15 false = true → L.getD 9 false = true
 qb : L.getD 15 false = true → L.getD 14 false = true
structure PPJ (w : World) (l : Lot) (p : Pos) (D : DataW Pos) (n : Nat) (Bx Bp : Nat) (x0 x1 x2 x4 x7 x8 x9 x10 x11 x12 x13 x14 x15 x16 x17 x18 x19 x20 x37 x38 x39 x40 x41 x42 x43 x44 x45 x46 x47 x48 x49 x50 x51 x52 x53 : Value) (L : Array Bool) (a : Act) (W : World) : Prop where
 sz : L.size = 17
 fr : ∃ s21 s22 s23 s24 s25 s26 s27 s28 s29 s30 s31 s32 s33 s34 s35 s36 : Value, a = { tmps := #[x0, x1, x2, .map (some w.heap.size), x4, .pointer (some ⟨Bx, 0, none⟩), .pointer (some ⟨Bp, 0, none⟩), x7, x8, x9, x10, x11, x12, x13, x14, x15, x16, x17, x18, x19, x20, s21, s22, s23, s24, s25, s26, s27, s28, s29, s30, s31, s32, s33, s34, s35, s36, x37, x38, x39, x40, x41, x42, x43, x44, x45, x46, x47, x48, x49, x50, x51, x52, x53], defers := [] } ∧ PPV w l p D n Bx Bp  L W s21 s22 s23 s24 s25 s26 s27 s28 s29 s30 s31 s32 s33 s34 s35 s36
theorem lPositions_any (n₀ : Nat) (A : Option Addr) (ls : List SLot) (c : Nat) (w : World) (hlen : ls.length ≤ 1000000) (hR : RdB n₀ w A ls) (hnw : n₀ ≤ w.heap.size) (ht : Tabs w) :
 Calls Tryz.prog 59 #[.slice A ls.length c] w (PosPost w (posL ls)) := by
 have HT := hI ht
 have HR := hI hR
 clear ht hR
 have hmm := @run_makeMap Tryz.prog
 have HK := hI (fun W b => (callsIn_wide (n := 5)).1 (Tryz.maps_Keys_121 (some b) W))
 have HS := hI (fun W b nn D0 hown hmax hbytes => (callsIn_wide (n := 5)).1 (Tryz.slices_Sorted_keys_120_121 (H := Pos) b nn D0 posR W hown hmax hbytes))
 obtain ⟨K, hK⟩ : ∃ K, K = 1000 := ⟨_, rfl⟩
 have HKK := hI hK
 clear hK
 go_enter Tryz.func59, Tryz.ntmps59
 go_wp2_with fail
 go_loopw [13] (fun v wr => ∃ (k : Nat) (DD : DataW Pos), v = .int .i64 (k : Int) ∧ k ≤ ls.length ∧ PosD (ls.take k) DD ∧ wr.ownsMap Tryz.prog 9 posR w.heap.size k DD ∧ Below w.heap.size w wr) (fun v _ => ls.length - (intOf v).toNat)
 case atStart => exact ⟨0, _, rfl, by omega, PosD.nil, World.ownsMap_made _ _ _ _, (Below.refl _ _).alloc (Nat.le_refl _) _⟩
 case round =>
  obtain ⟨k, DD, rfl, hk, hd, hown, hb⟩ := hrel
  have HO := hI hown
  have HB := hI hb
  have HD := hI hd
  clear hown hb hd
  rcases Nat.lt_or_ge k ls.length with hlt | hge
  ·obtain ⟨x, hl⟩ : ∃ x, ls[k]? = some x := ⟨_, List.getElem?_eq_getElem hlt⟩
   obtain ⟨ad, rfl, had, hcell⟩ := HR.out (by intro e; rw [e] at hlt; cases hlt)
   have hcx : decide ((k : Int) < (ls.length : Int)) = true := by simp; omega
   obtain ⟨c0, c1, c2, c3, c4, c5, c6⟩ := (hcell k x hl).below (HB.out.mono hnw) (by rw [add_block]; exact had)
   have hzi : x.1.inst.size ≤ maxLen := by have := x.2.2.1; unfold maxLen; omega
   have HRM : Hid (k < maxLen ∧ x.1.inst.size ≤ maxLen) := ⟨by unfold maxLen; omega, hzi⟩
   have hst := HD.out.step x
   rw [← take_snoc hl] at hst
   have hlen' := Nat.lt_of_le_of_lt (List.length_take_le k ls) (by omega : k < 10 ^ 7)
   have zq := sumBy_size (qty_lt HKK.out) (ownL (ls.take k) x.1.inst) (Nat.lt_of_le_of_lt (List.length_filter_le _ _) hlen')
   have zc := sumBy_size (cost_lt HKK.out) (ownL (ls.take k) x.1.inst) (Nat.lt_of_le_of_lt (List.length_filter_le _ _) hlen')
   have zxq : x.1.qty.size ≤ 1000 := x.2.2.2.1
   have zxc : x.1.cost.size ≤ 1000 := x.2.2.2.2.1
   have hkk := HKK.out
   obtain ⟨W5, hW5⟩ : ∃ W5, wr.alloc (.cells x.1.cells 49) = W5 := ⟨_, rfl⟩
   have k5 : LotBox W5 wr.heap.size x.1 := by rw [← hW5]; exact heap_alloc_new wr _
   have b5 : Below wr.heap.size wr W5 := by rw [← hW5]; exact (Below.refl _ wr).alloc (Nat.le_refl _) _
   have s5 : W5.heap.size = wr.heap.size + 1 := by rw [← hW5]; simp
   have o5 := ownsMapP_below HO.out b5
   obtain ⟨nm, hlk⟩ := look_pos o5 HD.out hzi
   obtain ⟨p, hp⟩ : ∃ p : Pos, p = ⟨nm, I (sumBy qtyOf (ownL (ls.take k) x.1.inst)), I (sumBy costOf (ownL (ls.take k) x.1.inst))⟩ := ⟨_, rfl⟩
   have hpq : vl p.qty = sumBy qtyOf (ownL (ls.take k) x.1.inst) := by rw [hp]; exact vl_I _
   have hpc : vl p.cost = sumBy costOf (ownL (ls.take k) x.1.inst) := by rw [hp]; exact vl_I _
   have hpz : p.qty.size ≤ 2000 ∧ p.cost.size ≤ 2000 := by rw [hp]; exact ⟨by show (I _).size ≤ _; omega, by show (I _).size ≤ _; omega⟩
   rw [show (Value.agg #[.string nm, .string (I (sumBy qtyOf (ownL (ls.take k) x.1.inst))), .string (I (sumBy costOf (ownL (ls.take k) x.1.inst)))]) = .agg #[.string p.inst, .string p.qty, .string p.cost] from by rw [hp]] at hlk
   have HSTEP : Hid (PosD (ls.take (k + 1)) (posPut x.1 p DD)) := by unfold Hid posPut; rw [hpq, hpc]; exact hst
   clear hp hpq hpc hst zq zc
   obtain ⟨W6, hW6⟩ : ∃ W6, W5.alloc (.cells p.cells 80) = W6 := ⟨_, rfl⟩
   have b6 : Below W5.heap.size W5 W6 := by rw [← hW6]; exact (Below.refl _ W5).alloc (Nat.le_refl _) _
   have k6 : PosBox W6 W5.heap.size p := by rw [← hW6]; exact heap_alloc_new W5 _
   obtain ⟨m0, m1, m2, m3, m4, m5, m6⟩ := cells7 k5
   have HG0 : Hid (PW w x.1 p DD k wr.heap.size W5.heap.size W6) := ⟨ownsMapP_below o5 b6, k5.below b6, k6, (HB.out.trans (b5.mono HB.out.size)).trans (b6.mono (HB.out.trans (b5.mono HB.out.size)).size)⟩
   have hws : w.heap.size < wr.heap.size := HO.out.lt
   have HNE : Hid (w.heap.size ≠ wr.heap.size ∧ w.heap.size ≠ W5.heap.size) := ⟨by omega, by omega⟩
   have HA1 := hI (fun W hW => Add_any p.qty x.1.qty W (by omega) (by omega) hW)
   have HA2 := hI (fun W hW => Add_any p.cost x.1.cost W (by omega) (by omega) hW)
   have HL5 := hI b5
   clear k5 b5 o5 b6 k6 hcell hl hpz zxq zxc hlen' hkk hws s5
   unfold Lot.cells at hW5
   unfold Pos.cells at hW6
   go_upto_region 6 with fail
   have hg0 : PW w x.1 p DD k wr.heap.size W5.heap.size W6.drew := HG0.out.below (Below.refl _ _).drew
   clear HG0
   have mixed : Tryz.prog.follows .mixedOrders = true := by kernel_rfl
   refine wp_region_any mixed (wpAny_inv (PPJ w x.1 p DD k _ _ _ _ _ _ _ _ _ _ _ _ _ _ _ _ _ _ _ _ _ _ _ _ _ _ _ _ _ _ _ _ _ _ _ _ _) ?stPP ?dnPP _ _ _ _ ⟨by simp, ⟨_, _, _, _, _, _, _, _, _, _, _, _, _, _, _, _, rfl, fun h => by simp at h, fun h => by simp at h, fun h => by simp at h, fun h => by simp at h, fun h => by simp at h, fun h => by simp at h, fun h => by simp at h, fun h => by simp at h, fun h => by simp at h, fun h => by simp at h, fun h => by simp at h, fun h => by simp at h, fun h => by simp at h, fun h => by simp at h, fun h => by simp at h, fun h => by simp at h, fun _ => hg0, fun h => by simp at h, hg0.cells, hg0.be, fun h => by simp at h, fun h => by simp at h, fun h => by simp at h⟩⟩ (by decide))
   case dnPP =>
    intro L a w' hj hr
    have all := all_on hr hj.sz (by kernel_rfl)
    obtain ⟨s21, s22, s23, s24, s25, s26, s27, s28, s29, s30, s31, s32, s33, s34, s35, s36, rfl, hv⟩ := hj.fr
    have HF := hI (hv.h (all 16 (by omega)))
    clear all hv hj hr
    dsimp only
    go_wp2_with fail
    go_roundw
    case rel => exact ⟨k + 1, _, by go_num, by omega, HSTEP.out, HF.out.own, HF.out.be⟩
    case measure => simp [intOf]; omega
   case stPP =>
    intro L a w' hj i hi
    obtain ⟨hun, o, ho, hall⟩ := mem_ready.1 hi
    have hoff := getD_off hun
    have hlt := (Array.getElem?_eq_some_iff.1 ho).1
    simp at hlt
    obtain ⟨s21, s22, s23, s24, s25, s26, s27, s28, s29, s30, s31, s32, s33, s34, s35, s36, rfl, hv⟩ := hj.fr
    have HV := hI hv
    have HJ := hI hj
    clear hv hj
    rcases (show i = 0 ∨ i = 1 ∨ i = 2 ∨ i = 3 ∨ i = 4 ∨ i = 5 ∨ i = 6 ∨ i = 7 ∨ i = 8 ∨ i = 9 ∨ i = 10 ∨ i = 11 ∨ i = 12 ∨ i = 13 ∨ i = 14 ∨ i = 15 ∨ i = 16 from by omega) with rfl | rfl | rfl | rfl | rfl | rfl | rfl | rfl | rfl | rfl | rfl | rfl | rfl | rfl | rfl | rfl | rfl
    ·simp at ho
     subst ho
     clear hall hi
     refine wpOp_hid rfl fun K' HK => ?_
     go_simp
     cases HV.out
     refine HK.out _ _ ⟨by simp [HJ.out.sz], ⟨_, _, _, _, _, _, _, _, _, _, _, _, _, _, _, _, rfl, fun _ => rfl, ?_, ?_, ?_, ?_, ?_, ?_, ?_, ?_, ?_, ?_, ?_, ?_, ?_, ?_, ?_, fun h0 => HV.out.g (getD_df (by decide) h0), ?_, HV.out.c, HV.out.be, fun h => getD_up hun (HV.out.q (getD_dn (by decide) h)), fun h => getD_up hun (HV.out.qa (getD_dn (by decide) h)), fun h => getD_up hun (HV.out.qb (getD_dn (by decide) h))⟩⟩
     all_goals exact Um (by assumption)
    ·simp at ho
     subst ho
     clear hall hi
     refine wpOp_hid rfl fun K' HK => ?_
     go_simp
     cases HV.out
     refine HK.out _ _ ⟨by simp [HJ.out.sz], ⟨_, _, _, _, _, _, _, _, _, _, _, _, _, _, _, _, rfl, ?_, fun _ => rfl, ?_, ?_, ?_, ?_, ?_, ?_, ?_, ?_, ?_, ?_, ?_, ?_, ?_, ?_, fun h0 => HV.out.g (getD_df (by decide) h0), ?_, HV.out.c, HV.out.be, fun h => getD_up hun (HV.out.q (getD_dn (by decide) h)), fun h => getD_up hun (HV.out.qa (getD_dn (by decide) h)), fun h => getD_up hun (HV.out.qb (getD_dn (by decide) h))⟩⟩
     all_goals exact Um (by assumption)
    ·simp at ho
     subst ho
     have h1x : L.getD 1 false = true := hall { on := 1, ground := Ground.data } (by simp) (by decide)
     have H1 := hI h1x
     clear hall hi h1x
     have e0 := HV.out.k1 H1.out
     subst e0
     obtain ⟨c0, c1, c2, c3, c4⟩ := HV.out.c
     refine wpOp_hid rfl fun K' HK => ?_
     go_simp
     cases HV.out
     refine HK.out _ _ ⟨by simp [HJ.out.sz], ⟨_, _, _, _, _, _, _, _, _, _, _, _, _, _, _, _, rfl, ?_, ?_, fun _ => rfl, ?_, ?_, ?_, ?_, ?_, ?_, ?_, ?_, ?_, ?_, ?_, ?_, ?_, fun h0 => HV.out.g (getD_df (by decide) h0), ?_, HV.out.c, HV.out.be, fun h => getD_up hun (HV.out.q (getD_dn (by decide) h)), fun h => getD_up hun (HV.out.qa (getD_dn (by decide) h)), fun h => getD_up hun (HV.out.qb (getD_dn (by decide) h))⟩⟩
     all_goals exact Um (by assumption)
    ·simp at ho
     subst ho
     clear hall hi
     refine wpOp_hid rfl fun K' HK => ?_
     go_simp
     cases HV.out
     refine HK.out _ _ ⟨by simp [HJ.out.sz], ⟨_, _, _, _, _, _, _, _, _, _, _, _, _, _, _, _, rfl, ?_, ?_, ?_, fun _ => rfl, ?_, ?_, ?_, ?_, ?_, ?_, ?_, ?_, ?_, ?_, ?_, ?_, fun h0 => HV.out.g (getD_df (by decide) h0), ?_, HV.out.c, HV.out.be, fun h => getD_up hun (HV.out.q (getD_dn (by decide) h)), fun h => getD_up hun (HV.out.qa (getD_dn (by decide) h)), fun h => getD_up hun (HV.out.qb (getD_dn (by decide) h))⟩⟩
     all_goals exact Um (by assumption)
    ·simp at ho
     subst ho
     have h3x : L.getD 3 false = true := hall { on := 3, ground := Ground.data } (by simp) (by decide)
     have H3 := hI h3x
     clear hall hi h3x
     have e0 := HV.out.k3 H3.out
     subst e0
     obtain ⟨c0, c1, c2, c3, c4⟩ := HV.out.c
     refine wpOp_hid rfl fun K' HK => ?_
     go_simp
     cases HV.out
     refine HK.out _ _ ⟨by simp [HJ.out.sz], ⟨_, _, _, _, _, _, _, _, _, _, _, _, _, _, _, _, rfl, ?_, ?_, ?_, ?_, fun _ => rfl, ?_, ?_, ?_, ?_, ?_, ?_, ?_, ?_, ?_, ?_, ?_, fun h0 => HV.out.g (getD_df (by decide) h0), ?_, HV.out.c, HV.out.be, fun h => getD_up hun (HV.out.q (getD_dn (by decide) h)), fun h => getD_up hun (HV.out.qa (getD_dn (by decide) h)), fun h => getD_up hun (HV.out.qb (getD_dn (by decide) h))⟩⟩
     all_goals exact Um (by assumption)
    ·simp at ho
     subst ho
     clear hall hi
     refine wpOp_hid rfl fun K' HK => ?_
     go_simp
     cases HV.out
     refine HK.out _ _ ⟨by simp [HJ.out.sz], ⟨_, _, _, _, _, _, _, _, _, _, _, _, _, _, _, _, rfl, ?_, ?_, ?_, ?_, ?_, fun _ => rfl, ?_, ?_, ?_, ?_, ?_, ?_, ?_, ?_, ?_, ?_, fun h0 => HV.out.g (getD_df (by decide) h0), ?_, HV.out.c, HV.out.be, fun h => getD_up hun (HV.out.q (getD_dn (by decide) h)), fun h => getD_up hun (HV.out.qa (getD_dn (by decide) h)), fun h => getD_up hun (HV.out.qb (getD_dn (by decide) h))⟩⟩
     all_goals exact Um (by assumption)
    ·simp at ho
     subst ho
     have h5x : L.getD 5 false = true := hall { on := 5, ground := Ground.data } (by simp) (by decide)
     have H5 := hI h5x
     clear hall hi h5x
     have e0 := HV.out.k5 H5.out
     subst e0
     obtain ⟨c0, c1, c2, c3, c4⟩ := HV.out.c
     refine wpOp_hid rfl fun K' HK => ?_
     go_simp
     cases HV.out
     refine HK.out _ _ ⟨by simp [HJ.out.sz], ⟨_, _, _, _, _, _, _, _, _, _, _, _, _, _, _, _, rfl, ?_, ?_, ?_, ?_, ?_, ?_, fun _ => rfl, ?_, ?_, ?_, ?_, ?_, ?_, ?_, ?_, ?_, fun h0 => HV.out.g (getD_df (by decide) h0), ?_, HV.out.c, HV.out.be, fun h => getD_up hun (HV.out.q (getD_dn (by decide) h)), fun h => getD_up hun (HV.out.qa (getD_dn (by decide) h)), fun h => getD_up hun (HV.out.qb (getD_dn (by decide) h))⟩⟩
     all_goals exact Um (by assumption)
    ·simp at ho
     subst ho
     clear hall hi
     refine wpOp_hid rfl fun K' HK => ?_
     go_simp
     cases HV.out
     refine HK.out _ _ ⟨by simp [HJ.out.sz], ⟨_, _, _, _, _, _, _, _, _, _, _, _, _, _, _, _, rfl, ?_, ?_, ?_, ?_, ?_, ?_, ?_, fun _ => rfl, ?_, ?_, ?_, ?_, ?_, ?_, ?_, ?_, fun h0 => HV.out.g (getD_df (by decide) h0), ?_, HV.out.c, HV.out.be, fun h => getD_up hun (HV.out.q (getD_dn (by decide) h)), fun h => getD_up hun (HV.out.qa (getD_dn (by decide) h)), fun h => getD_up hun (HV.out.qb (getD_dn (by decide) h))⟩⟩
     all_goals exact Um (by assumption)
    ·simp at ho
     subst ho
     have h7x : L.getD 7 false = true := hall { on := 7, ground := Ground.data } (by simp) (by decide)
     have H7 := hI h7x
     clear hall hi h7x
     have e0 := HV.out.k7 H7.out
     subst e0
     obtain ⟨c0, c1, c2, c3, c4⟩ := HV.out.c
     refine wpOp_hid rfl fun K' HK => ?_
     go_simp
     cases HV.out
     refine HK.out _ _ ⟨by simp [HJ.out.sz], ⟨_, _, _, _, _, _, _, _, _, _, _, _, _, _, _, _, rfl, ?_, ?_, ?_, ?_, ?_, ?_, ?_, ?_, fun _ => rfl, ?_, ?_, ?_, ?_, ?_, ?_, ?_, fun h0 => HV.out.g (getD_df (by decide) h0), ?_, HV.out.c, HV.out.be, fun h => getD_up hun (HV.out.q (getD_dn (by decide) h)), fun h => getD_up hun (HV.out.qa (getD_dn (by decide) h)), fun h => getD_up hun (HV.out.qb (getD_dn (by decide) h))⟩⟩
     all_goals exact Um (by assumption)
    ·simp at ho
     subst ho
     have h6x : L.getD 6 false = true := hall { on := 6, ground := Ground.data } (by simp) (by decide)
     have h8x : L.getD 8 false = true := hall { on := 8, ground := Ground.data } (by simp) (by decide)
     have H6 := hI h6x
     have H8 := hI h8x
     clear hall hi h6x h8x
     have e0 := HV.out.k6 H6.out
     subst e0
     have e1 := HV.out.k8 H8.out
     subst e1
     have h16 : L.getD 16 false = false := (off_or_on L 16).resolve_right (fun h => not_on hoff (HV.out.qa (HV.out.q h)))
     have HG := hI (HV.out.g h16)
     refine wpOp_hid rfl fun K' HK => ?_
     go_simp
     refine (HA1.out _ (HT.out.below HG.out.be)).mono ?_
     rintro e wn ⟨rfl, bn⟩
     have hg := HG.out.below bn
     cases HV.out
     refine HK.out _ _ ⟨by simp [HJ.out.sz], ⟨_, _, _, _, _, _, _, _, _, _, _, _, _, _, _, _, rfl, ?_, ?_, ?_, ?_, ?_, ?_, ?_, ?_, ?_, fun _ => rfl, ?_, ?_, ?_, ?_, ?_, ?_, fun _ => hg, fun h => (not_on h16 (getD_dn (by decide) h)).elim, hg.cells, hg.be, fun h => getD_up hun (HV.out.q (getD_dn (by decide) h)), fun _ => getD_set_same hun, fun h => getD_up hun (HV.out.qb (getD_dn (by decide) h))⟩⟩
     all_goals exact Um (by assumption)
    ·simp at ho
     subst ho
     clear hall hi
     refine wpOp_hid rfl fun K' HK => ?_
     go_simp
     cases HV.out
     refine HK.out _ _ ⟨by simp [HJ.out.sz], ⟨_, _, _, _, _, _, _, _, _, _, _, _, _, _, _, _, rfl, ?_, ?_, ?_, ?_, ?_, ?_, ?_, ?_, ?_, ?_, fun _ => rfl, ?_, ?_, ?_, ?_, ?_, fun h0 => HV.out.g (getD_df (by decide) h0), ?_, HV.out.c, HV.out.be, fun h => getD_up hun (HV.out.q (getD_dn (by decide) h)), fun h => getD_up hun (HV.out.qa (getD_dn (by decide) h)), fun h => getD_up hun (HV.out.qb (getD_dn (by decide) h))⟩⟩
     all_goals exact Um (by assumption)
    ·simp at ho
     subst ho
     have h10x : L.getD 10 false = true := hall { on := 10, ground := Ground.data } (by simp) (by decide)
     have H10 := hI h10x
     clear hall hi h10x
     have e0 := HV.out.k10 H10.out
     subst e0
     obtain ⟨c0, c1, c2, c3, c4⟩ := HV.out.c
     refine wpOp_hid rfl fun K' HK => ?_
     go_simp
     cases HV.out
     refine HK.out _ _ ⟨by simp [HJ.out.sz], ⟨_, _, _, _, _, _, _, _, _, _, _, _, _, _, _, _, rfl, ?_, ?_, ?_, ?_, ?_, ?_, ?_, ?_, ?_, ?_, ?_, fun _ => rfl, ?_, ?_, ?_, ?_, fun h0 => HV.out.g (getD_df (by decide) h0), ?_, HV.out.c, HV.out.be, fun h => getD_up hun (HV.out.q (getD_dn (by decide) h)), fun h => getD_up hun (HV.out.qa (getD_dn (by decide) h)), fun h => getD_up hun (HV.out.qb (getD_dn (by decide) h))⟩⟩
     all_goals exact Um (by assumption)
    ·simp at ho
     subst ho
     clear hall hi
     refine wpOp_hid rfl fun K' HK => ?_
     go_simp
     cases HV.out
     refine HK.out _ _ ⟨by simp [HJ.out.sz], ⟨_, _, _, _, _, _, _, _, _, _, _, _, _, _, _, _, rfl, ?_, ?_, ?_, ?_, ?_, ?_, ?_, ?_, ?_, ?_, ?_, ?_, fun _ => rfl, ?_, ?_, ?_, fun h0 => HV.out.g (getD_df (by decide) h0), ?_, HV.out.c, HV.out.be, fun h => getD_up hun (HV.out.q (getD_dn (by decide) h)), fun h => getD_up hun (HV.out.qa (getD_dn (by decide) h)), fun h => getD_up hun (HV.out.qb (getD_dn (by decide) h))⟩⟩
     all_goals exact Um (by assumption)
    ·simp at ho
     subst ho
     have h12x : L.getD 12 false = true := hall { on := 12, ground := Ground.data } (by simp) (by decide)
     have H12 := hI h12x
     clear hall hi h12x
     have e0 := HV.out.k12 H12.out
     subst e0
     obtain ⟨c0, c1, c2, c3, c4⟩ := HV.out.c
     refine wpOp_hid rfl fun K' HK => ?_
     go_simp
     cases HV.out
     refine HK.out _ _ ⟨by simp [HJ.out.sz], ⟨_, _, _, _, _, _, _, _, _, _, _, _, _, _, _, _, rfl, ?_, ?_, ?_, ?_, ?_, ?_, ?_, ?_, ?_, ?_, ?_, ?_, ?_, fun _ => rfl, ?_, ?_, fun h0 => HV.out.g (getD_df (by decide) h0), ?_, HV.out.c, HV.out.be, fun h => getD_up hun (HV.out.q (getD_dn (by decide) h)), fun h => getD_up hun (HV.out.qa (getD_dn (by decide) h)), fun h => getD_up hun (HV.out.qb (getD_dn (by decide) h))⟩⟩
     all_goals exact Um (by assumption)
    ·simp at ho
     subst ho
     have h11x : L.getD 11 false = true := hall { on := 11, ground := Ground.data } (by simp) (by decide)
     have h13x : L.getD 13 false = true := hall { on := 13, ground := Ground.data } (by simp) (by decide)
     have H11 := hI h11x
     have H13 := hI h13x
     clear hall hi h11x h13x
     have e0 := HV.out.k11 H11.out
     subst e0
     have e1 := HV.out.k13 H13.out
     subst e1
     have h16 : L.getD 16 false = false := (off_or_on L 16).resolve_right (fun h => not_on hoff (HV.out.qb (HV.out.q h)))
     have HG := hI (HV.out.g h16)
     refine wpOp_hid rfl fun K' HK => ?_
     go_simp
     refine (HA2.out _ (HT.out.below HG.out.be)).mono ?_
     rintro e wn ⟨rfl, bn⟩
     have hg := HG.out.below bn
     cases HV.out
     refine HK.out _ _ ⟨by simp [HJ.out.sz], ⟨_, _, _, _, _, _, _, _, _, _, _, _, _, _, _, _, rfl, ?_, ?_, ?_, ?_, ?_, ?_, ?_, ?_, ?_, ?_, ?_, ?_, ?_, ?_, fun _ => rfl, ?_, fun _ => hg, fun h => (not_on h16 (getD_dn (by decide) h)).elim, hg.cells, hg.be, fun h => getD_up hun (HV.out.q (getD_dn (by decide) h)), fun h => getD_up hun (HV.out.qa (getD_dn (by decide) h)), fun _ => getD_set_same hun⟩⟩
     all_goals exact Um (by assumption)
    ·simp at ho
     subst ho
     have h4x : L.getD 4 false = true := hall { on := 4, ground := Ground.data } (by simp) (by decide)
     have h9x : L.getD 9 false = true := hall { on := 9, ground := Ground.data } (by simp) (by decide)
     have h14x : L.getD 14 false = true := hall { on := 14, ground := Ground.data } (by simp) (by decide)
     have H4 := hI h4x
     have H9 := hI h9x
     have H14 := hI h14x
     clear hall hi h4x h9x h14x
     have e0 := HV.out.k4 H4.out
     subst e0
     have e1 := HV.out.k9 H9.out
     subst e1
     have e2 := HV.out.k14 H14.out
     subst e2
     refine wpOp_hid rfl fun K' HK => ?_
     go_simp
     cases HV.out
     refine HK.out _ _ ⟨by simp [HJ.out.sz], ⟨_, _, _, _, _, _, _, _, _, _, _, _, _, _, _, _, rfl, ?_, ?_, ?_, ?_, ?_, ?_, ?_, ?_, ?_, ?_, ?_, ?_, ?_, ?_, ?_, fun _ => rfl, fun h0 => HV.out.g (getD_df (by decide) h0), ?_, HV.out.c, HV.out.be, fun h => getD_up hun (HV.out.q (getD_dn (by decide) h)), fun _ => getD_up hun H9.out, fun _ => getD_up hun H14.out⟩⟩
     all_goals exact Um (by assumption)
    ·simp at ho
     subst ho
     have h0x : L.getD 0 false = true := hall { on := 0, ground := Ground.data } (by simp) (by decide)
     have h2x : L.getD 2 false = true := hall { on := 2, ground := Ground.data } (by simp) (by decide)
     have h15x : L.getD 15 false = true := hall { on := 15, ground := Ground.data } (by simp) (by decide)
     have H0 := hI h0x
     have H2 := hI h2x
     have H15 := hI h15x
     clear hall hi h0x h2x h15x
     have e0 := HV.out.k0 H0.out
     subst e0
     have e1 := HV.out.k2 H2.out
     subst e1
     have e2 := HV.out.k15 H15.out
     subst e2
     have HG := hI (HV.out.g hoff)
     obtain ⟨w7, hup, hP⟩ := HG.out.put HNE.out HRM.out
     have HP := hI hP
     clear hP
     refine wpOp_hid rfl fun K' HK => ?_
     go_simp
     cases HV.out
     refine HK.out _ _ ⟨by simp [HJ.out.sz], ⟨_, _, _, _, _, _, _, _, _, _, _, _, _, _, _, _, rfl, ?_, ?_, ?_, ?_, ?_, ?_, ?_, ?_, ?_, ?_, ?_, ?_, ?_, ?_, ?_, ?_, fun h => (not_on h (getD_set_same hun)).elim, fun _ => HP.out, HP.out.cells, HP.out.be, fun _ => getD_up hun H15.out, fun h => getD_up hun (HV.out.qa (getD_dn (by decide) h)), fun h => getD_up hun (HV.out.qb (getD_dn (by decide) h))⟩⟩
     all_goals exact Um (by assumption)
  ·have hcx : decide ((k : Int) < (ls.length : Int)) = false := by simp; omega
   have hkk : k = ls.length := by omega
   subst hkk
   rw [List.take_length] at HD
   go_wp2_with fail
   refine (HK.out _ _).mono ?_
   rintro e w1 ⟨rfl, rfl⟩
   go_wp2_with fail
   refine (HS.out wr w.heap.size ls.length DD HO.out (Nat.le_trans HO.out.size_le (by unfold maxLen; omega)) (by have := HO.out.size_le; omega)).mono ?_
   rintro e w3 ⟨v, ss, rfl, hperm, hrow, hnil, hb3⟩
   have hn := HD.out.names HO.out hperm
   have hlss : ss.length = (names ls).length := by rw [← hn, List.length_mergeSort]
   rw [show (ss.mergeSort fun x y => decide (x ≤ y)) = names ls from hn, hlss] at hrow
   clear hn hlss hnil hperm
   obtain ⟨AN, cN, rfl, hrn⟩ := RdNm.of_own hrow
   have HRN := hI hrn
   have b1 : Below wr.heap.size wr (wr.alloc (.cells #[.map (some w.heap.size)] 134)) := (Below.refl _ wr).alloc (Nat.le_refl _) _
   have HO3 := hI (ownsMapP_below (ownsMapP_below HO.out b1) hb3)
   have HB3 := hI ((HB.out.trans (b1.mono HB.out.size)).trans (hb3.mono (HB.out.trans (b1.mono HB.out.size)).size))
   have HNL : Hid ((names ls).length ≤ 1000000) := Nat.le_trans (names_len ls) hlen
   clear hrow hrn b1 hb3 HO HB HS HK hnw hcx
   obtain ⟨N, hN⟩ : ∃ N, (names ls).length = N := ⟨_, rfl⟩
   rw [hN]
   have HN := hI hN
   clear hN
   go_wp2_with fail
   go_loopw [7, 42] (fun v7 v42 wr => ∃ k : Nat, v42 = .int .i64 (k : Int) ∧ k ≤ N ∧ (∃ A' c', v7 = .slice A' k c') ∧ wr.ownsRow w3.heap.size 80 3 v7 k (flatP ((posL ls).take k)) ∧ Below w3.heap.size w3 wr) (fun _ v _ => N - (intOf v).toNat)
   case atStart => exact ⟨0, rfl, by omega, ⟨_, _, rfl⟩, World.ownsRow_nil _ _ _ _, Below.refl _ _⟩
   case round =>
    obtain ⟨k, rfl, hk, ⟨A', c', rfl⟩, hrow, hb⟩ := hrel
    have HROW := hI hrow
    have HB := hI hb
    clear hrow hb
    rcases Nat.lt_or_ge k N with hlt | hge
    ·obtain ⟨b, hget⟩ : ∃ b, (names ls)[k]? = some b := ⟨_, List.getElem?_eq_getElem (by rw [HN.out]; exact hlt)⟩
     have hcx : decide ((k : Int) < (N : Int)) = true := by simp; omega
     have hi := (mem_names b ls).1 (List.mem_of_getElem? hget)
     have hzi : (bs b).size ≤ maxLen := by obtain ⟨y, _, e⟩ := hi; rw [← e]; have := y.2.2.1; unfold maxLen; omega
     have hlk := look_has (ownsMapP_below HO3.out HB.out) HD.out hzi hi
     have hpg := posL_get hget
     obtain ⟨ad, rfl, had, hcn⟩ := (HRN.out.below HB.out) k b hget
     generalize posOf ls (bs b) = p at hlk hpg
     have HTK : Hid (flatP ((posL ls).take (k + 1)) = flatP ((posL ls).take k) ++ [.string p.inst, .string p.qty, .string p.cost]) := by unfold Hid; rw [take_snoc hpg, flatP_snoc]; rfl
     unfold Pos.enc Pos.cells at hlk
     have HSS : Hid (∀ j u, [Value.string p.inst, .string p.qty, .string p.cost][j]? = some u → (wr.alloc (.cells #[.string p.inst, .string p.qty, .string p.cost] 80)).cell? ((⟨wr.heap.size, 0, none⟩ : Addr).add j) = some u) := cells_new wr #[.string p.inst, .string p.qty, .string p.cost] 80
     obtain ⟨i0, hi0, hz0, hz1, hz2⟩ := info_parts Tryz.infoPos
     have hkl : k ≤ 1000000 := by have := HNL.out; have := HN.out; omega
     have hbs := HB.out.size
     clear hi hzi hpg hget had
     go_wp2_with (at_builtin; refine wpList_append_own _ rfl _ _ 77 rfl w3.heap.size 80 i0 (.agg #[.string ⟨#[]⟩, .string ⟨#[]⟩, .string ⟨#[]⟩]) 3 48 Tryz.underlying77 hi0 hz0 hz1 hz2 rfl (by decide) _ _ _ rfl (HROW.out.alloc _) ⟨wr.heap.size, 0, none⟩ 1 1 [.string p.inst, .string p.qty, .string p.cost] rfl rfl HSS.out (by simp [Value.oneCell']) (by unfold maxLen; omega) (by omega) (by simp; omega) ?_; intro v4 w4 hown4 hgrow4 _; obtain ⟨g4, c4, rfl⟩ := ownsRow_succ hown4; have HO4 := hI hown4; have HG4 := hI hgrow4; clear hown4 hgrow4)
     go_roundw
     case rel =>
      have hlo := HROW.out.lt
      refine ⟨k + 1, by go_num, by omega, ⟨_, _, rfl⟩, by rw [HTK.out]; exact HO4.out, (HB.out.alloc HB.out.size _).grown HG4.out (by simp; omega) (fun k hk => by have := hlo k hk; omega)⟩
     case measure => simp [intOf]; omega
    ·have hcx : decide ((k : Int) < (N : Int)) = false := by simp; omega
     have hkk : k = N := by omega
     subst hkk
     have hrow := HROW.out
     rw [List.take_of_length_le (by rw [posL_len, HN.out]; exact Nat.le_refl _)] at hrow
     have e : k = (posL ls).length := by rw [posL_len, HN.out]
     have HPP : Hid (PosPost w (posL ls) (.returned (.slice A' k c')) wr) := by
      rw [e] at hrow ⊢
      obtain ⟨A2, c2, e2, q1, q2, q3⟩ := RdPos.of_own hrow
      injection e2 with e3 _ e5
      subst e3 e5
      exact ⟨_, _, rfl, q1, fun ad h => Nat.le_trans HB3.out.size (q2 ad h), q3, HB3.out.trans (HB.out.mono HB3.out.size)⟩
     clear hrow e
     go_wp2_with fail
     go_ret
     exact HPP.out
end Go.Proofs.YtdnmpgoigagjmaaGreatDoor
