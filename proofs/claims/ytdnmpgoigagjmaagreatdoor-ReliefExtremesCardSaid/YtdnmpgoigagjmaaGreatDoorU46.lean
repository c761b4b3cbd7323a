/-
  The exact cost of picks: plainly, and the walk of tranchelaw20.exact.
-/
import Derived.Test.YtdnmpgoigagjmaaGreatDoorU42
import Derived.Test.YtdnmpgoigagjmaaGreatDoorU22
import Derived.Test.YtdnmpgoigagjmaaGreatDoorU36
set_option linter.unusedVariables false
set_option linter.unusedSimpArgs false
set_option maxHeartbeats 16000000
set_option maxRecDepth 100000
namespace Go.Proofs.YtdnmpgoigagjmaaGreatDoor
open Go.RowKit Tr Go.Shelf
def trm (lz : List Lot) (p : Pk) : Rat := match lotOf lz p.lot with
 | some x => Rat.divInt (vl x.cost * vl p.qty) (vl x.qty)
 | none => 0
theorem trm_some {lz : List Lot} {p : Pk} {x : Lot} (h : lotOf lz p.lot = some x) : trm lz p = Rat.divInt (vl x.cost * vl p.qty) (vl x.qty) := by unfold trm; rw [h]
def exS (lz : List Lot) (ps : List Pk) : Rat := ps.foldl (fun a p => a + trm lz p) 0
theorem exS_take {lz : List Lot} {ps : List Pk} {k : Nat} {p : Pk} (h : ps[k]? = some p) : exS lz (ps.take (k + 1)) = exS lz (ps.take k) + trm lz p := by
 unfold exS; rw [take_snoc h, List.foldl_append]; rfl
theorem foldl_trm (lz : List Lot) : ∀ (ps : List Pk) (a : Rat), ps.foldl (fun a p => a + trm lz p) a = a + exS lz ps
 | [], a => by show a = a + 0; grind
 | p :: r, a => by
   have h1 := foldl_trm lz r (a + trm lz p)
   have h2 := foldl_trm lz r (0 + trm lz p)
   have h3 : exS lz (p :: r) = 0 + trm lz p + exS lz r := h2
   rw [List.foldl_cons, h1, h3]; grind
theorem exS_cons (lz : List Lot) (p : Pk) (r : List Pk) : exS lz (p :: r) = trm lz p + exS lz r := by
 have h2 := foldl_trm lz r (0 + trm lz p)
 have h3 : exS lz (p :: r) = 0 + trm lz p + exS lz r := h2
 rw [h3]; grind
theorem exS_wA {lz : List Lot} (hid : (lz.map Lot.id).Nodup) (s : ByteArray) : ∀ out : Am, (∀ a ∈ out, ∃ x ∈ ownB lz s, x.id = a.1) → exS lz (pksOf out) = wA (uId (ownB lz s) fun x => vl x.cost) out
 | [], _ => rfl
 | a :: r, h => by
   have ih := exS_wA hid s r fun b hb => h b (List.mem_cons_of_mem _ hb)
   obtain ⟨x, hx, e⟩ := h a (List.mem_cons_self ..)
   have hl : lotOf lz a.1 = some x := by rw [← e]; exact lotOf_of_mem hid (ownB_mem.1 hx).1
   have e1 : trm lz ⟨a.1, I a.2⟩ = uId (ownB lz s) (fun x => vl x.cost) a.1 * (a.2 : Rat) := by
    rw [trm_some (p := ⟨a.1, I a.2⟩) hl, vl_I, ← e, uId_mem _ (ownB_nd s hid) hx]
    unfold un
    rw [Rat.divInt_eq_div, Rat.intCast_mul, Rat.div_def, Rat.div_def]
    grind
   have e2 : exS lz (pksOf (a :: r)) = trm lz ⟨a.1, I a.2⟩ + exS lz (pksOf r) := exS_cons lz ⟨a.1, I a.2⟩ (pksOf r)
   rw [e2, ih, e1, wA]
theorem ChsOk.ex {lz : List Lot} {s q : ByteArray} {m : Int} {ps : List Pk} (h : ChsOk lz s q m ps) : exS lz (chsR lz s q m ps) = wA (uId (ownB lz s) fun x => vl x.cost) (chsSt (ownB lz s) m (vl q) ps).1 :=
 exS_wA ((lall_zero lz).1 h.all).nd s _ h.inv.sub
structure ExP (lz : List Lot) (p : Pk) (x : Lot) : Prop where
 lot : lotOf lz p.lot = some x
 ne : vl x.qty ≠ 0
 q : x.qty.size ≤ 20
 c : x.cost.size ≤ 20
 p : p.qty.size ≤ 20
theorem ExP.bd {lz : List Lot} {p : Pk} {x : Lot} (h : ExP lz p x) : BdQ (trm lz p) 40 := by
 rw [trm_some h.lot]
 have h1 : (vl x.cost).natAbs < 10 ^ 20 := Nat.lt_of_lt_of_le (vl_lt x.cost) (pow_mono h.c)
 have h2 : (vl p.qty).natAbs < 10 ^ 20 := Nat.lt_of_lt_of_le (vl_lt p.qty) (pow_mono h.p)
 have h3 : (vl x.qty).natAbs < 10 ^ 40 := Nat.lt_of_lt_of_le (vl_lt x.qty) (pow_mono (Nat.le_trans h.q (by omega)))
 refine BdQ.div ?_ h3 h.ne
 rw [Int.natAbs_mul, show (10 : Nat) ^ 40 = 10 ^ 20 * 10 ^ 20 from by rw [← Nat.pow_add]]
 exact Nat.mul_lt_mul'' h1 h2
theorem exS_bd (lz : List Lot) : ∀ ps : List Pk, (∀ p ∈ ps, ∃ x, ExP lz p x) → BdQ (exS lz ps) (41 * ps.length + 1)
 | [], _ => by
   show BdQ 0 1
   exact ⟨by decide, by decide⟩
 | p :: r, h => by
   obtain ⟨x, hx⟩ := h p (List.mem_cons_self ..)
   have ih := exS_bd lz r fun y hy => h y (List.mem_cons_of_mem _ hy)
   rw [exS_cons, List.length_cons]
   exact (hx.bd.add ih).mono (by omega)
def FrBox (W : World) (B : Nat) (q : Rat) : Prop := W.heap[B]? = some (.cells #[.string (I q.num), .string (dn q)] 55 (0, 0))
theorem FrBox.below {W W' : World} {B n : Nat} {q : Rat} (h : FrBox W B q) (hb : Below n W W') (hB : B < n) : FrBox W' B q := (hb.block B hB).trans h
theorem FrBox.lt {W : World} {B : Nat} {q : Rat} (h : FrBox W B q) : B < W.heap.size := (Array.getElem?_eq_some_iff.1 h).1
theorem efar2 {W : World} {B k : Nat} (hk : k ≠ B) (x y : Value) : ((W.setCell ⟨B, 0, none⟩ x).setCell ⟨B, 1, none⟩ y).heap[k]? = W.heap[k]? := by
 rw [Below.heap_setCell _ _ _ _ (by simpa using hk), Below.heap_setCell _ _ _ _ (by simpa using hk)]
theorem FrBox.set {W : World} {B : Nat} {q : Rat} (h : FrBox W B q) (r : Rat) : FrBox ((W.setCell ⟨B, 0, none⟩ (.string (I r.num))).setCell ⟨B, 1, none⟩ (.string (dn r))) B r := set2 h _ _
theorem FrBox.far {W : World} {B k : Nat} {q : Rat} (h : FrBox W k q) (hk : k ≠ B) (x y : Value) : FrBox ((W.setCell ⟨B, 0, none⟩ x).setCell ⟨B, 1, none⟩ y) k q := (efar2 hk x y).trans h
theorem Below.set2' {n : Nat} {w W : World} {B : Nat} (h : Below n w W) (hB : n ≤ B) (x y : Value) : Below n w ((W.setCell ⟨B, 0, none⟩ x).setCell ⟨B, 1, none⟩ y) := (h.setCell (p := ⟨B, 0, none⟩) hB x).setCell (p := ⟨B, 1, none⟩) hB y
structure EXV (wS : World) (p : Pk) (x : Lot) (Bp : Nat) (ad : Addr) (N c i : Nat) (q : Rat) (Bo : Nat) (L : Array Bool) (W : World) (s11 s12 s39 s40 s41 s42 s43 s44 s45 s46 s47 s48 s49 s50 s51 s52 s53 s54 s55 : Value) : Prop where
 k0 : L.getD 0 false = true → s40 = .slice (some ad) N c
 k1 : L.getD 1 false = true → s41 = .int .i64 (i : Int)
 k2 : L.getD 2 false = true → s42 = .pointer (some (ad.add (i * 7)))
 k3 : L.getD 3 false = true → s43 = .pointer (some ⟨(ad.add (i * 7)).block, (ad.add (i * 7)).off + 5, none⟩)
 k4 : L.getD 4 false = true → s44 = .string x.cost
 k5 : L.getD 5 false = true → s45 = .pointer (some ⟨Bp, 1, none⟩)
 k6 : L.getD 6 false = true → s46 = .string p.qty
 k7 : L.getD 7 false = true → s47 = .string (I (vl x.cost * vl p.qty))
 k8 : L.getD 8 false = true → s48 = .slice (some ad) N c
 k9 : L.getD 9 false = true → s49 = .int .i64 (i : Int)
 k10 : L.getD 10 false = true → s50 = .pointer (some (ad.add (i * 7)))
 k11 : L.getD 11 false = true → s51 = .pointer (some ⟨(ad.add (i * 7)).block, (ad.add (i * 7)).off + 4, none⟩)
 k12 : L.getD 12 false = true → s52 = .string x.qty
 k13 : L.getD 13 false = true → s53 = .tuple #[.agg #[.string (I q.num), .string (dn q)], .int .i64 0]
 k14 : L.getD 14 false = true → s39 = .tuple #[.agg #[.string (I q.num), .string (dn q)], .int .i64 0]
 k15 : L.getD 15 false = true → s54 = .agg #[.string (I q.num), .string (dn q)]
 k16 : L.getD 16 false = true → s55 = .int .i64 0
 k17 : L.getD 17 false = true → s11 = .pointer (some ⟨Bo, 0, none⟩)
 k19 : L.getD 19 false = true → s12 = .int .i64 0
 g : Below wS.heap.size wS W
 t17 : L.getD 17 false = true → L.getD 18 false = false → FrBox W Bo 0
 t18 : L.getD 18 false = true → FrBox W Bo q
 n17 : L.getD 17 false = true → wS.heap.size ≤ Bo
 q18 : L.getD 18 false = true → L.getD 17 false = true
structure EXJ (wS : World) (p : Pk) (x : Lot) (Bp : Nat) (ad : Addr) (N c i : Nat) (q : Rat) (x1 x2 x3 x4 x5 x6 x7 x10 x13 x14 x15 x16 x17 x18 x19 x20 x21 x22 x23 x24 x25 x26 x27 x28 x29 x30 x31 x32 x33 x34 x35 x36 x37 x38 x56 x57 x58 x59 x60 x61 x62 x63 : Value) (L : Array Bool) (a : Act) (W : World) : Prop where
 sz : L.size = 20
 fr : ∃ Bo : Nat, ∃ s11 s12 s39 s40 s41 s42 s43 s44 s45 s46 s47 s48 s49 s50 s51 s52 s53 s54 s55 : Value, a = { tmps := #[.slice (some ad) N c, x1, x2, x3, x4, x5, x6, x7, .pointer (some ⟨Bp, 0, none⟩), .int .i64 (i : Int), x10, s11, s12, x13, x14, x15, x16, x17, x18, x19, x20, x21, x22, x23, x24, x25, x26, x27, x28, x29, x30, x31, x32, x33, x34, x35, x36, x37, x38, s39, s40, s41, s42, s43, s44, s45, s46, s47, s48, s49, s50, s51, s52, s53, s54, s55, x56, x57, x58, x59, x60, x61, x62, x63], defers := [] } ∧ EXV wS p x Bp ad N c i q Bo L W s11 s12 s39 s40 s41 s42 s43 s44 s45 s46 s47 s48 s49 s50 s51 s52 s53 s54 s55
theorem exact20_any (A : Option Addr) (ls : List Lot) (c : Nat) (hN : ls.length ≤ 1000000) (Ap : Option Addr) (ps : List Pk) (cp : Nat) (hM : ps.length ≤ 1100) (hok : ∀ p ∈ ps, ∃ x, ExP ls p x) (w : World)
 (hR : RdL w A ls) (hK : RdK w.heap.size w Ap ps) (ht : Tabs w) : Calls Tryz.prog 27 #[.slice A ls.length c, .slice Ap ps.length cp] w fun e w' => e = .returned (.tuple #[fenc (exS ls ps), .bool true]) ∧ Below w.heap.size w w' := by
 obtain ⟨W0, hW0', hB0, hz, k0, k1⟩ := box2 w (.cells #[.string ⟨#[]⟩, .string ⟨#[]⟩] 55) (.cells #[.string ⟨#[]⟩, .string ⟨#[]⟩] 55)
 have hW0 := hW0'.symm
 have HF0 : Hid (FrBox W0 w.heap.size 0) := k0
 have HF1 : Hid (FrBox W0 (w.heap.size + 1) 0) := k1
 have HB0 := hI hB0
 have HFI := hI (fun (id : ByteArray) W (hW : Below w.heap.size w W) => lFind_any w.heap.size A ls c id hN W ((hR.rdb').below hW) hW.size)
 have HT := hI ht
 have HRL := hI hR
 have HK := hI hK
 have HOK := hI hok
 obtain ⟨N, hNN⟩ : ∃ N, ls.length = N := ⟨_, rfl⟩
 obtain ⟨M, hMM⟩ : ∃ M, ps.length = M := ⟨_, rfl⟩
 have HNN := hI hNN
 have HMM := hI hMM
 rw [hNN] at HFI hN ⊢
 rw [hMM] at hM ⊢
 clear hW0' hB0 hz k0 k1 hR hK ht hok hNN hMM
 go_enter Tryz.func27, Tryz.ntmps27
 go_wp2_with fail
 try rw [hW0]
 go_loopw [15] (fun v wr => ∃ k : Nat, v = .int .i64 (k : Int) ∧ k ≤ M ∧ Below w.heap.size w wr ∧ FrBox wr w.heap.size 0 ∧ FrBox wr (w.heap.size + 1) (exS ls (ps.take k))) (fun v _ => M - (intOf v).toNat)
 case atStart => exact ⟨0, rfl, Nat.zero_le _, HB0.out, HF0.out, HF1.out⟩
 case round =>
  clear HB0 HF0 HF1 hW0
  obtain ⟨k, rfl, hk, hb, hf0, hf1⟩ := hrel
  have HB := hI hb
  have HF0 := hI hf0
  clear hb hf0
  rcases Nat.lt_or_ge k M with hlt | hge
  ·obtain ⟨p, hp⟩ : ∃ p, ps[k]? = some p := ⟨_, List.getElem?_eq_getElem (by rw [HMM.out]; exact hlt)⟩
   obtain ⟨ad2, rfl, had, hcell⟩ := HK.out (by intro e; rw [e] at hp; cases hp)
   have hcx : decide ((k : Int) < (M : Int)) = true := by simp; omega
   obtain ⟨c0, c1⟩ := (hcell k p hp).below HB.out (by rw [add_block]; exact had)
   have HTK := hI (exS_take (lz := ls) hp)
   obtain ⟨x, hx⟩ := HOK.out p (List.mem_of_getElem? hp)
   have hbd := exS_bd ls (ps.take k) fun y hy => HOK.out y (List.mem_of_mem_take hy)
   have hbl : (ps.take k).length ≤ 1100 := by rw [List.length_take]; omega
   have HBD := hI (hbd.mono (show _ ≤ 50000 by omega))
   generalize exS ls (ps.take k) = acc at hf1 HTK HBD
   have HF1 := hI hf1
   have hts := trm_some hx.lot
   have HTB := hI hx.bd
   generalize trm ls p = tr at HTK hts HTB
   have HTS := hI hts
   obtain ⟨g1, g2⟩ := findR_lotOf_some hx.lot
   have HXO := hI hx
   obtain ⟨W5, hW5⟩ : ∃ W5, wr.alloc (.cells p.cells 43) = W5 := ⟨_, rfl⟩
   have b5 : Below wr.heap.size wr W5 := by rw [← hW5]; exact (Below.refl _ wr).alloc (Nat.le_refl _) _
   have k5 : PkBox W5 wr.heap.size p := by rw [← hW5]; exact heap_alloc_new wr _
   have HB5 := hI (HB.out.trans (b5.mono HB.out.size))
   have HK5 := hI k5
   have HS5 : Hid (wr.heap.size < W5.heap.size) := by
    have := (Array.getElem?_eq_some_iff.1 k5).1
    exact this
   have HF05 := hI (HF0.out.below b5 HF0.out.lt)
   have HF15 := hI (HF1.out.below b5 HF1.out.lt)
   have d0 := Lib.cell_of_heap k5 0
   simp [Pk.cells] at d0
   have hfi := HFI.out p.lot W5 HB5.out
   generalize hfr : findR ls p.lot 0 = fr at g1 g2 hfi
   obtain ⟨i, is⟩ := fr
   obtain rfl : is = true := g1
   have HFC := hI hfi
   have hiN : i < N := by rw [← HNN.out]; exact (List.getElem?_eq_some_iff.1 g2).1
   have HG2 := hI g2
   clear b5 k5 hcell hp hbd hbl hf1 hts g2 hx hfr hfi HF0 HF1
   unfold Pk.cells at hW5
   go_wp2_with fail
   refine HFC.out.mono ?_
   rintro e w6 ⟨rfl, b6⟩
   have HB6 := hI (HB5.out.trans (b6.mono HB5.out.size))
   have HK6 := hI (HK5.out.below b6)
   have HF06 := hI (HF05.out.below b6 HF05.out.lt)
   have HF16 := hI (HF15.out.below b6 HF15.out.lt)
   have HS6 : Hid (wr.heap.size < w6.heap.size) := Nat.lt_of_lt_of_le HS5.out b6.size
   clear b6 HFC d0 c0 c1 HB5 HK5 HF05 HF15 HS5
   obtain ⟨ad, rfl, had1, hcell1⟩ := HRL.out (by intro e; have := HG2.out; rw [e] at this; cases this)
   have hlx : LotAt w6.drew (ad.add (i * 7)) x := (hcell1 i x HG2.out).below (HB6.out.trans ((Below.refl w6.heap.size w6).drew.mono HB6.out.size)) (by rw [add_block]; exact had1)
   have HLX : Hid (LotAt w6.drew (ad.add (i * 7)) x ∧ (ad.add (i * 7)).block < w6.drew.heap.size) := ⟨hlx, by rw [add_block]; exact Nat.lt_of_lt_of_le had1 HB6.out.size⟩
   have t1 : decide ((i : Int) < 0) = false := decide_eq_false (by omega)
   have t2 : decide ((i : Int) ≥ (N : Int)) = false := decide_eq_false (by omega)
   have t3 : decide ((N : Int) ≤ (i : Int)) = false := t2
   have t4 : decide (N ≤ i) = false := decide_eq_false (by omega)
   have HIN := hI hiN
   have HPB : Hid (PkBox w6.drew wr.heap.size p) := HK6.out
   have HMUL := hI (fun W (hW : Below w6.heap.size w6.drew W) => Mul_any x.cost p.qty W (by have := HXO.out.c; omega) (by have := HXO.out.p; omega) (HT.out.below (HB6.out.trans ((Below.refl _ _).drew.trans hW |>.mono HB6.out.size))))
   have HNEW := hI (fun W (hW : Below w6.heap.size w6.drew W) => fNew_any (I (vl x.cost * vl p.qty)) x.qty W (Nat.le_trans (mul_size (k := 20) (m := 20) (by have := HXO.out.c; omega) (by have := HXO.out.p; omega)) (by omega)) (by have := HXO.out.q; omega) HXO.out.ne (HT.out.below (HB6.out.trans ((Below.refl _ _).drew.trans hW |>.mono HB6.out.size))))
   rw [vl_I, ← HTS.out] at HNEW
   unfold fenc at HNEW
   clear hlx had1 hcell1 hiN HFI
   go_upto_region 8 with fail
   have hgS : Below w6.drew.heap.size w6.drew w6.drew := Below.refl _ _
   clear t1 t2 t3 t4 hcx
   have mixed : Tryz.prog.follows .mixedOrders = true := by kernel_rfl
   refine wp_region_any mixed (wpAny_inv (EXJ w6.drew p x wr.heap.size ad N c i tr _ _ _ _ _ _ _ _ _ _ _ _ _ _ _ _ _ _ _ _ _ _ _ _ _ _ _ _ _ _ _ _ _ _ _ _ _ _ _ _ _ _) ?stEX ?dnEX _ _ _ _ ⟨by simp, ⟨0, _, _, _, _, _, _, _, _, _, _, _, _, _, _, _, _, _, _, _, rfl, fun h => by simp at h, fun h => by simp at h, fun h => by simp at h, fun h => by simp at h, fun h => by simp at h, fun h => by simp at h, fun h => by simp at h, fun h => by simp at h, fun h => by simp at h, fun h => by simp at h, fun h => by simp at h, fun h => by simp at h, fun h => by simp at h, fun h => by simp at h, fun h => by simp at h, fun h => by simp at h, fun h => by simp at h, fun h => by simp at h, fun h => by simp at h, hgS, fun h => by simp at h, fun h => by simp at h, fun h => by simp at h, fun h => by simp at h⟩⟩ (by decide))
   case dnEX =>
    intro L a w' hj hr
    have all := all_on hr hj.sz (by kernel_rfl)
    obtain ⟨Bo, s11, s12, s39, s40, s41, s42, s43, s44, s45, s46, s47, s48, s49, s50, s51, s52, s53, s54, s55, rfl, hv⟩ := hj.fr
    have e19 := hv.k19 (all 19 (by omega)); have e17 := hv.k17 (all 17 (by omega))
    subst e19 e17
    have hgw := hv.g
    have hfo := hv.t18 (all 18 (by omega))
    have hno := hv.n17 (all 17 (by omega))
    have HB7 := hI (HB6.out.trans (((Below.refl _ _).drew.trans hgw).mono HB6.out.size))
    have HF07 := hI ((show FrBox w6.drew _ 0 from HF06.out).below hgw HF06.out.lt)
    have HF17 := hI ((show FrBox w6.drew _ acc from HF16.out).below hgw HF16.out.lt)
    have HFO := hI hfo
    clear all hv hj hr hgw hfo hno HF06 HF16 HMUL HNEW HLX HPB
    dsimp only
    have f1 := HF17.out
    have a0 := Lib.cell_of_heap f1 0
    have a1 := Lib.cell_of_heap f1 1
    have z0 := Lib.frozen_of_heap f1 0
    have z1 := Lib.frozen_of_heap f1 1
    have f2 := HFO.out
    have b0 := Lib.cell_of_heap f2 0
    have b1 := Lib.cell_of_heap f2 1
    simp at a0 a1 b0 b1
    clear f1 f2
    have HADD := hI (fun W (hW : Tabs W) => fAdd_any (I acc.num) (dn acc) (I tr.num) (dn tr) W (Nat.le_trans HBD.out.num (by omega)) (Nat.le_trans HBD.out.dn (by omega)) (Nat.le_trans HTB.out.num (by omega)) (Nat.le_trans HTB.out.dn (by omega)) hW)
    rw [fv_enc, fv_enc, ← HTK.out] at HADD
    unfold fenc at HADD
    go_wp2_with fail
    refine (HADD.out _ (HT.out.below HB7.out)).mono ?_
    rintro e w8 ⟨rfl, b8⟩
    have HB8 := hI (HB7.out.trans (b8.mono HB7.out.size))
    have HF08 := hI (HF07.out.below b8 HF07.out.lt)
    have hf1 := HF17.out.below b8 HF17.out.lt
    have HF18 := hI hf1
    have z0 := Lib.frozen_of_heap hf1 0
    have z1 := Lib.frozen_of_heap hf1 1
    have a0 := Lib.cell_of_heap hf1 0
    have a1 := Lib.cell_of_heap hf1 1
    simp at a0 a1
    clear b8 hf1 HADD HF07 HF17 HFO b0 b1
    generalize hex : exS ls (ps.take (k + 1)) = ex
    go_wp2_with fail
    go_roundw
    case rel => exact ⟨k + 1, by go_num, by omega, Below.set2' HB8.out (by omega) _ _, HF08.out.far (by omega) _ _, by rw [hex]; exact HF18.out.set ex⟩
    case measure => simp [intOf]; omega
   case stEX =>
    intro L a w' hj i hi
    obtain ⟨hun, o, ho, hall⟩ := mem_ready.1 hi
    have hoff := getD_off hun
    have hlt := (Array.getElem?_eq_some_iff.1 ho).1
    simp at hlt
    obtain ⟨Bo, s11, s12, s39, s40, s41, s42, s43, s44, s45, s46, s47, s48, s49, s50, s51, s52, s53, s54, s55, rfl, hv⟩ := hj.fr
    have HV := hI hv
    have HJ := hI hj
    clear hv hj
    rcases (show i = 0 ∨ i = 1 ∨ i = 2 ∨ i = 3 ∨ i = 4 ∨ i = 5 ∨ i = 6 ∨ i = 7 ∨ i = 8 ∨ i = 9 ∨ i = 10 ∨ i = 11 ∨ i = 12 ∨ i = 13 ∨ i = 14 ∨ i = 15 ∨ i = 16 ∨ i = 17 ∨ i = 18 ∨ i = 19 from by omega) with rfl | rfl | rfl | rfl | rfl | rfl | rfl | rfl | rfl | rfl | rfl | rfl | rfl | rfl | rfl | rfl | rfl | rfl | rfl | rfl
    ·simp at ho
     subst ho
     clear hall hi
     refine wpOp_hid rfl fun K' HK => ?_
     go_simp
     cases HV.out
     refine HK.out _ _ ⟨by simp [HJ.out.sz], ?_⟩
     iterate 20 apply Exists.intro
     refine ⟨rfl, ?_⟩
     constructor
     case k0 => exact fun _ => rfl
     case g => exact HV.out.g
     case t17 => exact fun h i => HV.out.t17 (Uz h) (Dz i)
     case q18 => exact fun h => getD_up hun (HV.out.q18 (Uz h))
     all_goals exact Um (by assumption)
    ·simp at ho
     subst ho
     clear hall hi
     refine wpOp_hid rfl fun K' HK => ?_
     go_simp
     cases HV.out
     refine HK.out _ _ ⟨by simp [HJ.out.sz], ?_⟩
     iterate 20 apply Exists.intro
     refine ⟨rfl, ?_⟩
     constructor
     case k1 => exact fun _ => rfl
     case g => exact HV.out.g
     case t17 => exact fun h i => HV.out.t17 (Uz h) (Dz i)
     case q18 => exact fun h => getD_up hun (HV.out.q18 (Uz h))
     all_goals exact Um (by assumption)
    ·simp at ho
     subst ho
     have H0 := Hq hall 0
     have H1 := Hq hall 1
     clear hall hi
     have e0 := HV.out.k0 H0.out
     subst e0
     have e1 := HV.out.k1 H1.out
     subst e1
     have hi := HIN.out
     refine wpOp_hid rfl fun K' HK => ?_
     go_simp
     cases HV.out
     refine HK.out _ _ ⟨by simp [HJ.out.sz], ?_⟩
     iterate 20 apply Exists.intro
     refine ⟨rfl, ?_⟩
     constructor
     case k2 => exact fun _ => rfl
     case g => exact HV.out.g
     case t17 => exact fun h i => HV.out.t17 (Uz h) (Dz i)
     case q18 => exact fun h => getD_up hun (HV.out.q18 (Uz h))
     all_goals exact Um (by assumption)
    ·simp at ho
     subst ho
     have H2 := Hq hall 2
     clear hall hi
     have e0 := HV.out.k2 H2.out
     subst e0
     refine wpOp_hid rfl fun K' HK => ?_
     go_simp
     cases HV.out
     refine HK.out _ _ ⟨by simp [HJ.out.sz], ?_⟩
     iterate 20 apply Exists.intro
     refine ⟨rfl, ?_⟩
     constructor
     case k3 => exact fun _ => rfl
     case g => exact HV.out.g
     case t17 => exact fun h i => HV.out.t17 (Uz h) (Dz i)
     case q18 => exact fun h => getD_up hun (HV.out.q18 (Uz h))
     all_goals exact Um (by assumption)
    ·simp at ho
     subst ho
     have H3 := Hq hall 3
     clear hall hi
     have e0 := HV.out.k3 H3.out
     subst e0
     obtain ⟨c0, c1, c2, c3, c4, c5, c6⟩ := HLX.out.1.below HV.out.g HLX.out.2
     refine wpOp_hid rfl fun K' HK => ?_
     go_simp
     cases HV.out
     refine HK.out _ _ ⟨by simp [HJ.out.sz], ?_⟩
     iterate 20 apply Exists.intro
     refine ⟨rfl, ?_⟩
     constructor
     case k4 => exact fun _ => rfl
     case g => exact HV.out.g
     case t17 => exact fun h i => HV.out.t17 (Uz h) (Dz i)
     case q18 => exact fun h => getD_up hun (HV.out.q18 (Uz h))
     all_goals exact Um (by assumption)
    ·simp at ho
     subst ho
     clear hall hi
     refine wpOp_hid rfl fun K' HK => ?_
     go_simp
     cases HV.out
     refine HK.out _ _ ⟨by simp [HJ.out.sz], ?_⟩
     iterate 20 apply Exists.intro
     refine ⟨rfl, ?_⟩
     constructor
     case k5 => exact fun _ => rfl
     case g => exact HV.out.g
     case t17 => exact fun h i => HV.out.t17 (Uz h) (Dz i)
     case q18 => exact fun h => getD_up hun (HV.out.q18 (Uz h))
     all_goals exact Um (by assumption)
    ·simp at ho
     subst ho
     have H5 := Hq hall 5
     clear hall hi
     have e0 := HV.out.k5 H5.out
     subst e0
     have hp := HPB.out.below HV.out.g
     have c1 := Lib.cell_of_heap hp 1
     simp [Pk.cells] at c1
     refine wpOp_hid rfl fun K' HK => ?_
     go_simp
     cases HV.out
     refine HK.out _ _ ⟨by simp [HJ.out.sz], ?_⟩
     iterate 20 apply Exists.intro
     refine ⟨rfl, ?_⟩
     constructor
     case k6 => exact fun _ => rfl
     case g => exact HV.out.g
     case t17 => exact fun h i => HV.out.t17 (Uz h) (Dz i)
     case q18 => exact fun h => getD_up hun (HV.out.q18 (Uz h))
     all_goals exact Um (by assumption)
    ·simp at ho
     subst ho
     have H4 := Hq hall 4
     have H6 := Hq hall 6
     clear hall hi
     have e0 := HV.out.k4 H4.out
     subst e0
     have e1 := HV.out.k6 H6.out
     subst e1
     refine wpOp_hid rfl fun K' HK => ?_
     go_simp
     refine (HMUL.out w' HV.out.g).mono ?_
     rintro e wn ⟨rfl, bn⟩
     cases HV.out
     refine HK.out _ _ ⟨by simp [HJ.out.sz], ?_⟩
     iterate 20 apply Exists.intro
     refine ⟨rfl, ?_⟩
     constructor
     case k7 => exact fun _ => rfl
     case g => exact HV.out.g.trans (bn.mono HV.out.g.size)
     case t17 => exact fun h0 h1 => (HV.out.t17 (Uz h0) (Dz h1)).below bn (HV.out.t17 (Uz h0) (Dz h1)).lt
     case t18 => exact fun h0 => (HV.out.t18 (Uz h0)).below bn (HV.out.t18 (Uz h0)).lt
     case q18 => exact fun h => getD_up hun (HV.out.q18 (Uz h))
     all_goals exact Um (by assumption)
    ·simp at ho
     subst ho
     clear hall hi
     refine wpOp_hid rfl fun K' HK => ?_
     go_simp
     cases HV.out
     refine HK.out _ _ ⟨by simp [HJ.out.sz], ?_⟩
     iterate 20 apply Exists.intro
     refine ⟨rfl, ?_⟩
     constructor
     case k8 => exact fun _ => rfl
     case g => exact HV.out.g
     case t17 => exact fun h i => HV.out.t17 (Uz h) (Dz i)
     case q18 => exact fun h => getD_up hun (HV.out.q18 (Uz h))
     all_goals exact Um (by assumption)
    ·simp at ho
     subst ho
     clear hall hi
     refine wpOp_hid rfl fun K' HK => ?_
     go_simp
     cases HV.out
     refine HK.out _ _ ⟨by simp [HJ.out.sz], ?_⟩
     iterate 20 apply Exists.intro
     refine ⟨rfl, ?_⟩
     constructor
     case k9 => exact fun _ => rfl
     case g => exact HV.out.g
     case t17 => exact fun h i => HV.out.t17 (Uz h) (Dz i)
     case q18 => exact fun h => getD_up hun (HV.out.q18 (Uz h))
     all_goals exact Um (by assumption)
    ·simp at ho
     subst ho
     have H8 := Hq hall 8
     have H9 := Hq hall 9
     clear hall hi
     have e0 := HV.out.k8 H8.out
     subst e0
     have e1 := HV.out.k9 H9.out
     subst e1
     have hi := HIN.out
     refine wpOp_hid rfl fun K' HK => ?_
     go_simp
     cases HV.out
     refine HK.out _ _ ⟨by simp [HJ.out.sz], ?_⟩
     iterate 20 apply Exists.intro
     refine ⟨rfl, ?_⟩
     constructor
     case k10 => exact fun _ => rfl
     case g => exact HV.out.g
     case t17 => exact fun h i => HV.out.t17 (Uz h) (Dz i)
     case q18 => exact fun h => getD_up hun (HV.out.q18 (Uz h))
     all_goals exact Um (by assumption)
    ·simp at ho
     subst ho
     have H10 := Hq hall 10
     clear hall hi
     have e0 := HV.out.k10 H10.out
     subst e0
     refine wpOp_hid rfl fun K' HK => ?_
     go_simp
     cases HV.out
     refine HK.out _ _ ⟨by simp [HJ.out.sz], ?_⟩
     iterate 20 apply Exists.intro
     refine ⟨rfl, ?_⟩
     constructor
     case k11 => exact fun _ => rfl
     case g => exact HV.out.g
     case t17 => exact fun h i => HV.out.t17 (Uz h) (Dz i)
     case q18 => exact fun h => getD_up hun (HV.out.q18 (Uz h))
     all_goals exact Um (by assumption)
    ·simp at ho
     subst ho
     have H11 := Hq hall 11
     clear hall hi
     have e0 := HV.out.k11 H11.out
     subst e0
     obtain ⟨c0, c1, c2, c3, c4, c5, c6⟩ := HLX.out.1.below HV.out.g HLX.out.2
     refine wpOp_hid rfl fun K' HK => ?_
     go_simp
     cases HV.out
     refine HK.out _ _ ⟨by simp [HJ.out.sz], ?_⟩
     iterate 20 apply Exists.intro
     refine ⟨rfl, ?_⟩
     constructor
     case k12 => exact fun _ => rfl
     case g => exact HV.out.g
     case t17 => exact fun h i => HV.out.t17 (Uz h) (Dz i)
     case q18 => exact fun h => getD_up hun (HV.out.q18 (Uz h))
     all_goals exact Um (by assumption)
    ·simp at ho
     subst ho
     have H7 := Hq hall 7
     have H12 := Hq hall 12
     clear hall hi
     have e0 := HV.out.k7 H7.out
     subst e0
     have e1 := HV.out.k12 H12.out
     subst e1
     refine wpOp_hid rfl fun K' HK => ?_
     go_simp
     refine (HNEW.out w' HV.out.g).mono ?_
     rintro e wn ⟨rfl, bn⟩
     cases HV.out
     refine HK.out _ _ ⟨by simp [HJ.out.sz], ?_⟩
     iterate 20 apply Exists.intro
     refine ⟨rfl, ?_⟩
     constructor
     case k13 => exact fun _ => rfl
     case g => exact HV.out.g.trans (bn.mono HV.out.g.size)
     case t17 => exact fun h0 h1 => (HV.out.t17 (Uz h0) (Dz h1)).below bn (HV.out.t17 (Uz h0) (Dz h1)).lt
     case t18 => exact fun h0 => (HV.out.t18 (Uz h0)).below bn (HV.out.t18 (Uz h0)).lt
     case q18 => exact fun h => getD_up hun (HV.out.q18 (Uz h))
     all_goals exact Um (by assumption)
    ·simp at ho
     subst ho
     have H13 := Hq hall 13
     clear hall hi
     have e0 := HV.out.k13 H13.out
     subst e0
     refine wpOp_hid rfl fun K' HK => ?_
     go_simp
     cases HV.out
     refine HK.out _ _ ⟨by simp [HJ.out.sz], ?_⟩
     iterate 20 apply Exists.intro
     refine ⟨rfl, ?_⟩
     constructor
     case k14 => exact fun _ => rfl
     case g => exact HV.out.g
     case t17 => exact fun h i => HV.out.t17 (Uz h) (Dz i)
     case q18 => exact fun h => getD_up hun (HV.out.q18 (Uz h))
     all_goals exact Um (by assumption)
    ·simp at ho
     subst ho
     have H14 := Hq hall 14
     clear hall hi
     have e0 := HV.out.k14 H14.out
     subst e0
     refine wpOp_hid rfl fun K' HK => ?_
     go_simp
     cases HV.out
     refine HK.out _ _ ⟨by simp [HJ.out.sz], ?_⟩
     iterate 20 apply Exists.intro
     refine ⟨rfl, ?_⟩
     constructor
     case k15 => exact fun _ => rfl
     case g => exact HV.out.g
     case t17 => exact fun h i => HV.out.t17 (Uz h) (Dz i)
     case q18 => exact fun h => getD_up hun (HV.out.q18 (Uz h))
     all_goals exact Um (by assumption)
    ·simp at ho
     subst ho
     have H14 := Hq hall 14
     clear hall hi
     have e0 := HV.out.k14 H14.out
     subst e0
     refine wpOp_hid rfl fun K' HK => ?_
     go_simp
     cases HV.out
     refine HK.out _ _ ⟨by simp [HJ.out.sz], ?_⟩
     iterate 20 apply Exists.intro
     refine ⟨rfl, ?_⟩
     constructor
     case k16 => exact fun _ => rfl
     case g => exact HV.out.g
     case t17 => exact fun h i => HV.out.t17 (Uz h) (Dz i)
     case q18 => exact fun h => getD_up hun (HV.out.q18 (Uz h))
     all_goals exact Um (by assumption)
    ·simp at ho
     subst ho
     clear hall hi
     have ba : Below w'.heap.size w' (w'.alloc (.cells #[.string ⟨#[]⟩, .string ⟨#[]⟩] 55)) := (Below.refl _ _).alloc (Nat.le_refl _) _
     refine wpOp_hid rfl fun K' HK => ?_
     go_simp
     cases HV.out
     refine HK.out _ _ ⟨by simp [HJ.out.sz], w'.heap.size, ?_⟩
     iterate 19 apply Exists.intro
     refine ⟨rfl, ?_⟩
     constructor
     case k17 => exact fun _ => rfl
     case g => exact HV.out.g.trans (ba.mono HV.out.g.size)
     case t17 => exact fun _ _ => heap_alloc_new _ _
     case t18 => exact fun h => (not_on hoff (HV.out.q18 (Uz h))).elim
     case n17 => exact fun _ => HV.out.g.size
     case q18 => exact fun _ => getD_set_same hun
     all_goals exact Um (by assumption)
    ·simp at ho
     subst ho
     have H17 := Hq hall 17
     have H15 := Hq hall 15
     clear hall hi
     have e0 := HV.out.k17 H17.out
     subst e0
     have e1 := HV.out.k15 H15.out
     subst e1
     have hP := HV.out.t17 H17.out hoff
     have n0 := Lib.cell_of_heap hP 0; have n1 := Lib.cell_of_heap hP 1; have z0 := Lib.frozen_of_heap hP 0; have z1 := Lib.frozen_of_heap hP 1
     simp at n0 n1
     have HPP := hI hP
     clear hP
     refine wpOp_hid rfl fun K' HK => ?_
     go_simp
     cases HV.out
     refine HK.out _ _ ⟨by simp [HJ.out.sz], ?_⟩
     iterate 20 apply Exists.intro
     refine ⟨rfl, ?_⟩
     constructor
     case g => exact Below.set2' HV.out.g (HV.out.n17 H17.out) _ _
     case t17 => exact fun _ h => (not_on h (getD_set_same hun)).elim
     case t18 => exact fun _ => HPP.out.set tr
     case q18 => exact fun _ => getD_up hun H17.out
     all_goals exact Um (by assumption)
    ·simp at ho
     subst ho
     have H16 := Hq hall 16
     clear hall hi
     have e0 := HV.out.k16 H16.out
     subst e0
     refine wpOp_hid rfl fun K' HK => ?_
     go_simp
     cases HV.out
     refine HK.out _ _ ⟨by simp [HJ.out.sz], ?_⟩
     iterate 20 apply Exists.intro
     refine ⟨rfl, ?_⟩
     constructor
     case k19 => exact fun _ => rfl
     case g => exact HV.out.g
     case t17 => exact fun h i => HV.out.t17 (Uz h) (Dz i)
     case q18 => exact fun h => getD_up hun (HV.out.q18 (Uz h))
     all_goals exact Um (by assumption)
  ·have hcx : decide ((k : Int) < (M : Int)) = false := by simp; omega
   have hkp : ps.take k = ps := List.take_of_length_le (by rw [HMM.out]; exact hge)
   rw [hkp] at hf1
   obtain ⟨q, hq⟩ : ∃ q, exS ls ps = q := ⟨_, rfl⟩
   rw [hq] at hf1
   have a0 := Lib.cell_of_heap hf1 0
   have a1 := Lib.cell_of_heap hf1 1
   simp at a0 a1
   have hf0 := HF0.out
   have z0 := Lib.frozen_of_heap hf0 0
   have z1 := Lib.frozen_of_heap hf0 1
   have y0 := Lib.cell_of_heap hf0 0
   have y1 := Lib.cell_of_heap hf0 1
   simp at y0 y1
   clear hf0 hf1 hkp
   go_wp2_with fail
   have k6 := HF0.out.set q
   have m0 := Lib.cell_of_heap k6 0
   have m1 := Lib.cell_of_heap k6 1
   simp at m0 m1
   refine bodyPost_ret (v := .tuple #[.agg #[.string (I q.num), .string (dn q)], .bool true]) (by simp [results, Tryz.results27, go_sem, m0, m1]) rfl ?_
   exact ⟨by rw [hq]; unfold fenc; rfl, Below.set2' HB.out (Nat.le_refl _) _ _⟩
end Go.Proofs.YtdnmpgoigagjmaaGreatDoor
