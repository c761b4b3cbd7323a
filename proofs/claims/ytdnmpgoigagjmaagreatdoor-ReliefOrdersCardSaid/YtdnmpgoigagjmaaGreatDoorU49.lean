/-
  tranchelaw20.ReliefOrders returns true.
-/
import Derived.Test.YtdnmpgoigagjmaaGreatDoorU48
import Derived.Test.YtdnmpgoigagjmaaGreatDoorU42
import Derived.Test.YtdnmpgoigagjmaaGreatDoorU30
import Derived.Test.YtdnmpgoigagjmaaGreatDoorU22
set_option linter.unusedVariables false
set_option linter.unusedSimpArgs false
set_option maxHeartbeats 16000000
set_option maxRecDepth 100000
namespace Go.Proofs.YtdnmpgoigagjmaaGreatDoor
open Go.RowKit Tr Go.Shelf
theorem len_of {α β : Type} {f : α → β} {l : List α} {m : List β} (h : l.map f = m) : l.length = m.length := by rw [← h, List.length_map]
theorem RdB'.up {n : Nat} {w w' : World} {A : Option Addr} {ls : List Lot} (h : RdB' n w A ls) (hb : Below n w w') (hn : n ≤ w'.heap.size) : RdB' w'.heap.size w' A ls := by
 intro hl
 obtain ⟨ad, e, h1, h2⟩ := h.below hb hl
 exact ⟨ad, e, Nat.lt_of_lt_of_le h1 hn, h2⟩
structure OAV (wS : World) (A : Option Addr) (N c : Nat) (x : Lot) (Ba : Nat) (ad2 : Addr) (c2 k : Nat)  (L : Array Bool) (W : World) (s72 s73 s74 s75 s76 s77 s78 s79 s80 s81 s82 : Value) : Prop where
 k0 : L.getD 0 false = true → s72 = .slice A N c
 k1 : L.getD 1 false = true → s73 = .agg #[.string x.id, .string x.inst, .int .i64 x.acq, .int .i64 x.opn, .string x.qty, .string x.cost, .string x.used]
 k2 : L.getD 2 false = true → s74 = .bool true
 k3 : L.getD 3 false = true → s75 = .bool false
 k4 : L.getD 4 false = true → s76 = .bool false
 k5 : L.getD 5 false = true → s77 = .slice (some ad2) N c2
 k6 : L.getD 6 false = true → s78 = .int .i64 (k : Int)
 k7 : L.getD 7 false = true → s79 = .slice (some ad2) k c2
 k8 : L.getD 8 false = true → s80 = .agg #[.string x.id, .string x.inst, .int .i64 x.acq, .int .i64 x.opn, .string x.qty, .string x.cost, .string x.used]
 k9 : L.getD 9 false = true → s81 = .bool false
 k10 : L.getD 10 false = true → s82 = .bool false
 g : Below wS.heap.size wS W
structure OAJ (wS : World) (A : Option Addr) (N c : Nat) (x : Lot) (Ba : Nat) (ad2 : Addr) (c2 k : Nat) (x1 x2 x3 x4 x6 x7 x8 x9 x10 x13 x14 x15 x16 x17 x18 x19 x20 x21 x22 x23 x24 x25 x26 x27 x28 x29 x30 x31 x32 x33 x34 x35 x36 x37 x38 x39 x40 x41 x42 x43 x44 x45 x46 x47 x48 x49 x50 x51 x52 x53 x54 x55 x56 x57 x58 x59 x60 x61 x62 x63 x64 x65 x66 x67 x68 x69 x70 x71 x83 x84 x85 x86 x87 x88 x89 x90 x91 x92 x93 x94 x95 x96 x97 x98 x99 x100 x101 x102 x103 x104 x105 x106 x107 x108 x109 x110 x111 x112 x113 x114 x115 x116 x117 x118 x119 x120 x121 x122 x123 : Value) (L : Array Bool) (a : Act) (W : World) : Prop where
 sz : L.size = 11
 fr : ∃ s72 s73 s74 s75 s76 s77 s78 s79 s80 s81 s82 : Value, a = { tmps := #[.slice A N c, x1, x2, x3, x4, .slice (some ad2) N c2, x6, x7, x8, x9, x10, .int .i64 (k : Int), .pointer (some ⟨Ba, 0, none⟩), x13, x14, x15, x16, x17, x18, x19, x20, x21, x22, x23, x24, x25, x26, x27, x28, x29, x30, x31, x32, x33, x34, x35, x36, x37, x38, x39, x40, x41, x42, x43, x44, x45, x46, x47, x48, x49, x50, x51, x52, x53, x54, x55, x56, x57, x58, x59, x60, x61, x62, x63, x64, x65, x66, x67, x68, x69, x70, x71, s72, s73, s74, s75, s76, s77, s78, s79, s80, s81, s82, x83, x84, x85, x86, x87, x88, x89, x90, x91, x92, x93, x94, x95, x96, x97, x98, x99, x100, x101, x102, x103, x104, x105, x106, x107, x108, x109, x110, x111, x112, x113, x114, x115, x116, x117, x118, x119, x120, x121, x122, x123], defers := [] } ∧ OAV wS A N c x Ba ad2 c2 k  L W s72 s73 s74 s75 s76 s77 s78 s79 s80 s81 s82
structure OBV (wS : World) (x y : Lot) (Ba Bb : Nat) (z : Int)  (L : Array Bool) (W : World) (s14 s90 s91 s92 s93 s94 s95 s96 s97 s98 s99 s100 : Value) : Prop where
 k0 : L.getD 0 false = true → s90 = .pointer (some ⟨Bb, 5, none⟩)
 k1 : L.getD 1 false = true → s91 = .string y.cost
 k2 : L.getD 2 false = true → s92 = .pointer (some ⟨Ba, 4, none⟩)
 k3 : L.getD 3 false = true → s93 = .string x.qty
 k4 : L.getD 4 false = true → s94 = .string (I (vl y.cost * vl x.qty))
 k5 : L.getD 5 false = true → s95 = .pointer (some ⟨Ba, 5, none⟩)
 k6 : L.getD 6 false = true → s96 = .string x.cost
 k7 : L.getD 7 false = true → s97 = .pointer (some ⟨Bb, 4, none⟩)
 k8 : L.getD 8 false = true → s98 = .string y.qty
 k9 : L.getD 9 false = true → s99 = .string (I (vl x.cost * vl y.qty))
 k10 : L.getD 10 false = true → s100 = .int .i64 z
 k11 : L.getD 11 false = true → s14 = .int .i64 z
 g : Below wS.heap.size wS W
structure OBJ (wS : World) (x y : Lot) (Ba Bb : Nat) (z : Int) (x0 x1 x2 x3 x4 x5 x6 x7 x8 x9 x10 x11 x15 x16 x17 x18 x19 x20 x21 x22 x23 x24 x25 x26 x27 x28 x29 x30 x31 x32 x33 x34 x35 x36 x37 x38 x39 x40 x41 x42 x43 x44 x45 x46 x47 x48 x49 x50 x51 x52 x53 x54 x55 x56 x57 x58 x59 x60 x61 x62 x63 x64 x65 x66 x67 x68 x69 x70 x71 x72 x73 x74 x75 x76 x77 x78 x79 x80 x81 x82 x83 x84 x85 x86 x87 x88 x89 x101 x102 x103 x104 x105 x106 x107 x108 x109 x110 x111 x112 x113 x114 x115 x116 x117 x118 x119 x120 x121 x122 x123 : Value) (L : Array Bool) (a : Act) (W : World) : Prop where
 sz : L.size = 12
 fr : ∃ s14 s90 s91 s92 s93 s94 s95 s96 s97 s98 s99 s100 : Value, a = { tmps := #[x0, x1, x2, x3, x4, x5, x6, x7, x8, x9, x10, x11, .pointer (some ⟨Ba, 0, none⟩), .pointer (some ⟨Bb, 0, none⟩), s14, x15, x16, x17, x18, x19, x20, x21, x22, x23, x24, x25, x26, x27, x28, x29, x30, x31, x32, x33, x34, x35, x36, x37, x38, x39, x40, x41, x42, x43, x44, x45, x46, x47, x48, x49, x50, x51, x52, x53, x54, x55, x56, x57, x58, x59, x60, x61, x62, x63, x64, x65, x66, x67, x68, x69, x70, x71, x72, x73, x74, x75, x76, x77, x78, x79, x80, x81, x82, x83, x84, x85, x86, x87, x88, x89, s90, s91, s92, s93, s94, s95, s96, s97, s98, s99, s100, x101, x102, x103, x104, x105, x106, x107, x108, x109, x110, x111, x112, x113, x114, x115, x116, x117, x118, x119, x120, x121, x122, x123], defers := [] } ∧ OBV wS x y Ba Bb z  L W s14 s90 s91 s92 s93 s94 s95 s96 s97 s98 s99 s100
theorem ReliefOrders_any (A : Option Addr) (ls : List Lot) (c : Nat) (hcap : ls.length ≤ c) (h1 : ls.length ≤ 9223372036854775807) (hA : A = none → ls.length = 0 ∧ c = 0) (m : Int) (w : World)
 (hR : RdL w A ls) (ht : Tabs w) : Calls Tryz.prog 8 #[.slice A ls.length c, .int .i64 m] w (TruePost19 w) := by
 have HAW := hI (fun W (hW : Below w.heap.size w W) => awake20_any W (ht.below hW))
 have HGR := hI (rGreat19_len A ls c h1 w hR)
 by_cases hsm : (ls.length ≤ 12 ∨ 999 ≤ ls.length) ∧ ls.length ≤ 1002 ∧ ∀ l ∈ ls, l.tiny
 case neg =>
  have HN := hI hsm
  obtain ⟨N, hN⟩ : ∃ N, ls.length = N := ⟨_, rfl⟩
  rw [hN] at HGR HN ⊢
  clear hR ht hcap h1 hA hsm hN
  go_enter Tryz.func8, Tryz.ntmps8
  go_wp2_with fail
  refine HGR.out.mono ?_
  rintro e w1 ⟨b, rfl, hb, b1⟩
  have hbt : b = true := by cases b; exact (HN.out (hb rfl)).elim; rfl
  subst hbt
  have HB1 := hI b1
  have HA1 := hI (HAW.out w1 b1)
  clear b1 hb
  go_wp2_with fail
  refine HA1.out.mono ?_
  rintro e w2 ⟨rfl, b2⟩
  have HB2 := hI (HB1.out.trans (b2.mono HB1.out.size))
  clear b2
  go_wp2_with fail
  go_ret
  exact ⟨rfl, HB2.out⟩
 obtain ⟨sl, hsl⟩ := sl_of ls (fun l hl => (hsm.2.2 l hl).sized)
 have hll : sl.length = ls.length := by rw [← hsl, List.length_map]
 have hrb : RdB w.heap.size w A sl := by
  intro hl
  obtain ⟨ad, e, q1, q2⟩ := hR (by rw [← hsl]; intro h; exact hl (List.map_eq_nil_iff.1 h))
  exact ⟨ad, e, q1, fun j l hj => q2 j l.1 (by rw [← hsl, List.getElem?_map, hj]; rfl)⟩
 have hl2 := hsm.2.1
 have HOR := fun (m : Int) W (hW : Below w.heap.size w W) => Order20_any w.heap.size A sl c (by omega) (by omega) m W (hrb.below hW) hW.size (by rw [hll]; exact hA) (ht.below hW)
 have HHA := fun (x : Lot) W (hW : Below w.heap.size w W) => hasLots_any w.heap.size A ls c x (by omega) W ((hR.rdb').below hW) hW.size
 rw [hsl, hll] at HOR
 have HT := hI ht
 have HTI := hI hsm.2.2
 obtain ⟨N, hN⟩ : ∃ N, ls.length = N := ⟨_, rfl⟩
 rw [hN] at HGR HOR HHA hl2 ⊢
 replace HOR := hI HOR
 replace HHA := hI HHA
 have HN := hI hN
 clear hR ht hcap h1 hA hsm hN sl hsl hll hrb
 go_enter Tryz.func8, Tryz.ntmps8
 go_wp2_with fail
 refine HGR.out.mono ?_
 rintro e w1 ⟨b, rfl, _, b1⟩
 have HB1 := hI b1
 clear b1 HGR
 cases b
 case true =>
  have HA1 := hI (HAW.out w1 HB1.out)
  go_wp2_with fail
  refine HA1.out.mono ?_
  rintro e w2 ⟨rfl, b2⟩
  have HB2 := hI (HB1.out.trans (b2.mono HB1.out.size))
  clear b2
  go_wp2_with fail
  go_ret
  exact ⟨rfl, HB2.out⟩
 have HC1 := hI (HOR.out m w1 HB1.out)
 go_wp2_with fail
 refine HC1.out.mono ?_
 rintro e w2 ⟨A2, c2, res, rfl, b2, hr2, hc2, hqn, hr0, hr1⟩
 have HB2 := hI (HB1.out.trans (b2.mono HB1.out.size))
 by_cases hoe : ordE ls m = 0
 case neg =>
  have HA1 := hI (HAW.out w2 HB2.out)
  obtain rfl := hr0 hoe
  generalize ordE ls m = z at hoe ⊢
  have t1 : (z == 0) = false := beq_eq_false_iff_ne.2 hoe
  have t2 : (z != 0) = true := by rw [bne, t1]; rfl
  clear hoe b2 hr2 hc2 hqn hr0 hr1 HC1
  go_wp2_with fail
  refine HA1.out.mono ?_
  rintro e w3 ⟨rfl, b3⟩
  have HB3 := hI (HB2.out.trans (b3.mono HB2.out.size))
  clear b3
  go_wp2_with fail
  go_ret
  exact ⟨rfl, HB3.out⟩
 have hal : lall ls = 0 := Classical.byContradiction fun x => by rw [ordE_all x] at hoe; exact absurd hoe (by decide)
 have hX : res.map Subtype.val = ordP m ls := hr1 hoe
 have hln : ∀ m, (ordP m ls).length = N := fun m => (ordP_perm m ls).length_eq.trans HN.out
 have hrl : res.length = N := (len_of hX).trans (hln m)
 have hxr := hr2.rdb'
 rw [hX] at hxr
 rw [hrl] at hc2 ⊢
 rw [hoe]
 have HXR := hI hxr
 have HAL := hI hal
 have HLN := hI hln
 have HE1 := hI (ordE_yes hal (m := 1) (by decide))
 have HE2 := hI (ordE_yes hal (m := 2) (by decide))
 have HC2 := hI hc2
 have HO1 := hI (HOR.out 1 w2 HB2.out)
 clear hoe b2 hr2 hc2 hqn hr0 hr1 HC1 hal hX hln hrl hxr res
 go_wp2_with fail
 refine HO1.out.mono ?_
 rintro e w3 ⟨A3, c3, r3, rfl, b3, hr3, hc3, hq1, hq2, h3⟩
 replace h3 := h3 HE1.out
 have hl3 : r3.length = N := (len_of h3).trans (HLN.out 1)
 have hx3 := hr3.rdb'
 rw [h3] at hx3
 rw [hl3, HE1.out]
 have HX3 := hI hx3
 have HB23 := hI b3
 have HB3 := hI (HB2.out.trans (b3.mono HB2.out.size))
 have HO2 := hI (HOR.out 2 w3 HB3.out)
 clear hr3 hc3 hq1 hq2 h3 hl3 hx3 b3 r3 HO1 HE1
 go_wp2_with fail
 refine HO2.out.mono ?_
 rintro e w4 ⟨A4, c4, r4, rfl, b4, hr4, hc4, hA4, hq4, h4⟩
 replace h4 := h4 HE2.out
 have hl4 : r4.length = N := (len_of h4).trans (HLN.out 2)
 have hcl := cloneLots_own A4 r4 c4 w4.heap.size w4 hr4 (Nat.le_refl _) (by omega) hA4
 rw [hl4] at hcl
 rw [hl4, HE2.out]
 have HCL := hI hcl
 have HB4 := hI (HB3.out.trans (b4.mono HB3.out.size))
 have HB24 := hI (HB23.out.trans (b4.mono HB23.out.size))
 have HX34 := hI (HX3.out.up b4 b4.size)
 have HL4 := hI hl4
 have HV4 := hI h4
 clear b4 hr4 hc4 hA4 hq4 h4 hl4 hcl HO2 HE2 HB23 HX3 HB3 HOR
 go_wp2_with fail
 refine HCL.out.mono ?_
 rintro e w5 ⟨v, rfl, hown, b5⟩
 obtain ⟨A5, c5, rfl, hrev⟩ := revOwn_any w4.heap.size r4 v N HL4.out (by omega) w4 w5 hown b5 (Nat.le_refl _)
 rw [HV4.out, ord_rev] at hrev
 have HREV := hI hrev
 clear hown b5 hrev HCL HL4 HV4 r4
 go_wp2_with fail
 refine HREV.out.mono ?_
 rintro e w6 ⟨rfl, hr6, b6⟩
 have HB6 := hI (HB4.out.trans (b6.mono HB4.out.size))
 have HB26 := hI (HB24.out.trans (b6.mono HB24.out.size))
 have heq := eqLots_any A3 A5 (ordP 1 ls) (ordP 1 ls) c3 c5 (by rw [HLN.out 1]; omega) (by rw [HLN.out 1]; omega) w4.heap.size w6.heap.size w6 (HX34.out.below b6) hr6
 rw [sameB_yes rfl, HLN.out 1] at heq
 have HEQ := hI heq
 have tn : ((N : Int) != (N : Int)) = false := by simp
 have tn2 : (N != N) = false := by simp
 clear b6 hr6 heq HREV HX34 HB24 HB4
 go_wp2_with fail
 refine HEQ.out.mono ?_
 rintro e w7 ⟨rfl, mm, rfl⟩
 have HB27 := hI (HB26.out.trans (below_drewN (Below.refl _ _) mm))
 clear HEQ HB26 HB6
 generalize w6.drewN mm = w7 at HB27 ⊢
 go_wp2_with fail
 clear tn tn2
 go_loopw [67] (fun v wr => ∃ k : Nat, v = .int .i64 (k : Int) ∧ k ≤ N ∧ Below w2.heap.size w2 wr) (fun v _ => N - (intOf v).toNat)
 case atStart => exact ⟨0, rfl, Nat.zero_le _, HB27.out⟩
 case round =>
  clear HB27
  obtain ⟨k, rfl, hk, hb⟩ := hrel
  have HB := hI hb
  have HBW := hI (HB2.out.trans (hb.mono HB2.out.size))
  clear hb
  rcases Nat.lt_or_ge k N with hlt | hge
  ·obtain ⟨x, hx⟩ : ∃ x, (ordP m ls)[k]? = some x := ⟨_, List.getElem?_eq_getElem (by rw [HLN.out]; exact hlt)⟩
   obtain ⟨ad2, rfl, had, hcell⟩ := HXR.out (by intro e; rw [e] at hx; cases hx)
   have hcx : decide ((k : Int) < (N : Int)) = true := by simp; omega
   obtain ⟨c0, c1, c2', c3', c4', c5', c6'⟩ := (hcell k x hx).below HB.out (by rw [add_block]; exact had)
   obtain ⟨W5, hW5, b5, k5⟩ := lbox x wr
   have HB5 := hI (HB.out.trans ((b5.trans (Below.refl wr.heap.size W5).drew).mono HB.out.size))
   have HBW5 := hI (HBW.out.trans ((b5.trans (Below.refl wr.heap.size W5).drew).mono HBW.out.size))
   have HA5 : Hid (LotBox W5.drew wr.heap.size x) := k5
   have HXM := hI (ord_in HAL.out m hx)
   have HFR := hI (nd_take (ordP_nodup HAL.out m) hx)
   have HXC := hI (And.intro had hcell)
   have HX1 := hI hx
   have HLT := hI hlt
   unfold Lot.cells at hW5
   clear b5 k5 hx had hcell
   go_upto_region 15 with fail
   clear c0 c1 c2' c3' c4' c5' c6' hW5 hcx
   have hc1 := fun W (hW : Below W5.drew.heap.size W5.drew W) => (HHA.out x W (HBW5.out.trans (hW.mono HBW5.out.size))).mono (R' := fun e w' => e = .returned (.bool true) ∧ Below W.heap.size W w') (fun e w' h => by
    obtain ⟨⟨b, e1, e2⟩, e3⟩ := h
    exact ⟨by rw [e1, e2.2 HXM.out.1], e3⟩)
   have hc2 := fun W (hW : Below W5.drew.heap.size W5.drew W) => (hasLots_any w2.heap.size (some ad2) ((ordP m ls).take k) c2 x (by rw [List.length_take, HLN.out]; omega) W (fun _ => ⟨ad2, rfl, HXC.out.1, fun j l hj => by
    rw [List.getElem?_take] at hj
    split at hj
    ·exact (HXC.out.2 j l hj).below (HB5.out.trans (hW.mono HB5.out.size)) (by rw [add_block]; exact HXC.out.1)
    ·cases hj⟩) (HB5.out.trans (hW.mono HB5.out.size)).size).mono (R' := fun e w' => e = .returned (.bool false) ∧ Below W.heap.size W w') (fun e w' h => by
    obtain ⟨⟨b, e1, e2⟩, e3⟩ := h
    refine ⟨?_, e3⟩
    cases b
    ·exact e1
    ·exact (HFR.out (e2.1 rfl)).elim)
   rw [List.length_take, HLN.out, Nat.min_eq_left hk] at hc2
   unfold Lot.enc Lot.cells at hc1 hc2
   have HH1 := hI hc1
   have HH2 := hI hc2
   have HSO := hI (fun W => lslice_lo W ad2 N c2 k (by have := HC2.out; omega))
   have hgS : Below W5.drew.heap.size W5.drew W5.drew := Below.refl _ _
   clear hc1 hc2 hlt
   have mixed : Tryz.prog.follows .mixedOrders = true := by kernel_rfl
   refine wp_region_any mixed (wpAny_inv (OAJ W5.drew A N c x wr.heap.size ad2 c2 k _ _ _ _ _ _ _ _ _ _ _ _ _ _ _ _ _ _ _ _ _ _ _ _ _ _ _ _ _ _ _ _ _ _ _ _ _ _ _ _ _ _ _ _ _ _ _ _ _ _ _ _ _ _ _ _ _ _ _ _ _ _ _ _ _ _ _ _ _ _ _ _ _ _ _ _ _ _ _ _ _ _ _ _ _ _ _ _ _ _ _ _ _ _ _ _ _ _ _ _ _ _ _ _ _ _ _ _ _) ?stOA ?dnOA _ _ _ _ ⟨by simp, ⟨_, _, _, _, _, _, _, _, _, _, _, rfl, fun h => by simp at h, fun h => by simp at h, fun h => by simp at h, fun h => by simp at h, fun h => by simp at h, fun h => by simp at h, fun h => by simp at h, fun h => by simp at h, fun h => by simp at h, fun h => by simp at h, fun h => by simp at h, hgS⟩⟩ (by decide))
   case dnOA =>
    intro L a w' hj hr
    have all := all_on hr hj.sz (by kernel_rfl)
    obtain ⟨s72, s73, s74, s75, s76, s77, s78, s79, s80, s81, s82, rfl, hv⟩ := hj.fr
    have e10 := hv.k10 (all 10 (by omega))
    subst e10
    have hg := hv.g
    have HB6 := hI (HB5.out.trans (hg.mono HB5.out.size))
    have HA6 := hI (HA5.out.below hg)
    clear all hv hj hr hg HA5 HH1 HH2 HSO HFR
    dsimp only
    by_cases hk0 : k = 0
    ·have t1 : ((k : Int) == 0) = true := beq_iff_eq.2 (by omega)
     have HB10 := HB6
     clear hk0
     go_wp2_with fail
     go_roundw
     case rel => exact ⟨k + 1, by go_num, by have := HLT.out; omega, HB10.out⟩
     case measure => simp [intOf]; have := HLT.out; omega
    have t1 : ((k : Int) == 0) = false := beq_eq_false_iff_ne.2 (by omega)
    obtain ⟨j, hj⟩ : ∃ j, k = j + 1 := ⟨k - 1, by omega⟩
    have hjN : j < N := by have := HLT.out; omega
    obtain ⟨y, hy⟩ : ∃ y, (ordP m ls)[j]? = some y := ⟨_, List.getElem?_eq_getElem (by rw [HLN.out]; exact hjN)⟩
    have hwr : IntKind.i64.wrap ((k : Int) - 1) = (j : Int) := by rw [IntKind.wrap_i64]; omega
    obtain ⟨c0, c1, c2', c3', c4', c5', c6'⟩ := (HXC.out.2 j y hy).below HB6.out (by rw [add_block]; exact HXC.out.1)
    obtain ⟨W9, hW9, b9, k9⟩ := lbox y w'
    have HY1 := hI hy
    have HX2 : Hid ((ordP m ls)[j + 1]? = some x) := by rw [← hj]; exact HX1.out
    have HYM := hI (ord_in HAL.out m hy)
    have HB9 := hI (HB6.out.trans ((b9.trans (Below.refl w'.heap.size W9).drew).mono HB6.out.size))
    have HA9 : Hid (LotBox W9.drew wr.heap.size x) := HA6.out.below (b9.trans (Below.refl w'.heap.size W9).drew)
    have HY9 : Hid (LotBox W9.drew w'.heap.size y) := k9
    obtain ⟨z, hz⟩ : ∃ z, cmpI (vl y.cost * vl x.qty) (vl x.cost * vl y.qty) = z := ⟨_, rfl⟩
    have HZ := hI hz
    have hab := HTI.out x HXM.out.1
    have hyb := HTI.out y HYM.out.1
    have HTB := hI (fun W (hW : Below W9.drew.heap.size W9.drew W) => HT.out.below (HB2.out.trans ((HB9.out.trans (hW.mono HB9.out.size)).mono HB2.out.size)))
    have HM1 := hI (fun W (hW : Below W9.drew.heap.size W9.drew W) => Mul_any y.cost x.qty W (Nat.le_trans hyb.2.1 (by omega)) (Nat.le_trans hab.1 (by omega)) (HTB.out W hW))
    have HM2 := hI (fun W (hW : Below W9.drew.heap.size W9.drew W) => Mul_any x.cost y.qty W (Nat.le_trans hab.2.1 (by omega)) (Nat.le_trans hyb.1 (by omega)) (HTB.out W hW))
    have hcm := fun W (hW : Below W9.drew.heap.size W9.drew W) => Compare_any (I (vl y.cost * vl x.qty)) (I (vl x.cost * vl y.qty)) W (Nat.le_trans (mul_size (k := 13) (m := 13) hyb.2.1 hab.1) (by omega)) (Nat.le_trans (mul_size (k := 13) (m := 13) hab.2.1 hyb.1) (by omega))
    simp only [vl_I, hz] at hcm
    have HCM := hI hcm
    unfold Lot.cells at hW9
    clear b9 k9 hy hj hk0 hz hab hyb hcm HTB
    go_upto_region 19 with fail
    clear c0 c1 c2' c3' c4' c5' c6' hW9 t1 hwr
    have hgT : Below W9.drew.heap.size W9.drew W9.drew := Below.refl _ _
    have mixed : Tryz.prog.follows .mixedOrders = true := by kernel_rfl
    refine wp_region_any mixed (wpAny_inv (OBJ W9.drew x y wr.heap.size w'.heap.size z _ _ _ _ _ _ _ _ _ _ _ _ _ _ _ _ _ _ _ _ _ _ _ _ _ _ _ _ _ _ _ _ _ _ _ _ _ _ _ _ _ _ _ _ _ _ _ _ _ _ _ _ _ _ _ _ _ _ _ _ _ _ _ _ _ _ _ _ _ _ _ _ _ _ _ _ _ _ _ _ _ _ _ _ _ _ _ _ _ _ _ _ _ _ _ _ _ _ _ _ _ _ _ _ _ _ _ _ _ _) ?stOB ?dnOB _ _ _ _ ⟨by simp, ⟨_, _, _, _, _, _, _, _, _, _, _, _, rfl, fun h => by simp at h, fun h => by simp at h, fun h => by simp at h, fun h => by simp at h, fun h => by simp at h, fun h => by simp at h, fun h => by simp at h, fun h => by simp at h, fun h => by simp at h, fun h => by simp at h, fun h => by simp at h, fun h => by simp at h, hgT⟩⟩ (by decide))
    case dnOB =>
     intro L a w' hj hr
     have all := all_on hr hj.sz (by kernel_rfl)
     obtain ⟨s14, s90, s91, s92, s93, s94, s95, s96, s97, s98, s99, s100, rfl, hv⟩ := hj.fr
     have e11 := hv.k11 (all 11 (by omega))
     subst e11
     have hg := hv.g
     have HB10 := hI (HB9.out.trans (hg.mono HB9.out.size))
     have hxx := HA9.out.below hg
     have hyy := HY9.out.below hg
     have x2 := Lib.cell_of_heap hxx 2
     have y2 := Lib.cell_of_heap hyy 2
     simp [Lot.cells] at x2 y2
     clear all hv hj hr hg hxx hyy HM1 HM2 HCM HA9 HY9
     dsimp only
     by_cases hm3 : m = 3
     ·have t3 : (m == 3) = true := beq_iff_eq.2 hm3
      have tz : decide (z < 0) = false := decide_eq_false (by rw [← HZ.out, cmpI_lt]; have := ord_hi HAL.out (by rw [← hm3]; exact HY1.out) (by rw [← hm3]; exact HX2.out); omega)
      clear hm3 x2 y2
      go_wp2_with fail
      go_roundw
      case rel => exact ⟨k + 1, by go_num, by have := HLT.out; omega, HB10.out⟩
      case measure => simp [intOf]; have := HLT.out; omega
     have t3 : (m == 3) = false := beq_eq_false_iff_ne.2 hm3
     by_cases hm4 : m = 4
     ·have t4 : (m == 4) = true := beq_iff_eq.2 hm4
      have tz : decide (z > 0) = false := decide_eq_false (by rw [← HZ.out]; intro h; have h := cmpI_gt.1 h; have := ord_lo HAL.out (by rw [← hm4]; exact HY1.out) (by rw [← hm4]; exact HX2.out); omega)
      have tz2 : decide (0 < z) = false := tz
      clear hm3 hm4 x2 y2
      go_wp2_with fail
      go_roundw
      case rel => exact ⟨k + 1, by go_num, by have := HLT.out; omega, HB10.out⟩
      case measure => simp [intOf]; have := HLT.out; omega
     have t4 : (m == 4) = false := beq_eq_false_iff_ne.2 hm4
     by_cases hm2 : m = 2
     ·have t2 : (m == 2) = true := beq_iff_eq.2 hm2
      have tz : decide (y.acq < x.acq) = false := decide_eq_false (by have := ord_li (by rw [← hm2]; exact HY1.out) (by rw [← hm2]; exact HX2.out); omega)
      clear hm2 hm3 hm4
      go_wp2_with fail
      go_roundw
      case rel => exact ⟨k + 1, by go_num, by have := HLT.out; omega, HB10.out⟩
      case measure => simp [intOf]; have := HLT.out; omega
     have t2 : (m == 2) = false := beq_eq_false_iff_ne.2 hm2
     have tz : decide (y.acq > x.acq) = false := decide_eq_false (by have := ord_fi hm2 hm3 hm4 HY1.out HX2.out; omega)
     have tz2 : decide (x.acq < y.acq) = false := tz
     clear hm2 hm3 hm4
     go_wp2_with fail
     go_roundw
     case rel => exact ⟨k + 1, by go_num, by have := HLT.out; omega, HB10.out⟩
     case measure => simp [intOf]; have := HLT.out; omega
    case stOB =>
     intro L a w' hj i hi
     obtain ⟨hun, o, ho, hall⟩ := mem_ready.1 hi
     have hoff := getD_off hun
     have hlt := (Array.getElem?_eq_some_iff.1 ho).1
     simp at hlt
     obtain ⟨s14, s90, s91, s92, s93, s94, s95, s96, s97, s98, s99, s100, rfl, hv⟩ := hj.fr
     have HV := hI hv
     have HJ := hI hj
     clear hv hj
     rcases (show i = 0 ∨ i = 1 ∨ i = 2 ∨ i = 3 ∨ i = 4 ∨ i = 5 ∨ i = 6 ∨ i = 7 ∨ i = 8 ∨ i = 9 ∨ i = 10 ∨ i = 11 from by omega) with rfl | rfl | rfl | rfl | rfl | rfl | rfl | rfl | rfl | rfl | rfl | rfl
     ·simp at ho
      subst ho
      clear hall hi
      refine wpOp_hid rfl fun K' HK => ?_
      go_simp
      cases HV.out
      refine HK.out _ _ ⟨by simp [HJ.out.sz], ⟨_, _, _, _, _, _, _, _, _, _, _, _, rfl, fun _ => rfl, ?_, ?_, ?_, ?_, ?_, ?_, ?_, ?_, ?_, ?_, ?_, HV.out.g⟩⟩
      all_goals exact Um (by assumption)
     ·simp at ho
      subst ho
      have H0 := Hq hall 0
      clear hall hi
      have e0 := HV.out.k0 H0.out
      subst e0
      have hyy := HY9.out.below HV.out.g
      have c0 := Lib.cell_of_heap hyy 0; have c1 := Lib.cell_of_heap hyy 1; have c2 := Lib.cell_of_heap hyy 2; have c3 := Lib.cell_of_heap hyy 3; have c4 := Lib.cell_of_heap hyy 4; have c5 := Lib.cell_of_heap hyy 5; have c6 := Lib.cell_of_heap hyy 6
      simp [Lot.cells] at c0 c1 c2 c3 c4 c5 c6
      refine wpOp_hid rfl fun K' HK => ?_
      go_simp
      cases HV.out
      refine HK.out _ _ ⟨by simp [HJ.out.sz], ⟨_, _, _, _, _, _, _, _, _, _, _, _, rfl, ?_, fun _ => rfl, ?_, ?_, ?_, ?_, ?_, ?_, ?_, ?_, ?_, ?_, HV.out.g⟩⟩
      all_goals exact Um (by assumption)
     ·simp at ho
      subst ho
      clear hall hi
      refine wpOp_hid rfl fun K' HK => ?_
      go_simp
      cases HV.out
      refine HK.out _ _ ⟨by simp [HJ.out.sz], ⟨_, _, _, _, _, _, _, _, _, _, _, _, rfl, ?_, ?_, fun _ => rfl, ?_, ?_, ?_, ?_, ?_, ?_, ?_, ?_, ?_, HV.out.g⟩⟩
      all_goals exact Um (by assumption)
     ·simp at ho
      subst ho
      have H2 := Hq hall 2
      clear hall hi
      have e0 := HV.out.k2 H2.out
      subst e0
      have hxx := HA9.out.below HV.out.g
      have c0 := Lib.cell_of_heap hxx 0; have c1 := Lib.cell_of_heap hxx 1; have c2 := Lib.cell_of_heap hxx 2; have c3 := Lib.cell_of_heap hxx 3; have c4 := Lib.cell_of_heap hxx 4; have c5 := Lib.cell_of_heap hxx 5; have c6 := Lib.cell_of_heap hxx 6
      simp [Lot.cells] at c0 c1 c2 c3 c4 c5 c6
      refine wpOp_hid rfl fun K' HK => ?_
      go_simp
      cases HV.out
      refine HK.out _ _ ⟨by simp [HJ.out.sz], ⟨_, _, _, _, _, _, _, _, _, _, _, _, rfl, ?_, ?_, ?_, fun _ => rfl, ?_, ?_, ?_, ?_, ?_, ?_, ?_, ?_, HV.out.g⟩⟩
      all_goals exact Um (by assumption)
     ·simp at ho
      subst ho
      have H1 := Hq hall 1
      have H3 := Hq hall 3
      clear hall hi
      have e0 := HV.out.k1 H1.out
      subst e0
      have e1 := HV.out.k3 H3.out
      subst e1
      refine wpOp_hid rfl fun K' HK => ?_
      go_simp
      refine (HM1.out w' HV.out.g).mono ?_
      rintro e wn ⟨rfl, bn⟩
      cases HV.out
      refine HK.out _ _ ⟨by simp [HJ.out.sz], ⟨_, _, _, _, _, _, _, _, _, _, _, _, rfl, ?_, ?_, ?_, ?_, fun _ => rfl, ?_, ?_, ?_, ?_, ?_, ?_, ?_, HV.out.g.trans (bn.mono HV.out.g.size)⟩⟩
      all_goals exact Um (by assumption)
     ·simp at ho
      subst ho
      clear hall hi
      refine wpOp_hid rfl fun K' HK => ?_
      go_simp
      cases HV.out
      refine HK.out _ _ ⟨by simp [HJ.out.sz], ⟨_, _, _, _, _, _, _, _, _, _, _, _, rfl, ?_, ?_, ?_, ?_, ?_, fun _ => rfl, ?_, ?_, ?_, ?_, ?_, ?_, HV.out.g⟩⟩
      all_goals exact Um (by assumption)
     ·simp at ho
      subst ho
      have H5 := Hq hall 5
      clear hall hi
      have e0 := HV.out.k5 H5.out
      subst e0
      have hxx := HA9.out.below HV.out.g
      have c0 := Lib.cell_of_heap hxx 0; have c1 := Lib.cell_of_heap hxx 1; have c2 := Lib.cell_of_heap hxx 2; have c3 := Lib.cell_of_heap hxx 3; have c4 := Lib.cell_of_heap hxx 4; have c5 := Lib.cell_of_heap hxx 5; have c6 := Lib.cell_of_heap hxx 6
      simp [Lot.cells] at c0 c1 c2 c3 c4 c5 c6
      refine wpOp_hid rfl fun K' HK => ?_
      go_simp
      cases HV.out
      refine HK.out _ _ ⟨by simp [HJ.out.sz], ⟨_, _, _, _, _, _, _, _, _, _, _, _, rfl, ?_, ?_, ?_, ?_, ?_, ?_, fun _ => rfl, ?_, ?_, ?_, ?_, ?_, HV.out.g⟩⟩
      all_goals exact Um (by assumption)
     ·simp at ho
      subst ho
      clear hall hi
      refine wpOp_hid rfl fun K' HK => ?_
      go_simp
      cases HV.out
      refine HK.out _ _ ⟨by simp [HJ.out.sz], ⟨_, _, _, _, _, _, _, _, _, _, _, _, rfl, ?_, ?_, ?_, ?_, ?_, ?_, ?_, fun _ => rfl, ?_, ?_, ?_, ?_, HV.out.g⟩⟩
      all_goals exact Um (by assumption)
     ·simp at ho
      subst ho
      have H7 := Hq hall 7
      clear hall hi
      have e0 := HV.out.k7 H7.out
      subst e0
      have hyy := HY9.out.below HV.out.g
      have c0 := Lib.cell_of_heap hyy 0; have c1 := Lib.cell_of_heap hyy 1; have c2 := Lib.cell_of_heap hyy 2; have c3 := Lib.cell_of_heap hyy 3; have c4 := Lib.cell_of_heap hyy 4; have c5 := Lib.cell_of_heap hyy 5; have c6 := Lib.cell_of_heap hyy 6
      simp [Lot.cells] at c0 c1 c2 c3 c4 c5 c6
      refine wpOp_hid rfl fun K' HK => ?_
      go_simp
      cases HV.out
      refine HK.out _ _ ⟨by simp [HJ.out.sz], ⟨_, _, _, _, _, _, _, _, _, _, _, _, rfl, ?_, ?_, ?_, ?_, ?_, ?_, ?_, ?_, fun _ => rfl, ?_, ?_, ?_, HV.out.g⟩⟩
      all_goals exact Um (by assumption)
     ·simp at ho
      subst ho
      have H6 := Hq hall 6
      have H8 := Hq hall 8
      clear hall hi
      have e0 := HV.out.k6 H6.out
      subst e0
      have e1 := HV.out.k8 H8.out
      subst e1
      refine wpOp_hid rfl fun K' HK => ?_
      go_simp
      refine (HM2.out w' HV.out.g).mono ?_
      rintro e wn ⟨rfl, bn⟩
      cases HV.out
      refine HK.out _ _ ⟨by simp [HJ.out.sz], ⟨_, _, _, _, _, _, _, _, _, _, _, _, rfl, ?_, ?_, ?_, ?_, ?_, ?_, ?_, ?_, ?_, fun _ => rfl, ?_, ?_, HV.out.g.trans (bn.mono HV.out.g.size)⟩⟩
      all_goals exact Um (by assumption)
     ·simp at ho
      subst ho
      have H4 := Hq hall 4
      have H9 := Hq hall 9
      clear hall hi
      have e0 := HV.out.k4 H4.out
      subst e0
      have e1 := HV.out.k9 H9.out
      subst e1
      refine wpOp_hid rfl fun K' HK => ?_
      go_simp
      refine (HCM.out w' HV.out.g).mono ?_
      rintro e wn ⟨rfl, bn⟩
      cases HV.out
      refine HK.out _ _ ⟨by simp [HJ.out.sz], ⟨_, _, _, _, _, _, _, _, _, _, _, _, rfl, ?_, ?_, ?_, ?_, ?_, ?_, ?_, ?_, ?_, ?_, fun _ => rfl, ?_, HV.out.g.trans (bn.mono HV.out.g.size)⟩⟩
      all_goals exact Um (by assumption)
     ·simp at ho
      subst ho
      have H10 := Hq hall 10
      clear hall hi
      have e0 := HV.out.k10 H10.out
      subst e0
      refine wpOp_hid rfl fun K' HK => ?_
      go_simp
      cases HV.out
      refine HK.out _ _ ⟨by simp [HJ.out.sz], ⟨_, _, _, _, _, _, _, _, _, _, _, _, rfl, ?_, ?_, ?_, ?_, ?_, ?_, ?_, ?_, ?_, ?_, ?_, fun _ => rfl, HV.out.g⟩⟩
      all_goals exact Um (by assumption)
   case stOA =>
    intro L a w' hj i hi
    obtain ⟨hun, o, ho, hall⟩ := mem_ready.1 hi
    have hoff := getD_off hun
    have hlt := (Array.getElem?_eq_some_iff.1 ho).1
    simp at hlt
    obtain ⟨s72, s73, s74, s75, s76, s77, s78, s79, s80, s81, s82, rfl, hv⟩ := hj.fr
    have HV := hI hv
    have HJ := hI hj
    clear hv hj
    rcases (show i = 0 ∨ i = 1 ∨ i = 2 ∨ i = 3 ∨ i = 4 ∨ i = 5 ∨ i = 6 ∨ i = 7 ∨ i = 8 ∨ i = 9 ∨ i = 10 from by omega) with rfl | rfl | rfl | rfl | rfl | rfl | rfl | rfl | rfl | rfl | rfl
    ·simp at ho
     subst ho
     clear hall hi
     refine wpOp_hid rfl fun K' HK => ?_
     go_simp
     cases HV.out
     refine HK.out _ _ ⟨by simp [HJ.out.sz], ⟨_, _, _, _, _, _, _, _, _, _, _, rfl, fun _ => rfl, ?_, ?_, ?_, ?_, ?_, ?_, ?_, ?_, ?_, ?_, HV.out.g⟩⟩
     all_goals exact Um (by assumption)
    ·simp at ho
     subst ho
     clear hall hi
     have hxx := HA5.out.below HV.out.g
     have c0 := Lib.cell_of_heap hxx 0; have c1 := Lib.cell_of_heap hxx 1; have c2 := Lib.cell_of_heap hxx 2; have c3 := Lib.cell_of_heap hxx 3; have c4 := Lib.cell_of_heap hxx 4; have c5 := Lib.cell_of_heap hxx 5; have c6 := Lib.cell_of_heap hxx 6
     simp [Lot.cells] at c0 c1 c2 c3 c4 c5 c6
     refine wpOp_hid rfl fun K' HK => ?_
     go_simp
     cases HV.out
     refine HK.out _ _ ⟨by simp [HJ.out.sz], ⟨_, _, _, _, _, _, _, _, _, _, _, rfl, ?_, fun _ => rfl, ?_, ?_, ?_, ?_, ?_, ?_, ?_, ?_, ?_, HV.out.g⟩⟩
     all_goals exact Um (by assumption)
    ·simp at ho
     subst ho
     have H0 := Hq hall 0
     have H1 := Hq hall 1
     clear hall hi
     have e0 := HV.out.k0 H0.out
     subst e0
     have e1 := HV.out.k1 H1.out
     subst e1
     refine wpOp_hid rfl fun K' HK => ?_
     go_simp
     refine (HH1.out w' HV.out.g).mono ?_
     rintro e wn ⟨rfl, bn⟩
     cases HV.out
     refine HK.out _ _ ⟨by simp [HJ.out.sz], ⟨_, _, _, _, _, _, _, _, _, _, _, rfl, ?_, ?_, fun _ => rfl, ?_, ?_, ?_, ?_, ?_, ?_, ?_, ?_, HV.out.g.trans (bn.mono HV.out.g.size)⟩⟩
     all_goals exact Um (by assumption)
    ·simp at ho
     subst ho
     have H2 := Hq hall 2
     clear hall hi
     have e0 := HV.out.k2 H2.out
     subst e0
     refine wpOp_hid rfl fun K' HK => ?_
     go_simp
     cases HV.out
     refine HK.out _ _ ⟨by simp [HJ.out.sz], ⟨_, _, _, _, _, _, _, _, _, _, _, rfl, ?_, ?_, ?_, fun _ => rfl, ?_, ?_, ?_, ?_, ?_, ?_, ?_, HV.out.g⟩⟩
     all_goals exact Um (by assumption)
    ·simp at ho
     subst ho
     have H3 := Hq hall 3
     clear hall hi
     have e0 := HV.out.k3 H3.out
     subst e0
     refine wpOp_hid rfl fun K' HK => ?_
     go_simp
     cases HV.out
     refine HK.out _ _ ⟨by simp [HJ.out.sz], ⟨_, _, _, _, _, _, _, _, _, _, _, rfl, ?_, ?_, ?_, ?_, fun _ => rfl, ?_, ?_, ?_, ?_, ?_, ?_, HV.out.g⟩⟩
     all_goals exact Um (by assumption)
    ·simp at ho
     subst ho
     have H4 := Hq hall 4
     clear hall hi
     have e0 := HV.out.k4 H4.out
     subst e0
     refine wpOp_hid rfl fun K' HK => ?_
     go_simp
     cases HV.out
     refine HK.out _ _ ⟨by simp [HJ.out.sz], ⟨_, _, _, _, _, _, _, _, _, _, _, rfl, ?_, ?_, ?_, ?_, ?_, fun _ => rfl, ?_, ?_, ?_, ?_, ?_, HV.out.g⟩⟩
     all_goals exact Um (by assumption)
    ·simp at ho
     subst ho
     have H4 := Hq hall 4
     clear hall hi
     have e0 := HV.out.k4 H4.out
     subst e0
     refine wpOp_hid rfl fun K' HK => ?_
     go_simp
     cases HV.out
     refine HK.out _ _ ⟨by simp [HJ.out.sz], ⟨_, _, _, _, _, _, _, _, _, _, _, rfl, ?_, ?_, ?_, ?_, ?_, ?_, fun _ => rfl, ?_, ?_, ?_, ?_, HV.out.g⟩⟩
     all_goals exact Um (by assumption)
    ·simp at ho
     subst ho
     have H5 := Hq hall 5
     have H6 := Hq hall 6
     have H4 := Hq hall 4
     clear hall hi
     have e0 := HV.out.k5 H5.out
     subst e0
     have e1 := HV.out.k6 H6.out
     subst e1
     have e2 := HV.out.k4 H4.out
     subst e2
     have hsl := HSO.out
     refine wpOp_hid rfl fun K' HK => ?_
     go_simp
     cases HV.out
     refine HK.out _ _ ⟨by simp [HJ.out.sz], ⟨_, _, _, _, _, _, _, _, _, _, _, rfl, ?_, ?_, ?_, ?_, ?_, ?_, ?_, fun _ => rfl, ?_, ?_, ?_, HV.out.g⟩⟩
     all_goals exact Um (by assumption)
    ·simp at ho
     subst ho
     have H4 := Hq hall 4
     clear hall hi
     have e0 := HV.out.k4 H4.out
     subst e0
     have hxx := HA5.out.below HV.out.g
     have c0 := Lib.cell_of_heap hxx 0; have c1 := Lib.cell_of_heap hxx 1; have c2 := Lib.cell_of_heap hxx 2; have c3 := Lib.cell_of_heap hxx 3; have c4 := Lib.cell_of_heap hxx 4; have c5 := Lib.cell_of_heap hxx 5; have c6 := Lib.cell_of_heap hxx 6
     simp [Lot.cells] at c0 c1 c2 c3 c4 c5 c6
     refine wpOp_hid rfl fun K' HK => ?_
     go_simp
     cases HV.out
     refine HK.out _ _ ⟨by simp [HJ.out.sz], ⟨_, _, _, _, _, _, _, _, _, _, _, rfl, ?_, ?_, ?_, ?_, ?_, ?_, ?_, ?_, fun _ => rfl, ?_, ?_, HV.out.g⟩⟩
     all_goals exact Um (by assumption)
    ·simp at ho
     subst ho
     have H7 := Hq hall 7
     have H8 := Hq hall 8
     have H4 := Hq hall 4
     clear hall hi
     have e0 := HV.out.k7 H7.out
     subst e0
     have e1 := HV.out.k8 H8.out
     subst e1
     have e2 := HV.out.k4 H4.out
     subst e2
     refine wpOp_hid rfl fun K' HK => ?_
     go_simp
     refine (HH2.out w' HV.out.g).mono ?_
     rintro e wn ⟨rfl, bn⟩
     cases HV.out
     refine HK.out _ _ ⟨by simp [HJ.out.sz], ⟨_, _, _, _, _, _, _, _, _, _, _, rfl, ?_, ?_, ?_, ?_, ?_, ?_, ?_, ?_, ?_, fun _ => rfl, ?_, HV.out.g.trans (bn.mono HV.out.g.size)⟩⟩
     all_goals exact Um (by assumption)
    ·simp at ho
     subst ho
     have H4 := Hq hall 4
     have H9 := Hq hall 9
     clear hall hi
     have e0 := HV.out.k4 H4.out
     subst e0
     have e1 := HV.out.k9 H9.out
     subst e1
     refine wpOp_hid rfl fun K' HK => ?_
     go_simp
     cases HV.out
     refine HK.out _ _ ⟨by simp [HJ.out.sz], ⟨_, _, _, _, _, _, _, _, _, _, _, rfl, ?_, ?_, ?_, ?_, ?_, ?_, ?_, ?_, ?_, ?_, fun _ => rfl, HV.out.g⟩⟩
     all_goals exact Um (by assumption)
  ·have hcx : decide ((k : Int) < (N : Int)) = false := by simp; omega
   have HA1 := hI (HAW.out wr HBW.out)
   go_wp2_with fail
   refine HA1.out.mono ?_
   rintro e w8 ⟨rfl, b8⟩
   have HB8 := hI (HBW.out.trans (b8.mono HBW.out.size))
   clear b8
   go_wp2_with fail
   go_ret
   exact ⟨rfl, HB8.out⟩
end Go.Proofs.YtdnmpgoigagjmaaGreatDoor
