/-
  tranchelaw20.ReliefExtremes returns true.
-/
import Derived.Test.YtdnmpgoigagjmaaGreatDoorU46
set_option linter.unusedVariables false
set_option linter.unusedSimpArgs false
set_option maxHeartbeats 16000000
set_option maxRecDepth 100000
namespace Go.Proofs.YtdnmpgoigagjmaaGreatDoor
open Go.RowKit Tr Go.Shelf
theorem RdK.up {n : Nat} {w w' : World} {A : Option Addr} {ps : List Pk} (h : RdK n w A ps) (hb : Below n w w') (hn : n ≤ w'.heap.size) : RdK w'.heap.size w' A ps := by
 intro hl
 obtain ⟨ad, e, h1, h2⟩ := h.below hb hl
 exact ⟨ad, e, Nat.lt_of_lt_of_le h1 hn, h2⟩
theorem ChsOk.exp {lz : List Lot} {s q : ByteArray} {m : Int} {ps : List Pk} (h : ChsOk lz s q m ps) (hti : ∀ l ∈ lz, l.tiny) : ∀ p ∈ chsR lz s q m ps, ∃ x, ExP lz p x := by
 intro p hp
 obtain ⟨x, hx⟩ := (h.pks none (fun t e => by cases e)).ok p hp
 have hm := (lotOf_mem hx.lot).1
 have ht := hti x hm
 have hs := h.size hti p hp
 exact ⟨x, hx.lot, Int.ne_of_gt (h.pos' x hm), Nat.le_trans ht.1 (by omega), Nat.le_trans ht.2.1 (by omega), by omega⟩
theorem num_le {a b : Rat} (h : a ≤ b) : (a - b).num ≤ 0 := by
 have h1 : 0 ≤ b - a := by grind
 have h2 : 0 ≤ (b - a).num := Rat.num_nonneg.2 h1
 have h3 : a - b = -(b - a) := by grind
 rw [h3, Rat.neg_num]; omega
theorem ChsOk.ends {lz : List Lot} {s q : ByteArray} {m : Int} {ps : List Pk} (h : ChsOk lz s q m ps) :
 ∃ hi : ChsOk lz s q 3 [], ∃ lo : ChsOk lz s q 4 [], chsE lz s q 3 [] = 0 ∧ chsE lz s q 4 [] = 0 ∧ exS lz (chsR lz s q 4 []) ≤ exS lz (chsR lz s q m ps) ∧ exS lz (chsR lz s q m ps) ≤ exS lz (chsR lz s q 3 []) := by
 have e3 : chsE lz s q 3 [] = 0 := chsE_ok h.all h.can (fun x => absurd x.1 (by decide)) (by decide) h.pos h.le
 have e4 : chsE lz s q 4 [] = 0 := chsE_ok h.all h.can (fun x => absurd x.1 (by decide)) (by decide) h.pos h.le
 have c3 := chsE_zero e3
 have c4 := chsE_zero e4
 refine ⟨c3, c4, e3, e4, ?_, ?_⟩
 ·rw [c4.ex, h.ex]
  exact chs_low h.nd (fun x hx => h.pos' x (ownB_mem.1 hx).1) h.pos h.le m [] ps
 ·rw [c3.ex, h.ex]
  exact chs_high h.nd (fun x hx => h.pos' x (ownB_mem.1 hx).1) h.pos h.le m [] ps
theorem ReliefExtremes_any (A : Option Addr) (ls : List Lot) (c : Nat) (hcap : ls.length ≤ c) (h1 : ls.length ≤ 9223372036854775807) (hA : A = none → ls.length = 0 ∧ c = 0) (s q : ByteArray) (m : Int) (Ap : Option Addr) (ps : List Pk) (cp : Nat) (hcp : ps.length ≤ cp) (hp1 : ps.length ≤ 9223372036854775807) (w : World)
 (hR : RdL w A ls) (hK : RdK w.heap.size w Ap ps) (ht : Tabs w) : Calls Tryz.prog 6 #[.slice A ls.length c, .string s, .string q, .int .i64 m, .slice Ap ps.length cp] w (TruePost19 w) := by
 have HAW := hI (fun W (hW : Below w.heap.size w W) => awake20_any W (ht.below hW))
 have HGR := hI (great20_any w.heap.size A ls c h1 Ap ps cp hp1 s q w hR hK (Nat.le_refl _))
 by_cases hsm : Sml ls ps s q
 case neg =>
  have HN := hI hsm
  obtain ⟨N, hN⟩ : ∃ N, ls.length = N := ⟨_, rfl⟩
  obtain ⟨P, hP⟩ : ∃ P, ps.length = P := ⟨_, rfl⟩
  rw [hN, hP] at HGR ⊢
  clear hR hK ht hcap h1 hA hcp hp1 hsm hN hP
  go_enter Tryz.func6, Tryz.ntmps6
  go_wp2_with fail
  refine HGR.out.mono ?_
  rintro e w1 ⟨b, rfl, hb, b1⟩
  have hbt : b = true := by cases b; exact (HN.out (hb rfl)).elim; rfl
  subst hbt
  have HB1 := hI b1
  have HA1 := hI (HAW.out w1 b1)
  clear b1 hb
  go_wp2_with fail
  refine HA1.out.mono ?_
  rintro e w2 ⟨rfl, b2⟩
  have HB2 := hI (HB1.out.trans (b2.mono HB1.out.size))
  clear b2
  go_wp2_with fail
  go_ret
  exact ⟨rfl, HB2.out⟩
 obtain ⟨sl, hsl⟩ := sl_of ls (fun l hl => (hsm.tiny l hl).sized)
 have hll : sl.length = ls.length := by rw [← hsl, List.length_map]
 have hrb : RdB w.heap.size w A sl := by
  intro hl
  obtain ⟨ad, e, q1, q2⟩ := hR (by rw [← hsl]; intro h; exact hl (List.map_eq_nil_iff.1 h))
  exact ⟨ad, e, q1, fun j l hj => q2 j l.1 (by rw [← hsl, List.getElem?_map, hj]; rfl)⟩
 have hpq : ∀ p ∈ ps, p.qty.size ≤ 1000 := fun p hp => by have := (hsm.p p hp).2; omega
 have hl2 := hsm.len.2
 have hp2 := hsm.pl
 have hq2 := hsm.q
 have HCH := fun W (hW : Below w.heap.size w W) => Choose20_any w.heap.size A sl c (by omega) (by omega) s q (by omega) m Ap ps cp (by omega) hpq W (hrb.below hW) hW.size (by rw [hll]; exact hA) (hK.below hW) (ht.below hW)
 have HCN := fun (m : Int) W (hW : Below w.heap.size w W) => Choose20_any w.heap.size A sl c (by omega) (by omega) s q (by omega) m none [] 0 (by decide) (fun p h => by cases h) W (hrb.below hW) hW.size (by rw [hll]; exact hA) (RdK.nil _ _ _) (ht.below hW)
 have HEX := fun (A2 : Option Addr) (l2 : List Pk) (c2 : Nat) (hl2 : l2.length ≤ 1100) (ho : ∀ p ∈ l2, ∃ x, ExP ls p x) W (hW : Below w.heap.size w W) (hk : RdK W.heap.size W A2 l2) => exact20_any A ls c (by omega) A2 l2 c2 hl2 ho W (hR.below hW) hk (ht.below hW)
 rw [hsl, hll] at HCH HCN
 have HT := hI ht
 have HSM := hI hsm
 obtain ⟨N, hN⟩ : ∃ N, ls.length = N := ⟨_, rfl⟩
 obtain ⟨P, hP⟩ : ∃ P, ps.length = P := ⟨_, rfl⟩
 rw [hN] at HGR HCH HCN HEX hl2 ⊢
 rw [hP] at HGR HCH hp2 ⊢
 replace HCH := hI HCH
 replace HCN := hI HCN
 replace HEX := hI HEX
 have HN := hI hN
 have HP := hI hP
 clear hR hK ht hcap h1 hA hcp hp1 hsm hN hP sl hsl hll hrb hpq hq2
 go_enter Tryz.func6, Tryz.ntmps6
 go_wp2_with fail
 refine HGR.out.mono ?_
 rintro e w1 ⟨b, rfl, _, b1⟩
 have HB1 := hI b1
 clear b1 HGR
 cases b
 case true =>
  have HA1 := hI (HAW.out w1 HB1.out)
  go_wp2_with fail
  refine HA1.out.mono ?_
  rintro e w2 ⟨rfl, b2⟩
  have HB2 := hI (HB1.out.trans (b2.mono HB1.out.size))
  clear b2
  go_wp2_with fail
  go_ret
  exact ⟨rfl, HB2.out⟩
 have HCC := hI (HCH.out w1 HB1.out)
 clear HCH
 go_wp2_with fail
 refine HCC.out.mono ?_
 rintro e w2 ⟨A2, c2, res, rfl, b2, hk2, hc2, hr0, hr1⟩
 have HB2 := hI (HB1.out.trans (b2.mono HB1.out.size))
 by_cases hce : chsE ls s q m ps = 0
 case neg =>
  have HA1 := hI (HAW.out w2 HB2.out)
  obtain rfl := hr0 hce
  generalize chsE ls s q m ps = z at hce ⊢
  have t1 : (z == 0) = false := beq_eq_false_iff_ne.2 hce
  have t2 : (z != 0) = true := by rw [bne, t1]; rfl
  clear hce b2 hk2 hc2 hr0 hr1 HCC
  go_wp2_with fail
  refine HA1.out.mono ?_
  rintro e w3 ⟨rfl, b3⟩
  have HB3 := hI (HB2.out.trans (b3.mono HB2.out.size))
  clear b3
  go_wp2_with fail
  go_ret
  exact ⟨rfl, HB3.out⟩
 have hres : res = chsR ls s q m ps := hr1 hce
 have hok := chsE_zero hce
 obtain ⟨hi, lo, e3, e4, hlo, hhi⟩ := hok.ends
 have hrl : res.length ≤ 1010 := by rw [hres]; have := chsR_len ls s q m ps; have := HN.out; have := HP.out; omega
 have hrx := hok.exp HSM.out.tiny
 have HK2 := hI hk2
 have HHI := hI hi
 have HLO := hI lo
 have HE3 := hI e3
 have HE4 := hI e4
 rw [← hres] at hlo hhi hrx
 have HRX := hI hrx
 rw [hce]
 have HXR := hI (fun W hW hk => HEX.out A2 res c2 (by omega) hrx W hW hk)
 have hb2 := (exS_bd ls res hrx).mono (show _ ≤ 50000 by omega)
 obtain ⟨M, hM⟩ : ∃ M, res.length = M := ⟨_, rfl⟩
 rw [hM] at HXR ⊢
 generalize exS ls res = q2 at HXR hlo hhi hb2
 have HBD2 := hI hb2
 have HL1 := hI hlo
 have HL2 := hI hhi
 have HC3 := hI (HCN.out 3 w2 HB2.out)
 clear hce b2 hk2 hc2 hr0 hr1 HCC hres hok hi lo e3 e4 hlo hhi hrl hrx hM hb2
 go_wp2_with fail
 refine HC3.out.mono ?_
 rintro e w3 ⟨A3, c3, r3, rfl, b3, hk3, hc3, _, hr3⟩
 have HB3 := hI (HB2.out.trans (b3.mono HB2.out.size))
 have HK23 := hI (HK2.out.up b3 b3.size)
 have hr3 : r3 = chsR ls s q 3 [] := hr3 HE3.out
 have hl3 : r3.length ≤ 1010 := by rw [hr3]; have := chsR_len ls s q 3 []; have := HN.out; have h0 : ([] : List Pk).length = 0 := rfl; omega
 have hx3 := HHI.out.exp HSM.out.tiny
 rw [← hr3] at hx3
 rw [HE3.out]
 rw [← hr3] at HL2
 have HX3 := hI (fun W hW hk => HEX.out A3 r3 c3 (by omega) hx3 W hW hk)
 have hb3 := (exS_bd ls r3 hx3).mono (show _ ≤ 50000 by omega)
 obtain ⟨M3, hM3⟩ : ∃ M3, r3.length = M3 := ⟨_, rfl⟩
 rw [hM3] at HX3 ⊢
 generalize exS ls r3 = q3 at HX3 HL2 hb3
 have HBD3 := hI hb3
 have HK3 := hI hk3
 have HC4 := hI (HCN.out 4 w3 HB3.out)
 clear b3 hk3 hc3 hr3 hl3 hx3 hM3 hb3 HC3 HB2 HK2
 go_wp2_with fail
 refine HC4.out.mono ?_
 rintro e w4 ⟨A4, c4, r4, rfl, b4, hk4, hc4, _, hr4⟩
 have HB4 := hI (HB3.out.trans (b4.mono HB3.out.size))
 have HK24 := hI (HK23.out.up b4 b4.size)
 have HK34 := hI (HK3.out.up b4 b4.size)
 have hr4 : r4 = chsR ls s q 4 [] := hr4 HE4.out
 have hl4 : r4.length ≤ 1010 := by rw [hr4]; have := chsR_len ls s q 4 []; have := HN.out; have h0 : ([] : List Pk).length = 0 := rfl; omega
 have hx4 := HLO.out.exp HSM.out.tiny
 rw [← hr4] at hx4
 rw [HE4.out]
 rw [← hr4] at HL1
 have HX4 := hI (HEX.out A4 r4 c4 (by omega) hx4 w4 HB4.out hk4)
 have hb4 := (exS_bd ls r4 hx4).mono (show _ ≤ 50000 by omega)
 obtain ⟨M4, hM4⟩ : ∃ M4, r4.length = M4 := ⟨_, rfl⟩
 rw [hM4] at HX4 ⊢
 generalize exS ls r4 = q4 at HX4 HL1 hb4
 have HBD4 := hI hb4
 clear b4 hk4 hc4 hr4 hl4 hx4 hM4 hb4 HC4 HB3 HK23 HK3 HEX HCN HHI HLO HE3 HE4 HRX
 go_wp2_with fail
 refine HX4.out.mono ?_
 rintro e w5 ⟨rfl, b5⟩
 have HB5 := hI (HB4.out.trans (b5.mono HB4.out.size))
 have HK25 := hI (HK24.out.up b5 b5.size)
 have HK35 := hI (HK34.out.up b5 b5.size)
 clear b5 HX4 HB4 HK24 HK34
 unfold fenc
 go_wp2_with fail
 have b6 : Below w5.heap.size w5 (w5.alloc (.cells #[.string (I q4.num), .string (dn q4)] 55)) := (Below.refl _ _).alloc (Nat.le_refl _) _
 have k6 : FrBox (w5.alloc (.cells #[.string (I q4.num), .string (dn q4)] 55)) w5.heap.size q4 := heap_alloc_new _ _
 generalize w5.alloc (.cells #[.string (I q4.num), .string (dn q4)] 55) = w6 at b6 k6 ⊢
 have HB6 := hI (HB5.out.trans (b6.mono HB5.out.size))
 have HK26 := hI (HK25.out.up b6 b6.size)
 have HK36 := hI (HK35.out.up b6 b6.size)
 have HFa := hI k6
 clear b6 k6
 refine (HXR.out w6 HB6.out HK26.out).mono ?_
 rintro e w7 ⟨rfl, b7⟩
 have HB7 := hI (HB6.out.trans (b7.mono HB6.out.size))
 have HK37 := hI (HK36.out.up b7 b7.size)
 have HFa7 := hI (HFa.out.below b7 HFa.out.lt)
 clear b7 HXR HB5 HB6 HK25 HK26 HK35 HK36 HFa
 unfold fenc
 go_wp2_with fail
 have b8 : Below w7.heap.size w7 (w7.alloc (.cells #[.string (I q2.num), .string (dn q2)] 55)) := (Below.refl _ _).alloc (Nat.le_refl _) _
 have k8 : FrBox (w7.alloc (.cells #[.string (I q2.num), .string (dn q2)] 55)) w7.heap.size q2 := heap_alloc_new _ _
 generalize w7.alloc (.cells #[.string (I q2.num), .string (dn q2)] 55) = w8 at b8 k8 ⊢
 have HB8 := hI (HB7.out.trans (b8.mono HB7.out.size))
 have HK38 := hI (HK37.out.up b8 b8.size)
 have HFa8 := hI (HFa7.out.below b8 HFa7.out.lt)
 have HFb8 := hI k8
 clear b8 k8
 refine (HX3.out w8 HB8.out HK38.out).mono ?_
 rintro e w9 ⟨rfl, b9⟩
 have HB9 := hI (HB8.out.trans (b9.mono HB8.out.size))
 have HFa9 := hI (HFa8.out.below b9 HFa8.out.lt)
 have HFb9 := hI (HFb8.out.below b9 HFb8.out.lt)
 clear b9 HX3 HB7 HB8 HK37 HK38 HFa7 HFa8 HFb8
 unfold fenc
 go_upto_region 11 with fail
 have ba : Below w9.heap.size w9 (w9.alloc (.cells #[.string (I q3.num), .string (dn q3)] 55)) := (Below.refl _ _).alloc (Nat.le_refl _) _
 have ka : FrBox (w9.alloc (.cells #[.string (I q3.num), .string (dn q3)] 55)) w9.heap.size q3 := heap_alloc_new _ _
 generalize w9.alloc (.cells #[.string (I q3.num), .string (dn q3)] 55) = wa at ba ka ⊢
 have HBa := hI (HB9.out.trans (ba.mono HB9.out.size))
 have ga := HFa9.out.below ba HFa9.out.lt
 have gb := HFb9.out.below ba HFb9.out.lt
 generalize w9.heap.size = B9 at *
 generalize w7.heap.size = B7 at *
 generalize w5.heap.size = B5 at *
 have HCa := hI (fun W (hW : Tabs W) => fCompare_any (I q4.num) (dn q4) (I q2.num) (dn q2) W (Nat.le_trans HBD4.out.num (by omega)) (Nat.le_trans HBD4.out.dn (by omega)) (Nat.le_trans HBD2.out.num (by omega)) (Nat.le_trans HBD2.out.dn (by omega)) hW)
 have HCb := hI (fun W (hW : Tabs W) => fCompare_any (I q2.num) (dn q2) (I q3.num) (dn q3) W (Nat.le_trans HBD2.out.num (by omega)) (Nat.le_trans HBD2.out.dn (by omega)) (Nat.le_trans HBD3.out.num (by omega)) (Nat.le_trans HBD3.out.dn (by omega)) hW)
 rw [fv_enc, fv_enc] at HCa HCb
 have t1 : decide (cmpI (q4 - q2).num 0 ≤ 0) = true := decide_eq_true (cmpI_le.2 (num_le HL1.out))
 have t2 : decide (cmpI (q2 - q3).num 0 ≤ 0) = true := decide_eq_true (cmpI_le.2 (num_le HL2.out))
 generalize cmpI (q4 - q2).num 0 = z1 at t1 HCa
 generalize cmpI (q2 - q3).num 0 = z2 at t2 HCb
 have HGb := hI gb
 have HGc := hI ka
 have a0 := Lib.cell_of_heap ga 0
 have a1 := Lib.cell_of_heap ga 1
 have b0 := Lib.cell_of_heap gb 0
 have b1 := Lib.cell_of_heap gb 1
 simp at a0 a1 b0 b1
 clear ga gb ka ba HFa9 HFb9 HB9
 go_wp2_with fail
 refine (HCa.out _ (HT.out.below HBa.out)).mono ?_
 rintro e w10 ⟨rfl, b10⟩
 have HB10 := hI (HBa.out.trans (b10.mono HBa.out.size))
 have gb := HGb.out.below b10 HGb.out.lt
 have gc := HGc.out.below b10 HGc.out.lt
 clear a0 a1 b0 b1 b10 HBa HGb HGc HCa
 have b0 := Lib.cell_of_heap gb 0
 have b1 := Lib.cell_of_heap gb 1
 have c0 := Lib.cell_of_heap gc 0
 have c1 := Lib.cell_of_heap gc 1
 simp at b0 b1 c0 c1
 clear gb gc
 go_wp2_with fail
 refine (HCb.out _ (HT.out.below HB10.out)).mono ?_
 rintro e w11 ⟨rfl, b11⟩
 have HB11 := hI (HB10.out.trans (b11.mono HB10.out.size))
 have HA11 := hI (HAW.out w11 HB11.out)
 clear b0 b1 c0 c1 b11 HB10 HCb
 go_wp2_with fail
 refine HA11.out.mono ?_
 rintro e w12 ⟨rfl, b12⟩
 have HB12 := hI (HB11.out.trans (b12.mono HB11.out.size))
 clear b12
 go_wp2_with fail
 go_ret
 exact ⟨rfl, HB12.out⟩
end Go.Proofs.YtdnmpgoigagjmaaGreatDoor
