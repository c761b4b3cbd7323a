/-
  tranchelaw20.ReliefChoices returns true.
-/
import Derived.Test.YtjlakdocjpmblaaGreatDoorK41
set_option linter.unusedVariables false
set_option linter.unusedSimpArgs false
set_option maxHeartbeats 16000000
set_option maxRecDepth 100000
namespace Go.Proofs.YtjlakdocjpmblaaGreatDoor
open Go.RowKit Tr Go.Shelf
theorem same_ord {lz : List Lot} {m : Int} {r r' : List SLot} (h0 : ordE lz m ≠ 0 → r = []) (h : ordE lz m = 0 → r.map Subtype.val = ordP m lz) (h0' : ordE lz m ≠ 0 → r' = []) (h' : ordE lz m = 0 → r'.map Subtype.val = ordP m lz) : r.map Subtype.val = r'.map Subtype.val := by
 by_cases hz : ordE lz m = 0
 ·exact (h hz).trans (h' hz).symm
 ·rw [h0 hz, h0' hz]
theorem ord_len {lz : List Lot} {m : Int} {r : List SLot} (hl : lz.length ≤ 10000) (h0 : ordE lz m ≠ 0 → r = []) (h : ordE lz m = 0 → r.map Subtype.val = ordP m lz) : r.length ≤ 10000 := by
 by_cases hz : ordE lz m = 0
 ·have a := congrArg List.length (h hz)
  rw [List.length_map, (ordP_perm m lz).length_eq] at a
  omega
 ·rw [h0 hz]; exact Nat.zero_le _
theorem ReliefChoices_any (A : Option Addr) (ls : List Lot) (c : Nat) (hcap : ls.length ≤ c) (h1 : ls.length ≤ 9223372036854775807) (hA : A = none → ls.length = 0 ∧ c = 0) (s q : ByteArray) (m : Int) (Ap : Option Addr) (ps : List Pk) (cp : Nat) (hcp : ps.length ≤ cp) (hp1 : ps.length ≤ 9223372036854775807) (w : World)
 (hR : RdL w A ls) (hK : RdK w.heap.size w Ap ps) (ht : Tabs w) : Calls Tryz.prog 3 #[.slice A ls.length c, .string s, .string q, .int .i64 m, .slice Ap ps.length cp] w (TruePost19 w) := by
 have HAW := hI (fun W (hW : Below w.heap.size w W) => awake20_any W (ht.below hW))
 have HGR := hI (great20_any w.heap.size A ls c h1 Ap ps cp hp1 s q w hR hK (Nat.le_refl _))
 by_cases hsm : Sml ls ps s q
 case neg =>
  have HN := hI hsm
  obtain ⟨N, hN⟩ : ∃ N, ls.length = N := ⟨_, rfl⟩
  obtain ⟨P, hP⟩ : ∃ P, ps.length = P := ⟨_, rfl⟩
  rw [hN, hP] at HGR ⊢
  clear hR hK ht hcap h1 hA hcp hp1 hsm hN hP
  go_enter Tryz.func3, Tryz.ntmps3
  go_wp2_with fail
  refine HGR.out.mono ?_
  rintro e w1 ⟨b, rfl, hb, b1⟩
  have hbt : b = true := by cases b; exact (HN.out (hb rfl)).elim; rfl
  subst hbt
  have HB1 := hI b1
  have HA1 := hI (HAW.out w1 b1)
  clear b1 hb
  go_wp2_with fail
  refine HA1.out.mono ?_
  rintro e w2 ⟨rfl, b2⟩
  have HB2 := hI (HB1.out.trans (b2.mono HB1.out.size))
  clear b2
  go_wp2_with fail
  go_ret
  exact ⟨rfl, HB2.out⟩
 obtain ⟨sl, hsl⟩ := sl_of ls (fun l hl => (hsm.tiny l hl).sized)
 have hll : sl.length = ls.length := by rw [← hsl, List.length_map]
 have hrb : RdB w.heap.size w A sl := by
  intro hl
  obtain ⟨ad, e, q1, q2⟩ := hR (by rw [← hsl]; intro h; exact hl (List.map_eq_nil_iff.1 h))
  exact ⟨ad, e, q1, fun j l hj => q2 j l.1 (by rw [← hsl, List.getElem?_map, hj]; rfl)⟩
 have hti : ∀ l ∈ sl, l.1.tiny := fun l hl => hsm.tiny l.1 (by rw [← hsl]; exact List.mem_map.2 ⟨l, hl, rfl⟩)
 have hpq : ∀ p ∈ ps, p.qty.size ≤ 1000 := fun p hp => by have := (hsm.p p hp).2; omega
 have hp13 : ∀ p ∈ ps, p.qty.size ≤ 13 := fun p hp => (hsm.p p hp).2
 have hqs : q.size ≤ 1000 := by have := hsm.q; omega
 have hl2 := hsm.len.2
 have hp2 := hsm.pl
 have hA2 : A = none → sl.length = 0 ∧ c = 0 := by rw [hll]; exact hA
 have hrW : ∀ W, Below w.heap.size w W → RdB W.heap.size W A sl := fun W hW h => by obtain ⟨ad, e, h1, h2⟩ := hrb.below hW h; exact ⟨ad, e, Nat.lt_of_lt_of_le h1 hW.size, h2⟩
 have HOR := fun W (hW : Below w.heap.size w W) => Order20_any w.heap.size A sl c (by omega) (by omega) m W (hrb.below hW) hW.size hA2 (ht.below hW)
 have HOQ := fun W (hW : Below w.heap.size w W) => rOrder20_any w.heap.size A sl c (by omega) (by omega) hti m W (hrb.below hW) hW.size
 have HCH := fun W (hW : Below w.heap.size w W) => Choose20_any w.heap.size A sl c (by omega) (by omega) s q hqs m Ap ps cp (by omega) hpq W (hrb.below hW) hW.size hA2 (hK.below hW) (ht.below hW)
 have HCR := fun W (hW : Below w.heap.size w W) => rChoose20_any w.heap.size A sl c (by omega) (by omega) hti s q hqs m Ap ps cp (by omega) hpq W (hrb.below hW) hW.size (hK.below hW)
 have HNM := fun W (hW : Below w.heap.size w W) => Name20_any m W
 have HNR := fun W (hW : Below w.heap.size w W) => rName20_any m W
 rw [hsl] at HOR HOQ HCH HCR
 rw [hll] at HOR HOQ HCH HCR
 have HLP : Hid (ls.length ≤ 10000 ∧ ps.length ≤ 10000) := ⟨by omega, by omega⟩
 obtain ⟨N, hN⟩ : ∃ N, ls.length = N := ⟨_, rfl⟩
 obtain ⟨P, hP⟩ : ∃ P, ps.length = P := ⟨_, rfl⟩
 rw [hN] at HGR HOR HOQ HCH HCR ⊢
 rw [hP] at HGR HCH HCR ⊢
 replace HOR := hI HOR
 replace HOQ := hI HOQ
 replace HCH := hI HCH
 replace HCR := hI HCR
 replace HNM := hI HNM
 replace HNR := hI HNR
 clear hR hK ht hcap h1 hA hcp hp1 hsm hN hP sl hsl hll hrb hpq hp13 hqs hti hA2 hrW hl2 hp2
 go_enter Tryz.func3, Tryz.ntmps3
 go_wp2_with fail
 refine HGR.out.mono ?_
 rintro e w1 ⟨b, rfl, _, b1⟩
 have HB1 := hI b1
 clear b1 HGR
 cases b
 case true =>
  have HA1 := hI (HAW.out w1 HB1.out)
  go_wp2_with fail
  refine HA1.out.mono ?_
  rintro e w2 ⟨rfl, b2⟩
  have HB2 := hI (HB1.out.trans (b2.mono HB1.out.size))
  clear b2
  go_wp2_with fail
  go_ret
  exact ⟨rfl, HB2.out⟩
 have HC := hI (HOR.out w1 HB1.out)
 clear HOR
 go_wp2_with fail
 refine HC.out.mono ?_
 rintro e w2 ⟨A2, c2, r2, rfl, b2, hr2, _, _, x0, x1⟩
 have HB2 := hI (HB1.out.trans (b2.mono HB1.out.size))
 have HR2 := hI hr2
 have HX := hI (And.intro x0 x1)
 have HC2 := hI (HOQ.out w2 HB2.out)
 obtain ⟨l2, e2⟩ : ∃ n, r2.length = n := ⟨_, rfl⟩
 rw [e2]
 have HE2 := hI e2
 clear b2 hr2 x0 x1 HC HOQ e2
 go_wp2_with fail
 refine HC2.out.mono ?_
 rintro e w3 ⟨A4, c4, r4, rfl, b3, hr4, _, _, x0, x1⟩
 have HB3 := hI (HB2.out.trans (b3.mono HB2.out.size))
 have HB23 := hI b3
 have hsame := same_ord HX.out.1 HX.out.2 x0 x1
 have g1 := ord_len HLP.out.1 HX.out.1 HX.out.2
 have g3 := ord_len HLP.out.1 x0 x1
 have HQ1 := fun W (hW : Below w3.heap.size w3 W) => lSame_any A2 A4 (r2.map Subtype.val) (r4.map Subtype.val) c2 c4 (by rw [List.length_map]; omega) (by rw [List.length_map]; omega) w2.heap.size w3.heap.size W (HR2.out.below (HB23.out.trans (hW.mono HB23.out.size))).rdb' (hr4.below hW).rdb'
 simp only [List.length_map] at HQ1
 rw [sameB_yes hsame] at HQ1
 rw [HE2.out] at HQ1
 generalize r4.length = l4 at HQ1 ⊢
 replace HQ1 := hI HQ1
 have HC3 := hI (HCH.out w3 HB3.out)
 clear b3 hr4 x0 x1 hsame g1 g3 HC2 HCH HX HR2
 generalize ordE ls m = zo
 go_wp2_with fail
 refine HC3.out.mono ?_
 rintro e w4 ⟨A6, c6, r6, rfl, b4, hk6, _, y0, y1⟩
 have HB4 := hI (HB3.out.trans (b4.mono HB3.out.size))
 have HB34 := hI b4
 have HK6 := hI hk6
 have HY := hI (And.intro y0 y1)
 have HC4 := hI (HCR.out w4 HB4.out)
 obtain ⟨l6, e6⟩ : ∃ n, r6.length = n := ⟨_, rfl⟩
 rw [e6]
 have HE6 := hI e6
 clear b4 hk6 y0 y1 HC3 HCR e6
 go_wp2_with fail
 refine HC4.out.mono ?_
 rintro e w5 ⟨A7, c7, r7, rfl, b5, hk7, _, y0, y1⟩
 have HB5 := hI (HB4.out.trans (b5.mono HB4.out.size))
 have HB35 := hI (HB34.out.trans (b5.mono HB34.out.size))
 have HB45 := hI b5
 have hsame : r6 = r7 := by
  by_cases hz : chsE ls s q m ps = 0
  ·exact (HY.out.2 hz).trans (y1 hz).symm
  ·rw [HY.out.1 hz, y0 hz]
 have hrl : r6.length ≤ 1000000 := by
  by_cases hz : chsE ls s q m ps = 0
  ·rw [HY.out.2 hz]
   have h := chsR_len ls s q m ps
   unfold chsR at h
   have := HLP.out
   omega
  ·rw [HY.out.1 hz]; exact Nat.zero_le _
 have HQ2 := fun W (hW : Below w5.heap.size w5 W) => eqPicks_any A6 A7 r6 r7 c6 c7 hrl (by rw [← hsame]; exact hrl) w4.heap.size w5.heap.size W (HK6.out.below (HB45.out.trans (hW.mono HB45.out.size))) (hk7.below hW)
 rw [sameB_yes hsame] at HQ2
 rw [HE6.out] at HQ2
 generalize r7.length = l7 at HQ2 ⊢
 replace HQ2 := hI HQ2
 have HC5 := hI (HNM.out w5 HB5.out)
 clear b5 hk7 y0 y1 hsame hrl HC4 HNM HY HK6
 generalize chsE ls s q m ps = zc
 unfold NmPost at HC5 HNR
 obtain ⟨nn, hnn⟩ : ∃ z, nmE m = z := ⟨_, rfl⟩
 obtain ⟨nz, hnz⟩ : ∃ z, nmC m = z := ⟨_, rfl⟩
 rw [hnn, hnz] at HC5 HNR
 clear hnn hnz
 go_wp2_with fail
 refine HC5.out.mono ?_
 rintro e w6 ⟨rfl, b6⟩
 have HB6 := hI (HB5.out.trans (b6.mono HB5.out.size))
 have HB36 := hI (HB35.out.trans (b6.mono HB35.out.size))
 have HB56 := hI b6
 have HC6 := hI (HNR.out w6 HB6.out)
 clear b6 HC5 HNR
 go_wp2_with fail
 refine HC6.out.mono ?_
 rintro e w7 ⟨rfl, b7⟩
 have HB7 := hI (HB6.out.trans (b7.mono HB6.out.size))
 have HB37 := hI (HB36.out.trans (b7.mono HB36.out.size))
 have HB57 := hI (HB56.out.trans (b7.mono HB56.out.size))
 have HC7 := hI (HQ1.out w7 HB37.out)
 clear b7 HC6 HQ1
 go_wp2_with fail
 refine HC7.out.mono ?_
 rintro e w8 ⟨rfl, m1, rfl⟩
 have HB8 := hI (below_drewN HB7.out m1)
 have HC8 := hI (HQ2.out _ (below_drewN HB57.out m1))
 clear HC7 HQ2
 generalize w7.drewN m1 = w8 at *
 go_wp2_with fail
 refine HC8.out.mono ?_
 rintro e w9 ⟨rfl, m2, rfl⟩
 have HB9 := hI (below_drewN HB8.out m2)
 clear HC8
 generalize w8.drewN m2 = w9 at *
 have HA := hI (HAW.out w9 HB9.out)
 go_wp2_with fail
 refine HA.out.mono ?_
 rintro e w10 ⟨rfl, b10⟩
 have HB10 := hI (HB9.out.trans (b10.mono HB9.out.size))
 clear b10
 go_wp2_with fail
 go_ret
 exact ⟨rfl, HB10.out⟩
end Go.Proofs.YtjlakdocjpmblaaGreatDoor
