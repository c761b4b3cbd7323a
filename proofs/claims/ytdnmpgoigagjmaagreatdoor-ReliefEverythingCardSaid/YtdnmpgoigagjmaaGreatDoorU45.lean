/-
  tranchelaw20.ReliefEverything returns true.
-/
import Derived.Test.YtdnmpgoigagjmaaGreatDoorU44
set_option linter.unusedVariables false
set_option linter.unusedSimpArgs false
set_option maxHeartbeats 16000000
set_option maxRecDepth 100000
namespace Go.Proofs.YtdnmpgoigagjmaaGreatDoor
open Go.RowKit Tr Go.Shelf
section
variable {lz : List Lot} {s : ByteArray} {m : Int} {ps : List Pk}
theorem ChsOk.every (h : ChsOk lz s (I (totQ (ownB lz s))) m ps) : ∀ x ∈ ownB lz s, amt (chsSt (ownB lz s) m (vl (I (totQ (ownB lz s)))) ps).1 x.id = vl x.qty := by
 rw [vl_I]
 exact fun x hx => chs_every h.nd (fun y hy => h.pos' y (ownB_mem.1 hy).1) m ps hx
theorem ChsOk.lots (h : ChsOk lz s (I (totQ (ownB lz s))) m ps) : ∀ x ∈ lz, x.ok := fun x hx => lchk_zero.1 (((lall_zero lz).1 h.all).ok x hx)
theorem ChsOk.cost (h : ChsOk lz s (I (totQ (ownB lz s))) m ps) : cstZ lz (chsR lz s (I (totQ (ownB lz s))) m ps) = sumL (fun l => vl l.cost) (ownB lz s) := by
 unfold cstZ
 rw [if_pos h.tak.1]
 exact every_cost ((lall_zero lz).1 h.all).nd h.lots h.every (h.pks (some s) (fun t e => by injection e with e; exact e.symm))
theorem ChsOk.rest (h : ChsOk lz s (I (totQ (ownB lz s))) m ps) : ownB (restR lz (chsR lz s (I (totQ (ownB lz s))) m ps)) s = [] := every_rest h.lots h.every
theorem ChsOk.other (h : ChsOk lz s (I (totQ (ownB lz s))) m ps) (k : Nat) (hk : k < 4) : ChsOk lz s (I (totQ (ownB lz s))) ((k : Int) + 1) [] :=
 ⟨h.all, h.can, fun x => Bool.false_ne_true x.2, by omega, h.pos, h.le⟩
theorem ChsOk.range (h : ChsOk lz s (I (totQ (ownB lz s))) m ps) : chsE lz s (I (totQ (ownB lz s))) 1 [] = 0 ∧ rngLo lz s (I (totQ (ownB lz s))) = sumL (fun l => vl l.cost) (ownB lz s) ∧ rngHi lz s (I (totQ (ownB lz s))) = sumL (fun l => vl l.cost) (ownB lz s) := by
 have h1 : chsE lz s (I (totQ (ownB lz s))) 1 [] = 0 := chsE_ok h.all h.can (fun x => Bool.false_ne_true x.2) (by decide) h.pos h.le
 have hz : ∀ k, k < 4 → mz lz s (I (totQ (ownB lz s))) k = sumL (fun l => vl l.cost) (ownB lz s) := fun k hk => (h.other k hk).cost
 obtain ⟨j1, a1, b1⟩ := rlo_is (mz lz s (I (totQ (ownB lz s)))) 4 (by decide)
 obtain ⟨j2, a2, b2⟩ := rhi_is (mz lz s (I (totQ (ownB lz s)))) 4 (by decide)
 refine ⟨h1, ?_, ?_⟩
 ·unfold rngLo; rw [if_pos h1, b1, hz j1 a1]
 ·unfold rngHi; rw [if_pos h1, b2, hz j2 a2]
end
theorem totQ_tiny (own : List Lot) (hl : own.length ≤ 1002) (h : ∀ x ∈ own, x.qty.size ≤ 13) : (I (totQ own)).size ≤ 18 := by
 refine I_size_le (k := 17) ?_
 have key : ∀ r : List Lot, (∀ x ∈ r, x.qty.size ≤ 13) → (totQ r).natAbs ≤ r.length * 10 ^ 13 := by
  intro r
  induction r with
  | nil => intro _; exact Nat.le_refl _
  | cons x r ih =>
    intro h
    have e : totQ (x :: r) = vl x.qty + totQ r := by unfold totQ; rw [List.map_cons, List.sum_cons]
    have h1 := ih (fun y hy => h y (List.mem_cons_of_mem _ hy))
    have h2 : (vl x.qty).natAbs < 10 ^ 13 := Nat.lt_of_lt_of_le (vl_lt x.qty) (pow_mono (h x (List.mem_cons_self ..)))
    rw [e, List.length_cons]
    omega
 have := key own h
 omega
theorem ReliefEverything_any (A : Option Addr) (ls : List Lot) (c : Nat) (hcap : ls.length ≤ c) (h1 : ls.length ≤ 9223372036854775807) (hA : A = none → ls.length = 0 ∧ c = 0) (s : ByteArray) (m : Int) (Ap : Option Addr) (ps : List Pk) (cp : Nat) (hcp : ps.length ≤ cp) (hp1 : ps.length ≤ 9223372036854775807) (w : World)
 (hR : RdL w A ls) (hK : RdK w.heap.size w Ap ps) (ht : Tabs w) : Calls Tryz.prog 3 #[.slice A ls.length c, .string s, .int .i64 m, .slice Ap ps.length cp] w (TruePost19 w) := by
 have HAW := hI (fun W (hW : Below w.heap.size w W) => awake20_any W (ht.below hW))
 have HGR := hI (great20_any w.heap.size A ls c h1 Ap ps cp hp1 s ⟨#[]⟩ w hR hK (Nat.le_refl _))
 by_cases hsm : Sml ls ps s ⟨#[]⟩
 case neg =>
  have HN := hI hsm
  obtain ⟨N, hN⟩ : ∃ N, ls.length = N := ⟨_, rfl⟩
  obtain ⟨P, hP⟩ : ∃ P, ps.length = P := ⟨_, rfl⟩
  rw [hN, hP] at HGR ⊢
  clear hR hK ht hcap h1 hA hcp hp1 hsm hN hP
  go_enter Tryz.func3, Tryz.ntmps3
  go_wp2_with fail
  refine HGR.out.mono ?_
  rintro e w1 ⟨b, rfl, hb, b1⟩
  have hbt : b = true := by cases b; exact (HN.out (hb rfl)).elim; rfl
  subst hbt
  have HB1 := hI b1
  have HA1 := hI (HAW.out w1 b1)
  clear b1 hb
  go_wp2_with fail
  refine HA1.out.mono ?_
  rintro e w2 ⟨rfl, b2⟩
  have HB2 := hI (HB1.out.trans (b2.mono HB1.out.size))
  clear b2
  go_wp2_with fail
  go_ret
  exact ⟨rfl, HB2.out⟩
 obtain ⟨sl, hsl⟩ := sl_of ls (fun l hl => (hsm.tiny l hl).sized)
 have hll : sl.length = ls.length := by rw [← hsl, List.length_map]
 have hrb : RdB w.heap.size w A sl := by
  intro hl
  obtain ⟨ad, e, q1, q2⟩ := hR (by rw [← hsl]; intro h; exact hl (List.map_eq_nil_iff.1 h))
  exact ⟨ad, e, q1, fun j l hj => q2 j l.1 (by rw [← hsl, List.getElem?_map, hj]; rfl)⟩
 have hti : ∀ l ∈ sl, l.1.tiny := fun l hl => hsm.tiny l.1 (by rw [← hsl]; exact List.mem_map.2 ⟨l, hl, rfl⟩)
 have hpq : ∀ p ∈ ps, p.qty.size ≤ 1000 := fun p hp => by have := (hsm.p p hp).2; omega
 have hl2 := hsm.len.2
 have hp2 := hsm.pl
 have hA2 : A = none → sl.length = 0 ∧ c = 0 := by rw [hll]; exact hA
 have hrW : ∀ W, Below w.heap.size w W → RdB W.heap.size W A sl := fun W hW h => by obtain ⟨ad, e, h1, h2⟩ := hrb.below hW h; exact ⟨ad, e, Nat.lt_of_lt_of_le h1 hW.size, h2⟩
 have HCA := fun W (hW : Below w.heap.size w W) => lCheckAll_any A c (sl.map Subtype.val) (by rw [List.length_map]; omega) (by rw [List.length_map]; omega) W ((hrb.below hW).rdb'.rdl hW.size) (fun l hl => by obtain ⟨y, _, rfl⟩ := List.mem_map.1 hl; exact y.2) (ht.below hW)
 have HTO := fun W (hW : Below w.heap.size w W) => lTotal_any w.heap.size A sl c s W (by omega) (hrb.below hW) hW.size (ht.below hW)
 have htot : sumBy qtyOf (ownL sl s) = totQ (ownB ls s) := by rw [← hsl, ← ownB_own, totQ_own]
 have hcst : sumBy costOf (ownL sl s) = sumL (fun l => vl l.cost) (ownB ls s) := by
  rw [← hsl, ← ownB_own]
  exact sumL_own (fun l => vl l.cost) (ownL sl s)
 have hqs : (I (totQ (ownB ls s))).size ≤ 1000 := by
  have h := totQ_tiny (ownB ls s) (by have : (ownB ls s).length ≤ ls.length := List.length_filter_le _ _; omega) (fun x hx => (hsm.tiny x (ownB_mem.1 hx).1).1)
  omega
 have HCH := fun W (hW : Below w.heap.size w W) => Choose20_any w.heap.size A sl c (by omega) (by omega) s (I (totQ (ownB ls s))) hqs m Ap ps cp (by omega) hpq W (hrb.below hW) hW.size hA2 (hK.below hW) (ht.below hW)
 have HRG := fun W (hW : Below w.heap.size w W) => Range20_any w.heap.size A sl c (by omega) (by omega) hti s (I (totQ (ownB ls s))) hqs W (hrb.below hW) hW.size hA2 (ht.below hW)
 have HCO := fun (A2 : Option Addr) (l2 : List Pk) (c2 : Nat) (h2 : l2.length ≤ 10000) (hc2 : l2.length ≤ c2) (hs : ∀ p ∈ l2, p.qty.size ≤ 13) W (hW : Below w.heap.size w W) (hk : RdK W.heap.size W A2 l2) =>
  Cost20_any W.heap.size A sl c (by omega) (by omega) hti A2 l2 c2 h2 hc2 (fun p hp => by have := hs p hp; omega) (fun _ p hp => hs p hp) W (hrW W hW) (Nat.le_refl _) hA2 hk (ht.below hW)
 have HTK := fun (A2 : Option Addr) (l2 : List Pk) (c2 : Nat) (h2 : l2.length ≤ 10000) (hc2 : l2.length ≤ c2) (hs : ∀ p ∈ l2, p.qty.size ≤ 13) W (hW : Below w.heap.size w W) (hk : RdK W.heap.size W A2 l2) =>
  Take20_any W.heap.size A sl c (by omega) (by omega) hti A2 l2 c2 h2 hc2 (fun p hp => by have := hs p hp; omega) (fun _ p hp => hs p hp) W (hrW W hW) (Nat.le_refl _) hA2 hk (ht.below hW)
 rw [List.length_map] at HCA
 rw [htot, hcst] at HTO
 rw [hsl] at HCA HCH HRG HCO HTK
 rw [hll] at HCA HTO HCH HRG HCO HTK
 have HT := hI ht
 have HSM := hI hsm
 obtain ⟨N, hN⟩ : ∃ N, ls.length = N := ⟨_, rfl⟩
 obtain ⟨P, hP⟩ : ∃ P, ps.length = P := ⟨_, rfl⟩
 rw [hN] at HGR HCA HTO HCH HRG HCO HTK hl2 ⊢
 rw [hP] at HGR HCH hp2 ⊢
 replace HCA := hI HCA
 replace HTO := hI HTO
 replace HCH := hI HCH
 replace HRG := hI HRG
 replace HCO := hI HCO
 replace HTK := hI HTK
 have HN := hI hN
 have HP := hI hP
 clear hR hK ht hcap h1 hA hcp hp1 hsm hN hP sl hsl hll hrb hpq hti hA2 hrW htot hcst hqs
 go_enter Tryz.func3, Tryz.ntmps3
 go_wp2_with fail
 refine HGR.out.mono ?_
 rintro e w1 ⟨b, rfl, _, b1⟩
 have HB1 := hI b1
 clear b1 HGR
 cases b
 case true =>
  have HA1 := hI (HAW.out w1 HB1.out)
  go_wp2_with fail
  refine HA1.out.mono ?_
  rintro e w2 ⟨rfl, b2⟩
  have HB2 := hI (HB1.out.trans (b2.mono HB1.out.size))
  clear b2
  go_wp2_with fail
  go_ret
  exact ⟨rfl, HB2.out⟩
 have HCC := hI (HCA.out w1 HB1.out)
 clear HCA
 go_wp2_with fail
 refine HCC.out.mono ?_
 rintro e w2 ⟨rfl, b2⟩
 have HB2 := hI (HB1.out.trans (b2.mono HB1.out.size))
 have HA2 := hI (HAW.out w2 HB2.out)
 clear b2 HCC
 by_cases h0 : lall ls = 0
 case neg =>
  have t1 : (lall ls == 0) = false := beq_eq_false_iff_ne.2 h0
  have t2 : (lall ls != 0) = true := by rw [bne, t1]; rfl
  clear h0
  go_wp2_with fail
  refine HA2.out.mono ?_
  rintro e w3 ⟨rfl, b3⟩
  have HB3 := hI (HB2.out.trans (b3.mono HB2.out.size))
  clear b3
  go_wp2_with fail
  go_ret
  exact ⟨rfl, HB3.out⟩
 rw [h0]
 have HTC := hI (HTO.out w2 HB2.out)
 obtain ⟨CZ, hCZ⟩ : ∃ z, sumL (fun l => vl l.cost) (ownB ls s) = z := ⟨_, rfl⟩
 obtain ⟨TQ, hTQ⟩ : ∃ z, totQ (ownB ls s) = z := ⟨_, rfl⟩
 have HCZ := hI hCZ
 have HTQ := hI hTQ
 rw [hCZ, hTQ] at HTC
 rw [hTQ] at HCH HRG
 clear h0 HTO hCZ hTQ
 go_wp2_with fail
 refine HTC.out.mono ?_
 rintro e w3 ⟨rfl, b3⟩
 have HB3 := hI (HB2.out.trans (b3.mono HB2.out.size))
 have HCHC := hI (HCH.out w3 HB3.out)
 clear b3 HTC HCH HA2
 go_wp2_with fail
 refine HCHC.out.mono ?_
 rintro e w4 ⟨A2, c2, res, rfl, b4, hk4, hc4, hr0, hr1⟩
 have HB4 := hI (HB3.out.trans (b4.mono HB3.out.size))
 have HA4 := hI (HAW.out w4 HB4.out)
 by_cases hce : chsE ls s (I TQ) m ps = 0
 case neg =>
  obtain rfl := hr0 hce
  generalize chsE ls s (I TQ) m ps = z at hce ⊢
  have t1 : (z == 0) = false := beq_eq_false_iff_ne.2 hce
  have t2 : (z != 0) = true := by rw [bne, t1]; rfl
  clear hce b4 hk4 hc4 hr0 hr1 HCHC
  go_wp2_with fail
  refine HA4.out.mono ?_
  rintro e w5 ⟨rfl, b5⟩
  have HB5 := hI (HB4.out.trans (b5.mono HB4.out.size))
  clear b5
  go_wp2_with fail
  go_ret
  exact ⟨rfl, HB5.out⟩
 have hres : res = chsR ls s (I TQ) m ps := hr1 hce
 have hok := chsE_zero hce
 have hrl : res.length ≤ 10000 := by rw [hres]; have := chsR_len ls s (I TQ) m ps; have := HN.out; have := HP.out; omega
 have hrs : ∀ p ∈ res, p.qty.size ≤ 13 := fun p hp => by rw [hres] at hp; exact hok.size13 HSM.out.tiny p hp
 have hk4' : ∀ W, Below w4.heap.size w4 W → RdK W.heap.size W A2 res := fun W hW hl => by obtain ⟨ad, e, h1, h2⟩ := hk4 hl; exact ⟨ad, e, Nat.lt_of_lt_of_le h1 hW.size, fun j p hj => (h2 j p hj).below hW (by rw [add_block]; exact h1)⟩
 have hok2 := hok
 rw [← HTQ.out] at hok2
 have hcost : cstZ ls res = CZ ∧ takE ls res = 0 := by
  rw [hres, ← HTQ.out]
  exact ⟨hok2.cost.trans HCZ.out, hok2.tak.1⟩
 have hrest : ownB (restR ls res) s = [] := by rw [hres, ← HTQ.out]; exact hok2.rest
 have hrng : chsE ls s (I TQ) 1 [] = 0 ∧ rngLo ls s (I TQ) = CZ ∧ rngHi ls s (I TQ) = CZ := by
  rw [← HTQ.out, ← HCZ.out]; exact hok2.range
 have HKW := hI hk4'
 have HCOF := hI (fun W hW hk => HCO.out A2 res c2 hrl hc4 hrs W hW hk)
 have HTKF := hI (fun W hW hk => HTK.out A2 res c2 hrl hc4 hrs W hW hk)
 have HREST := hI hrest
 have HRNG := hI hrng
 have HCOST := hI hcost
 have hco := HCOF.out w4 HB4.out (hk4' w4 (Below.refl _ _))
 rw [hcost.1, hcost.2] at hco
 have HCOC := hI hco
 rw [hce]
 obtain ⟨M, hM⟩ : ∃ M, res.length = M := ⟨_, rfl⟩
 rw [hM] at HCOC HTKF ⊢
 clear hce b4 hk4 hc4 hr0 hr1 HCHC hres hok hrl hrs hk4' hok2 hcost hrest hrng hco hM HCO HTK HA4
 go_wp2_with fail
 refine HCOC.out.mono ?_
 rintro e w5 ⟨rfl, b5⟩
 have HB5 := hI (HB4.out.trans (b5.mono HB4.out.size))
 have HB45 := hI b5
 have hrg := HRG.out w5 HB5.out
 rw [HRNG.out.1, HRNG.out.2.1, HRNG.out.2.2] at hrg
 have HRGC := hI hrg
 clear b5 HCOC hrg HRG
 go_wp2_with fail
 refine HRGC.out.mono ?_
 rintro e w6 ⟨rfl, b6⟩
 have HB6 := hI (HB5.out.trans (b6.mono HB5.out.size))
 have HB46 := hI (HB45.out.trans (b6.mono HB45.out.size))
 have HTKC := hI (HTKF.out w6 HB6.out (HKW.out w6 HB46.out))
 clear b6 HRGC HTKF
 go_wp2_with fail
 refine HTKC.out.mono ?_
 rintro e w7 ⟨A5, c5, r5, A6, c6, r6, rfl, b7, hr5, _, hc5, _, _, _, _, hr⟩
 have hrr := (hr HCOST.out.2).1
 have hown : ownL r5 s = [] := by
  have h := HREST.out
  rw [← hrr, ← ownB_own] at h
  exact List.map_eq_nil_iff.1 h
 have hr5l : r5.length ≤ 1000000 := by
  have h := congrArg List.length hrr
  rw [List.length_map] at h
  have h2 := restR_len ls res
  have := HN.out
  omega
 have HB7 := hI (HB6.out.trans (b7.mono HB6.out.size))
 have hof := lOf_any w7.heap.size A5 r5 c5 s w7 hr5l hr5 (Nat.le_refl _)
 rw [hown] at hof
 have HOF := hI hof
 rw [HCOST.out.2]
 generalize r5.length = l5 at HOF ⊢
 generalize r6.length = l6
 clear b7 hr5 hc5 hr hrr hown hr5l hof HTKC
 go_wp2_with fail
 refine HOF.out.mono ?_
 rintro e w8 ⟨A8, c8, rfl, _, _, _, b8⟩
 have HB8 := hI (HB7.out.trans (b8.mono HB7.out.size))
 have HA8 := hI (HAW.out w8 HB8.out)
 clear b8 HOF
 go_wp2_with fail
 refine HA8.out.mono ?_
 rintro e w9 ⟨rfl, b9⟩
 have HB9 := hI (HB8.out.trans (b9.mono HB8.out.size))
 clear b9
 go_wp2_with fail
 go_ret
 exact ⟨rfl, HB9.out⟩
end Go.Proofs.YtdnmpgoigagjmaaGreatDoor
