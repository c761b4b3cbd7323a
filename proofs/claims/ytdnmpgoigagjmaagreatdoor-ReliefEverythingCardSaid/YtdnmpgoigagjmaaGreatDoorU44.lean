/-
  The walk of relief.Range.
-/
import Derived.Test.YtdnmpgoigagjmaaGreatDoorU42
set_option linter.unusedVariables false
set_option linter.unusedSimpArgs false
set_option maxHeartbeats 16000000
set_option maxRecDepth 100000
namespace Go.Proofs.YtdnmpgoigagjmaaGreatDoor
open Go.RowKit Tr Go.Shelf
theorem I_mono {a b : Int} (h0 : 0 ≤ a) (h : a ≤ b) : (I a).size ≤ (I b).size := by
 obtain ⟨m, rfl⟩ : ∃ m : Nat, a = m := ⟨a.toNat, by omega⟩
 obtain ⟨n, rfl⟩ : ∃ n : Nat, b = n := ⟨b.toNat, by omega⟩
 rw [I_size, I_size, can_nat, can_nat, digits_length_le_iff]
 exact Nat.lt_of_le_of_lt (by omega) ((digits_length_le_iff _ _).1 (Nat.le_refl _))
def rlo (f : Nat → Int) : Nat → Int
 | 0 => 0
 | k + 1 => if k = 0 then f 0 else if f k < rlo f k then f k else rlo f k
def rhi (f : Nat → Int) : Nat → Int
 | 0 => 0
 | k + 1 => if k = 0 then f 0 else if rhi f k < f k then f k else rhi f k
noncomputable def mz (lz : List Lot) (s q : ByteArray) (k : Nat) : Int := cstZ lz (chsR lz s q ((k : Int) + 1) [])
theorem chsE_same {lz : List Lot} {s q : ByteArray} {k : Nat} (hk : k < 4) : chsE lz s q ((k : Int) + 1) [] = chsE lz s q 1 [] := by
 have hb : ∀ m : Int, ¬ (m = 5 ∧ ([] : List Pk).any badP = true) := fun m h => Bool.false_ne_true h.2
 by_cases h1 : lall lz ≠ 0 ∨ ¬ Can q
 ·rw [chsE_arg h1, chsE_arg h1]
 have h0 : lall lz = 0 := Classical.byContradiction fun x => h1 (.inl x)
 have hc : Can q := Classical.byContradiction fun x => h1 (.inr x)
 by_cases h4 : vl q ≤ 0
 ·rw [chsE_range h0 hc (hb _) (by omega) h4, chsE_range h0 hc (hb _) (by omega) h4]
 by_cases h5 : totQ (ownB lz s) < vl q
 ·rw [chsE_short h0 hc (hb _) (by omega) (by omega) h5, chsE_short h0 hc (hb _) (by omega) (by omega) h5]
 ·rw [chsE_ok h0 hc (hb _) (by omega) (by omega) (by omega), chsE_ok h0 hc (hb _) (by omega) (by omega) (by omega)]
theorem ChsOk.tak {lz : List Lot} {s q : ByteArray} {m : Int} {ps : List Pk} (h : ChsOk lz s q m ps) : takE lz (chsR lz s q m ps) = 0 ∧ posE lz none [] (chsR lz s q m ps) = 0 := by
 have hp : posE lz none [] (chsR lz s q m ps) = 0 := (posE_zero _ _ _ _).2 ⟨fun p _ hm => (by simp at hm), h.pks none (fun t e => by cases e)⟩
 exact ⟨(takE_pos h.all _).trans hp, hp⟩
theorem ChsOk.size13 {lz : List Lot} {s q : ByteArray} {m : Int} {ps : List Pk} (h : ChsOk lz s q m ps) (hti : ∀ l ∈ lz, l.tiny) : ∀ p ∈ chsR lz s q m ps, p.qty.size ≤ 13 := by
 intro p hp
 obtain ⟨x, hx⟩ := (h.pks none (fun t e => by cases e)).ok p hp
 have hxm := (lotOf_mem hx.lot).1
 have hc := (lchk_zero.1 (((lall_zero lz).1 h.all).ok x hxm)).cq
 have h1 := (hti x hxm).1
 have hpc := hx.can
 unfold Can at hc hpc
 rw [← hpc]
 rw [← hc] at h1
 -- a positive number that is not greater has not more digits
 have h2 : (I (vl p.qty)).size ≤ (I (vl x.qty)).size := I_mono (Int.le_of_lt hx.pos) hx.le
 omega
theorem rlo_is (f : Nat → Int) : ∀ k, 0 < k → ∃ j, j < k ∧ rlo f k = f j
 | 0, h => absurd h (Nat.lt_irrefl _)
 | k + 1, _ => by
   rw [rlo]
   split
   ·exact ⟨0, by omega, rfl⟩
   ·split
    ·exact ⟨k, by omega, rfl⟩
    ·obtain ⟨j, h1, h2⟩ := rlo_is f k (by omega)
     exact ⟨j, by omega, h2⟩
theorem rhi_is (f : Nat → Int) : ∀ k, 0 < k → ∃ j, j < k ∧ rhi f k = f j
 | 0, h => absurd h (Nat.lt_irrefl _)
 | k + 1, _ => by
   rw [rhi]
   split
   ·exact ⟨0, by omega, rfl⟩
   ·split
    ·exact ⟨k, by omega, rfl⟩
    ·obtain ⟨j, h1, h2⟩ := rhi_is f k (by omega)
     exact ⟨j, by omega, h2⟩
theorem cstZ_size {lz : List Lot} {ps : List Pk} (hti : ∀ l ∈ lz, l.tiny) (h13 : posE lz none [] ps = 0 → ∀ p ∈ ps, p.qty.size ≤ 13) (hl : ps.length ≤ 10000) : (I (cstZ lz ps)).size ≤ 4000000 := by
 unfold cstZ
 by_cases h : takE lz ps = 0
 ·rw [if_pos h]
  have h0 : lall lz = 0 := Classical.byContradiction fun x => by rw [takE_all x] at h; exact absurd h (by decide)
  have hp : posE lz none [] ps = 0 := (takE_pos h0 ps).symm.trans h
  have hok := ((posE_zero lz none ps []).1 hp).2
  obtain ⟨s2, hs2⟩ := sl_of (takenR lz ps) (fun l hl => (taken_mid ((lall_zero lz).1 h0) hti hok (h13 hp) hl).sized)
  have hl2 : s2.length ≤ 10000 := by
   have h : (takenR lz ps).length = ps.length := by unfold takenR; rw [List.length_map]
   rw [← hs2, List.length_map] at h
   omega
  have := cost_size 1000 (Nat.le_refl _) s2 hl2
  rw [hs2] at this
  omega
 ·rw [if_neg h]; decide
noncomputable def rngLo (lz : List Lot) (s q : ByteArray) : Int := if chsE lz s q 1 [] = 0 then rlo (mz lz s q) 4 else 0
noncomputable def rngHi (lz : List Lot) (s q : ByteArray) : Int := if chsE lz s q 1 [] = 0 then rhi (mz lz s q) 4 else 0
theorem Range20_any (n₀ : Nat) (A : Option Addr) (ls : List SLot) (c : Nat) (hc : ls.length ≤ c) (hlen : ls.length ≤ 10000) (hti : ∀ l ∈ ls, l.1.tiny) (s q : ByteArray) (hq : q.size ≤ 1000) (w : World)
 (hR : RdB n₀ w A ls) (hn : n₀ ≤ w.heap.size) (hA : A = none → ls.length = 0 ∧ c = 0) (ht : Tabs w) :
 Calls Tryz.prog 19 #[.slice A ls.length c, .string s, .string q] w fun e w' => e = .returned (.tuple #[.string (I (rngLo (ls.map Subtype.val) s q)), .string (I (rngHi (ls.map Subtype.val) s q)), .int .i64 (chsE (ls.map Subtype.val) s q 1 [])]) ∧ Below w.heap.size w w' := by
 obtain ⟨lz, hlz⟩ : ∃ lz, ls.map Subtype.val = lz := ⟨_, rfl⟩
 have hlzn : lz.length = ls.length := by rw [← hlz, List.length_map]
 have htz : ∀ l ∈ lz, l.tiny := fun l hl => by rw [← hlz] at hl; obtain ⟨y, hy, rfl⟩ := List.mem_map.1 hl; exact hti y hy
 have HCH := fun (m : Int) W (hW : Below w.heap.size w W) => Choose20_any n₀ A ls c hc hlen s q hq m none [] 0 (by decide) (fun p h => by cases h) W (hR.below (hW.mono hn)) (Nat.le_trans hn hW.size) hA (RdK.nil _ _ _) (ht.below hW)
 have HCO := fun (A2 : Option Addr) (l2 : List Pk) (c2 : Nat) (h2 : l2.length ≤ 10000) (hc2 : l2.length ≤ c2) (hs : ∀ p ∈ l2, p.qty.size ≤ 13) W (hW : Below w.heap.size w W) (hk : RdK W.heap.size W A2 l2) =>
  Cost20_any W.heap.size A ls c hc hlen hti A2 l2 c2 h2 hc2 (fun p hp => by have := hs p hp; omega) (fun _ p hp => hs p hp) W (fun h => by obtain ⟨ad, e, h1, h2⟩ := hR.below (hW.mono hn) h; exact ⟨ad, e, Nat.lt_of_lt_of_le h1 (Nat.le_trans hn hW.size), h2⟩) (Nat.le_refl _) hA hk (ht.below hW)
 rw [hlz] at HCH HCO ⊢
 obtain ⟨N, hN⟩ : ∃ N, ls.length = N := ⟨_, rfl⟩
 rw [hN] at HCH HCO hlzn ⊢
 replace HCH := hI HCH
 replace HCO := hI HCO
 have HTZ := hI htz
 have HLN : Hid (lz.length ≤ 10000) := by show lz.length ≤ _; omega
 obtain ⟨E, hE⟩ : ∃ E, chsE lz s q 1 [] = E := ⟨_, rfl⟩
 have hlo : rngLo lz s q = if E = 0 then rlo (mz lz s q) 4 else 0 := by unfold rngLo; rw [hE]
 have hhi : rngHi lz s q = if E = 0 then rhi (mz lz s q) 4 else 0 := by unfold rngHi; rw [hE]
 obtain ⟨lo, hlo2⟩ : ∃ z, rngLo lz s q = z := ⟨_, rfl⟩
 obtain ⟨hi, hhi2⟩ : ∃ z, rngHi lz s q = z := ⟨_, rfl⟩
 rw [hlo2] at hlo
 rw [hhi2] at hhi
 rw [hE, hlo2, hhi2]
 have HLO := hI hlo
 have HHI := hI hhi
 have HE := hI hE
 clear hR hn hA ht hc hlen hti hlz hN htz hlzn hlo hhi hE hlo2 hhi2
 go_enter Tryz.func19, Tryz.ntmps19
 go_wp2_with fail
 go_loopw [9, 10, 11] (fun v9 v10 v wr => ∃ k : Nat, v = .int .i64 ((k : Int) + 1) ∧ k ≤ 4 ∧ (0 < k → E = 0) ∧ v9 = .string (I (rlo (mz lz s q) k)) ∧ v10 = .string (I (rhi (mz lz s q) k)) ∧ Below w.heap.size w wr) (fun _ _ v _ => (5 - intOf v).toNat)
 case atStart => exact ⟨0, rfl, Nat.zero_le _, fun h => absurd h (Nat.lt_irrefl _), rfl, rfl, Below.refl _ _⟩
 case round =>
  obtain ⟨k, rfl, hk, hk0, rfl, rfl, hb⟩ := hrel
  have HB := hI hb
  have HK0 := hI hk0
  clear hb hk0
  rcases Nat.lt_or_ge k 4 with hlt | hge
  ·have hcx : decide ((k : Int) + 1 ≤ 4) = true := decide_eq_true (by omega)
   have HCC := hI (HCH.out ((k : Int) + 1) _ HB.out)
   have HES : Hid (chsE lz s q ((k : Int) + 1) [] = E) := (chsE_same hlt).trans HE.out
   go_wp2_with fail
   refine HCC.out.mono ?_
   rintro e w2 ⟨A2, c2, res, rfl, b2, hk2, hc2, hr0, hr1⟩
   have HB2 := hI (HB.out.trans (b2.mono HB.out.size))
   rw [HES.out]
   by_cases hE0 : E = 0
   case neg =>
    obtain rfl := hr0 (by rw [HES.out]; exact hE0)
    have t1 : (E == 0) = false := beq_eq_false_iff_ne.2 hE0
    have t2 : (E != 0) = true := by rw [bne, t1]; rfl
    have hz1 : lo = 0 := by rw [HLO.out, if_neg hE0]
    have hz2 : hi = 0 := by rw [HHI.out, if_neg hE0]
    have HZ := hI (And.intro hz1 hz2)
    clear hE0 b2 hk2 hc2 hr0 hr1 HCC hz1 hz2
    go_wp2_with fail
    go_ret3
    exact ⟨by rw [HZ.out.1, HZ.out.2]; rfl, HB2.out⟩
   have hres : res = chsR lz s q ((k : Int) + 1) [] := hr1 (by rw [HES.out]; exact hE0)
   have hok := chsE_zero (HES.out.trans hE0)
   have hrl : res.length ≤ 10000 := by rw [hres]; have := chsR_len lz s q ((k : Int) + 1) []; have := HLN.out; simp at *; omega
   have hrs : ∀ p ∈ res, p.qty.size ≤ 13 := fun p hp => by rw [hres] at hp; exact hok.size13 HTZ.out p hp
   have hco := HCO.out A2 res c2 hrl hc2 hrs w2 HB2.out hk2
   have hmz : cstZ lz res = mz lz s q k := by unfold mz; rw [hres]
   rw [hmz] at hco
   have HCOC := hI hco
   have hsz : ∀ j, j < 4 → (I (mz lz s q j)).size ≤ 4000000 := fun j hj => by
    have hokj := chsE_zero (((chsE_same hj).trans HE.out).trans hE0)
    exact cstZ_size HTZ.out (fun _ => hokj.size13 HTZ.out) (by have := chsR_len lz s q ((j : Int) + 1) []; have := HLN.out; simp at *; omega)
   have HSZ := hI hsz
   have HE0 := hI hE0
   subst hE0
   generalize res.length = rl at HCOC ⊢
   clear b2 hk2 hc2 hr0 hr1 HCC hres hok hrl hrs hco hmz hsz
   go_wp2_with fail
   refine HCOC.out.mono ?_
   rintro e w3 ⟨rfl, b3⟩
   have HB3 := hI (HB2.out.trans (b3.mono HB2.out.size))
   clear b3 HCOC
   rcases Nat.eq_zero_or_pos k with h0 | hpos
   ·subst h0
    have HN1 : Hid (rlo (mz lz s q) 1 = mz lz s q 0 ∧ rhi (mz lz s q) 1 = mz lz s q 0) := ⟨rfl, rfl⟩
    go_wp2_with fail
    go_roundw
    case rel => exact ⟨1, by go_num, by omega, (fun _ => by first | rfl | trivial), by rw [HN1.out.1], by rw [HN1.out.2], HB3.out⟩
    case measure => simp [intOf]
   ·have t1 : ((k : Int) + 1 == 1) = false := beq_eq_false_iff_ne.2 (by omega)
    obtain ⟨j1, hj1, e1⟩ := rlo_is (mz lz s q) k hpos
    obtain ⟨j2, hj2, e2⟩ := rhi_is (mz lz s q) k hpos
    have hc1 := fun W => Compare_any (I (mz lz s q k)) (I (rlo (mz lz s q) k)) W (HSZ.out k hlt) (by rw [e1]; exact HSZ.out j1 (by omega))
    have hc2 := fun W => Compare_any (I (mz lz s q k)) (I (rhi (mz lz s q) k)) W (HSZ.out k hlt) (by rw [e2]; exact HSZ.out j2 (by omega))
    simp only [vl_I] at hc1 hc2
    have hl : rlo (mz lz s q) (k + 1) = if mz lz s q k < rlo (mz lz s q) k then mz lz s q k else rlo (mz lz s q) k := by rw [rlo, if_neg (by omega)]
    have hh : rhi (mz lz s q) (k + 1) = if rhi (mz lz s q) k < mz lz s q k then mz lz s q k else rhi (mz lz s q) k := by rw [rhi, if_neg (by omega)]
    have HL := hI hl
    have HH := hI hh
    generalize rlo (mz lz s q) k = x at hc1 HL ⊢
    generalize rhi (mz lz s q) k = y at hc2 HH ⊢
    generalize mz lz s q k = z at hc1 hc2 HL HH ⊢
    have HC1 := hI (hc1 w3)
    have HC2 := hI hc2
    clear hl hh e1 e2 hj1 hj2 hc1 hc2
    go_wp2_with fail
    refine HC1.out.mono ?_
    rintro e w4 ⟨rfl, b4⟩
    have HB4 := hI (HB3.out.trans (b4.mono HB3.out.size))
    clear b4 HC1
    have HC2' := hI (HC2.out w4)
    by_cases hlt1 : z < x
    ·have t2 : decide (cmpI z x < 0) = true := decide_eq_true (cmpI_lt.2 hlt1)
     have HR1 : Hid (rlo (mz lz s q) (k + 1) = z) := by rw [Hid, HL.out, if_pos hlt1]
     clear hlt1
     go_wp2_with fail
     refine HC2'.out.mono ?_
     rintro e w5 ⟨rfl, b5⟩
     have HB5 := hI (HB4.out.trans (b5.mono HB4.out.size))
     clear b5 HC2'
     by_cases hlt2 : y < z
     ·have t3 : decide (cmpI z y > 0) = true := decide_eq_true (cmpI_gt.2 hlt2)
      have t4 : decide (0 < cmpI z y) = true := t3
      have HR2 : Hid (rhi (mz lz s q) (k + 1) = z) := by rw [Hid, HH.out, if_pos hlt2]
      clear hlt2
      go_wp2_with fail
      go_roundw
      case rel => exact ⟨k + 1, by go_num, by omega, (fun _ => by first | rfl | trivial), by rw [HR1.out], by rw [HR2.out], HB5.out⟩
      case measure => simp [intOf]; omega
     ·have t3 : decide (cmpI z y > 0) = false := decide_eq_false (fun h => hlt2 (cmpI_gt.1 h))
      have t4 : decide (0 < cmpI z y) = false := t3
      have HR2 : Hid (rhi (mz lz s q) (k + 1) = y) := by rw [Hid, HH.out, if_neg hlt2]
      clear hlt2
      go_wp2_with fail
      go_roundw
      case rel => exact ⟨k + 1, by go_num, by omega, (fun _ => by first | rfl | trivial), by rw [HR1.out], by rw [HR2.out], HB5.out⟩
      case measure => simp [intOf]; omega
    ·have t2 : decide (cmpI z x < 0) = false := decide_eq_false (fun h => hlt1 (cmpI_lt.1 h))
     have HR1 : Hid (rlo (mz lz s q) (k + 1) = x) := by rw [Hid, HL.out, if_neg hlt1]
     clear hlt1
     go_wp2_with fail
     refine HC2'.out.mono ?_
     rintro e w5 ⟨rfl, b5⟩
     have HB5 := hI (HB4.out.trans (b5.mono HB4.out.size))
     clear b5 HC2'
     by_cases hlt2 : y < z
     ·have t3 : decide (cmpI z y > 0) = true := decide_eq_true (cmpI_gt.2 hlt2)
      have t4 : decide (0 < cmpI z y) = true := t3
      have HR2 : Hid (rhi (mz lz s q) (k + 1) = z) := by rw [Hid, HH.out, if_pos hlt2]
      clear hlt2
      go_wp2_with fail
      go_roundw
      case rel => exact ⟨k + 1, by go_num, by omega, (fun _ => by first | rfl | trivial), by rw [HR1.out], by rw [HR2.out], HB5.out⟩
      case measure => simp [intOf]; omega
     ·have t3 : decide (cmpI z y > 0) = false := decide_eq_false (fun h => hlt2 (cmpI_gt.1 h))
      have t4 : decide (0 < cmpI z y) = false := t3
      have HR2 : Hid (rhi (mz lz s q) (k + 1) = y) := by rw [Hid, HH.out, if_neg hlt2]
      clear hlt2
      go_wp2_with fail
      go_roundw
      case rel => exact ⟨k + 1, by go_num, by omega, (fun _ => by first | rfl | trivial), by rw [HR1.out], by rw [HR2.out], HB5.out⟩
      case measure => simp [intOf]; omega
  ·have hcx : decide ((k : Int) + 1 ≤ 4) = false := decide_eq_false (by omega)
   obtain rfl : k = 4 := by omega
   have hE0 := HK0.out (by decide)
   have HZ : Hid (lo = rlo (mz lz s q) 4 ∧ hi = rhi (mz lz s q) 4 ∧ E = 0) := ⟨by rw [HLO.out, if_pos hE0], by rw [HHI.out, if_pos hE0], hE0⟩
   clear hE0
   go_wp2_with fail
   go_ret3
   exact ⟨by rw [HZ.out.1, HZ.out.2.1, HZ.out.2.2]; rfl, HB.out⟩
end Go.Proofs.YtdnmpgoigagjmaaGreatDoor
