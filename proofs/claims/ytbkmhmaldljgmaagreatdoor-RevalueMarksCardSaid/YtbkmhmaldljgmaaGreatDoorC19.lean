/-
  The walks of lot.isId, lot.Check on whatever is small: which answer. (Printed by gen_lot8.py.)
  The walk of trancheref03.RoundTo, to the nearest integer. (Printed by gen_ref33.py.)
  The example of the chapter: the walks of day, slices.Equal at terms; the example's values.
  The walk of tranchelaw39.awake: the examples of the chapter. (Printed by gen_law3.py.)
  The walks of trancheref19.Great, CheckAll; tranchelaw39.great, fine. (Printed by gen_ref22.py.)
  The walks of lot.CheckAll and trancheref19.CheckAll on whatever is small: which answer.
  Fractions: New, Neg, Compare (seats of layer 19).
  trancheref40.three.
  cmp.Or of two ints.
-/
import Derived.Test.YtbkmhmaldljgmaaGreatDoorC18
import Derived.Test.YtbkmhmaldljgmaaGreatDoorC12
import Derived.Test.YtbkmhmaldljgmaaGreatDoorC04
import Derived.Deep.DeepCutAuto
import Derived.BigQuiet
import Derived.Deep.QuietTactic
import Derived.Deep.RegionHeld3
import Derived.Test.YtbkmhmaldljgmaaGreatDoorC13
import Derived.Test.YtbkmhmaldljgmaaGreatDoorC11
import Derived.Test.YtbkmhmaldljgmaaGreatDoorC08
import Derived.Test.YtbkmhmaldljgmaaGreatDoorC16
import Derived.Test.YtbkmhmaldljgmaaGreatDoorC17
import Derived.Test.YtbkmhmaldljgmaaGreatDoorC15
set_option linter.unusedVariables false
set_option linter.unusedSimpArgs false
set_option maxHeartbeats 16000000
set_option maxRecDepth 100000
namespace Go.Proofs.YtbkmhmaldljgmaaGreatDoor
open Go.RowKit Tr Go.Shelf
theorem itoa_nat {n : Nat} (h : 0 < n) : Lib.itoa (n : Int) = digits n := by
 unfold Lib.itoa
 rw [if_neg (by omega), Int.toNat_natCast]
 have := dec_pos h
 unfold dec at this
 exact this
theorem digits_head {n : Nat} (h : 0 < n) : (digits n).getD 0 0 ≠ 48 := by
 have h1 := (digits_dval (digits n) (all_digits n)).1
 rw [dval_digits] at h1
 have h2 := digits_ne_nil h
 match hd : digits n, h2 with
 | b :: r, _ =>
   rw [hd] at h1
   intro e
   have hb : b = 48 := by simpa using e
   subst hb
   have h3 : strip (48 :: r) = strip r := rfl
   rw [h3] at h1
   have h4 : (strip r).length ≤ r.length := by unfold strip; exact (List.dropWhile_sublist _).length_le
   have h5 := congrArg List.length h1
   simp at h5
   omega
theorem numB_itoa {v : Int} {t : List UInt8} (h1 : 1 ≤ v) (h2 : v ≤ 9999) (h : Lib.itoa v = t) : numB t = true := by
 obtain ⟨n, rfl⟩ : ∃ n : Nat, v = (n : Int) := ⟨v.toNat, by omega⟩
 have hn : 0 < n := by omega
 rw [itoa_nat hn] at h
 subst h
 refine numB_of ?_ ?_ (all_digits n) (digits_head hn)
 ·exact List.length_pos_iff.2 (digits_ne_nil hn)
 ·exact (digits_length_le_iff 4 n).2 (by omega)
theorem cut_len (s p : List UInt8) : (Lib.cut s p).1.length ≤ s.length ∧ (Lib.cut s p).2.1.length ≤ s.length := by
 unfold Lib.cut
 split
 ·exact ⟨by simp only [List.length_take]; omega, by simp only [List.length_drop]; omega⟩
 ·exact ⟨Nat.le_refl _, by simp⟩
theorem isId_no (s : ByteArray) (hs : s.size ≤ 1000) (h : idB s = false) (w : World) (ht : Tabs w) :
 Calls Tryz.prog 210 #[.string s] w fun e w' => e = .returned (.bool false) ∧ Below w.heap.size w w' := by
 obtain ⟨m, hm⟩ := ht.maxLen
 have HC := Lib.hid (Tryz.strings_Cut s ⟨#[47]⟩ m w (by omega) hm)
 have hlc : (Lib.cut s.data.toList [47]).1.length ≤ 1000 ∧ (Lib.cut s.data.toList [47]).2.1.length ≤ 1000 := by
  have hl : s.data.toList.length = s.size := (Lib.size_eq s).symm
  have := cut_len s.data.toList [47]
  omega
 unfold idB at h
 rw [Bool.and_eq_false_iff] at h
 rw [show (⟨#[47]⟩ : ByteArray).data.toList = [47] from rfl] at HC
 generalize Lib.cut s.data.toList [47] = c at HC h hlc
 obtain ⟨c1, c2, c3⟩ := c
 dsimp only at HC h hlc
 have hz : (bs c2).size = c2.length := bs_size _
 have hz1 : (bs c1).size = c1.length := bs_size _
 have hd2 : (bs c2).data.toList = c2 := by unfold bs; simp
 have H := Lib.hid h
 have HT := Lib.hid ht
 have HN := Lib.hid (fun W => Name_any (bs c1) (by omega) W)
 rw [show (ByteArray.mk c1.toArray) = bs c1 from rfl, show (ByteArray.mk c2.toArray) = bs c2 from rfl] at HC
 have HL := Lib.hid (show (bs c2).size ≤ 1000 by omega)
 have HD := Lib.hid hd2
 clear hm h ht hz hz1 hlc hd2
 go_enter Tryz.func210, Tryz.ntmps210
 go_wp2_with fail
 refine HC.out.mono ?_
 rintro e w1 ⟨rfl, k, hw1⟩
 have B1 : Below w.heap.size w w1 := by rw [hw1]; exact below_drewN (Below.refl _ _) k
 have HB1 := Lib.hid B1
 clear hw1 B1 HC
 go_wp2_with fail
 cases hat : Lib.atoiAll (bs c2).data.toList with
 | range =>
   obtain ⟨tp, p, hv⟩ := (HT.out.below HB1.out).rng
   have HA := Lib.hid (Tryz.strconv_Atoi_range_var (bs c2) (by have := HL.out; omega) hat tp p w1 hv)
   clear hv hat
   refine HA.out.mono ?_
   rintro e w2 ⟨N, rfl, _, _, b2⟩
   have HB2 := Lib.hid (HB1.out.trans (b2.mono HB1.out.size))
   clear b2 HA
   go_wp2_with fail
   go_ret
   exact ⟨rfl, HB2.out⟩
 | ok v =>
   have HA := Lib.hid (Tryz.strconv_Atoi_ok (bs c2) (by have := HL.out; omega) v hat w1)
   clear hat
   refine HA.out.mono ?_
   rintro e w2 ⟨rfl, hw2⟩
   have B2 : Below w.heap.size w w2 := by
    rcases hw2 with rfl | ⟨t, rfl⟩
    ·exact HB1.out
    ·exact HB1.out.trans ((Lib.bytesWorld_below _ _ _).mono HB1.out.size)
   have HB2 := Lib.hid B2
   clear hw2 B2 HA HB1
   by_cases h1 : 1 ≤ v
   case neg =>
    have t1 : decide (1 ≤ v) = false := decide_eq_false h1
    clear h1
    go_wp2_with fail
    go_ret
    exact ⟨rfl, HB2.out⟩
   by_cases h2 : v ≤ 9999
   case neg =>
    have t1 : decide (1 ≤ v) = true := decide_eq_true h1
    have t2 : decide (v ≤ 9999) = false := decide_eq_false h2
    clear h1 h2
    go_wp2_with fail
    go_ret
    exact ⟨rfl, HB2.out⟩
   have t1 : decide (1 ≤ v) = true := decide_eq_true h1
   have t2 : decide (v ≤ 9999) = true := decide_eq_true h2
   have HI := Lib.hid (fun W hW => Itoa_any v (by omega) (by omega) W hW)
   have HV := Lib.hid (And.intro h1 h2)
   clear h1 h2
   go_wp2_with fail
   refine (HI.out _ (HT.out.below HB2.out)).mono ?_
   rintro e w3 ⟨rfl, b3⟩
   have HB3 := Lib.hid (HB2.out.trans (b3.mono HB2.out.size))
   clear b3 HB2
   by_cases h3 : bs (Lib.itoa v) = bs c2
   case neg =>
    have t3 : ((bs (Lib.itoa v)).toList == (bs c2).toList) = false := neq_toList h3
    clear h3
    go_wp2_with fail
    go_ret
    exact ⟨rfl, HB3.out⟩
   have hnum : numB c2 = true := by
    refine numB_itoa HV.out.1 HV.out.2 ?_
    have := congrArg (fun b : ByteArray => b.data.toList) h3
    simpa [bs] using this
   have hnm : nameOk (bs c1) = false := by
    rcases H.out with h | h
    ·rw [hnum] at h; cases h
    ·exact h
   rw [hnm] at HN
   rw [h3]
   clear h3 hnum hnm H
   go_wp2_with fail
   refine (HN.out _).mono ?_
   rintro e w4 ⟨rfl, b4⟩
   have HB4 := Lib.hid (HB3.out.trans (b4.mono HB3.out.size))
   clear b4 HB3
   go_wp2_with fail
   go_ret
   exact ⟨rfl, HB4.out⟩
 | _ =>
   obtain ⟨tp, p, hv⟩ := (HT.out.below HB1.out).syn
   have HA := Lib.hid (Tryz.strconv_Atoi_syntax_var (bs c2) (by have := HL.out; omega) (fun v h => by rw [hat] at h; cases h) (fun h => by rw [hat] at h; cases h) tp p w1 hv)
   clear hv hat
   refine HA.out.mono ?_
   rintro e w2 ⟨N, rfl, _, _, b2⟩
   have HB2 := Lib.hid (HB1.out.trans (b2.mono HB1.out.size))
   clear b2 HA
   go_wp2_with fail
   go_ret
   exact ⟨rfl, HB2.out⟩
theorem isId_any (s : ByteArray) (hs : s.size ≤ 1000) (w : World) (ht : Tabs w) :
 Calls Tryz.prog 210 #[.string s] w fun e w' => e = .returned (.bool (idB s)) ∧ Below w.heap.size w w' := by
 cases h : idB s
 ·exact isId_no s hs h w ht
 ·exact isId_ok s hs h w ht
open Classical in
noncomputable def lchk (l : Lot) : Int :=
 if idB l.id = false ∨ nameOk l.inst = false then 23
 else if ¬ okDay l.acq ∨ ¬ okDay l.opn then 13
 else if l.opn < l.acq then 8
 else if ¬ Can l.qty ∨ ¬ Can l.cost ∨ ¬ Can l.used then 1
 else if ¬ 0 < vl l.qty ∨ vl l.cost < 0 ∨ (l.used ≠ ⟨#[]⟩ ∧ l.used ≠ l.qty) then 2 else 0
theorem lchk_zero {l : Lot} : lchk l = 0 ↔ l.ok := by
 unfold lchk
 constructor
 ·intro h
  split at h
  ·cases h
  rename_i a1
  split at h
  ·cases h
  rename_i a2
  split at h
  ·cases h
  rename_i a3
  split at h
  ·cases h
  rename_i a4
  split at h
  ·cases h
  rename_i a5
  simp only [not_or, Bool.not_eq_false, Classical.not_not, not_and] at a1 a2 a4 a5
  refine ⟨a1.1, a1.2, a2.1, a2.2, by omega, a4.1, a4.2.1, a4.2.2, a5.1, by omega, ?_⟩
  rcases Classical.em (l.used = ⟨#[]⟩) with h | h
  ·exact .inl h
  ·exact .inr (a5.2.2 h)
 ·intro h
  have b1 : ¬ (idB l.id = false ∨ nameOk l.inst = false) := by rw [h.id, h.inst]; simp
  have b2 : ¬ (¬ okDay l.acq ∨ ¬ okDay l.opn) := by intro x; rcases x with x | x; exact x h.acq; exact x h.opn
  have b3 : ¬ l.opn < l.acq := by have := h.ord; omega
  have b4 : ¬ (¬ Can l.qty ∨ ¬ Can l.cost ∨ ¬ Can l.used) := by intro x; rcases x with x | x | x; exact x h.cq; exact x h.cc; exact x h.cu
  have b5 : ¬ (¬ 0 < vl l.qty ∨ vl l.cost < 0 ∨ (l.used ≠ ⟨#[]⟩ ∧ l.used ≠ l.qty)) := by
   intro x
   rcases x with x | x | x
   ·exact x h.pq
   ·have := h.pc; omega
   ·rcases h.us with u | u
    ·exact x.1 u
    ·exact x.2 u
  rw [if_neg b1, if_neg b2, if_neg b3, if_neg b4, if_neg b5]
theorem lchk_23 {l : Lot} (h : idB l.id = false ∨ nameOk l.inst = false) : lchk l = 23 := by unfold lchk; rw [if_pos h]
theorem lchk_13 {l : Lot} (a : idB l.id = true) (b : nameOk l.inst = true) (h : ¬ okDay l.acq ∨ ¬ okDay l.opn) : lchk l = 13 := by unfold lchk; rw [if_neg (by rw [a, b]; simp), if_pos h]
theorem lchk_8 {l : Lot} (a : idB l.id = true) (b : nameOk l.inst = true) (c : okDay l.acq) (d : okDay l.opn) (h : l.opn < l.acq) : lchk l = 8 := by
 unfold lchk; rw [if_neg (by rw [a, b]; simp), if_neg (by intro x; rcases x with x | x; exact x c; exact x d), if_pos h]
theorem lchk_1 {l : Lot} (a : idB l.id = true) (b : nameOk l.inst = true) (c : okDay l.acq) (d : okDay l.opn) (e : l.acq ≤ l.opn) (h : ¬ Can l.qty ∨ ¬ Can l.cost ∨ ¬ Can l.used) : lchk l = 1 := by
 unfold lchk; rw [if_neg (by rw [a, b]; simp), if_neg (by intro x; rcases x with x | x; exact x c; exact x d), if_neg (by omega), if_pos h]
theorem lchk_2 {l : Lot} (a : idB l.id = true) (b : nameOk l.inst = true) (c : okDay l.acq) (d : okDay l.opn) (e : l.acq ≤ l.opn) (f : Can l.qty) (g : Can l.cost) (i : Can l.used) (h : ¬ 0 < vl l.qty ∨ vl l.cost < 0 ∨ (l.used ≠ ⟨#[]⟩ ∧ l.used ≠ l.qty)) : lchk l = 2 := by
 unfold lchk; rw [if_neg (by rw [a, b]; simp), if_neg (by intro x; rcases x with x | x; exact x c; exact x d), if_neg (by omega), if_neg (by intro x; rcases x with x | x | x; exact x f; exact x g; exact x i), if_pos h]
theorem lCheck_any (l : Lot) (hs : l.sized) (w : World) (ht : Tabs w) :
 Calls Tryz.prog 157 #[l.enc] w fun e w' => e = .returned (.int .i64 (lchk l)) ∧ Below w.heap.size w w' := by
 obtain ⟨W0, hW0⟩ : ∃ W0, w.alloc (.cells l.cells 55) = W0 := ⟨_, rfl⟩
 have hk : LotBox W0 w.heap.size l := by rw [← hW0]; exact heap_alloc_new w _
 have HB : Hid (Below w.heap.size w W0) := by rw [← hW0]; exact (Below.refl _ w).alloc (Nat.le_refl _) _
 obtain ⟨c0, c1, c2, c3, c4, c5, c6⟩ := cells7 hk
 have HK0 := Lib.hid hk
 have HT := Lib.hid ht
 obtain ⟨z1, z2, z3, z4, z5⟩ := hs
 have S1 := Lib.hid (fun W (hW : Tabs W) => isId_any l.id (by omega) W hW)
 have S2 := Lib.hid (fun W => Name_any l.inst (by omega) W)
 have Y1 := Lib.hid (fun (h : Can l.qty) W => Check_yes l.qty W (by omega) h)
 have X1 := Lib.hid (fun (h : ¬ Can l.qty) W => Check_no l.qty W (by omega) h)
 have Y2 := Lib.hid (fun (h : Can l.cost) W => Check_yes l.cost W (by omega) h)
 have X2 := Lib.hid (fun (h : ¬ Can l.cost) W => Check_no l.cost W (by omega) h)
 have Y3 := Lib.hid (fun (h : Can l.used) W => Check_yes l.used W (by omega) h)
 have X3 := Lib.hid (fun (h : ¬ Can l.used) W => Check_no l.used W (by omega) h)
 have M1 := Lib.hid (fun W => Compare_any l.qty ⟨#[]⟩ W (by omega) (by show 0 ≤ _; omega))
 have M2 := Lib.hid (fun W => Compare_any l.cost ⟨#[]⟩ W (by omega) (by show 0 ≤ _; omega))
 rw [show vl (⟨#[]⟩ : ByteArray) = 0 from by rw [zero_eq, vl_I]] at M1 M2
 clear ht hk z1 z2 z3 z4 z5
 unfold Lot.enc Lot.cells at *
 go_enter Tryz.func157, Tryz.ntmps157
 go_wp2_with fail
 refine (S1.out W0 (HT.out.below HB.out)).mono ?_
 rintro e w1 ⟨rfl, b1⟩
 have hk1 := HK0.out.below b1
 replace HB := Lib.hid (HB.out.trans (b1.mono HB.out.size))
 clear c0 c1 c2 c3 c4 c5 c6
 obtain ⟨c0, c1, c2, c3, c4, c5, c6⟩ := cells7 hk1
 have HK1 := Lib.hid hk1
 clear b1 S1 hk1 HK0 hW0
 cases hid : idB l.id
 ·have H := Lib.hid hid
  clear hid
  go_wp2_with fail
  go_ret
  exact ⟨by rw [lchk_23 (.inl H.out)]; rfl, HB.out⟩
 have G1 := Lib.hid hid
 clear hid
 go_wp2_with fail
 refine (S2.out w1).mono ?_
 rintro e w2 ⟨rfl, b2⟩
 have hk2 := HK1.out.below b2
 replace HB := Lib.hid (HB.out.trans (b2.mono HB.out.size))
 clear c0 c1 c2 c3 c4 c5 c6
 obtain ⟨c0, c1, c2, c3, c4, c5, c6⟩ := cells7 hk2
 have HK2 := Lib.hid hk2
 clear b2 S2 hk2 HK1
 cases hnm : nameOk l.inst
 ·have H := Lib.hid hnm
  clear hnm
  go_wp2_with fail
  go_ret
  exact ⟨by rw [lchk_23 (.inr H.out)]; rfl, HB.out⟩
 have G2 := Lib.hid hnm
 clear hnm
 go_wp2_with fail
 refine (lvalid_any l.acq w2).mono ?_
 rintro e w3 ⟨rfl, rfl⟩
 by_cases h3 : okDay l.acq
 case neg =>
  rw [decide_eq_false h3]
  have H := Lib.hid h3
  clear h3
  go_wp2_with fail
  go_ret
  exact ⟨by rw [lchk_13 G1.out G2.out (.inl H.out)]; rfl, HB.out⟩
 rw [decide_eq_true h3]
 have G3 := Lib.hid h3
 clear h3
 go_wp2_with fail
 refine (lvalid_any l.opn _).mono ?_
 rintro e w4 ⟨rfl, rfl⟩
 by_cases h4 : okDay l.opn
 case neg =>
  rw [decide_eq_false h4]
  have H := Lib.hid h4
  clear h4
  go_wp2_with fail
  go_ret
  exact ⟨by rw [lchk_13 G1.out G2.out (.inr H.out)]; rfl, HB.out⟩
 rw [decide_eq_true h4]
 have G4 := Lib.hid h4
 clear h4
 by_cases h5 : l.opn < l.acq
 ·have t5 : decide (l.opn < l.acq) = true := decide_eq_true h5
  have H := Lib.hid h5
  clear h5
  go_wp2_with fail
  go_ret
  exact ⟨by rw [lchk_8 G1.out G2.out G3.out G4.out H.out]; rfl, HB.out⟩
 have t5 : decide (l.opn < l.acq) = false := decide_eq_false h5
 have G5 := Lib.hid (show l.acq ≤ l.opn by omega)
 clear h5
 obtain ⟨W5, hW5⟩ : ∃ W5, w4.alloc (.cells (u3Cells l) 23) = W5 := ⟨_, rfl⟩
 have b5 : Below w4.heap.size w4 W5 := by rw [← hW5]; exact (Below.refl _ w4).alloc (Nat.le_refl _) _
 have HS5 : Hid (LLoop w w4.heap.size l W5) := ⟨by rw [← hW5]; exact heap_alloc_new w4 _, HK2.out.below b5, HB.out.trans (b5.mono HB.out.size)⟩
 clear b5 HK2 HB
 unfold u3Cells at hW5
 go_wp2_with fail
 go_loopw [38] (fun v wx => ∃ k : Nat, v = .int .i64 (k : Int) ∧ k ≤ 3 ∧ (1 ≤ k → Can l.qty) ∧ (2 ≤ k → Can l.cost) ∧ (3 ≤ k → Can l.used) ∧ LLoop w w4.heap.size l wx) (fun v _ => 3 - (intOf v).toNat)
 case atStart => exact ⟨0, rfl, by omega, fun h => by omega, fun h => by omega, fun h => by omega, HS5.out⟩
 case round =>
  obtain ⟨k, rfl, hk, k1, k2, k3, hL⟩ := hrel
  clear HS5 hW5
  clear c0 c1 c2 c3 c4 c5 c6
  have K1 := Lib.hid k1
  have K2 := Lib.hid k2
  have K3 := Lib.hid k3
  clear k1 k2 k3
  have n0 := Lib.cell_of_heap hL.ns 0
  have n1 := Lib.cell_of_heap hL.ns 1
  have n2 := Lib.cell_of_heap hL.ns 2
  simp [u3Cells] at n0 n1 n2
  obtain ⟨c0, c1, c2, c3, c4, c5, c6⟩ := cells7 hL.ib
  have HL := Lib.hid hL
  clear hL
  rcases (show k = 0 ∨ k = 1 ∨ k = 2 ∨ k = 3 from by omega) with rfl | rfl | rfl | rfl
  ·by_cases hc : Can l.qty
   ·have H := Lib.hid hc
    clear hc
    go_wp2_with fail
    refine (Y1.out H.out _).mono ?_
    rintro e w6 ⟨rfl, b6⟩
    have HL6 := Lib.hid (HL.out.below b6)
    clear b6
    go_wp2_with fail
    go_roundw
    case rel => exact ⟨1, rfl, by omega, (fun _ => H.out), (fun h => by omega), (fun h => by omega), HL6.out⟩
    case measure => simp [intOf]
   ·have H := Lib.hid hc
    clear hc
    go_wp2_with fail
    refine (X1.out H.out _).mono ?_
    rintro e w6 ⟨rfl, b6⟩
    have HB := Lib.hid (HL.out.below b6).be
    clear b6
    go_wp2_with fail
    go_ret
    exact ⟨by rw [lchk_1 G1.out G2.out G3.out G4.out G5.out (.inl H.out)]; rfl, HB.out⟩
  ·by_cases hc : Can l.cost
   ·have H := Lib.hid hc
    clear hc
    go_wp2_with fail
    refine (Y2.out H.out _).mono ?_
    rintro e w6 ⟨rfl, b6⟩
    have HL6 := Lib.hid (HL.out.below b6)
    clear b6
    go_wp2_with fail
    go_roundw
    case rel => exact ⟨2, rfl, by omega, (fun _ => K1.out (by omega)), (fun _ => H.out), (fun h => by omega), HL6.out⟩
    case measure => simp [intOf]
   ·have H := Lib.hid hc
    clear hc
    go_wp2_with fail
    refine (X2.out H.out _).mono ?_
    rintro e w6 ⟨rfl, b6⟩
    have HB := Lib.hid (HL.out.below b6).be
    clear b6
    go_wp2_with fail
    go_ret
    exact ⟨by rw [lchk_1 G1.out G2.out G3.out G4.out G5.out (.inr (.inl H.out))]; rfl, HB.out⟩
  ·by_cases hc : Can l.used
   ·have H := Lib.hid hc
    clear hc
    go_wp2_with fail
    refine (Y3.out H.out _).mono ?_
    rintro e w6 ⟨rfl, b6⟩
    have HL6 := Lib.hid (HL.out.below b6)
    clear b6
    go_wp2_with fail
    go_roundw
    case rel => exact ⟨3, rfl, by omega, (fun _ => K1.out (by omega)), (fun _ => K2.out (by omega)), (fun _ => H.out), HL6.out⟩
    case measure => simp [intOf]
   ·have H := Lib.hid hc
    clear hc
    go_wp2_with fail
    refine (X3.out H.out _).mono ?_
    rintro e w6 ⟨rfl, b6⟩
    have HB := Lib.hid (HL.out.below b6).be
    clear b6
    go_wp2_with fail
    go_ret
    exact ⟨by rw [lchk_1 G1.out G2.out G3.out G4.out G5.out (.inr (.inr H.out))]; rfl, HB.out⟩
  ·go_wp2_with fail
   refine (M1.out _).mono ?_
   rintro e w6 ⟨rfl, b6⟩
   have hL6 := HL.out.below b6
   clear c0 c1 c2 c3 c4 c5 c6
   clear n0 n1 n2
   obtain ⟨c0, c1, c2, c3, c4, c5, c6⟩ := cells7 hL6.ib
   have HL6 := Lib.hid hL6
   clear b6 hL6 HL
   by_cases h9 : 0 < vl l.qty
   case neg =>
    have t9 := cmpI_npos h9
    have H := Lib.hid h9
    clear h9
    go_wp2_with fail
    go_ret
    exact ⟨by rw [lchk_2 G1.out G2.out G3.out G4.out G5.out (K1.out (by omega)) (K2.out (by omega)) (K3.out (by omega)) (.inl (Int.not_lt.2 H.out))]; rfl, HL6.out.be⟩
   have t9 := cmpI_pos h9
   have G9 := Lib.hid h9
   clear h9
   go_wp2_with fail
   refine (M2.out _).mono ?_
   rintro e w7 ⟨rfl, b7⟩
   have hL7 := HL6.out.below b7
   clear c0 c1 c2 c3 c4 c5 c6
   obtain ⟨c0, c1, c2, c3, c4, c5, c6⟩ := cells7 hL7.ib
   have HL7 := Lib.hid hL7
   clear b7 hL7 HL6
   by_cases h10 : vl l.cost < 0
   ·have t10 := cmpI_neg h10
    have H := Lib.hid h10
    clear h10
    go_wp2_with fail
    go_ret
    exact ⟨by rw [lchk_2 G1.out G2.out G3.out G4.out G5.out (K1.out (by omega)) (K2.out (by omega)) (K3.out (by omega)) (.inr (.inl H.out))]; rfl, HL7.out.be⟩
   have t10 := cmpI_nneg h10
   have G10 := Lib.hid (show 0 ≤ vl l.cost by omega)
   clear h10
   have e1 := bytes_eq l.used ⟨#[]⟩
   rw [show (⟨#[]⟩ : ByteArray).toList = [] from by rw [Lib.toList_data]] at e1
   have e2 := bytes_eq l.used l.qty
   have OK := Lib.hid (fun (u : l.used = ⟨#[]⟩ ∨ l.used = l.qty) => lchk_zero.2 (⟨G1.out, G2.out, G3.out, G4.out, G5.out, K1.out (by omega), K2.out (by omega), K3.out (by omega), G9.out, G10.out, u⟩ : l.ok))
   by_cases h11 : l.used = ⟨#[]⟩
   ·have G11 := Lib.hid h11
    rw [decide_eq_true h11] at e1
    clear h11 e2
    go_wp2_with fail
    go_ret
    exact ⟨by rw [OK.out (.inl G11.out)]; rfl, HL7.out.be⟩
   rw [decide_eq_false h11] at e1
   have H11 := Lib.hid h11
   clear h11
   by_cases h12 : l.used = l.qty
   ·have G12 := Lib.hid h12
    rw [decide_eq_true h12] at e2
    clear h12
    go_wp2_with fail
    go_ret
    exact ⟨by rw [OK.out (.inr G12.out)]; rfl, HL7.out.be⟩
   rw [decide_eq_false h12] at e2
   have H12 := Lib.hid h12
   clear h12
   go_wp2_with fail
   go_ret
   exact ⟨by rw [lchk_2 G1.out G2.out G3.out G4.out G5.out (K1.out (by omega)) (K2.out (by omega)) (K3.out (by omega)) (.inr (.inr ⟨H11.out, H12.out⟩))]; rfl, HL7.out.be⟩
def BX (w : World) (l : List (Nat × Obj)) (W : World) : Prop := Below w.heap.size w W ∧ ∀ x, x ∈ l → W.heap[x.1]? = some x.2
theorem BX.below {w : World} {l : List (Nat × Obj)} {W W' : World} (h : BX w l W) (hb : Below W.heap.size W W') : BX w l W' :=
 ⟨h.1.trans (hb.mono h.1.size), fun x hx => (hb.block _ (Array.getElem?_eq_some_iff.1 (h.2 x hx)).1).trans (h.2 x hx)⟩
theorem BX.get {w : World} {l : List (Nat × Obj)} {W : World} (h : BX w l W) (k : Nat) {b : Nat} {o : Obj} (hk : l[k]? = some (b, o)) : W.heap[b]? = some o := h.2 _ (List.mem_of_getElem? hk)
theorem BX.lt {w : World} {l : List (Nat × Obj)} {W : World} (h : BX w l W) (k : Nat) {b : Nat} {o : Obj} (hk : l[k]? = some (b, o)) : b < W.heap.size := (Array.getElem?_eq_some_iff.1 (h.get k hk)).1
abbrev fz : Obj := .cells #[.string ⟨#[]⟩, .string ⟨#[]⟩] 25 (0, 0)
theorem v10 : vl ⟨#[49, 48]⟩ = 10 := by decide
theorem v0 : vl ⟨#[]⟩ = 0 := by decide
theorem fv_int {n : ByteArray} : fv n ⟨#[]⟩ = (vl n : Rat) := by
 unfold fv dd
 rw [if_pos v0, show vl one1 = 1 from by decide]
 exact divInt_one' _
theorem canQ_int {n : ByteArray} (h : Can n) : CanQ n ⟨#[]⟩ := by
 unfold CanQ
 rw [fv_int]
 refine ⟨h.symm, ?_⟩
 unfold dn
 rw [if_pos (show ((vl n : Int) : Rat).den = 1 from rfl)]
theorem numchk_int {n : ByteArray} (h : Can n) (hz : n.size ≤ 40) : numchk n ⟨#[]⟩ = 0 := by
 unfold numchk
 rw [if_neg (fun x => x (canQ_int h)), if_neg]
 rintro (x | x)
 ·unfold ndig at x; split at x <;> omega
 ·rw [show ndig ⟨#[]⟩ = 0 from by decide] at x; omega
structure AG (w : World) (b : Nat) (W : World) : Prop where
 ib : W.heap[b]? = some (.cells #[.string ⟨#[98]⟩, .int .i64 2, .string ⟨#[85, 83, 68]⟩, .int .i64 0, .int .i64 19736, .int .i64 20102, .string ⟨#[49, 48, 48, 48]⟩, .string ⟨#[]⟩, .string ⟨#[]⟩, .string ⟨#[]⟩, .int .i64 12, .int .i64 3, .string ⟨#[]⟩, .string ⟨#[]⟩, .string ⟨#[]⟩] 27 (0, 0))
 lb : W.heap[b + 1]? = some (.cells #[.string ⟨#[120, 47, 49]⟩, .string ⟨#[98]⟩, .int .i64 19737, .int .i64 19737, .string ⟨#[49, 48]⟩, .string ⟨#[57, 56, 48, 48]⟩, .string ⟨#[]⟩] 55 (0, 0))
 be : Below w.heap.size w W
 lo : w.heap.size ≤ b
theorem AG.lt {w : World} {b : Nat} {W : World} (h : AG w b W) : b + 1 < W.heap.size := (Array.getElem?_eq_some_iff.1 h.lb).1
theorem take_snoc {α : Type} {ls : List α} {k : Nat} {l : α} (h : ls[k]? = some l) : ls.take (k + 1) = ls.take k ++ [l] := by
 obtain ⟨hlt, he⟩ := List.getElem?_eq_some_iff.1 h
 rw [List.take_succ_eq_append_getElem hlt, he]
end Go.Proofs.YtbkmhmaldljgmaaGreatDoor
namespace Go.Proofs.YtbkmhmaldljgmaaGreatDoor
open Go.RowKit Tr Go.Shelf Go.Maps Go.WideMaps
open Classical in
noncomputable def lallF (pre : List Lot) : List Lot → Int
 | [] => 0
 | l :: r => if lchk l ≠ 0 then lchk l else if l.id ∈ pre.map Lot.id then 5 else lallF (pre ++ [l]) r
open Classical in
noncomputable def lall (ls : List Lot) : Int := if 1000 < ls.length then 4 else lallF [] ls
theorem lall_at {ls : List Lot} {k : Nat} {l : Lot} (hlen : ls.length ≤ 1000) (hg : lallF (ls.take k) (ls.drop k) = lall ls) (hl : ls[k]? = some l) :
 (lchk l ≠ 0 → lall ls = lchk l) ∧ (lchk l = 0 → l.id ∈ (ls.take k).map Lot.id → lall ls = 5) ∧ (lchk l = 0 → l.id ∉ (ls.take k).map Lot.id → lallF (ls.take (k + 1)) (ls.drop (k + 1)) = lall ls) := by
 have hk : k < ls.length := (List.getElem?_eq_some_iff.1 hl).1
 have hd : ls.drop k = l :: ls.drop (k + 1) := by
  rw [List.drop_eq_getElem_cons hk]
  congr 1
  rw [List.getElem?_eq_getElem hk] at hl
  exact Option.some.inj hl
 rw [hd] at hg
 unfold lallF at hg
 refine ⟨fun h => ?_, fun h h2 => ?_, fun h h2 => ?_⟩
 ·rw [if_pos h] at hg; exact hg.symm
 ·rw [if_neg (fun x => x h), if_pos h2] at hg; exact hg.symm
 ·rw [if_neg (fun x => x h), if_neg h2] at hg
  rw [take_snoc hl]; exact hg
theorem lall_start {ls : List Lot} (h : ls.length ≤ 1000) : lallF (ls.take 0) (ls.drop 0) = lall ls := by unfold lall; rw [if_neg (by omega)]; rfl
theorem lall_end {ls : List Lot} (hg : lallF (ls.take ls.length) (ls.drop ls.length) = lall ls) : lall ls = 0 := by
 rw [List.drop_length] at hg; exact hg.symm
theorem lall_great {ls : List Lot} (h : 1000 < ls.length) : lall ls = 4 := by unfold lall; rw [if_pos h]
theorem atKey_fold (u z : DataW Unit) (k : Lit) (hk : WideAt.IsKeyLit k) : ∀ (acc : List Lit) (m : DataW Unit), IsMap m → (k ∈ acc ∨ m.atKey k z = u) → (acc.foldl (fun m x => m.put x u) m).atKey k z = u
 | [], m, _, h => h.resolve_left (fun x => by cases x)
 | x :: r, m, hm, h => by
   rw [List.foldl_cons]
   refine atKey_fold u z k hk r _ (hm.put _ _) ?_
   by_cases hx : x = k
   ·subst hx; exact .inr (atKey_put_same hm hk _ _)
   ·rcases h with h | h
    ·rcases List.mem_cons.1 h with h | h
     ·exact absurd h.symm hx
     ·exact .inl h
    ·exact .inr ((atKey_put_other (fun e => hx e.symm) _ _).trans h)
theorem atKey_setOf (u z : DataW Unit) (k : Lit) (hk : WideAt.IsKeyLit k) (acc : List Lit) (h : k ∈ acc) : (setOf u acc).atKey k z = u :=
 atKey_fold u z k hk acc _ isMap_empty (.inl h)
theorem seen_true {w : World} {b n : Nat} {ls : List Lot} {l : Lot} (h : w.ownsMap Tryz.prog 9 (plainElem Tryz.prog 4) b n (seenD ls)) (hs : l.id.size ≤ maxLen) (hn : l.id ∈ ls.map Lot.id) :
 (Instr.lookup 200 (.map (some b)) (.string l.id) false).run Tryz.prog w = .ok (.bool true) w := by
 obtain ⟨v, ps, hrun, hv⟩ := h.lookup strKeyed Tryz.underlying200 (zeroBool w) (plainElem_bool Tryz.underlying4 false) (keyOf_string_mk Tryz.underlying9 hs)
 have hh := atKey_setOf (.lit (.bool true)) (.lit (.bool false)) (.string l.id.data.toList : Lit) trivial (ls.map idKey) (by
  obtain ⟨x, hx, e⟩ := List.mem_map.1 hn
  exact List.mem_map.2 ⟨x, hx, by unfold idKey; rw [e]⟩)
 have hv' := hv
 unfold seenD at hv'
 rw [hh] at hv'
 obtain ⟨a, rfl, ha⟩ := plainElem_bool_inv Tryz.underlying4 hv'
 simp at ha
 rw [hrun, ← ha.1]
theorem lCheckAll_any (A : Option Addr) (c : Nat) (ls : List Lot) (hc : ls.length ≤ c) (hlm : ls.length ≤ 9223372036854775807) (w : World) (hr : RdL w A ls) (hsz : ∀ l ∈ ls, l.sized) (ht : Tabs w) :
 Calls Tryz.prog 111 #[.slice A ls.length c] w fun e w' => e = .returned (.int .i64 (lall ls)) ∧ Below w.heap.size w w' := by
 have HR := hI hr
 have HT := hI ht
 have H := hI hsz
 clear hr ht hsz
 by_cases hgr : 1000 < ls.length
 ·have hgt : decide ((1000 : Int) < (ls.length : Int)) = true := by simp; omega
  have HG := hI (lall_great hgr)
  clear hgr
  go_enter Tryz.func111, Tryz.ntmps111
  go_wp2_with fail
  go_ret
  exact ⟨by rw [HG.out]; rfl, Below.refl _ _⟩
 have hgt : decide ((1000 : Int) < (ls.length : Int)) = false := by simp; omega
 have hlen : ls.length ≤ 1000 := by omega
 clear hgr
 have hmm := @run_makeMap Tryz.prog
 go_enter Tryz.func111, Tryz.ntmps111
 go_wp2_with fail
 go_loopw [13] (fun v wr => ∃ k : Nat, v = .int .i64 (k : Int) ∧ k ≤ ls.length ∧ lallF (ls.take k) (ls.drop k) = lall ls ∧ wr.ownsMap Tryz.prog 9 (plainElem Tryz.prog 4) w.heap.size k (seenD (ls.take k)) ∧ Below w.heap.size w wr) (fun v _ => ls.length - (intOf v).toNat)
 case atStart => exact ⟨0, rfl, by omega, lall_start hlen, World.ownsMap_made _ _ _ _, (Below.refl _ _).alloc (Nat.le_refl _) _⟩
 case round =>
  obtain ⟨k, rfl, hk, hg, hown, hb⟩ := hrel
  have HO := hI hown
  have HB := hI hb
  have HG := hI hg
  clear hown hb hg
  rcases Nat.lt_or_ge k ls.length with hlt | hge
  ·obtain ⟨l, hl⟩ : ∃ l, ls[k]? = some l := ⟨_, List.getElem?_eq_getElem hlt⟩
   obtain ⟨ad, rfl, had, hcell⟩ := HR.out (by intro e; rw [e] at hlt; cases hlt)
   have hcx : decide ((k : Int) < (ls.length : Int)) = true := by simp; omega
   obtain ⟨c0, c1, c2, c3, c4, c5, c6⟩ := (hcell k l hl).below HB.out (by rw [add_block]; exact had)
   have hs := H.out l (List.mem_of_getElem? hl)
   have hzid : l.id.size ≤ maxLen := by unfold maxLen; have := hs.1; omega
   have HSN := hI (take_snoc hl)
   have HAT := hI (lall_at hlen HG.out hl)
   have HC := hI (fun W hW => lCheck_any l hs W hW)
   clear hcell hl hs
   obtain ⟨W5, hW5⟩ : ∃ W5, wr.alloc (.cells l.cells 55) = W5 := ⟨_, rfl⟩
   have k5 : LotBox W5 wr.heap.size l := by rw [← hW5]; exact heap_alloc_new wr _
   have b5 : Below wr.heap.size wr W5 := by rw [← hW5]; exact (Below.refl _ wr).alloc (Nat.le_refl _) _
   have HK5 := hI k5
   have HB5 := hI (HB.out.trans (b5.mono HB.out.size))
   have HO5 := hI (ownsMap_below HO.out b5)
   obtain ⟨m0, m1, m2, m3, m4, m5, m6⟩ := cells7 k5
   clear k5 b5 HO
   unfold Lot.cells at hW5
   go_wp2_with fail
   refine (HC.out _ (HT.out.below HB5.out)).mono ?_
   rintro e w6 ⟨rfl, b6⟩
   have k6 := HK5.out.below b6
   have HB6 := hI (HB5.out.trans (b6.mono HB5.out.size))
   have hO6 := ownsMap_below HO5.out b6
   by_cases h0 : lchk l = 0
   case neg =>
    have t1 : (lchk l == 0) = false := beq_eq_false_iff_ne.2 h0
    have t1' : (lchk l != 0) = true := by rw [bne, t1]; rfl
    have HN := hI (HAT.out.1 h0)
    clear h0 hO6 b6 k6 m0 m1 m2 m3 m4 m5 m6 hW5
    go_wp2_with fail
    go_ret
    exact ⟨by rw [HN.out]; rfl, HB6.out⟩
   have H0 := hI h0
   rw [h0]
   clear h0
   clear m0 m1 m2 m3 m4 m5 m6
   obtain ⟨m0, m1, m2, m3, m4, m5, m6⟩ := cells7 k6
   by_cases hid : l.id ∈ (ls.take k).map Lot.id
   ·have hlk := seen_true hO6 hzid hid
    have HN := hI (HAT.out.2.1 H0.out hid)
    clear hid hO6 b6 k6
    go_wp2_with fail
    go_ret
    exact ⟨by rw [HN.out]; rfl, HB6.out⟩
   have hlk := seen_false hO6 hzid (fun x hx e => hid (List.mem_map.2 ⟨x, hx, e⟩))
   have HN := hI (HAT.out.2.2 H0.out hid)
   obtain ⟨w7, hup, hO7, hg7⟩ := hO6.update strKeyed Tryz.underlying200 (by unfold maxLen; omega) (keyOf_string_mk Tryz.underlying9 hzid) (plainElem_bool Tryz.underlying4 true)
   have HO7 : Hid (w7.ownsMap Tryz.prog 9 (plainElem Tryz.prog 4) w.heap.size (k + 1) (seenD (ls.take (k + 1)))) := by
    rw [HSN.out, seenD_snoc]; exact hO7
   have HB7 := hI (HB6.out.grown hg7 HB6.out.size (fun j hj => by cases hj; exact Nat.le_refl _))
   clear hid hO6 hO7 hg7 b6 k6 HO5 HB5 HK5
   go_wp2_with fail
   go_roundw
   case rel => exact ⟨k + 1, by go_num, by omega, HN.out, HO7.out, HB7.out⟩
   case measure => simp [intOf]; omega
  ·have hcx : decide ((k : Int) < (ls.length : Int)) = false := by simp; omega
   have hkk : k = ls.length := by omega
   subst hkk
   have HN := hI (lall_end HG.out)
   go_wp2_with fail
   go_ret
   exact ⟨by rw [HN.out]; rfl, HB.out⟩
end Go.Proofs.YtbkmhmaldljgmaaGreatDoor
namespace Go.Proofs.YtbkmhmaldljgmaaGreatDoor
open Go.RowKit Tr Go.Shelf
theorem fCompare_any (n1 d1 n2 d2 : ByteArray) (w : World) (s1 : n1.size ≤ 900000) (s2 : d1.size ≤ 900000) (s3 : n2.size ≤ 900000) (s4 : d2.size ≤ 900000) (ht : Tabs w) :
 Calls Tryz.prog 279 #[.agg #[.string n1, .string d1], .agg #[.string n2, .string d2]] w fun e w' => e = .returned (.int .i64 (cmpI (fv n1 d1 - fv n2 d2).num 0)) ∧ Below w.heap.size w w' := by
 have HB := Lib.hid (((Below.refl _ w).alloc (Nat.le_refl _) (Obj.cells #[.string n1, .string d1] 25)).alloc (by simp) (Obj.cells #[.string n2, .string d2] 25))
 have HS := Lib.hid (fSub_any n1 d1 n2 d2 ((w.alloc (Obj.cells #[.string n1, .string d1] 25)).alloc (Obj.cells #[.string n2, .string d2] 25)) s1 s2 s3 s4 (ht.below HB.out))
 obtain ⟨W0, hW0⟩ : ∃ W0, (w.alloc (Obj.cells #[.string n1, .string d1] 25)).alloc (Obj.cells #[.string n2, .string d2] 25) = W0 := ⟨_, rfl⟩
 have hk : W0.heap[w.heap.size]? = some (Obj.cells #[.string n1, .string d1] 25) := by rw [← hW0]; exact (((Below.refl _ (w.alloc (Obj.cells #[.string n1, .string d1] 25))).alloc (Nat.le_refl _) _).block w.heap.size (by simp)).trans (heap_alloc_new w _)
 have hk2 : W0.heap[w.heap.size + 1]? = some (Obj.cells #[.string n2, .string d2] 25) := by
  rw [← hW0]
  have h := heap_alloc_new (w.alloc (Obj.cells #[.string n1, .string d1] 25)) (Obj.cells #[.string n2, .string d2] 25)
  simpa using h
 rw [hW0] at HB HS
 have b0 := Lib.cell_of_heap hk 0
 have b1 := Lib.cell_of_heap hk 1
 have c0 := Lib.cell_of_heap hk2 0
 have c1 := Lib.cell_of_heap hk2 1
 simp at b0 b1 c0 c1
 have HT := Lib.hid ht
 have bd := (BdQ.sub (fv_bd n1 d1 (k := 900001) (by omega) (by omega)) (fv_bd n2 d2 (k := 900001) (by omega) (by omega)))
 have zn := bd.num
 have zd := bd.dn
 clear ht bd
 generalize fv n1 d1 - fv n2 d2 = q at *
 unfold fenc at HS
 go_enter Tryz.func279, Tryz.ntmps279
 go_wp2_with fail
 try rw [hW0]
 refine HS.out.mono ?_
 rintro e w1 ⟨rfl, B1⟩
 have HB1 := Lib.hid (HB.out.trans (B1.mono HB.out.size))
 clear B1 HB hk hk2 b0 b1 c0 c1 HS
 go_wp2_with fail
 refine (parts_any (I q.num) (dn q) w1 (by omega)).mono ?_
 rintro e w2 ⟨rfl, B2⟩
 have HB2 := Lib.hid (HB1.out.trans (B2.mono HB1.out.size))
 clear B2 HB1
 go_wp2_with fail
 refine (Compare_any (I q.num) ⟨#[]⟩ w2 (by omega) (by show 0 ≤ _; omega)).mono ?_
 rintro e w3 ⟨rfl, B3⟩
 rw [vl_I, show vl (⟨#[]⟩ : ByteArray) = 0 from by rw [zero_eq, vl_I]]
 go_wp2_with fail
 go_ret
 exact ⟨rfl, HB2.out.trans (B3.mono HB2.out.size)⟩
def threeS (l : List ByteArray) : Bool := decide (l.length = 3) && !l.any oddS
theorem cmpOr_any (x y : Int) (B c : Nat) (w : World) (hB : w.heap[B]? = some (.cells #[.int .i64 x, .int .i64 y] 3 (0, 0))) :
 Calls Tryz.prog 169 #[.slice (some ⟨B, 0, none⟩) 2 c] w fun e w' => e = .returned (.int .i64 (if x = 0 then y else x)) ∧ w' = w := by
 have c0 := Lib.cell_of_heap hB 0
 have c1 := Lib.cell_of_heap hB 1
 simp at c0 c1
 clear hB
 by_cases hx : x = 0
 ·subst hx
  by_cases hy : y = 0
  ·subst hy
   go_enter Tryz.func169, Tryz.ntmps169
   go_wp2_with fail
   refine wp_loop_rounds 3 ?_
   rw [rounds_succ]
   go_wp2_with fail
   rw [rounds_succ]
   go_wp2_with fail
   rw [rounds_succ]
   go_wp2_with fail
   go_ret
   exact ⟨rfl, rfl⟩
  ·have t2 : (y == 0) = false := beq_eq_false_iff_ne.2 hy
   have t3 : (y != 0) = true := by rw [bne, t2]; rfl
   go_enter Tryz.func169, Tryz.ntmps169
   go_wp2_with fail
   refine wp_loop_rounds 3 ?_
   rw [rounds_succ]
   go_wp2_with fail
   rw [rounds_succ]
   go_wp2_with fail
   go_ret
   exact ⟨rfl, rfl⟩
 ·have t2 : (x == 0) = false := beq_eq_false_iff_ne.2 hx
  have t3 : (x != 0) = true := by rw [bne, t2]; rfl
  have HX := Lib.hid hx
  clear hx
  go_enter Tryz.func169, Tryz.ntmps169
  go_wp2_with fail
  refine wp_loop_rounds 3 ?_
  rw [rounds_succ]
  go_wp2_with fail
  go_ret
  exact ⟨by first | rfl | (rw [if_neg HX.out]; rfl), rfl⟩
end Go.Proofs.YtbkmhmaldljgmaaGreatDoor
