/-
  The walks of lot.isId, lot.Check on whatever is small: which answer. (Printed by gen_lot8.py.)
  The walks of trancheref02.Of, Neg, Add, Mul, Sub, New, Floor on canonical fractions of any length. (Printed by gen_ref29.py.)
-/
import Derived.Test.YtpgjmdggblnfkaaGreatDoorLA1
import Derived.Test.YtpgjmdggblnfkaaGreatDoorM34
import Derived.Test.YtpgjmdggblnfkaaGreatDoorM20
import Derived.Test.YtpgjmdggblnfkaaGreatDoorM27
set_option linter.unusedVariables false
set_option linter.unusedSimpArgs false
set_option maxHeartbeats 16000000
set_option maxRecDepth 100000
namespace Go.Proofs.YtpgjmdggblnfkaaGreatDoor
open Go.RowKit Tr Go.Shelf
theorem itoa_nat {n : Nat} (h : 0 < n) : Lib.itoa (n : Int) = digits n := by
 unfold Lib.itoa
 rw [if_neg (by omega), Int.toNat_natCast]
 have := dec_pos h
 unfold dec at this
 exact this
theorem digits_head {n : Nat} (h : 0 < n) : (digits n).getD 0 0 ≠ 48 := by
 have h1 := (digits_dval (digits n) (all_digits n)).1
 rw [dval_digits] at h1
 have h2 := digits_ne_nil h
 match hd : digits n, h2 with
 | b :: r, _ =>
   rw [hd] at h1
   intro e
   have hb : b = 48 := by simpa using e
   subst hb
   have h3 : strip (48 :: r) = strip r := rfl
   rw [h3] at h1
   have h4 : (strip r).length ≤ r.length := by unfold strip; exact (List.dropWhile_sublist _).length_le
   have h5 := congrArg List.length h1
   simp at h5
   omega
theorem numB_itoa {v : Int} {t : List UInt8} (h1 : 1 ≤ v) (h2 : v ≤ 9999) (h : Lib.itoa v = t) : numB t = true := by
 obtain ⟨n, rfl⟩ : ∃ n : Nat, v = (n : Int) := ⟨v.toNat, by omega⟩
 have hn : 0 < n := by omega
 rw [itoa_nat hn] at h
 subst h
 refine numB_of ?_ ?_ (all_digits n) (digits_head hn)
 ·exact List.length_pos_iff.2 (digits_ne_nil hn)
 ·exact (digits_length_le_iff 4 n).2 (by omega)
theorem cut_len (s p : List UInt8) : (Lib.cut s p).1.length ≤ s.length ∧ (Lib.cut s p).2.1.length ≤ s.length := by
 unfold Lib.cut
 split
 ·exact ⟨by simp only [List.length_take]; omega, by simp only [List.length_drop]; omega⟩
 ·exact ⟨Nat.le_refl _, by simp⟩
theorem isId_no (s : ByteArray) (hs : s.size ≤ 1000) (h : idB s = false) (w : World) (ht : Tabs w) :
 Calls Tryz.prog 148 #[.string s] w fun e w' => e = .returned (.bool false) ∧ Below w.heap.size w w' := by
 obtain ⟨m, hm⟩ := ht.maxLen
 have HC := Lib.hid (Tryz.strings_Cut s ⟨#[47]⟩ m w (by omega) hm)
 have hlc : (Lib.cut s.data.toList [47]).1.length ≤ 1000 ∧ (Lib.cut s.data.toList [47]).2.1.length ≤ 1000 := by
  have hl : s.data.toList.length = s.size := (Lib.size_eq s).symm
  have := cut_len s.data.toList [47]
  omega
 unfold idB at h
 rw [Bool.and_eq_false_iff] at h
 rw [show (⟨#[47]⟩ : ByteArray).data.toList = [47] from rfl] at HC
 generalize Lib.cut s.data.toList [47] = c at HC h hlc
 obtain ⟨c1, c2, c3⟩ := c
 dsimp only at HC h hlc
 have hz : (bs c2).size = c2.length := bs_size _
 have hz1 : (bs c1).size = c1.length := bs_size _
 have hd2 : (bs c2).data.toList = c2 := by unfold bs; simp
 have H := Lib.hid h
 have HT := Lib.hid ht
 have HN := Lib.hid (fun W => Name_any (bs c1) (by omega) W)
 rw [show (ByteArray.mk c1.toArray) = bs c1 from rfl, show (ByteArray.mk c2.toArray) = bs c2 from rfl] at HC
 have HL := Lib.hid (show (bs c2).size ≤ 1000 by omega)
 have HD := Lib.hid hd2
 clear hm h ht hz hz1 hlc hd2
 go_enter Tryz.func148, Tryz.ntmps148
 go_wp2_with fail
 refine HC.out.mono ?_
 rintro e w1 ⟨rfl, k, hw1⟩
 have B1 : Below w.heap.size w w1 := by rw [hw1]; exact below_drewN (Below.refl _ _) k
 have HB1 := Lib.hid B1
 clear hw1 B1 HC
 go_wp2_with fail
 cases hat : Lib.atoiAll (bs c2).data.toList with
 | range =>
   obtain ⟨tp, p, hv⟩ := (HT.out.below HB1.out).rng
   have HA := Lib.hid (Tryz.strconv_Atoi_range_var (bs c2) (by have := HL.out; omega) hat tp p w1 hv)
   clear hv hat
   refine HA.out.mono ?_
   rintro e w2 ⟨N, rfl, _, _, b2⟩
   have HB2 := Lib.hid (HB1.out.trans (b2.mono HB1.out.size))
   clear b2 HA
   go_wp2_with fail
   go_ret
   exact ⟨rfl, HB2.out⟩
 | ok v =>
   have HA := Lib.hid (Tryz.strconv_Atoi_ok (bs c2) (by have := HL.out; omega) v hat w1)
   clear hat
   refine HA.out.mono ?_
   rintro e w2 ⟨rfl, hw2⟩
   have B2 : Below w.heap.size w w2 := by
    rcases hw2 with rfl | ⟨t, rfl⟩
    ·exact HB1.out
    ·exact HB1.out.trans ((Lib.bytesWorld_below _ _ _).mono HB1.out.size)
   have HB2 := Lib.hid B2
   clear hw2 B2 HA HB1
   by_cases h1 : 1 ≤ v
   case neg =>
    have t1 : decide (1 ≤ v) = false := decide_eq_false h1
    clear h1
    go_wp2_with fail
    go_ret
    exact ⟨rfl, HB2.out⟩
   by_cases h2 : v ≤ 9999
   case neg =>
    have t1 : decide (1 ≤ v) = true := decide_eq_true h1
    have t2 : decide (v ≤ 9999) = false := decide_eq_false h2
    clear h1 h2
    go_wp2_with fail
    go_ret
    exact ⟨rfl, HB2.out⟩
   have t1 : decide (1 ≤ v) = true := decide_eq_true h1
   have t2 : decide (v ≤ 9999) = true := decide_eq_true h2
   have HI := Lib.hid (fun W hW => Itoa_any v (by omega) (by omega) W hW)
   have HV := Lib.hid (And.intro h1 h2)
   clear h1 h2
   go_wp2_with fail
   refine (HI.out _ (HT.out.below HB2.out)).mono ?_
   rintro e w3 ⟨rfl, b3⟩
   have HB3 := Lib.hid (HB2.out.trans (b3.mono HB2.out.size))
   clear b3 HB2
   by_cases h3 : bs (Lib.itoa v) = bs c2
   case neg =>
    have t3 : ((bs (Lib.itoa v)).toList == (bs c2).toList) = false := neq_toList h3
    clear h3
    go_wp2_with fail
    go_ret
    exact ⟨rfl, HB3.out⟩
   have hnum : numB c2 = true := by
    refine numB_itoa HV.out.1 HV.out.2 ?_
    have := congrArg (fun b : ByteArray => b.data.toList) h3
    simpa [bs] using this
   have hnm : nameOk (bs c1) = false := by
    rcases H.out with h | h
    ·rw [hnum] at h; cases h
    ·exact h
   rw [hnm] at HN
   rw [h3]
   clear h3 hnum hnm H
   go_wp2_with fail
   refine (HN.out _).mono ?_
   rintro e w4 ⟨rfl, b4⟩
   have HB4 := Lib.hid (HB3.out.trans (b4.mono HB3.out.size))
   clear b4 HB3
   go_wp2_with fail
   go_ret
   exact ⟨rfl, HB4.out⟩
 | _ =>
   obtain ⟨tp, p, hv⟩ := (HT.out.below HB1.out).syn
   have HA := Lib.hid (Tryz.strconv_Atoi_syntax_var (bs c2) (by have := HL.out; omega) (fun v h => by rw [hat] at h; cases h) (fun h => by rw [hat] at h; cases h) tp p w1 hv)
   clear hv hat
   refine HA.out.mono ?_
   rintro e w2 ⟨N, rfl, _, _, b2⟩
   have HB2 := Lib.hid (HB1.out.trans (b2.mono HB1.out.size))
   clear b2 HA
   go_wp2_with fail
   go_ret
   exact ⟨rfl, HB2.out⟩
theorem isId_any (s : ByteArray) (hs : s.size ≤ 1000) (w : World) (ht : Tabs w) :
 Calls Tryz.prog 148 #[.string s] w fun e w' => e = .returned (.bool (idB s)) ∧ Below w.heap.size w w' := by
 cases h : idB s
 ·exact isId_no s hs h w ht
 ·exact isId_ok s hs h w ht
open Classical in
noncomputable def lchk (l : Lot) : Int :=
 if idB l.id = false ∨ nameOk l.inst = false then 23
 else if ¬ okDay l.acq ∨ ¬ okDay l.opn then 13
 else if l.opn < l.acq then 8
 else if ¬ Can l.qty ∨ ¬ Can l.cost ∨ ¬ Can l.used then 1
 else if ¬ 0 < vl l.qty ∨ vl l.cost < 0 ∨ (l.used ≠ ⟨#[]⟩ ∧ l.used ≠ l.qty) then 2 else 0
theorem lchk_zero {l : Lot} : lchk l = 0 ↔ l.ok := by
 unfold lchk
 constructor
 ·intro h
  split at h
  ·cases h
  rename_i a1
  split at h
  ·cases h
  rename_i a2
  split at h
  ·cases h
  rename_i a3
  split at h
  ·cases h
  rename_i a4
  split at h
  ·cases h
  rename_i a5
  simp only [not_or, Bool.not_eq_false, Classical.not_not, not_and] at a1 a2 a4 a5
  refine ⟨a1.1, a1.2, a2.1, a2.2, by omega, a4.1, a4.2.1, a4.2.2, a5.1, by omega, ?_⟩
  rcases Classical.em (l.used = ⟨#[]⟩) with h | h
  ·exact .inl h
  ·exact .inr (a5.2.2 h)
 ·intro h
  have b1 : ¬ (idB l.id = false ∨ nameOk l.inst = false) := by rw [h.id, h.inst]; simp
  have b2 : ¬ (¬ okDay l.acq ∨ ¬ okDay l.opn) := by intro x; rcases x with x | x; exact x h.acq; exact x h.opn
  have b3 : ¬ l.opn < l.acq := by have := h.ord; omega
  have b4 : ¬ (¬ Can l.qty ∨ ¬ Can l.cost ∨ ¬ Can l.used) := by intro x; rcases x with x | x | x; exact x h.cq; exact x h.cc; exact x h.cu
  have b5 : ¬ (¬ 0 < vl l.qty ∨ vl l.cost < 0 ∨ (l.used ≠ ⟨#[]⟩ ∧ l.used ≠ l.qty)) := by
   intro x
   rcases x with x | x | x
   ·exact x h.pq
   ·have := h.pc; omega
   ·rcases h.us with u | u
    ·exact x.1 u
    ·exact x.2 u
  rw [if_neg b1, if_neg b2, if_neg b3, if_neg b4, if_neg b5]
theorem lchk_23 {l : Lot} (h : idB l.id = false ∨ nameOk l.inst = false) : lchk l = 23 := by unfold lchk; rw [if_pos h]
theorem lchk_13 {l : Lot} (a : idB l.id = true) (b : nameOk l.inst = true) (h : ¬ okDay l.acq ∨ ¬ okDay l.opn) : lchk l = 13 := by unfold lchk; rw [if_neg (by rw [a, b]; simp), if_pos h]
theorem lchk_8 {l : Lot} (a : idB l.id = true) (b : nameOk l.inst = true) (c : okDay l.acq) (d : okDay l.opn) (h : l.opn < l.acq) : lchk l = 8 := by
 unfold lchk; rw [if_neg (by rw [a, b]; simp), if_neg (by intro x; rcases x with x | x; exact x c; exact x d), if_pos h]
theorem lchk_1 {l : Lot} (a : idB l.id = true) (b : nameOk l.inst = true) (c : okDay l.acq) (d : okDay l.opn) (e : l.acq ≤ l.opn) (h : ¬ Can l.qty ∨ ¬ Can l.cost ∨ ¬ Can l.used) : lchk l = 1 := by
 unfold lchk; rw [if_neg (by rw [a, b]; simp), if_neg (by intro x; rcases x with x | x; exact x c; exact x d), if_neg (by omega), if_pos h]
theorem lchk_2 {l : Lot} (a : idB l.id = true) (b : nameOk l.inst = true) (c : okDay l.acq) (d : okDay l.opn) (e : l.acq ≤ l.opn) (f : Can l.qty) (g : Can l.cost) (i : Can l.used) (h : ¬ 0 < vl l.qty ∨ vl l.cost < 0 ∨ (l.used ≠ ⟨#[]⟩ ∧ l.used ≠ l.qty)) : lchk l = 2 := by
 unfold lchk; rw [if_neg (by rw [a, b]; simp), if_neg (by intro x; rcases x with x | x; exact x c; exact x d), if_neg (by omega), if_neg (by intro x; rcases x with x | x | x; exact x f; exact x g; exact x i), if_pos h]
theorem lCheck_any (l : Lot) (hs : l.sized) (w : World) (ht : Tabs w) :
 Calls Tryz.prog 97 #[l.enc] w fun e w' => e = .returned (.int .i64 (lchk l)) ∧ Below w.heap.size w w' := by
 obtain ⟨W0, hW0⟩ : ∃ W0, w.alloc (.cells l.cells 39) = W0 := ⟨_, rfl⟩
 have hk : LotBox W0 w.heap.size l := by rw [← hW0]; exact heap_alloc_new w _
 have HB : Hid (Below w.heap.size w W0) := by rw [← hW0]; exact (Below.refl _ w).alloc (Nat.le_refl _) _
 obtain ⟨c0, c1, c2, c3, c4, c5, c6⟩ := cells7 hk
 have HK0 := Lib.hid hk
 have HT := Lib.hid ht
 obtain ⟨z1, z2, z3, z4, z5⟩ := hs
 have S1 := Lib.hid (fun W (hW : Tabs W) => isId_any l.id (by omega) W hW)
 have S2 := Lib.hid (fun W => Name_any l.inst (by omega) W)
 have Y1 := Lib.hid (fun (h : Can l.qty) W => Check_yes l.qty W (by omega) h)
 have X1 := Lib.hid (fun (h : ¬ Can l.qty) W => Check_no l.qty W (by omega) h)
 have Y2 := Lib.hid (fun (h : Can l.cost) W => Check_yes l.cost W (by omega) h)
 have X2 := Lib.hid (fun (h : ¬ Can l.cost) W => Check_no l.cost W (by omega) h)
 have Y3 := Lib.hid (fun (h : Can l.used) W => Check_yes l.used W (by omega) h)
 have X3 := Lib.hid (fun (h : ¬ Can l.used) W => Check_no l.used W (by omega) h)
 have M1 := Lib.hid (fun W => Compare_any l.qty ⟨#[]⟩ W (by omega) (by show 0 ≤ _; omega))
 have M2 := Lib.hid (fun W => Compare_any l.cost ⟨#[]⟩ W (by omega) (by show 0 ≤ _; omega))
 rw [show vl (⟨#[]⟩ : ByteArray) = 0 from by rw [zero_eq, vl_I]] at M1 M2
 clear ht hk z1 z2 z3 z4 z5
 unfold Lot.enc Lot.cells at *
 go_enter Tryz.func97, Tryz.ntmps97
 go_wp2_with fail
 refine (S1.out W0 (HT.out.below HB.out)).mono ?_
 rintro e w1 ⟨rfl, b1⟩
 have hk1 := HK0.out.below b1
 replace HB := Lib.hid (HB.out.trans (b1.mono HB.out.size))
 clear c0 c1 c2 c3 c4 c5 c6
 obtain ⟨c0, c1, c2, c3, c4, c5, c6⟩ := cells7 hk1
 have HK1 := Lib.hid hk1
 clear b1 S1 hk1 HK0 hW0
 cases hid : idB l.id
 ·have H := Lib.hid hid
  clear hid
  go_wp2_with fail
  go_ret
  exact ⟨by rw [lchk_23 (.inl H.out)]; rfl, HB.out⟩
 have G1 := Lib.hid hid
 clear hid
 go_wp2_with fail
 refine (S2.out w1).mono ?_
 rintro e w2 ⟨rfl, b2⟩
 have hk2 := HK1.out.below b2
 replace HB := Lib.hid (HB.out.trans (b2.mono HB.out.size))
 clear c0 c1 c2 c3 c4 c5 c6
 obtain ⟨c0, c1, c2, c3, c4, c5, c6⟩ := cells7 hk2
 have HK2 := Lib.hid hk2
 clear b2 S2 hk2 HK1
 cases hnm : nameOk l.inst
 ·have H := Lib.hid hnm
  clear hnm
  go_wp2_with fail
  go_ret
  exact ⟨by rw [lchk_23 (.inr H.out)]; rfl, HB.out⟩
 have G2 := Lib.hid hnm
 clear hnm
 go_wp2_with fail
 refine (lvalid_any l.acq w2).mono ?_
 rintro e w3 ⟨rfl, rfl⟩
 by_cases h3 : okDay l.acq
 case neg =>
  rw [decide_eq_false h3]
  have H := Lib.hid h3
  clear h3
  go_wp2_with fail
  go_ret
  exact ⟨by rw [lchk_13 G1.out G2.out (.inl H.out)]; rfl, HB.out⟩
 rw [decide_eq_true h3]
 have G3 := Lib.hid h3
 clear h3
 go_wp2_with fail
 refine (lvalid_any l.opn _).mono ?_
 rintro e w4 ⟨rfl, rfl⟩
 by_cases h4 : okDay l.opn
 case neg =>
  rw [decide_eq_false h4]
  have H := Lib.hid h4
  clear h4
  go_wp2_with fail
  go_ret
  exact ⟨by rw [lchk_13 G1.out G2.out (.inr H.out)]; rfl, HB.out⟩
 rw [decide_eq_true h4]
 have G4 := Lib.hid h4
 clear h4
 by_cases h5 : l.opn < l.acq
 ·have t5 : decide (l.opn < l.acq) = true := decide_eq_true h5
  have H := Lib.hid h5
  clear h5
  go_wp2_with fail
  go_ret
  exact ⟨by rw [lchk_8 G1.out G2.out G3.out G4.out H.out]; rfl, HB.out⟩
 have t5 : decide (l.opn < l.acq) = false := decide_eq_false h5
 have G5 := Lib.hid (show l.acq ≤ l.opn by omega)
 clear h5
 obtain ⟨W5, hW5⟩ : ∃ W5, w4.alloc (.cells (u3Cells l) 23) = W5 := ⟨_, rfl⟩
 have b5 : Below w4.heap.size w4 W5 := by rw [← hW5]; exact (Below.refl _ w4).alloc (Nat.le_refl _) _
 have HS5 : Hid (LLoop w w4.heap.size l W5) := ⟨by rw [← hW5]; exact heap_alloc_new w4 _, HK2.out.below b5, HB.out.trans (b5.mono HB.out.size)⟩
 clear b5 HK2 HB
 unfold u3Cells at hW5
 go_wp2_with fail
 go_loopw [38] (fun v wx => ∃ k : Nat, v = .int .i64 (k : Int) ∧ k ≤ 3 ∧ (1 ≤ k → Can l.qty) ∧ (2 ≤ k → Can l.cost) ∧ (3 ≤ k → Can l.used) ∧ LLoop w w4.heap.size l wx) (fun v _ => 3 - (intOf v).toNat)
 case atStart => exact ⟨0, rfl, by omega, fun h => by omega, fun h => by omega, fun h => by omega, HS5.out⟩
 case round =>
  obtain ⟨k, rfl, hk, k1, k2, k3, hL⟩ := hrel
  clear HS5 hW5
  clear c0 c1 c2 c3 c4 c5 c6
  have K1 := Lib.hid k1
  have K2 := Lib.hid k2
  have K3 := Lib.hid k3
  clear k1 k2 k3
  have n0 := Lib.cell_of_heap hL.ns 0
  have n1 := Lib.cell_of_heap hL.ns 1
  have n2 := Lib.cell_of_heap hL.ns 2
  simp [u3Cells] at n0 n1 n2
  obtain ⟨c0, c1, c2, c3, c4, c5, c6⟩ := cells7 hL.ib
  have HL := Lib.hid hL
  clear hL
  rcases (show k = 0 ∨ k = 1 ∨ k = 2 ∨ k = 3 from by omega) with rfl | rfl | rfl | rfl
  ·by_cases hc : Can l.qty
   ·have H := Lib.hid hc
    clear hc
    go_wp2_with fail
    refine (Y1.out H.out _).mono ?_
    rintro e w6 ⟨rfl, b6⟩
    have HL6 := Lib.hid (HL.out.below b6)
    clear b6
    go_wp2_with fail
    go_roundw
    case rel => exact ⟨1, rfl, by omega, (fun _ => H.out), (fun h => by omega), (fun h => by omega), HL6.out⟩
    case measure => simp [intOf]
   ·have H := Lib.hid hc
    clear hc
    go_wp2_with fail
    refine (X1.out H.out _).mono ?_
    rintro e w6 ⟨rfl, b6⟩
    have HB := Lib.hid (HL.out.below b6).be
    clear b6
    go_wp2_with fail
    go_ret
    exact ⟨by rw [lchk_1 G1.out G2.out G3.out G4.out G5.out (.inl H.out)]; rfl, HB.out⟩
  ·by_cases hc : Can l.cost
   ·have H := Lib.hid hc
    clear hc
    go_wp2_with fail
    refine (Y2.out H.out _).mono ?_
    rintro e w6 ⟨rfl, b6⟩
    have HL6 := Lib.hid (HL.out.below b6)
    clear b6
    go_wp2_with fail
    go_roundw
    case rel => exact ⟨2, rfl, by omega, (fun _ => K1.out (by omega)), (fun _ => H.out), (fun h => by omega), HL6.out⟩
    case measure => simp [intOf]
   ·have H := Lib.hid hc
    clear hc
    go_wp2_with fail
    refine (X2.out H.out _).mono ?_
    rintro e w6 ⟨rfl, b6⟩
    have HB := Lib.hid (HL.out.below b6).be
    clear b6
    go_wp2_with fail
    go_ret
    exact ⟨by rw [lchk_1 G1.out G2.out G3.out G4.out G5.out (.inr (.inl H.out))]; rfl, HB.out⟩
  ·by_cases hc : Can l.used
   ·have H := Lib.hid hc
    clear hc
    go_wp2_with fail
    refine (Y3.out H.out _).mono ?_
    rintro e w6 ⟨rfl, b6⟩
    have HL6 := Lib.hid (HL.out.below b6)
    clear b6
    go_wp2_with fail
    go_roundw
    case rel => exact ⟨3, rfl, by omega, (fun _ => K1.out (by omega)), (fun _ => K2.out (by omega)), (fun _ => H.out), HL6.out⟩
    case measure => simp [intOf]
   ·have H := Lib.hid hc
    clear hc
    go_wp2_with fail
    refine (X3.out H.out _).mono ?_
    rintro e w6 ⟨rfl, b6⟩
    have HB := Lib.hid (HL.out.below b6).be
    clear b6
    go_wp2_with fail
    go_ret
    exact ⟨by rw [lchk_1 G1.out G2.out G3.out G4.out G5.out (.inr (.inr H.out))]; rfl, HB.out⟩
  ·go_wp2_with fail
   refine (M1.out _).mono ?_
   rintro e w6 ⟨rfl, b6⟩
   have hL6 := HL.out.below b6
   clear c0 c1 c2 c3 c4 c5 c6
   clear n0 n1 n2
   obtain ⟨c0, c1, c2, c3, c4, c5, c6⟩ := cells7 hL6.ib
   have HL6 := Lib.hid hL6
   clear b6 hL6 HL
   by_cases h9 : 0 < vl l.qty
   case neg =>
    have t9 := cmpI_npos h9
    have H := Lib.hid h9
    clear h9
    go_wp2_with fail
    go_ret
    exact ⟨by rw [lchk_2 G1.out G2.out G3.out G4.out G5.out (K1.out (by omega)) (K2.out (by omega)) (K3.out (by omega)) (.inl (Int.not_lt.2 H.out))]; rfl, HL6.out.be⟩
   have t9 := cmpI_pos h9
   have G9 := Lib.hid h9
   clear h9
   go_wp2_with fail
   refine (M2.out _).mono ?_
   rintro e w7 ⟨rfl, b7⟩
   have hL7 := HL6.out.below b7
   clear c0 c1 c2 c3 c4 c5 c6
   obtain ⟨c0, c1, c2, c3, c4, c5, c6⟩ := cells7 hL7.ib
   have HL7 := Lib.hid hL7
   clear b7 hL7 HL6
   by_cases h10 : vl l.cost < 0
   ·have t10 := cmpI_neg h10
    have H := Lib.hid h10
    clear h10
    go_wp2_with fail
    go_ret
    exact ⟨by rw [lchk_2 G1.out G2.out G3.out G4.out G5.out (K1.out (by omega)) (K2.out (by omega)) (K3.out (by omega)) (.inr (.inl H.out))]; rfl, HL7.out.be⟩
   have t10 := cmpI_nneg h10
   have G10 := Lib.hid (show 0 ≤ vl l.cost by omega)
   clear h10
   have e1 := bytes_eq l.used ⟨#[]⟩
   rw [show (⟨#[]⟩ : ByteArray).toList = [] from by rw [Lib.toList_data]] at e1
   have e2 := bytes_eq l.used l.qty
   have OK := Lib.hid (fun (u : l.used = ⟨#[]⟩ ∨ l.used = l.qty) => lchk_zero.2 (⟨G1.out, G2.out, G3.out, G4.out, G5.out, K1.out (by omega), K2.out (by omega), K3.out (by omega), G9.out, G10.out, u⟩ : l.ok))
   by_cases h11 : l.used = ⟨#[]⟩
   ·have G11 := Lib.hid h11
    rw [decide_eq_true h11] at e1
    clear h11 e2
    go_wp2_with fail
    go_ret
    exact ⟨by rw [OK.out (.inl G11.out)]; rfl, HL7.out.be⟩
   rw [decide_eq_false h11] at e1
   have H11 := Lib.hid h11
   clear h11
   by_cases h12 : l.used = l.qty
   ·have G12 := Lib.hid h12
    rw [decide_eq_true h12] at e2
    clear h12
    go_wp2_with fail
    go_ret
    exact ⟨by rw [OK.out (.inr G12.out)]; rfl, HL7.out.be⟩
   rw [decide_eq_false h12] at e2
   have H12 := Lib.hid h12
   clear h12
   go_wp2_with fail
   go_ret
   exact ⟨by rw [lchk_2 G1.out G2.out G3.out G4.out G5.out (K1.out (by omega)) (K2.out (by omega)) (K3.out (by omega)) (.inr (.inr ⟨H11.out, H12.out⟩))]; rfl, HL7.out.be⟩
theorem raw_fenc (p : Rat) : rawN (I p.num) (dn p) = I p.num ∧ rawD (dn p) = I (p.den : Int) := by
 have hp : 0 < p.den := p.den_pos
 unfold rawN rawD dn
 by_cases h : p.den = 1
 ·rw [if_pos h, show vl (⟨#[]⟩ : ByteArray) = 0 from rfl, if_neg (by omega), if_pos rfl, h]
  exact ⟨rfl, one1_eq⟩
 ·rw [if_neg h, vl_I, if_neg (by omega), if_neg (by omega), if_neg (by omega)]
  exact ⟨rfl, rfl⟩
theorem rRawQ {p : Rat} {k : Nat} (h : BdQ p k) (hk : k ≤ 30000) (w : World) : Calls Tryz.prog 173 #[fenc p] w fun e w' => e = .returned (.tuple #[.string (I p.num), .string (I (p.den : Int))]) ∧ Below w.heap.size w w' := by
 have := rRaw_any (I p.num) (dn p) (by have := h.num; omega) (by have := h.dn; omega) w
 rw [(raw_fenc p).1, (raw_fenc p).2] at this
 exact this
theorem rMulI {x y : Int} {a b : Nat} (hx : x.natAbs < 10 ^ a) (hy : y.natAbs < 10 ^ b) (ha : a ≤ 60000) (hb : b ≤ 60000) (w : World) : Calls Tryz.prog 174 #[.string (I x), .string (I y)] w fun e w' => e = .returned (.string (I (x * y))) ∧ Below w.heap.size w w' := by
 have := rMul_any (I x) (I y) (by have := I_size_le hx; omega) (by have := I_size_le hy; omega) w
 rw [vl_I, vl_I] at this
 exact this
theorem rAddI {x y : Int} {a : Nat} (hx : x.natAbs < 10 ^ a) (hy : y.natAbs < 10 ^ a) (ha : a ≤ 60000) (w : World) : Calls Tryz.prog 130 #[.string (I x), .string (I y)] w fun e w' => e = .returned (.string (I (x + y))) ∧ Below w.heap.size w w' := by
 have := rAdd_any (I x) (I y) (by have := I_size_le hx; omega) (by have := I_size_le hy; omega) w
 rw [vl_I, vl_I] at this
 exact this
theorem rRedI {x y : Int} {a : Nat} (hx : x.natAbs < 10 ^ a) (hy : y.natAbs < 10 ^ a) (hp : 0 < y) (ha : a ≤ 60000) (w : World) : Calls Tryz.prog 169 #[.string (I x), .string (I y)] w fun e w' => e = .returned (fenc (Rat.divInt x y)) ∧ Below w.heap.size w w' := by
 have := rreduced_any (I x) (I y) a (by omega) (by have := I_size_le hx; omega) (by have := I_size_le hy; omega) (by rw [vl_I]; exact hx) (by rw [vl_I]; exact hy) (by rw [vl_I]; exact hp) w
 rw [vl_I, vl_I] at this
 exact this
theorem add_lt {x y : Int} {a : Nat} (hx : x.natAbs < 10 ^ a) (hy : y.natAbs < 10 ^ a) : (x + y).natAbs < 10 ^ (a + 1) := by rw [Nat.pow_succ]; omega
theorem den_lt {p : Rat} {k : Nat} (h : BdQ p k) : ((p.den : Int)).natAbs < 10 ^ k := by rw [Int.natAbs_natCast]; exact h.2
theorem mul_eq (p q : Rat) : Rat.divInt (p.num * q.num) ((p.den : Int) * (q.den : Int)) = p * q := by
 conv => rhs; rw [q_divInt p, q_divInt q]
 rw [Rat.divInt_mul_divInt]
theorem add_eq (p q : Rat) : Rat.divInt (p.num * (q.den : Int) + q.num * (p.den : Int)) ((p.den : Int) * (q.den : Int)) = p + q := by
 conv => rhs; rw [q_divInt p, q_divInt q]
 rw [Rat.divInt_add_divInt _ _ (by have := p.den_pos; omega) (by have := q.den_pos; omega)]
theorem neg_eq (p : Rat) : Rat.divInt (-p.num) (p.den : Int) = -p := by
 conv => rhs; rw [q_divInt p]
 rw [Rat.neg_divInt]
theorem of_eq (z : Int) : Rat.divInt z 1 = (z : Rat) := by
 have := q_divInt (z : Rat)
 rw [Rat.num_intCast, Rat.den_intCast] at this
 exact this.symm
theorem rfOf_any (a : ByteArray) (ha : a.size ≤ 50000) (w : World) : Calls Tryz.prog 126 #[.string a] w fun e w' => e = .returned (fenc (vl a : Rat)) ∧ Below w.heap.size w w' := by
 have H2 := fun W => rreduced_any a one1 (a.size + 1) (by omega) (by omega) (by decide) (Nat.lt_of_lt_of_le (vl_lt a) (pow_mono (by omega))) (Nat.lt_of_lt_of_le (vl_lt one1) (pow_mono (by show 1 ≤ _; omega))) (by rw [one1_eq, vl_I]; omega) W
 rw [show vl one1 = 1 from by rw [one1_eq, vl_I], of_eq] at H2
 have H2 := Lib.hid H2
 have H1 := Lib.hid (fun W => rone_any W)
 clear ha
 obtain ⟨W0, hW0⟩ : ∃ W0, w.alloc (.cells #[.string ⟨#[]⟩, .string ⟨#[]⟩] 25) = W0 := ⟨_, rfl⟩
 have K1 : Hid (W0.heap[w.heap.size]? = some (.cells #[.string ⟨#[]⟩, .string ⟨#[]⟩] 25)) := by rw [Hid, ← hW0]; exact heap_alloc_new w _
 have C1 : Hid (Below w.heap.size w W0) := by rw [Hid, ← hW0]; exact (Below.refl _ w).alloc (Nat.le_refl _) _
 go_enter Tryz.func126, Tryz.ntmps126
 go_wp2_with fail
 try rw [hW0]
 refine (H1.out _).mono ?_
 rintro e w1 ⟨rfl, rfl⟩
 go_wp2_with fail
 refine (H2.out _).mono ?_
 rintro e w2 ⟨rfl, c2⟩
 have C2 := Lib.hid (C1.out.trans (c2.mono C1.out.size))
 have K2 := Lib.hid ((c2.block _ (Array.getElem?_eq_some_iff.1 K1.out).1).trans K1.out)
 clear c2 C1 K1 H2
 obtain ⟨rq, hrq⟩ : ∃ rq, (vl a : Rat) = rq := ⟨_, rfl⟩
 rw [hrq]
 have HRQ := Lib.hid hrq
 clear hrq
 have a0 := Lib.cell_of_heap K2.out 0
 have a1 := Lib.cell_of_heap K2.out 1
 simp at a0 a1
 have f0 := Lib.frozen_of_heap K2.out 0
 have f1 := Lib.frozen_of_heap K2.out 1
 unfold fenc
 go_wp2_with fail
 have k2 := set2 K2.out (.string (I rq.num)) (.string (dn rq))
 have m0 := Lib.cell_of_heap k2 0
 have m1 := Lib.cell_of_heap k2 1
 simp at m0 m1
 refine bodyPost_ret (v := .agg #[.string (I rq.num), .string (dn rq)]) (by simp [results, Tryz.results126, go_sem, m0, m1]) rfl ?_
 exact ⟨by rw [HRQ.out]; rfl, (C2.out.setCell (p := ⟨w.heap.size, 0, none⟩) (by show w.heap.size ≤ w.heap.size; omega) _).setCell (p := ⟨w.heap.size, 1, none⟩) (by show w.heap.size ≤ w.heap.size; omega) _⟩
theorem rfNegQ {p : Rat} {k : Nat} (h : BdQ p k) (hk : k ≤ 30000) (w : World) : Calls Tryz.prog 168 #[fenc p] w fun e w' => e = .returned (fenc (-p)) ∧ Below w.heap.size w w' := by
 have H1 := Lib.hid (fun W => rRawQ h hk W)
 have H2 := fun W => rNeg_any (I p.num) (by have := h.num; omega) W
 rw [vl_I] at H2
 have H2 := Lib.hid H2
 have H3 := fun W => rRedI (x := -p.num) (y := (p.den : Int)) (a := k) (by rw [Int.natAbs_neg]; exact h.1) (den_lt h) (by have := p.den_pos; omega) (by omega) W
 rw [neg_eq] at H3
 have H3 := Lib.hid H3
 clear h hk
 obtain ⟨W0, hW0, hb0, hs0, k0, k1⟩ := box2 w (.cells #[.string (I p.num), .string (dn p)] 25) (.cells #[.string ⟨#[]⟩, .string ⟨#[]⟩] 25)
 have b0 := Lib.cell_of_heap k0 0
 have b1 := Lib.cell_of_heap k0 1
 simp at b0 b1
 have C0 := Lib.hid hb0
 have K0 := Lib.hid k1
 clear hb0 k0 k1 hs0
 unfold fenc at H1
 show Calls Tryz.prog 168 #[.agg #[.string (I p.num), .string (dn p)]] w _
 go_enter Tryz.func168, Tryz.ntmps168
 go_wp2_with fail
 try rw [← hW0]
 refine (H1.out _).mono ?_
 rintro e w1 ⟨rfl, c1⟩
 have C1 := Lib.hid (C0.out.trans (c1.mono C0.out.size))
 have K1 := Lib.hid ((c1.block _ (Array.getElem?_eq_some_iff.1 K0.out).1).trans K0.out)
 clear c1 C0 K0 H1 b0 b1 hW0
 go_wp2_with fail
 refine (H2.out _).mono ?_
 rintro e w2 ⟨rfl, rfl⟩
 go_wp2_with fail
 refine (H3.out _).mono ?_
 rintro e w2 ⟨rfl, c2⟩
 have C2 := Lib.hid (C1.out.trans (c2.mono C1.out.size))
 have K2 := Lib.hid ((c2.block _ (Array.getElem?_eq_some_iff.1 K1.out).1).trans K1.out)
 clear c2 C1 K1 H3
 obtain ⟨rq, hrq⟩ : ∃ rq, -p = rq := ⟨_, rfl⟩
 rw [hrq]
 have HRQ := Lib.hid hrq
 clear hrq
 have a0 := Lib.cell_of_heap K2.out 0
 have a1 := Lib.cell_of_heap K2.out 1
 simp at a0 a1
 have f0 := Lib.frozen_of_heap K2.out 0
 have f1 := Lib.frozen_of_heap K2.out 1
 unfold fenc
 go_wp2_with fail
 have k2 := set2 K2.out (.string (I rq.num)) (.string (dn rq))
 have m0 := Lib.cell_of_heap k2 0
 have m1 := Lib.cell_of_heap k2 1
 simp at m0 m1
 refine bodyPost_ret (v := .agg #[.string (I rq.num), .string (dn rq)]) (by simp [results, Tryz.results168, go_sem, m0, m1]) rfl ?_
 exact ⟨by rw [HRQ.out]; rfl, (C2.out.setCell (p := ⟨w.heap.size + 1, 0, none⟩) (by show w.heap.size ≤ w.heap.size + 1; omega) _).setCell (p := ⟨w.heap.size + 1, 1, none⟩) (by show w.heap.size ≤ w.heap.size + 1; omega) _⟩
theorem rfMulQ {p q : Rat} {k : Nat} (h : BdQ p k) (h' : BdQ q k) (hk : k ≤ 20000) (w : World) : Calls Tryz.prog 129 #[fenc p, fenc q] w fun e w' => e = .returned (fenc (p * q)) ∧ Below w.heap.size w w' := by
 have H1 := Lib.hid (fun W => rRawQ h (by omega) W)
 have H2 := Lib.hid (fun W => rRawQ h' (by omega) W)
 have H3 := Lib.hid (fun W => rMulI (x := p.num) (y := q.num) h.1 h'.1 (by omega) (by omega) W)
 have H4 := Lib.hid (fun W => rMulI (x := (p.den : Int)) (y := (q.den : Int)) (den_lt h) (den_lt h') (by omega) (by omega) W)
 have H5 := fun W => rRedI (x := p.num * q.num) (y := (p.den : Int) * (q.den : Int)) (a := k + k) (mul_lt_pow h.1 h'.1) (mul_lt_pow (den_lt h) (den_lt h')) (Int.mul_pos (by have := p.den_pos; omega) (by have := q.den_pos; omega)) (by omega) W
 rw [mul_eq] at H5
 have H5 := Lib.hid H5
 clear h h' hk
 obtain ⟨W0, hW0, hb0, hs0, k0, k1, k2⟩ := box3 w (.cells #[.string (I p.num), .string (dn p)] 25) (.cells #[.string (I q.num), .string (dn q)] 25) (.cells #[.string ⟨#[]⟩, .string ⟨#[]⟩] 25)
 have b0 := Lib.cell_of_heap k0 0
 have b1 := Lib.cell_of_heap k0 1
 have d0 := Lib.cell_of_heap k1 0
 have d1 := Lib.cell_of_heap k1 1
 simp at b0 b1 d0 d1
 have C0 := Lib.hid hb0
 have K0 := Lib.hid k2
 clear hb0 k0 k1 k2 hs0
 unfold fenc at H1 H2
 show Calls Tryz.prog 129 #[.agg #[.string (I p.num), .string (dn p)], .agg #[.string (I q.num), .string (dn q)]] w _
 go_enter Tryz.func129, Tryz.ntmps129
 go_wp2_with fail
 try rw [← hW0]
 refine (H1.out _).mono ?_
 rintro e w1 ⟨rfl, c1⟩
 have e0 := (c1.cell (cell_lt d0)).trans d0
 have e1 := (c1.cell (cell_lt d1)).trans d1
 have C1 := Lib.hid (C0.out.trans (c1.mono C0.out.size))
 have K1 := Lib.hid ((c1.block _ (Array.getElem?_eq_some_iff.1 K0.out).1).trans K0.out)
 clear c1 C0 K0 H1 b0 b1 d0 d1 hW0
 go_wp2_with fail
 refine (H2.out _).mono ?_
 rintro e w2 ⟨rfl, c2⟩
 have C2 := Lib.hid (C1.out.trans (c2.mono C1.out.size))
 have K2 := Lib.hid ((c2.block _ (Array.getElem?_eq_some_iff.1 K1.out).1).trans K1.out)
 clear c2 C1 K1 H2
 clear e0 e1
 go_wp2_with fail
 refine (H3.out _).mono ?_
 rintro e w3 ⟨rfl, c3⟩
 have C3 := Lib.hid (C2.out.trans (c3.mono C2.out.size))
 have K3 := Lib.hid ((c3.block _ (Array.getElem?_eq_some_iff.1 K2.out).1).trans K2.out)
 clear c3 C2 K2 H3
 go_wp2_with fail
 refine (H4.out _).mono ?_
 rintro e w4 ⟨rfl, c4⟩
 have C4 := Lib.hid (C3.out.trans (c4.mono C3.out.size))
 have K4 := Lib.hid ((c4.block _ (Array.getElem?_eq_some_iff.1 K3.out).1).trans K3.out)
 clear c4 C3 K3 H4
 go_wp2_with fail
 refine (H5.out _).mono ?_
 rintro e w5 ⟨rfl, c5⟩
 have C5 := Lib.hid (C4.out.trans (c5.mono C4.out.size))
 have K5 := Lib.hid ((c5.block _ (Array.getElem?_eq_some_iff.1 K4.out).1).trans K4.out)
 clear c5 C4 K4 H5
 obtain ⟨rq, hrq⟩ : ∃ rq, p * q = rq := ⟨_, rfl⟩
 rw [hrq]
 have HRQ := Lib.hid hrq
 clear hrq
 have a0 := Lib.cell_of_heap K5.out 0
 have a1 := Lib.cell_of_heap K5.out 1
 simp at a0 a1
 have f0 := Lib.frozen_of_heap K5.out 0
 have f1 := Lib.frozen_of_heap K5.out 1
 unfold fenc
 go_wp2_with fail
 have k2 := set2 K5.out (.string (I rq.num)) (.string (dn rq))
 have m0 := Lib.cell_of_heap k2 0
 have m1 := Lib.cell_of_heap k2 1
 simp at m0 m1
 refine bodyPost_ret (v := .agg #[.string (I rq.num), .string (dn rq)]) (by simp [results, Tryz.results129, go_sem, m0, m1]) rfl ?_
 exact ⟨by rw [HRQ.out]; rfl, (C5.out.setCell (p := ⟨w.heap.size + 1 + 1, 0, none⟩) (by show w.heap.size ≤ w.heap.size + 1 + 1; omega) _).setCell (p := ⟨w.heap.size + 1 + 1, 1, none⟩) (by show w.heap.size ≤ w.heap.size + 1 + 1; omega) _⟩
theorem rfAddQ {p q : Rat} {k : Nat} (h : BdQ p k) (h' : BdQ q k) (hk : k ≤ 20000) (w : World) : Calls Tryz.prog 167 #[fenc p, fenc q] w fun e w' => e = .returned (fenc (p + q)) ∧ Below w.heap.size w w' := by
 have H1 := Lib.hid (fun W => rRawQ h (by omega) W)
 have H2 := Lib.hid (fun W => rRawQ h' (by omega) W)
 have H3 := Lib.hid (fun W => rMulI (x := p.num) (y := (q.den : Int)) h.1 (den_lt h') (by omega) (by omega) W)
 have H4 := Lib.hid (fun W => rMulI (x := q.num) (y := (p.den : Int)) h'.1 (den_lt h) (by omega) (by omega) W)
 have H5 := Lib.hid (fun W => rAddI (x := p.num * (q.den : Int)) (y := q.num * (p.den : Int)) (a := k + k) (mul_lt_pow h.1 (den_lt h')) (mul_lt_pow h'.1 (den_lt h)) (by omega) W)
 have H6 := Lib.hid (fun W => rMulI (x := (p.den : Int)) (y := (q.den : Int)) (den_lt h) (den_lt h') (by omega) (by omega) W)
 have H7 := fun W => rRedI (x := p.num * (q.den : Int) + q.num * (p.den : Int)) (y := (p.den : Int) * (q.den : Int)) (a := k + k + 1) (add_lt (mul_lt_pow h.1 (den_lt h')) (mul_lt_pow h'.1 (den_lt h))) (Nat.lt_of_lt_of_le (mul_lt_pow (den_lt h) (den_lt h')) (pow_mono (by omega))) (Int.mul_pos (by have := p.den_pos; omega) (by have := q.den_pos; omega)) (by omega) W
 rw [add_eq] at H7
 have H7 := Lib.hid H7
 clear h h' hk
 obtain ⟨W0, hW0, hb0, hs0, k0, k1, k2⟩ := box3 w (.cells #[.string (I p.num), .string (dn p)] 25) (.cells #[.string (I q.num), .string (dn q)] 25) (.cells #[.string ⟨#[]⟩, .string ⟨#[]⟩] 25)
 have b0 := Lib.cell_of_heap k0 0
 have b1 := Lib.cell_of_heap k0 1
 have d0 := Lib.cell_of_heap k1 0
 have d1 := Lib.cell_of_heap k1 1
 simp at b0 b1 d0 d1
 have C0 := Lib.hid hb0
 have K0 := Lib.hid k2
 clear hb0 k0 k1 k2 hs0
 unfold fenc at H1 H2
 show Calls Tryz.prog 167 #[.agg #[.string (I p.num), .string (dn p)], .agg #[.string (I q.num), .string (dn q)]] w _
 go_enter Tryz.func167, Tryz.ntmps167
 go_wp2_with fail
 try rw [← hW0]
 refine (H1.out _).mono ?_
 rintro e w1 ⟨rfl, c1⟩
 have e0 := (c1.cell (cell_lt d0)).trans d0
 have e1 := (c1.cell (cell_lt d1)).trans d1
 have C1 := Lib.hid (C0.out.trans (c1.mono C0.out.size))
 have K1 := Lib.hid ((c1.block _ (Array.getElem?_eq_some_iff.1 K0.out).1).trans K0.out)
 clear c1 C0 K0 H1 b0 b1 d0 d1 hW0
 go_wp2_with fail
 refine (H2.out _).mono ?_
 rintro e w2 ⟨rfl, c2⟩
 have C2 := Lib.hid (C1.out.trans (c2.mono C1.out.size))
 have K2 := Lib.hid ((c2.block _ (Array.getElem?_eq_some_iff.1 K1.out).1).trans K1.out)
 clear c2 C1 K1 H2
 clear e0 e1
 go_wp2_with fail
 refine (H3.out _).mono ?_
 rintro e w3 ⟨rfl, c3⟩
 have C3 := Lib.hid (C2.out.trans (c3.mono C2.out.size))
 have K3 := Lib.hid ((c3.block _ (Array.getElem?_eq_some_iff.1 K2.out).1).trans K2.out)
 clear c3 C2 K2 H3
 go_wp2_with fail
 refine (H4.out _).mono ?_
 rintro e w4 ⟨rfl, c4⟩
 have C4 := Lib.hid (C3.out.trans (c4.mono C3.out.size))
 have K4 := Lib.hid ((c4.block _ (Array.getElem?_eq_some_iff.1 K3.out).1).trans K3.out)
 clear c4 C3 K3 H4
 go_wp2_with fail
 refine (H5.out _).mono ?_
 rintro e w5 ⟨rfl, c5⟩
 have C5 := Lib.hid (C4.out.trans (c5.mono C4.out.size))
 have K5 := Lib.hid ((c5.block _ (Array.getElem?_eq_some_iff.1 K4.out).1).trans K4.out)
 clear c5 C4 K4 H5
 go_wp2_with fail
 refine (H6.out _).mono ?_
 rintro e w6 ⟨rfl, c6⟩
 have C6 := Lib.hid (C5.out.trans (c6.mono C5.out.size))
 have K6 := Lib.hid ((c6.block _ (Array.getElem?_eq_some_iff.1 K5.out).1).trans K5.out)
 clear c6 C5 K5 H6
 go_wp2_with fail
 refine (H7.out _).mono ?_
 rintro e w7 ⟨rfl, c7⟩
 have C7 := Lib.hid (C6.out.trans (c7.mono C6.out.size))
 have K7 := Lib.hid ((c7.block _ (Array.getElem?_eq_some_iff.1 K6.out).1).trans K6.out)
 clear c7 C6 K6 H7
 obtain ⟨rq, hrq⟩ : ∃ rq, p + q = rq := ⟨_, rfl⟩
 rw [hrq]
 have HRQ := Lib.hid hrq
 clear hrq
 have a0 := Lib.cell_of_heap K7.out 0
 have a1 := Lib.cell_of_heap K7.out 1
 simp at a0 a1
 have f0 := Lib.frozen_of_heap K7.out 0
 have f1 := Lib.frozen_of_heap K7.out 1
 unfold fenc
 go_wp2_with fail
 have k2 := set2 K7.out (.string (I rq.num)) (.string (dn rq))
 have m0 := Lib.cell_of_heap k2 0
 have m1 := Lib.cell_of_heap k2 1
 simp at m0 m1
 refine bodyPost_ret (v := .agg #[.string (I rq.num), .string (dn rq)]) (by simp [results, Tryz.results167, go_sem, m0, m1]) rfl ?_
 exact ⟨by rw [HRQ.out]; rfl, (C7.out.setCell (p := ⟨w.heap.size + 1 + 1, 0, none⟩) (by show w.heap.size ≤ w.heap.size + 1 + 1; omega) _).setCell (p := ⟨w.heap.size + 1 + 1, 1, none⟩) (by show w.heap.size ≤ w.heap.size + 1 + 1; omega) _⟩
end Go.Proofs.YtpgjmdggblnfkaaGreatDoor
