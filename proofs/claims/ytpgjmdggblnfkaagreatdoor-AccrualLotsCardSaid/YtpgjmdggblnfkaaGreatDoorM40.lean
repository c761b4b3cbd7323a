/-
  The walks of trancheref19.number, Id, Check: which answer. (Printed by gen_ref32.py.)
  The example of the chapter: the walks of day, slices.Equal at terms; the example's values.
  A region that draws its order, outside of a fence, by an invariant over what has come up.
-/
import Derived.Test.YtpgjmdggblnfkaaGreatDoorLA6
import Derived.Test.YtpgjmdggblnfkaaGreatDoorLA1
import Derived.Test.YtpgjmdggblnfkaaGreatDoorM38
import Derived.Test.YtpgjmdggblnfkaaGreatDoorM36
set_option linter.unusedVariables false
set_option linter.unusedSimpArgs false
set_option maxHeartbeats 16000000
set_option maxRecDepth 100000
namespace Go.Proofs.YtpgjmdggblnfkaaGreatDoor
open Go.RowKit Tr Go.Shelf
theorem numB_parts {t : List UInt8} (h : numB t = true) : 1 ≤ t.length ∧ t.length ≤ 4 ∧ t.all isDigit = true ∧ t.getD 0 0 ≠ 48 := by
 obtain ⟨h4, v, _, h1, h2, h3⟩ := numB_spec h
 obtain ⟨n, rfl⟩ : ∃ n : Nat, v = (n : Int) := ⟨v.toNat, by omega⟩
 have hn : 0 < n := by omega
 rw [itoa_nat hn] at h3
 subst h3
 exact ⟨List.length_pos_iff.2 (digits_ne_nil hn), h4, all_digits n, digits_head hn⟩
theorem numB_no {t : List UInt8} (h : numB t = true → False) : numB t = false := by
 cases e : numB t
 ·rfl
 ·exact (h e).elim
theorem idB_at {s : ByteArray} {i : Nat} (hi : i < s.size) (h47 : byt s i = 47) (hn : ∀ j, j < i → byt s j ≠ 47) : idB s = (numB (s.extract (i + 1) s.size).data.toList && nameOk (s.extract 0 i)) := by
 have hl : s.data.toList.length = s.size := (Lib.size_eq s).symm
 have hx : Lib.indexB s ⟨#[47]⟩ = (i : Int) := by
  refine index_slash _ i ?_ ?_
  ·have : s.data.toList.getD i 0 = 47 := h47
   rw [List.getD_eq_getElem?_getD, List.getElem?_eq_getElem (by omega), Option.getD_some] at this
   rw [List.getElem?_eq_getElem (by omega), this]
  ·intro j hj e
   refine hn j hj ?_
   unfold byt
   rw [List.getD_eq_getElem?_getD, e]
   rfl
 obtain ⟨c1, c2, _⟩ := Lib.cutB_hit s ⟨#[47]⟩ i hx
 rw [show (⟨#[47]⟩ : ByteArray).data.toList = [47] from rfl] at c1 c2
 rw [show (⟨#[47]⟩ : ByteArray).size = 1 from rfl] at c2
 unfold idB
 rw [← c2, ← c1]
 unfold bs
 simp
theorem index_none : ∀ (l : List UInt8), (∀ j, j < l.length → l[j]? ≠ some 47) → Lib.index l [47] = -1
 | [], _ => by simp [Lib.index]
 | b :: r, hn => by
   have hb : b ≠ 47 := fun e => hn 0 (by simp) (by simp [e])
   have hr := index_none r (fun j hj => by have := hn (j + 1) (by simpa using hj); simpa using this)
   unfold Lib.index
   rw [if_neg (by simpa using fun e => hb e.symm), hr]
   rfl
theorem idB_none {s : ByteArray} (hn : ∀ j, j < s.size → byt s j ≠ 47) : idB s = false := by
 have hl : s.data.toList.length = s.size := (Lib.size_eq s).symm
 have hx : Lib.index s.data.toList [47] = -1 := by
  refine index_none _ (fun j hj e => hn j (by omega) ?_)
  unfold byt
  rw [List.getD_eq_getElem?_getD, e]
  rfl
 have hc : (Lib.cut s.data.toList [47]).2.1 = [] := by
  unfold Lib.cut
  rw [hx]
  rfl
 unfold idB
 rw [hc, numB_no (fun h => by have := (numB_parts h).1; simp at this)]
 rfl
theorem rnumber_ex (s : ByteArray) (hs : s.size ≤ 1000) (w : World) : Calls Tryz.prog 183 #[.string s] w fun e w' => e = .returned (.bool (numB s.data.toList)) ∧ w = w' := by
 by_cases h1 : s.size < 1
 ·have t1 : decide ((s.size : Int) < 1) = true := decide_eq_true (by omega)
  go_enter Tryz.func183, Tryz.ntmps183
  go_wp2_with fail
  go_ret
  exact ⟨by rw [numB_no (fun h => by have := (numB_parts h).1; rw [← Lib.size_eq] at this; omega)]; rfl, rfl⟩
 have t1 : decide ((s.size : Int) < 1) = false := decide_eq_false (by omega)
 by_cases h4 : 4 < s.size
 ·have t2 : decide ((4 : Int) < (s.size : Int)) = true := decide_eq_true (by omega)
  go_enter Tryz.func183, Tryz.ntmps183
  go_wp2_with fail
  go_ret
  exact ⟨by rw [numB_no (fun h => by have := (numB_parts h).2.1; rw [← Lib.size_eq] at this; omega)]; rfl, rfl⟩
 have t2 : decide ((4 : Int) < (s.size : Int)) = false := decide_eq_false (by omega)
 have hg0 : (s[0]'(by omega)).toNat = (byt s 0).toNat := by rw [byt_get]
 by_cases h0 : byt s 0 = 48
 ·have hz : (byt s 0).toNat = 48 := by rw [h0]; rfl
  rw [hz] at hg0
  have H0 := Lib.hid h0
  have t3 : (((s[0]'(by omega)).toNat : Int) == 48) = true := by rw [hg0]; rfl
  go_enter Tryz.func183, Tryz.ntmps183
  go_wp2_with fail
  go_ret
  exact ⟨by rw [numB_no (fun h => (numB_parts h).2.2.2 (show s.data.toList.getD 0 0 = 48 from H0.out))]; rfl, rfl⟩
 have hz : (byt s 0).toNat ≠ 48 := fun e => h0 (UInt8.toNat_inj.1 (by simpa using e))
 have t3 : (((s[0]'(by omega)).toNat : Int) == 48) = false := by rw [beq_eq_false_iff_ne, hg0]; omega
 have H0 := Lib.hid h0
 clear h0 hz hg0
 go_enter Tryz.func183, Tryz.ntmps183
 go_wp2_with fail
 go_loop [3] (fun v => ∃ j : Nat, v = .int .i64 (j : Int) ∧ j ≤ s.size ∧ (s.data.toList.take j).all isDigit = true) (fun v => s.size - (intOf v).toNat)
 case atStart => exact ⟨0, rfl, by omega, rfl⟩
 case round =>
  clear t3
  obtain ⟨j, rfl, hj, hall⟩ := hrel
  have HA := Lib.hid hall
  clear hall
  rcases Nat.lt_or_ge j s.size with hlt | hge
  ·have hb := (byt s j).toNat_lt
   have hg : s[j].toNat = (byt s j).toNat := by rw [byt_get]
   generalize hbb : (byt s j).toNat = bb at hb hg
   have HCB := Lib.hid hbb
   clear hbb
   by_cases a1 : bb < 48
   ·have c1 : decide ((bb : Int) < 48) = true := decide_eq_true (by omega)
    have HN : Hid (isDigit (byt s j) = false) := by rw [Hid, ← Bool.not_eq_true, isDigit_iff, HCB.out]; omega
    clear HCB
    go_wp2_with fail
    go_ret
    exact ⟨by rw [numB_no (fun h => by have := (numB_parts h).2.2.1; rw [not_all hlt HN.out] at this; cases this)]; rfl, rfl⟩
   have c1 : decide ((bb : Int) < 48) = false := decide_eq_false (by omega)
   by_cases a2 : 57 < bb
   ·have c2 : decide (57 < (bb : Int)) = true := decide_eq_true (by omega)
    have HN : Hid (isDigit (byt s j) = false) := by rw [Hid, ← Bool.not_eq_true, isDigit_iff, HCB.out]; omega
    clear HCB
    go_wp2_with fail
    go_ret
    exact ⟨by rw [numB_no (fun h => by have := (numB_parts h).2.2.1; rw [not_all hlt HN.out] at this; cases this)]; rfl, rfl⟩
   have c2 : decide (57 < (bb : Int)) = false := decide_eq_false (by omega)
   have HN : Hid (isDigit (byt s j) = true) := by rw [Hid, isDigit_iff, HCB.out]; omega
   clear HCB a1 a2
   go_wp2_with fail
   go_round
   case rel => exact ⟨j + 1, by go_num, by omega, all_take_succ HA.out hlt HN.out⟩
   case measure => simp [intOf]; omega
  ·have hc : decide ((j : Int) < (s.size : Int)) = false := decide_eq_false (by omega)
   have HH : Hid (s.data.toList.all isDigit = true) := by
    have := HA.out
    rw [List.take_of_length_le (by rw [← Lib.size_eq]; omega)] at this
    exact this
   go_wp2_with fail
   go_ret
   exact ⟨by rw [numB_of (by rw [← Lib.size_eq]; omega) (by rw [← Lib.size_eq]; omega) HH.out H0.out]; rfl, rfl⟩
theorem rId_ex (s : ByteArray) (hs : s.size ≤ 1000) (w : World) : Calls Tryz.prog 137 #[.string s] w fun e w' => e = .returned (.bool (idB s)) ∧ w = w' := by
 go_enter Tryz.func137, Tryz.ntmps137
 go_wp2_with fail
 go_loop [3] (fun v => ∃ j : Nat, v = .int .i64 (j : Int) ∧ j ≤ s.size ∧ (∀ k, k < j → byt s k ≠ 47)) (fun v => s.size - (intOf v).toNat)
 case atStart => exact ⟨0, rfl, by omega, fun k hk => by omega⟩
 case round =>
  obtain ⟨j, rfl, hj, hall⟩ := hrel
  have HA := Lib.hid hall
  clear hall
  rcases Nat.lt_or_ge j s.size with hlt | hge
  ·have hg : s[j].toNat = (byt s j).toNat := by rw [byt_get]
   have hbt := (byt s j).toNat_lt
   by_cases a1 : byt s j = 47
   ·have HE := Lib.hid a1
    rw [a1] at hg
    have hg' : s[j].toNat = 47 := hg
    have z1 : (s.extract 0 j).size = j := by rw [ByteArray.size_extract]; omega
    have z2 : (s.extract (j + 1) s.size).size ≤ 1000 := by rw [ByteArray.size_extract]; omega
    have HNM := Lib.hid (fun W => rName_any (s.extract 0 j) (by omega) W)
    have HNU := fun W => rnumber_ex (s.extract (j + 1) s.size) z2 W
    obtain ⟨nb, hnb⟩ : ∃ nb, numB (s.extract (j + 1) s.size).data.toList = nb := ⟨_, rfl⟩
    rw [hnb] at HNU
    replace HNU := Lib.hid HNU
    have HNB := Lib.hid hnb
    clear hnb
    clear hg hbt a1
    go_wp2_with fail
    refine (HNM.out _).mono ?_
    rintro e w1 ⟨rfl, rfl⟩
    cases hnm : nameOk (s.extract 0 j)
    ·have HM := Lib.hid hnm
     clear hnm
     go_wp2_with fail
     go_ret
     exact ⟨by rw [idB_at hlt HE.out HA.out, HM.out, Bool.and_false]; rfl, rfl⟩
    ·have HM := Lib.hid hnm
     clear hnm
     go_wp2_with fail
     refine (HNU.out _).mono ?_
     rintro e w2 ⟨rfl, rfl⟩
     go_wp2_with fail
     go_ret
     exact ⟨by rw [idB_at hlt HE.out HA.out, HM.out, Bool.and_true, HNB.out]; rfl, rfl⟩
   ·have a2 : (byt s j).toNat ≠ 47 := fun e => a1 (UInt8.toNat_inj.1 (by simpa using e))
    have HE := Lib.hid a1
    generalize (byt s j).toNat = bb at hg a2 hbt
    have c1 : ((bb : Int) == 47) = false := by rw [beq_eq_false_iff_ne]; omega
    clear a1 a2
    go_wp2_with fail
    go_round
    case rel =>
     refine ⟨j + 1, by go_num, by omega, fun k hk => ?_⟩
     rcases Nat.lt_or_ge k j with h | h
     ·exact HA.out k h
     ·have : k = j := by omega
      subst this
      exact HE.out
    case measure => simp [intOf]; omega
  ·have hc : decide ((j : Int) < (s.size : Int)) = false := decide_eq_false (by omega)
   go_wp2_with fail
   go_ret
   exact ⟨by rw [idB_none (fun k hk => HA.out k (by omega))]; rfl, rfl⟩
theorem rCheck19_ex (l : Lot) (hs : l.tiny) (w : World) : Calls Tryz.prog 80 #[l.enc] w fun e w' => e = .returned (.int .i64 (lchk l)) ∧ Below w.heap.size w w' := by
 obtain ⟨W0, hW0, hB0, hk⟩ := lbox l w
 obtain ⟨z1, z2, z3, z4, z5⟩ := hs
 have N1 := Lib.hid (fun W => rId_ex l.id (by omega) W)
 have N2 := Lib.hid (fun W => rName_any l.inst (by omega) W)
 have Y1 := Lib.hid (fun (h : Can l.qty) W => rCheck_yes l.qty (by omega) h W)
 have X1 := Lib.hid (fun (h : ¬ Can l.qty) W => rCheck_no l.qty (by omega) h W)
 have Y2 := Lib.hid (fun (h : Can l.cost) W => rCheck_yes l.cost (by omega) h W)
 have X2 := Lib.hid (fun (h : ¬ Can l.cost) W => rCheck_no l.cost (by omega) h W)
 have Y3 := Lib.hid (fun (h : Can l.used) W => rCheck_yes l.used (by omega) h W)
 have X3 := Lib.hid (fun (h : ¬ Can l.used) W => rCheck_no l.used (by omega) h W)
 have S1 := Lib.hid (fun W => rSign_any l.qty (by omega) W)
 have S2 := Lib.hid (fun W => rSign_any l.cost (by omega) W)
 clear z1 z2 z3 z4 z5
 obtain ⟨c0, c1, c2, c3, c4, c5, c6⟩ := cells7 hk
 have HB := Lib.hid hB0
 clear hB0 hk
 go_enter Tryz.func80, Tryz.ntmps80
 go_wp2_with fail
 refine (N1.out _).mono ?_
 rintro e w1 ⟨rfl, rfl⟩
 cases hg : idB l.id
 ·have H := Lib.hid hg
  clear hg
  go_wp2_with fail
  go_ret
  exact ⟨by rw [lchk_23 (.inl H.out)]; rfl, HB.out⟩
 have G1 := Lib.hid hg
 clear hg N1
 go_wp2_with fail
 refine (N2.out _).mono ?_
 rintro e w1 ⟨rfl, rfl⟩
 cases hn : nameOk l.inst
 ·have H := Lib.hid hn
  clear hn
  go_wp2_with fail
  go_ret
  exact ⟨by rw [lchk_23 (.inr H.out)]; rfl, HB.out⟩
 have G2 := Lib.hid hn
 clear hn N2
 go_wp2_with fail
 refine (rday19_any l.acq _).mono ?_
 rintro e w1 ⟨rfl, rfl⟩
 by_cases h3 : okDay l.acq
 case neg =>
  rw [decide_eq_false h3]
  have H := Lib.hid h3
  clear h3
  go_wp2_with fail
  go_ret
  exact ⟨by rw [lchk_13 G1.out G2.out (.inl H.out)]; rfl, HB.out⟩
 rw [decide_eq_true h3]
 have G3 := Lib.hid h3
 clear h3
 go_wp2_with fail
 refine (rday19_any l.opn _).mono ?_
 rintro e w1 ⟨rfl, rfl⟩
 by_cases h4 : okDay l.opn
 case neg =>
  rw [decide_eq_false h4]
  have H := Lib.hid h4
  clear h4
  go_wp2_with fail
  go_ret
  exact ⟨by rw [lchk_13 G1.out G2.out (.inr H.out)]; rfl, HB.out⟩
 rw [decide_eq_true h4]
 have G4 := Lib.hid h4
 clear h4
 by_cases h5 : l.opn < l.acq
 ·have t5 : decide (l.opn < l.acq) = true := decide_eq_true h5
  have H := Lib.hid h5
  clear h5
  go_wp2_with fail
  go_ret
  exact ⟨by rw [lchk_8 G1.out G2.out G3.out G4.out H.out]; rfl, HB.out⟩
 have t5 : decide (l.opn < l.acq) = false := decide_eq_false h5
 have G5 := Lib.hid (show l.acq ≤ l.opn by omega)
 clear h5
 go_wp2_with fail
 by_cases h6 : Can l.qty
 case neg =>
  refine (X1.out h6 _).mono ?_
  rintro e w1 ⟨rfl, rfl⟩
  have H := Lib.hid h6
  clear h6
  go_wp2_with fail
  go_ret
  exact ⟨by rw [lchk_1 G1.out G2.out G3.out G4.out G5.out (.inl H.out)]; rfl, HB.out⟩
 refine (Y1.out h6 _).mono ?_
 rintro e w1 ⟨rfl, rfl⟩
 have G6 := Lib.hid h6
 clear h6 Y1 X1
 go_wp2_with fail
 by_cases h7 : Can l.cost
 case neg =>
  refine (X2.out h7 _).mono ?_
  rintro e w1 ⟨rfl, rfl⟩
  have H := Lib.hid h7
  clear h7
  go_wp2_with fail
  go_ret
  exact ⟨by rw [lchk_1 G1.out G2.out G3.out G4.out G5.out (.inr (.inl H.out))]; rfl, HB.out⟩
 refine (Y2.out h7 _).mono ?_
 rintro e w1 ⟨rfl, rfl⟩
 have G7 := Lib.hid h7
 clear h7 Y2 X2
 go_wp2_with fail
 by_cases h8 : Can l.used
 case neg =>
  refine (X3.out h8 _).mono ?_
  rintro e w1 ⟨rfl, rfl⟩
  have H := Lib.hid h8
  clear h8
  go_wp2_with fail
  go_ret
  exact ⟨by rw [lchk_1 G1.out G2.out G3.out G4.out G5.out (.inr (.inr H.out))]; rfl, HB.out⟩
 refine (Y3.out h8 _).mono ?_
 rintro e w1 ⟨rfl, rfl⟩
 have G8 := Lib.hid h8
 clear h8 Y3 X3
 go_wp2_with fail
 refine (S1.out _).mono ?_
 rintro e w1 ⟨rfl, rfl⟩
 by_cases h9 : 0 < vl l.qty
 case neg =>
  have t9 := cmpI_npos h9
  have H := Lib.hid h9
  clear h9
  go_wp2_with fail
  go_ret
  exact ⟨by rw [lchk_2 G1.out G2.out G3.out G4.out G5.out G6.out G7.out G8.out (.inl (by have := H.out; omega))]; rfl, HB.out⟩
 have t9 := cmpI_pos h9
 have G9 := Lib.hid h9
 clear h9
 go_wp2_with fail
 refine (S2.out _).mono ?_
 rintro e w1 ⟨rfl, rfl⟩
 by_cases h10 : vl l.cost < 0
 ·have t10 := cmpI_neg h10
  have H := Lib.hid h10
  clear h10
  go_wp2_with fail
  go_ret
  exact ⟨by rw [lchk_2 G1.out G2.out G3.out G4.out G5.out G6.out G7.out G8.out (.inr (.inl H.out))]; rfl, HB.out⟩
 have t10 := cmpI_nneg h10
 have G10 := Lib.hid (show 0 ≤ vl l.cost by omega)
 clear h10
 have e1 := bytes_eq l.used ⟨#[]⟩
 rw [show (⟨#[]⟩ : ByteArray).toList = [] from by rw [Lib.toList_data]] at e1
 have e2 := bytes_eq l.used l.qty
 by_cases h11 : l.used = ⟨#[]⟩
 ·have G11 := Lib.hid h11
  rw [decide_eq_true h11] at e1
  clear h11 e2
  go_wp2_with fail
  go_ret
  exact ⟨by rw [lchk_zero.2 ⟨G1.out, G2.out, G3.out, G4.out, G5.out, G6.out, G7.out, G8.out, G9.out, G10.out, .inl G11.out⟩]; rfl, HB.out⟩
 rw [decide_eq_false h11] at e1
 have G11 := Lib.hid h11
 clear h11
 by_cases h12 : l.used = l.qty
 ·have G12 := Lib.hid h12
  rw [decide_eq_true h12] at e2
  clear h12
  go_wp2_with fail
  go_ret
  exact ⟨by rw [lchk_zero.2 ⟨G1.out, G2.out, G3.out, G4.out, G5.out, G6.out, G7.out, G8.out, G9.out, G10.out, .inr G12.out⟩]; rfl, HB.out⟩
 rw [decide_eq_false h12] at e2
 have G12 := Lib.hid h12
 clear h12
 go_wp2_with fail
 go_ret
 exact ⟨by rw [lchk_2 G1.out G2.out G3.out G4.out G5.out G6.out G7.out G8.out (.inr (.inr ⟨G11.out, G12.out⟩))]; rfl, HB.out⟩
theorem day_any (y : Int) (m : Nat) (d : Int) (hv : VDate y m d) (w : World) :
 Calls Tryz.prog 39 #[.int .i64 y, .int .i64 (m : Int), .int .i64 d] w fun e w' => e = .returned (.int .i64 (dayOf y m d)) ∧ Below w.heap.size w w' := by
 have HO := Lib.hid (dOf_any y m d hv w)
 generalize dayOf y m d = z at *
 go_enter Tryz.func39, Tryz.ntmps39
 go_wp2_with fail
 refine HO.out.mono ?_
 rintro e w1 ⟨rfl, b1⟩
 go_wp2_with fail
 go_ret
 exact ⟨rfl, b1⟩
theorem day_a (w : World) : Calls Tryz.prog 39 #[.int .i64 2024, .int .i64 1, .int .i64 14] w fun e w' => e = .returned (.int .i64 19736) ∧ Below w.heap.size w w' := day_any 2024 1 14 (by unfold VDate lenB leapB; decide) w
theorem day_b (w : World) : Calls Tryz.prog 39 #[.int .i64 2025, .int .i64 1, .int .i64 14] w fun e w' => e = .returned (.int .i64 20102) ∧ Below w.heap.size w w' := day_any 2025 1 14 (by unfold VDate lenB leapB; decide) w
theorem day_c (w : World) : Calls Tryz.prog 39 #[.int .i64 2024, .int .i64 1, .int .i64 15] w fun e w' => e = .returned (.int .i64 19737) ∧ Below w.heap.size w w' := day_any 2024 1 15 (by unfold VDate lenB leapB; decide) w
theorem day_d (w : World) : Calls Tryz.prog 39 #[.int .i64 2024, .int .i64 3, .int .i64 28] w fun e w' => e = .returned (.int .i64 19810) ∧ Below w.heap.size w w' := day_any 2024 3 28 (by unfold VDate lenB leapB; decide) w
def i0 : Inst := ⟨⟨#[98]⟩, 2, ⟨#[85, 83, 68]⟩, 0, 19736, 20102, ⟨#[49, 48, 48, 48]⟩, ⟨#[]⟩, ⟨#[]⟩, ⟨#[]⟩, 12, 3, ⟨#[]⟩, ⟨#[]⟩, ⟨#[]⟩⟩
def l0 : Lot := ⟨⟨#[120, 47, 49]⟩, ⟨#[98]⟩, 19737, 19737, ⟨#[49, 48]⟩, ⟨#[57, 56, 48, 48]⟩, ⟨#[]⟩⟩
theorem v1000 : vl ⟨#[49, 48, 48, 48]⟩ = 1000 := by decide
theorem v10 : vl ⟨#[49, 48]⟩ = 10 := by decide
theorem v9800 : vl ⟨#[57, 56, 48, 48]⟩ = 9800 := by decide
theorem v0 : vl ⟨#[]⟩ = 0 := by decide
theorem fv_int {n : ByteArray} : fv n ⟨#[]⟩ = (vl n : Rat) := by
 unfold fv dd
 rw [if_pos v0, show vl one1 = 1 from by decide]
 exact divInt_one' _
theorem canQ_int {n : ByteArray} (h : Can n) : CanQ n ⟨#[]⟩ := by
 unfold CanQ
 rw [fv_int]
 refine ⟨h.symm, ?_⟩
 unfold dn
 rw [if_pos (show ((vl n : Int) : Rat).den = 1 from rfl)]
theorem numchk_int {n : ByteArray} (h : Can n) (hz : n.size ≤ 40) : numchk n ⟨#[]⟩ = 0 := by
 unfold numchk
 rw [if_neg (fun x => x (canQ_int h)), if_neg]
 rintro (x | x)
 ·unfold ndig at x; split at x <;> omega
 ·rw [show ndig ⟨#[]⟩ = 0 from by decide] at x; omega
theorem i0_small : i0.small := ⟨by decide, by decide, by decide, by decide, by decide, by decide, by decide, by decide, by decide⟩
theorem i0_ok : i0.ok where
 id := by decide
 kind := by decide
 cur := by decide
 places := by decide
 issued := by unfold okDay; decide
 matures := .inr ⟨by decide, by unfold okDay; decide, by decide⟩
 n1 := numchk_int (by unfold Can; decide) (by decide)
 n2 := numchk_int (by unfold Can; decide) (by decide)
 n3 := numchk_int (by unfold Can; decide) (by decide)
 plain := fun h => absurd rfl h
 bond := fun _ => ⟨by decide, by decide, by decide, by decide, by decide, rfl, by decide⟩
 fwd := fun h => absurd h (by decide)
theorem l0_sized : l0.sized := ⟨by decide, by decide, by decide, by decide, by decide⟩
theorem l0_ok : l0.ok where
 id := by kernel_rfl
 inst := by decide
 acq := by unfold okDay; decide
 opn := by unfold okDay; decide
 ord := by decide
 cq := by unfold Can; decide
 cc := by unfold Can; decide
 cu := by unfold Can; decide
 pq := by decide
 pc := by decide
 us := .inl rfl
theorem all0 : allQ i0 l0 = 200 := by
 unfold allQ
 rw [show i0.fd = ⟨#[]⟩ from rfl, fv_int, show vl i0.fn = 1000 from v1000, show vl l0.qty = 10 from v10, show vl l0.cost = 9800 from v9800]
 kernel_rfl
theorem ex0 : exactQ i0 l0 19810 = 40 := by
 unfold exactQ
 rw [if_neg (by decide), if_neg (by decide), all0]
 kernel_rfl
theorem ex1 : exactQ i0 l0 20102 = 200 := by
 unfold exactQ
 rw [if_neg (by decide), if_pos (by decide), all0]
theorem r40 : I (rnd 40) = ⟨#[52, 48]⟩ := by rfl
theorem r200 : I (rnd 200) = ⟨#[50, 48, 48]⟩ := by rfl
theorem cause_bytes : (⟨#[109, 97, 114, 107, 32]⟩ : ByteArray) ++ dtext 2024 3 28 ++ ⟨#[32]⟩ ++ ⟨#[98]⟩ = ⟨#[109, 97, 114, 107, 32, 50, 48, 50, 52, 45, 48, 51, 45, 50, 56, 32, 98]⟩ := by kernel_rfl
theorem cause0 : causeB 19810 ⟨#[98]⟩ = ⟨#[109, 97, 114, 107, 32, 50, 48, 50, 52, 45, 48, 51, 45, 50, 56, 32, 98]⟩ := by
 have hv : VDate 2024 3 28 := by unfold VDate lenB leapB; decide
 have hp : ptext 19810 = dtext 2024 3 28 := ptext_eq (y := 2024) (m := 3) (dd := 28) hv (by decide)
 unfold causeB
 rw [hp]
 exact cause_bytes
theorem eqTerms_any (B1 B2 : Nat) (a b : ByteArray) (w : World) (h1 : w.heap[B1]? = some (.cells #[.string a, .string b] 57 (0, 0))) (h2 : w.heap[B2]? = some (.cells #[.string a, .string b] 57 (0, 0))) :
 Calls Tryz.prog 26 #[.slice (some ⟨B1, 0, none⟩) 1 1, .slice (some ⟨B2, 0, none⟩) 1 1] w fun e w' => e = .returned (.bool true) ∧ Below w.heap.size w w' := by
 have c0 := Lib.cell_of_heap h1 0
 have c1 := Lib.cell_of_heap h1 1
 have d0 := Lib.cell_of_heap h2 0
 have d1 := Lib.cell_of_heap h2 1
 simp at c0 c1 d0 d1
 clear h1 h2
 go_enter Tryz.func26, Tryz.ntmps26
 go_wp2_with fail
 refine wp_loop_rounds 2 ?_
 rw [rounds_succ]
 go_wp2_with fail
 go_quiet (fail)
 go_wp2_with fail
 rw [rounds_succ]
 go_wp2_with fail
 go_ret
 exact ⟨rfl, below_drewN (Below.refl _ _) _⟩
variable {P : Program} {md : Region.Mode} {ops : Array Oper} {Q : Exit → Act → World → Prop}
theorem wpAny_inv (J : Array Bool → Act → World → Prop)
 (hstep : ∀ L a w, J L a w → ∀ i ∈ Region.ready md ops L, wpOp P ops Q i (J (L.setIfInBounds i true)) a w)
 (hdone : ∀ L a w, J L a w → Region.ready md ops L = [] → Q .normal a w) :
 ∀ (fuel : Nat) (L : Array Bool) (a : Act) (w : World), J L a w → waits L.toList ≤ fuel → wpAny P md ops Q fuel L a w := by
 intro fuel
 induction fuel with
 | zero =>
   intro L a w hj hw
   have hr : Region.ready md ops L = [] := by
    refine List.eq_nil_iff_forall_not_mem.2 fun i hi => ?_
    exact waits_zero L.toList i (by omega) (getD_false (mem_ready.1 hi).1)
   exact ⟨hr, hdone L a w hj hr⟩
 | succ fuel ih =>
   intro L a w hj hw
   refine ⟨fun hr => hdone L a w hj hr, fun i hi => wpOp_mono (fun a' w' h' => ih _ a' w' h' ?_) (hstep L a w hj i hi)⟩
   have := waits_set L.toList i (getD_false (mem_ready.1 hi).1)
   rw [Array.toList_setIfInBounds]
   omega
end Go.Proofs.YtpgjmdggblnfkaaGreatDoor
