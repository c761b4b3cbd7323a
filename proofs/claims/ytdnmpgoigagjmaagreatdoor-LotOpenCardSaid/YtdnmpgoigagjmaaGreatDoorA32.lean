/-
  The walks of trancheref19.number, Id, Check: which answer. (Printed by gen_ref32.py.)
  The walk of accrual.exact.
  The walk of accrual.exact, the rest.
  The iterator of accrual.amounts: it gives the exact amortizations of the lots of an instrument.
  The walk of accrual.sum over the amounts.
  The walks of accrual.check, checkOne, Amortized, Total, Book on what is valid. (Printed by gen_acc6.py.)
  The walks of trancheref19.Great, CheckAll of no lots; tranchelaw39.great, fine of no lots.
  The walks of trancheref19.Great, CheckAll; tranchelaw39.great, fine. (Printed by gen_ref22.py.)
-/
import Derived.Test.YtdnmpgoigagjmaaGreatDoorA29
import Derived.Test.YtdnmpgoigagjmaaGreatDoorA28
import Derived.Deep.DeepCutAuto
import Derived.Deep.RegionHeld3
import Derived.Test.YtdnmpgoigagjmaaGreatDoorA31
import Derived.Test.YtdnmpgoigagjmaaGreatDoorA27
set_option linter.unusedVariables false
set_option linter.unusedSimpArgs false
namespace Go.Proofs.YtdnmpgoigagjmaaGreatDoor
open Go.RowKit Tr Go.Shelf
theorem numB_parts {t : List UInt8} (h : numB t = true) : 1 ≤ t.length ∧ t.length ≤ 4 ∧ t.all isDigit = true ∧ t.getD 0 0 ≠ 48 := by
 obtain ⟨h4, v, _, h1, h2, h3⟩ := numB_spec h
 obtain ⟨n, rfl⟩ : ∃ n : Nat, v = (n : Int) := ⟨v.toNat, by omega⟩
 have hn : 0 < n := by omega
 rw [itoa_nat hn] at h3
 subst h3
 exact ⟨List.length_pos_iff.2 (digits_ne_nil hn), h4, all_digits n, digits_head hn⟩
theorem numB_no {t : List UInt8} (h : numB t = true → False) : numB t = false := by
 cases e : numB t
 ·rfl
 ·exact (h e).elim
theorem idB_at {s : ByteArray} {i : Nat} (hi : i < s.size) (h47 : byt s i = 47) (hn : ∀ j, j < i → byt s j ≠ 47) : idB s = (numB (s.extract (i + 1) s.size).data.toList && nameOk (s.extract 0 i)) := by
 have hl : s.data.toList.length = s.size := (Lib.size_eq s).symm
 have hx : Lib.indexB s ⟨#[47]⟩ = (i : Int) := by
  refine index_slash _ i ?_ ?_
  ·have : s.data.toList.getD i 0 = 47 := h47
   rw [List.getD_eq_getElem?_getD, List.getElem?_eq_getElem (by omega), Option.getD_some] at this
   rw [List.getElem?_eq_getElem (by omega), this]
  ·intro j hj e
   refine hn j hj ?_
   unfold byt
   rw [List.getD_eq_getElem?_getD, e]
   rfl
 obtain ⟨c1, c2, _⟩ := Lib.cutB_hit s ⟨#[47]⟩ i hx
 rw [show (⟨#[47]⟩ : ByteArray).data.toList = [47] from rfl] at c1 c2
 rw [show (⟨#[47]⟩ : ByteArray).size = 1 from rfl] at c2
 unfold idB
 rw [← c2, ← c1]
 unfold bs
 simp
theorem index_none : ∀ (l : List UInt8), (∀ j, j < l.length → l[j]? ≠ some 47) → Lib.index l [47] = -1
 | [], _ => by simp [Lib.index]
 | b :: r, hn => by
   have hb : b ≠ 47 := fun e => hn 0 (by simp) (by simp [e])
   have hr := index_none r (fun j hj => by have := hn (j + 1) (by simpa using hj); simpa using this)
   unfold Lib.index
   rw [if_neg (by simpa using fun e => hb e.symm), hr]
   rfl
theorem idB_none {s : ByteArray} (hn : ∀ j, j < s.size → byt s j ≠ 47) : idB s = false := by
 have hl : s.data.toList.length = s.size := (Lib.size_eq s).symm
 have hx : Lib.index s.data.toList [47] = -1 := by
  refine index_none _ (fun j hj e => hn j (by omega) ?_)
  unfold byt
  rw [List.getD_eq_getElem?_getD, e]
  rfl
 have hc : (Lib.cut s.data.toList [47]).2.1 = [] := by
  unfold Lib.cut
  rw [hx]
  rfl
 unfold idB
 rw [hc, numB_no (fun h => by have := (numB_parts h).1; simp at this)]
 rfl
set_option maxHeartbeats 4000000 in
set_option maxRecDepth 100000 in
theorem rnumber_ex (s : ByteArray) (hs : s.size ≤ 1000) (w : World) : Calls Tryz.prog 156 #[.string s] w fun e w' => e = .returned (.bool (numB s.data.toList)) ∧ w = w' := by
 by_cases h1 : s.size < 1
 ·have t1 : decide ((s.size : Int) < 1) = true := decide_eq_true (by omega)
  go_enter Tryz.func156, Tryz.ntmps156
  go_wp2_with fail
  go_ret
  exact ⟨by rw [numB_no (fun h => by have := (numB_parts h).1; rw [← Lib.size_eq] at this; omega)]; rfl, rfl⟩
 have t1 : decide ((s.size : Int) < 1) = false := decide_eq_false (by omega)
 by_cases h4 : 4 < s.size
 ·have t2 : decide ((4 : Int) < (s.size : Int)) = true := decide_eq_true (by omega)
  go_enter Tryz.func156, Tryz.ntmps156
  go_wp2_with fail
  go_ret
  exact ⟨by rw [numB_no (fun h => by have := (numB_parts h).2.1; rw [← Lib.size_eq] at this; omega)]; rfl, rfl⟩
 have t2 : decide ((4 : Int) < (s.size : Int)) = false := decide_eq_false (by omega)
 have hg0 : (s[0]'(by omega)).toNat = (byt s 0).toNat := by rw [byt_get]
 by_cases h0 : byt s 0 = 48
 ·have hz : (byt s 0).toNat = 48 := by rw [h0]; rfl
  rw [hz] at hg0
  have H0 := Lib.hid h0
  have t3 : (((s[0]'(by omega)).toNat : Int) == 48) = true := by rw [hg0]; rfl
  go_enter Tryz.func156, Tryz.ntmps156
  go_wp2_with fail
  go_ret
  exact ⟨by rw [numB_no (fun h => (numB_parts h).2.2.2 (show s.data.toList.getD 0 0 = 48 from H0.out))]; rfl, rfl⟩
 have hz : (byt s 0).toNat ≠ 48 := fun e => h0 (UInt8.toNat_inj.1 (by simpa using e))
 have t3 : (((s[0]'(by omega)).toNat : Int) == 48) = false := by rw [beq_eq_false_iff_ne, hg0]; omega
 have H0 := Lib.hid h0
 clear h0 hz hg0
 go_enter Tryz.func156, Tryz.ntmps156
 go_wp2_with fail
 go_loop [3] (fun v => ∃ j : Nat, v = .int .i64 (j : Int) ∧ j ≤ s.size ∧ (s.data.toList.take j).all isDigit = true) (fun v => s.size - (intOf v).toNat)
 case atStart => exact ⟨0, rfl, by omega, rfl⟩
 case round =>
  clear t3
  obtain ⟨j, rfl, hj, hall⟩ := hrel
  have HA := Lib.hid hall
  clear hall
  rcases Nat.lt_or_ge j s.size with hlt | hge
  ·have hb := (byt s j).toNat_lt
   have hg : s[j].toNat = (byt s j).toNat := by rw [byt_get]
   generalize hbb : (byt s j).toNat = bb at hb hg
   have HCB := Lib.hid hbb
   clear hbb
   by_cases a1 : bb < 48
   ·have c1 : decide ((bb : Int) < 48) = true := decide_eq_true (by omega)
    have HN : Hid (isDigit (byt s j) = false) := by rw [Hid, ← Bool.not_eq_true, isDigit_iff, HCB.out]; omega
    clear HCB
    go_wp2_with fail
    go_ret
    exact ⟨by rw [numB_no (fun h => by have := (numB_parts h).2.2.1; rw [not_all hlt HN.out] at this; cases this)]; rfl, rfl⟩
   have c1 : decide ((bb : Int) < 48) = false := decide_eq_false (by omega)
   by_cases a2 : 57 < bb
   ·have c2 : decide (57 < (bb : Int)) = true := decide_eq_true (by omega)
    have HN : Hid (isDigit (byt s j) = false) := by rw [Hid, ← Bool.not_eq_true, isDigit_iff, HCB.out]; omega
    clear HCB
    go_wp2_with fail
    go_ret
    exact ⟨by rw [numB_no (fun h => by have := (numB_parts h).2.2.1; rw [not_all hlt HN.out] at this; cases this)]; rfl, rfl⟩
   have c2 : decide (57 < (bb : Int)) = false := decide_eq_false (by omega)
   have HN : Hid (isDigit (byt s j) = true) := by rw [Hid, isDigit_iff, HCB.out]; omega
   clear HCB a1 a2
   go_wp2_with fail
   go_round
   case rel => exact ⟨j + 1, by go_num, by omega, all_take_succ HA.out hlt HN.out⟩
   case measure => simp [intOf]; omega
  ·have hc : decide ((j : Int) < (s.size : Int)) = false := decide_eq_false (by omega)
   have HH : Hid (s.data.toList.all isDigit = true) := by
    have := HA.out
    rw [List.take_of_length_le (by rw [← Lib.size_eq]; omega)] at this
    exact this
   go_wp2_with fail
   go_ret
   exact ⟨by rw [numB_of (by rw [← Lib.size_eq]; omega) (by rw [← Lib.size_eq]; omega) HH.out H0.out]; rfl, rfl⟩
set_option maxHeartbeats 4000000 in
set_option maxRecDepth 100000 in
theorem rId_ex (s : ByteArray) (hs : s.size ≤ 1000) (w : World) : Calls Tryz.prog 115 #[.string s] w fun e w' => e = .returned (.bool (idB s)) ∧ w = w' := by
 go_enter Tryz.func115, Tryz.ntmps115
 go_wp2_with fail
 go_loop [3] (fun v => ∃ j : Nat, v = .int .i64 (j : Int) ∧ j ≤ s.size ∧ (∀ k, k < j → byt s k ≠ 47)) (fun v => s.size - (intOf v).toNat)
 case atStart => exact ⟨0, rfl, by omega, fun k hk => by omega⟩
 case round =>
  obtain ⟨j, rfl, hj, hall⟩ := hrel
  have HA := Lib.hid hall
  clear hall
  rcases Nat.lt_or_ge j s.size with hlt | hge
  ·have hg : s[j].toNat = (byt s j).toNat := by rw [byt_get]
   have hbt := (byt s j).toNat_lt
   by_cases a1 : byt s j = 47
   ·have HE := Lib.hid a1
    rw [a1] at hg
    have hg' : s[j].toNat = 47 := hg
    have z1 : (s.extract 0 j).size = j := by rw [ByteArray.size_extract]; omega
    have z2 : (s.extract (j + 1) s.size).size ≤ 1000 := by rw [ByteArray.size_extract]; omega
    have HNM := Lib.hid (fun W => rName_any (s.extract 0 j) (by omega) W)
    have HNU := fun W => rnumber_ex (s.extract (j + 1) s.size) z2 W
    obtain ⟨nb, hnb⟩ : ∃ nb, numB (s.extract (j + 1) s.size).data.toList = nb := ⟨_, rfl⟩
    rw [hnb] at HNU
    replace HNU := Lib.hid HNU
    have HNB := Lib.hid hnb
    clear hnb
    clear hg hbt a1
    go_wp2_with fail
    refine (HNM.out _).mono ?_
    rintro e w1 ⟨rfl, rfl⟩
    cases hnm : nameOk (s.extract 0 j)
    ·have HM := Lib.hid hnm
     clear hnm
     go_wp2_with fail
     go_ret
     exact ⟨by rw [idB_at hlt HE.out HA.out, HM.out, Bool.and_false]; rfl, rfl⟩
    ·have HM := Lib.hid hnm
     clear hnm
     go_wp2_with fail
     refine (HNU.out _).mono ?_
     rintro e w2 ⟨rfl, rfl⟩
     go_wp2_with fail
     go_ret
     exact ⟨by rw [idB_at hlt HE.out HA.out, HM.out, Bool.and_true, HNB.out]; rfl, rfl⟩
   ·have a2 : (byt s j).toNat ≠ 47 := fun e => a1 (UInt8.toNat_inj.1 (by simpa using e))
    have HE := Lib.hid a1
    generalize (byt s j).toNat = bb at hg a2 hbt
    have c1 : ((bb : Int) == 47) = false := by rw [beq_eq_false_iff_ne]; omega
    clear a1 a2
    go_wp2_with fail
    go_round
    case rel =>
     refine ⟨j + 1, by go_num, by omega, fun k hk => ?_⟩
     rcases Nat.lt_or_ge k j with h | h
     ·exact HA.out k h
     ·have : k = j := by omega
      subst this
      exact HE.out
    case measure => simp [intOf]; omega
  ·have hc : decide ((j : Int) < (s.size : Int)) = false := decide_eq_false (by omega)
   go_wp2_with fail
   go_ret
   exact ⟨by rw [idB_none (fun k hk => HA.out k (by omega))]; rfl, rfl⟩
set_option maxHeartbeats 8000000 in
set_option maxRecDepth 100000 in
theorem rCheck19_ex (l : Lot) (hs : l.tiny) (w : World) : Calls Tryz.prog 52 #[l.enc] w fun e w' => e = .returned (.int .i64 (lchk l)) ∧ Below w.heap.size w w' := by
 obtain ⟨W0, hW0, hB0, hk⟩ := lbox l w
 obtain ⟨z1, z2, z3, z4, z5⟩ := hs
 have N1 := Lib.hid (fun W => rId_ex l.id (by omega) W)
 have N2 := Lib.hid (fun W => rName_any l.inst (by omega) W)
 have Y1 := Lib.hid (fun (h : Can l.qty) W => rCheck_yes l.qty (by omega) h W)
 have X1 := Lib.hid (fun (h : ¬ Can l.qty) W => rCheck_no l.qty (by omega) h W)
 have Y2 := Lib.hid (fun (h : Can l.cost) W => rCheck_yes l.cost (by omega) h W)
 have X2 := Lib.hid (fun (h : ¬ Can l.cost) W => rCheck_no l.cost (by omega) h W)
 have Y3 := Lib.hid (fun (h : Can l.used) W => rCheck_yes l.used (by omega) h W)
 have X3 := Lib.hid (fun (h : ¬ Can l.used) W => rCheck_no l.used (by omega) h W)
 have S1 := Lib.hid (fun W => rSign_any l.qty (by omega) W)
 have S2 := Lib.hid (fun W => rSign_any l.cost (by omega) W)
 clear z1 z2 z3 z4 z5
 have c0 := Lib.cell_of_heap hk 0
 have c1 := Lib.cell_of_heap hk 1
 have c2 := Lib.cell_of_heap hk 2
 have c3 := Lib.cell_of_heap hk 3
 have c4 := Lib.cell_of_heap hk 4
 have c5 := Lib.cell_of_heap hk 5
 have c6 := Lib.cell_of_heap hk 6
 simp at c0 c1 c2 c3 c4 c5 c6
 have HB := Lib.hid hB0
 clear hB0 hk
 go_enter Tryz.func52, Tryz.ntmps52
 go_wp2_with fail
 refine (N1.out _).mono ?_
 rintro e w1 ⟨rfl, rfl⟩
 cases hg : idB l.id
 ·have H := Lib.hid hg
  clear hg
  go_wp2_with fail
  go_ret
  exact ⟨by rw [lchk_23 (.inl H.out)]; rfl, HB.out⟩
 have G1 := Lib.hid hg
 clear hg N1
 go_wp2_with fail
 refine (N2.out _).mono ?_
 rintro e w1 ⟨rfl, rfl⟩
 cases hn : nameOk l.inst
 ·have H := Lib.hid hn
  clear hn
  go_wp2_with fail
  go_ret
  exact ⟨by rw [lchk_23 (.inr H.out)]; rfl, HB.out⟩
 have G2 := Lib.hid hn
 clear hn N2
 go_wp2_with fail
 refine (rday19_any l.acq _).mono ?_
 rintro e w1 ⟨rfl, rfl⟩
 by_cases h3 : okDay l.acq
 case neg =>
  rw [decide_eq_false h3]
  have H := Lib.hid h3
  clear h3
  go_wp2_with fail
  go_ret
  exact ⟨by rw [lchk_13 G1.out G2.out (.inl H.out)]; rfl, HB.out⟩
 rw [decide_eq_true h3]
 have G3 := Lib.hid h3
 clear h3
 go_wp2_with fail
 refine (rday19_any l.opn _).mono ?_
 rintro e w1 ⟨rfl, rfl⟩
 by_cases h4 : okDay l.opn
 case neg =>
  rw [decide_eq_false h4]
  have H := Lib.hid h4
  clear h4
  go_wp2_with fail
  go_ret
  exact ⟨by rw [lchk_13 G1.out G2.out (.inr H.out)]; rfl, HB.out⟩
 rw [decide_eq_true h4]
 have G4 := Lib.hid h4
 clear h4
 by_cases h5 : l.opn < l.acq
 ·have t5 : decide (l.opn < l.acq) = true := decide_eq_true h5
  have H := Lib.hid h5
  clear h5
  go_wp2_with fail
  go_ret
  exact ⟨by rw [lchk_8 G1.out G2.out G3.out G4.out H.out]; rfl, HB.out⟩
 have t5 : decide (l.opn < l.acq) = false := decide_eq_false h5
 have G5 := Lib.hid (show l.acq ≤ l.opn by omega)
 clear h5
 go_wp2_with fail
 by_cases h6 : Can l.qty
 case neg =>
  refine (X1.out h6 _).mono ?_
  rintro e w1 ⟨rfl, rfl⟩
  have H := Lib.hid h6
  clear h6
  go_wp2_with fail
  go_ret
  exact ⟨by rw [lchk_1 G1.out G2.out G3.out G4.out G5.out (.inl H.out)]; rfl, HB.out⟩
 refine (Y1.out h6 _).mono ?_
 rintro e w1 ⟨rfl, rfl⟩
 have G6 := Lib.hid h6
 clear h6 Y1 X1
 go_wp2_with fail
 by_cases h7 : Can l.cost
 case neg =>
  refine (X2.out h7 _).mono ?_
  rintro e w1 ⟨rfl, rfl⟩
  have H := Lib.hid h7
  clear h7
  go_wp2_with fail
  go_ret
  exact ⟨by rw [lchk_1 G1.out G2.out G3.out G4.out G5.out (.inr (.inl H.out))]; rfl, HB.out⟩
 refine (Y2.out h7 _).mono ?_
 rintro e w1 ⟨rfl, rfl⟩
 have G7 := Lib.hid h7
 clear h7 Y2 X2
 go_wp2_with fail
 by_cases h8 : Can l.used
 case neg =>
  refine (X3.out h8 _).mono ?_
  rintro e w1 ⟨rfl, rfl⟩
  have H := Lib.hid h8
  clear h8
  go_wp2_with fail
  go_ret
  exact ⟨by rw [lchk_1 G1.out G2.out G3.out G4.out G5.out (.inr (.inr H.out))]; rfl, HB.out⟩
 refine (Y3.out h8 _).mono ?_
 rintro e w1 ⟨rfl, rfl⟩
 have G8 := Lib.hid h8
 clear h8 Y3 X3
 go_wp2_with fail
 refine (S1.out _).mono ?_
 rintro e w1 ⟨rfl, rfl⟩
 by_cases h9 : 0 < vl l.qty
 case neg =>
  have t9 := cmpI_npos h9
  have H := Lib.hid h9
  clear h9
  go_wp2_with fail
  go_ret
  exact ⟨by rw [lchk_2 G1.out G2.out G3.out G4.out G5.out G6.out G7.out G8.out (.inl (by have := H.out; omega))]; rfl, HB.out⟩
 have t9 := cmpI_pos h9
 have G9 := Lib.hid h9
 clear h9
 go_wp2_with fail
 refine (S2.out _).mono ?_
 rintro e w1 ⟨rfl, rfl⟩
 by_cases h10 : vl l.cost < 0
 ·have t10 := cmpI_neg h10
  have H := Lib.hid h10
  clear h10
  go_wp2_with fail
  go_ret
  exact ⟨by rw [lchk_2 G1.out G2.out G3.out G4.out G5.out G6.out G7.out G8.out (.inr (.inl H.out))]; rfl, HB.out⟩
 have t10 := cmpI_nneg h10
 have G10 := Lib.hid (show 0 ≤ vl l.cost by omega)
 clear h10
 have e1 := bytes_eq l.used ⟨#[]⟩
 rw [show (⟨#[]⟩ : ByteArray).toList = [] from by rw [Lib.toList_data]] at e1
 have e2 := bytes_eq l.used l.qty
 by_cases h11 : l.used = ⟨#[]⟩
 ·have G11 := Lib.hid h11
  rw [decide_eq_true h11] at e1
  clear h11 e2
  go_wp2_with fail
  go_ret
  exact ⟨by rw [lchk_zero.2 ⟨G1.out, G2.out, G3.out, G4.out, G5.out, G6.out, G7.out, G8.out, G9.out, G10.out, .inl G11.out⟩]; rfl, HB.out⟩
 rw [decide_eq_false h11] at e1
 have G11 := Lib.hid h11
 clear h11
 by_cases h12 : l.used = l.qty
 ·have G12 := Lib.hid h12
  rw [decide_eq_true h12] at e2
  clear h12
  go_wp2_with fail
  go_ret
  exact ⟨by rw [lchk_zero.2 ⟨G1.out, G2.out, G3.out, G4.out, G5.out, G6.out, G7.out, G8.out, G9.out, G10.out, .inr G12.out⟩]; rfl, HB.out⟩
 rw [decide_eq_false h12] at e2
 have G12 := Lib.hid h12
 clear h12
 go_wp2_with fail
 go_ret
 exact ⟨by rw [lchk_2 G1.out G2.out G3.out G4.out G5.out G6.out G7.out G8.out (.inr (.inr ⟨G11.out, G12.out⟩))]; rfl, HB.out⟩
end Go.Proofs.YtdnmpgoigagjmaaGreatDoor
namespace Go.Proofs.YtdnmpgoigagjmaaGreatDoor
open Go.RowKit Tr Go.Shelf
def allQ (i : Inst) (l : Lot) : Rat := fv i.fn i.fd * (vl l.qty : Rat) - (vl l.cost : Rat)
def exactQ (i : Inst) (l : Lot) (d : Int) : Rat :=
 if i.kind ≠ 2 ∨ d < l.opn then 0 else if i.matures ≤ d then allQ i l else allQ i l * (((d - l.opn : Int) : Rat) / ((i.matures - l.opn : Int) : Rat))
end Go.Proofs.YtdnmpgoigagjmaaGreatDoor
namespace Go.Proofs.YtdnmpgoigagjmaaGreatDoor
open Go.RowKit Tr Go.Shelf
def FBox (W : World) (B : Nat) (q : Rat) : Prop := W.heap[B]? = some (.cells #[.string (I q.num), .string (dn q)] 55 (0, 0))
theorem FBox.below {W W' : World} {B : Nat} {q : Rat} (h : FBox W B q) (hb : Below W.heap.size W W') : FBox W' B q := (hb.block B (Array.getElem?_eq_some_iff.1 h).1).trans h
theorem FBox.lt {W : World} {B : Nat} {q : Rat} (h : FBox W B q) : B < W.heap.size := (Array.getElem?_eq_some_iff.1 h).1
def E4 (w : World) (i : Inst) (l : Lot) (wn : World) : Prop := wn.cell? ⟨w.heap.size, 6, none⟩ = some (.string i.fn) ∧ wn.cell? ⟨w.heap.size, 7, none⟩ = some (.string i.fd) ∧ wn.cell? ⟨w.heap.size + 1, 4, none⟩ = some (.string l.qty) ∧ wn.cell? ⟨w.heap.size + 1, 5, none⟩ = some (.string l.cost)
end Go.Proofs.YtdnmpgoigagjmaaGreatDoor
namespace Go.Proofs.YtdnmpgoigagjmaaGreatDoor
open Go.RowKit Tr Go.Shelf
attribute [local go_sem] Oper.semAt_some
def qB : Nat := 4000
abbrev SQ := { q : Rat // BdQ q qB }
def encQ (x : SQ) : Array Value := #[fenc x.1]
structure ExOk (i : Inst) (d : Int) : Prop where
 s1 : i.fn.size ≤ 1000
 s2 : i.fd.size ≤ 1000
 dy : okDay d
 mt : i.kind = 2 → okDay i.matures
theorem exact_bd (i : Inst) (l : Lot) (d : Int) (h : ExOk i d) (hs : l.sized) (ho : okDay l.opn) : BdQ (exactQ i l d) qB := by
 obtain ⟨K, hK⟩ : ∃ K, K = 1002 := ⟨_, rfl⟩
 have hq : K + K + K + 1 + 7 ≤ qB := by unfold qB; omega
 have s1 := h.s1
 have s2 := h.s2
 have s3 := hs.2.2.1
 have s4 := hs.2.2.2.1
 have bf : BdQ (fv i.fn i.fd) K := fv_bd _ _ (by omega) (by omega)
 have bq : BdQ (vl l.qty : Rat) K := BdQ.int (Nat.lt_of_lt_of_le (vl_lt _) (pow_mono (by omega))) (by omega)
 have bc : BdQ (vl l.cost : Rat) K := BdQ.int (Nat.lt_of_lt_of_le (vl_lt _) (pow_mono (by omega))) (by omega)
 have ba : BdQ (allQ i l) (K + K + K + 1) := (bf.mul bq).sub bc
 unfold exactQ
 split
 ·exact BdQ.zero (by omega)
 ·rename_i hz
  split
  ·exact ba.mono (by omega)
  ·have hk : i.kind = 2 := by
    rcases Decidable.em (i.kind = 2) with e | e
    ·exact e
    ·exact absurd (.inl e) hz
   have e1 := h.dy
   have e3 := h.mt hk
   unfold okDay at e1 e3 ho
   refine (BdQ.div' (m := 7) ?_ ?_ ?_ ba).mono hq <;> omega
def KpZ (m b : Nat) (W W' : World) : Prop := Below m W W' ∧ ∀ (k : Nat) (o : Obj), k ≠ b → W.heap[k]? = some o → o.isCells = true → W'.heap[k]? = some o
theorem KpZ.trans {m b : Nat} {A B C : World} (h : KpZ m b A B) (k : KpZ m b B C) : KpZ m b A C := ⟨h.1.trans k.1, fun i o hi ho hc => k.2 i o hi (h.2 i o hi ho hc) hc⟩
theorem KpZ.put {m b : Nat} (W : World) (l : Nat) (o o' : Obj) (hm : m ≤ l) (hl : W.heap[l]? = some o) (ho : o.isCells = false) : KpZ m b W (W.putObj l o') := by
 refine ⟨(Below.refl m W).grown (grownBy_putObj' W l o') (by have := (Array.getElem?_eq_some_iff.1 hl).1; omega) (fun k e => by cases e; omega), fun k o2 _ hk hc => ?_⟩
 rcases Nat.decEq k l with h | h
 ·exact (World.putObj_heap_other (by omega)).trans hk
 ·subst h; rw [hl] at hk; injection hk with hk; subst hk; rw [ho] at hc; cases hc
theorem KpZ.below {m b : Nat} {A B : World} (h : Below A.heap.size A B) (hm : m ≤ A.heap.size) : KpZ m b A B := ⟨h.mono hm, fun k o _ hk _ => (h.block k (Array.getElem?_eq_some_iff.1 hk).1).trans hk⟩
theorem KpZ.cell {m b : Nat} {W W' : World} (h : KpZ m b W W') {p : Addr} (hp : p.block ≠ b) {v : Value} (hc : W.cell? p = some v) : W'.cell? p = some v := by
 obtain ⟨o, ho, hoc⟩ := cells_of_cell hc
 have := h.2 _ o hp ho hoc
 rw [← hc]
 unfold World.cell?
 rw [ho, this]
theorem LotAt.keptZ {m b : Nat} {W W' : World} {p : Addr} {l : Lot} (h : LotAt W p l) (hk : KpZ m b W W') (hp : p.block ≠ b) : LotAt W' p l :=
 ⟨hk.cell hp h.c0, hk.cell (p := ⟨p.block, p.off + 1, none⟩) hp h.c1, hk.cell (p := ⟨p.block, p.off + 2, none⟩) hp h.c2, hk.cell (p := ⟨p.block, p.off + 3, none⟩) hp h.c3, hk.cell (p := ⟨p.block, p.off + 4, none⟩) hp h.c4, hk.cell (p := ⟨p.block, p.off + 5, none⟩) hp h.c5, hk.cell (p := ⟨p.block, p.off + 6, none⟩) hp h.c6⟩
theorem grown_of_below {W W' : World} (h : Below W.heap.size W W') : W.grownBy W' none := ⟨h.os, h.tape, h.output, h.size, fun k hk _ => h.block k hk⟩
def RdZ (b : Nat) (w : World) (A : Option Addr) (ls : List SLot) : Prop :=
 ls ≠ [] → ∃ ad : Addr, A = some ad ∧ ad.block ≠ b ∧ ∀ (j : Nat) (l : SLot), ls[j]? = some l → LotAt w (ad.add (j * 7)) l.1
theorem RdZ.kept {m b : Nat} {w w' : World} {A : Option Addr} {ls : List SLot} (h : RdZ b w A ls) (hk : KpZ m b w w') : RdZ b w' A ls := by
 intro hl
 obtain ⟨ad, rfl, h1, h2⟩ := h hl
 exact ⟨ad, rfl, h1, fun j l hj => (h2 j l hj).keptZ hk (by rw [add_block]; exact h1)⟩
end Go.Proofs.YtdnmpgoigagjmaaGreatDoor
namespace Go.Proofs.YtdnmpgoigagjmaaGreatDoor
open Go.RowKit Tr Go.Shelf
attribute [local go_sem] Oper.semAt_some
def qsum (l : List Rat) : Rat := l.foldl (fun a b => a + b) 0
theorem qsum_snoc (l : List Rat) (q : Rat) : qsum (l ++ [q]) = qsum l + q := by simp [qsum]
theorem qsum_bd (l : List SQ) : BdQ (qsum (l.map Subtype.val)) (l.length * (qB + 1) + 1) := by
 have h : ∀ (r : List SQ) (z : Rat) (k : Nat), BdQ z k → BdQ ((r.map Subtype.val).foldl (fun a b => a + b) z) (k + r.length * (qB + 1)) := by
  intro r
  induction r with
  | nil => intro z k hz; simpa using hz
  | cons x r ih =>
    intro z k hz
    have := ih (z + x.1) (k + qB + 1) (hz.add x.2)
    simp only [List.map_cons, List.foldl_cons, List.length_cons]
    exact this.mono (by rw [Nat.add_mul]; omega)
 have := h l 0 1 (BdQ.zero (Nat.le_refl _))
 unfold qsum
 exact this.mono (by omega)
theorem cells_own {β : Type} (B : Nat) (t : TypeId) (f : β → Array Value) : Own (fun s W => W.heap[B]? = some (.cells (f s) t (0, 0))) := fun s X Y row hs hg hrow =>
 (hg.block B (Array.getElem?_eq_some_iff.1 hs).1 (fun e => by obtain ⟨o, ho, hc⟩ := hrow B e.symm; rw [hs] at ho; cases ho; cases hc)).trans hs
theorem fenc_zero : fenc 0 = .agg #[.string ⟨#[]⟩, .string ⟨#[]⟩] := rfl
end Go.Proofs.YtdnmpgoigagjmaaGreatDoor
namespace Go.Proofs.YtdnmpgoigagjmaaGreatDoor
open Go.RowKit Tr Go.Shelf
structure Inst.small (i : Inst) : Prop where
 id : i.id.size ≤ 1000
 cur : i.cur.size ≤ 1000
 fn : i.fn.size ≤ 1000
 fd : i.fd.size ≤ 1000
 cn : i.cn.size ≤ 1000
 cd : i.cd.size ≤ 1000
 other : i.other.size ≤ 1000
 sn : i.sn.size ≤ 1000
 sd : i.sd.size ≤ 1000
theorem Inst.small.sized {i : Inst} (h : i.small) : i.sized := by
 obtain ⟨h1, h2, h3, h4, h5, h6, h7, h8, h9⟩ := h
 exact ⟨by omega, by omega, by omega, by omega, by omega, by omega, by omega, by omega, by omega⟩
structure AOk (i : Inst) (ls : List SLot) (d : Int) : Prop where
 small : i.small
 ok : i.ok
 lots : LotsOk (ls.map Subtype.val)
 len : ls.length ≤ 99
 dy : okDay d
theorem Inst.ok.mt {i : Inst} (h : i.ok) (hk : i.kind = 2) : okDay i.matures := (h.matures.resolve_left (fun x => x.2.1 hk)).2.1
theorem AOk.ex {i : Inst} {ls : List SLot} {d : Int} (h : AOk i ls d) : ExOk i d := ⟨h.small.fn, h.small.fd, h.dy, h.ok.mt⟩
theorem AOk.opn {i : Inst} {ls : List SLot} {d : Int} (h : AOk i ls d) : ∀ l ∈ ls, okDay l.1.opn := fun l hl => (h.lots.ok l.1 (List.mem_map.2 ⟨l, hl, rfl⟩)).2.opn
theorem RdB.rdl {n₀ : Nat} {w : World} {A : Option Addr} {ls : List SLot} (h : RdB n₀ w A ls) (hn : n₀ ≤ w.heap.size) : RdL w A (ls.map Subtype.val) := by
 intro hl
 obtain ⟨ad, rfl, h1, h2⟩ := h (fun e => hl (by rw [e]; rfl))
 refine ⟨ad, rfl, by omega, fun j l hj => ?_⟩
 rw [List.getElem?_map] at hj
 obtain ⟨x, hx, rfl⟩ := Option.map_eq_some_iff.1 hj
 exact h2 j x hx
end Go.Proofs.YtdnmpgoigagjmaaGreatDoor
namespace Go.Proofs.YtdnmpgoigagjmaaGreatDoor
open Go.RowKit Tr Go.Shelf
theorem Inst.tiny.small {i : Inst} (h : i.tiny) : i.small := by
 obtain ⟨h1, h2, h3, h4, h5, h6, h7, h8, h9⟩ := h
 exact ⟨by omega, by omega, by omega, by omega, by omega, by omega, by omega, by omega, by omega⟩
theorem rGreat19_nil (w : World) : Calls Tryz.prog 35 #[.slice none 0 0] w fun e w' => e = .returned (.bool false) ∧ w = w' := by
 go_enter Tryz.func35, Tryz.ntmps35
 go_wp2_with fail
 refine wp_loop_rounds 1 ?_
 rw [rounds_succ]
 go_wp2_with fail
 go_ret
 exact ⟨rfl, rfl⟩
theorem rCheckAll19_nil (w : World) : Calls Tryz.prog 53 #[.slice none 0 0] w fun e w' => e = .returned (.int .i64 0) ∧ w = w' := by
 go_enter Tryz.func53, Tryz.ntmps53
 go_wp2_with fail
 refine wp_loop_rounds 1 ?_
 rw [rounds_succ]
 go_wp2_with fail
 go_ret
 exact ⟨rfl, rfl⟩
def FinePost (w : World) (P : Prop) (e : Ending) (w' : World) : Prop := ∃ g : Bool, e = .returned (.bool g) ∧ (g = true → P) ∧ Below w.heap.size w w'
end Go.Proofs.YtdnmpgoigagjmaaGreatDoor
namespace Go.Proofs.YtdnmpgoigagjmaaGreatDoor
open Go.RowKit Tr Go.Shelf
theorem RdL.drewN {w : World} {A : Option Addr} {ls : List Lot} (h : RdL w A ls) (n : Nat) : RdL (w.drewN n) A ls := h.below (below_drewN (Below.refl _ _) n)
theorem take_snoc {α : Type} {ls : List α} {k : Nat} {l : α} (h : ls[k]? = some l) : ls.take (k + 1) = ls.take k ++ [l] := by
 obtain ⟨hlt, he⟩ := List.getElem?_eq_some_iff.1 h
 rw [List.take_succ_eq_append_getElem hlt, he]
set_option maxHeartbeats 4000000 in
set_option maxRecDepth 100000 in
theorem rGreat19_any (A : Option Addr) (ls : List Lot) (c : Nat) (hlm : ls.length ≤ 9223372036854775807) (w : World) (hR : RdL w A ls) :
 Calls Tryz.prog 35 #[.slice A ls.length c] w (GreatPost w ((ls.length ≤ 12 ∨ 999 ≤ ls.length) ∧ ∀ l ∈ ls, l.tiny)) := by
 have HR := Lib.hid hR
 clear hR
 by_cases h1 : 12 < ls.length ∧ ls.length < 999
 ·have t1 : decide ((12 : Int) < (ls.length : Int)) = true := decide_eq_true (by omega)
  have t2 : decide ((ls.length : Int) < 999) = true := decide_eq_true (by omega)
  clear h1
  go_enter Tryz.func35, Tryz.ntmps35
  go_wp2_with fail
  go_ret
  exact ⟨true, rfl, fun h => (by cases h), Below.refl _ _⟩
 by_cases h2 : 1002 < ls.length
 ·have t1 : decide ((12 : Int) < (ls.length : Int)) = true := decide_eq_true (by omega)
  have t2 : decide ((ls.length : Int) < 999) = false := decide_eq_false (by omega)
  have t3 : decide ((1002 : Int) < (ls.length : Int)) = true := decide_eq_true (by omega)
  clear h1 h2
  go_enter Tryz.func35, Tryz.ntmps35
  go_wp2_with fail
  go_ret
  exact ⟨true, rfl, fun h => (by cases h), Below.refl _ _⟩
 have H1 := Lib.hid (show (ls.length ≤ 12 ∨ 999 ≤ ls.length) by omega)
 have t3 : decide ((1002 : Int) < (ls.length : Int)) = false := decide_eq_false (by omega)
 have hlz : ls.length ≤ 1002 := by omega
 rcases Classical.em (12 < ls.length) with h3 | h3
 ·have t1 : decide ((12 : Int) < (ls.length : Int)) = true := decide_eq_true (by omega)
  have t2 : decide ((ls.length : Int) < 999) = false := decide_eq_false (by omega)
  clear h1 h2 hlm h3
  go_enter Tryz.func35, Tryz.ntmps35
  go_wp2_with fail
  go_loopw [3] (fun v wr => ∃ k : Nat, v = .int .i64 (k : Int) ∧ k ≤ ls.length ∧ (∀ l ∈ ls.take k, l.tiny) ∧ Below w.heap.size w wr) (fun v _ => ls.length - (intOf v).toNat)
  case atStart => exact ⟨0, rfl, by omega, fun l hl => by simp at hl, Below.refl _ _⟩
  case round =>
   obtain ⟨k, rfl, hk, hti, hb⟩ := hrel
   have HTI := Lib.hid hti
   have HB := Lib.hid hb
   clear hti hb
   rcases Nat.lt_or_ge k ls.length with hlt | hge
   ·obtain ⟨l, hl⟩ : ∃ l, ls[k]? = some l := ⟨_, List.getElem?_eq_getElem hlt⟩
    obtain ⟨ad, rfl, had, hcell⟩ := HR.out (by intro e; rw [e] at hlt; cases hlt)
    have hcx : decide ((k : Int) < (ls.length : Int)) = true := by simp; omega
    obtain ⟨c0, c1, c2, c3, c4, c5, c6⟩ := (hcell k l hl).below HB.out (by rw [add_block]; exact had)
    have HSN := Lib.hid (take_snoc hl)
    clear hcell hl
    go_wp2_with fail
    refine (rGreatOne_any l _).mono ?_
    rintro e w1 ⟨g, rfl, hg, b1⟩
    have HB1 := Lib.hid (HB.out.trans (b1.mono HB.out.size))
    clear b1 c0 c1 c2 c3 c4 c5 c6
    cases g
    ·have HG := Lib.hid (hg rfl)
     clear hg
     go_wp2_with fail
     go_roundw
     case rel =>
      refine ⟨k + 1, by go_num, by omega, fun x hx => ?_, HB1.out⟩
      rw [HSN.out, List.mem_append] at hx
      rcases hx with hx | hx
      ·exact HTI.out x hx
      ·rw [List.mem_singleton] at hx; subst hx; exact HG.out
     case measure => simp [intOf]; omega
    ·go_wp2_with fail
     go_ret
     exact ⟨true, rfl, fun h => (by cases h), HB1.out⟩
   ·have hcx : decide ((k : Int) < (ls.length : Int)) = false := by simp; omega
    go_wp2_with fail
    go_ret
    refine ⟨false, rfl, fun _ => ⟨H1.out, fun l hl => HTI.out l ?_⟩, HB.out⟩
    rw [List.take_of_length_le (by omega)]
    exact hl
 ·have t1 : decide ((12 : Int) < (ls.length : Int)) = false := decide_eq_false (by omega)
  clear h1 h2 hlm h3
  go_enter Tryz.func35, Tryz.ntmps35
  go_wp2_with fail
  go_loopw [3] (fun v wr => ∃ k : Nat, v = .int .i64 (k : Int) ∧ k ≤ ls.length ∧ (∀ l ∈ ls.take k, l.tiny) ∧ Below w.heap.size w wr) (fun v _ => ls.length - (intOf v).toNat)
  case atStart => exact ⟨0, rfl, by omega, fun l hl => by simp at hl, Below.refl _ _⟩
  case round =>
   obtain ⟨k, rfl, hk, hti, hb⟩ := hrel
   have HTI := Lib.hid hti
   have HB := Lib.hid hb
   clear hti hb
   rcases Nat.lt_or_ge k ls.length with hlt | hge
   ·obtain ⟨l, hl⟩ : ∃ l, ls[k]? = some l := ⟨_, List.getElem?_eq_getElem hlt⟩
    obtain ⟨ad, rfl, had, hcell⟩ := HR.out (by intro e; rw [e] at hlt; cases hlt)
    have hcx : decide ((k : Int) < (ls.length : Int)) = true := by simp; omega
    obtain ⟨c0, c1, c2, c3, c4, c5, c6⟩ := (hcell k l hl).below HB.out (by rw [add_block]; exact had)
    have HSN := Lib.hid (take_snoc hl)
    clear hcell hl
    go_wp2_with fail
    refine (rGreatOne_any l _).mono ?_
    rintro e w1 ⟨g, rfl, hg, b1⟩
    have HB1 := Lib.hid (HB.out.trans (b1.mono HB.out.size))
    clear b1 c0 c1 c2 c3 c4 c5 c6
    cases g
    ·have HG := Lib.hid (hg rfl)
     clear hg
     go_wp2_with fail
     go_roundw
     case rel =>
      refine ⟨k + 1, by go_num, by omega, fun x hx => ?_, HB1.out⟩
      rw [HSN.out, List.mem_append] at hx
      rcases hx with hx | hx
      ·exact HTI.out x hx
      ·rw [List.mem_singleton] at hx; subst hx; exact HG.out
     case measure => simp [intOf]; omega
    ·go_wp2_with fail
     go_ret
     exact ⟨true, rfl, fun h => (by cases h), HB1.out⟩
   ·have hcx : decide ((k : Int) < (ls.length : Int)) = false := by simp; omega
    go_wp2_with fail
    go_ret
    refine ⟨false, rfl, fun _ => ⟨H1.out, fun l hl => HTI.out l ?_⟩, HB.out⟩
    rw [List.take_of_length_le (by omega)]
    exact hl
set_option maxHeartbeats 4000000 in
set_option maxRecDepth 100000 in
theorem rCheckAll19_any (A : Option Addr) (ls : List Lot) (c : Nat) (hcap : ls.length ≤ c) (hl12 : ls.length ≤ 12) (hti : ∀ l ∈ ls, l.tiny) (w : World) (hR : RdL w A ls) :
 Calls Tryz.prog 53 #[.slice A ls.length c] w (ZeroPost w (LotsOk ls)) := by
 have HR := Lib.hid hR
 have HTI := Lib.hid hti
 clear hR hti
 have t0 : decide ((1000 : Int) < (ls.length : Int)) = false := decide_eq_false (by omega)
 go_enter Tryz.func53, Tryz.ntmps53
 go_wp2_with fail
 go_loopw [3, 4, 5, 6, 24] (fun v _ _ _ _ wr => ∃ k : Nat, v = .int .i64 (k : Int) ∧ k ≤ ls.length ∧ (∀ l ∈ ls.take k, l.ok) ∧ ((ls.take k).map Lot.id).Nodup ∧ Below w.heap.size w wr) (fun v _ _ _ _ _ => ls.length - (intOf v).toNat)
 case atStart => exact ⟨0, rfl, by omega, fun l hl => by simp at hl, by simp, Below.refl _ _⟩
 case round =>
  obtain ⟨k, rfl, hk, hok, hnd, hb⟩ := hrel
  have HOK := Lib.hid hok
  have HND := Lib.hid hnd
  have HB := Lib.hid hb
  clear hok hnd hb
  rcases Nat.lt_or_ge k ls.length with hlt | hge
  ·obtain ⟨l, hl⟩ : ∃ l, ls[k]? = some l := ⟨_, List.getElem?_eq_getElem hlt⟩
   have HR2 := Lib.hid HR.out
   obtain ⟨ad, rfl, had, hcell⟩ := HR.out (by intro e; rw [e] at hlt; cases hlt)
   have hcx : decide ((k : Int) < (ls.length : Int)) = true := by simp; omega
   have HCE := Lib.hid (hcell k l hl)
   have HAD := Lib.hid had
   obtain ⟨c0, c1, c2, c3, c4, c5, c6⟩ := (hcell k l hl).below HB.out (by rw [add_block]; exact had)
   have HSN := Lib.hid (take_snoc hl)
   have hlt1 := HTI.out l (List.mem_of_getElem? hl)
   have HC := Lib.hid (fun W => rCheck19_any l hlt1 W)
   clear hcell hl hlt1 had
   go_wp2_with fail
   refine (HC.out _).mono ?_
   rintro e w1 ⟨n, rfl, hn, b1⟩
   have HB1 := Lib.hid (HB.out.trans (b1.mono HB.out.size))
   clear b1 c0 c1 c2 c3 c4 c5 c6
   by_cases h0 : n = 0
   case neg =>
    have t1 : (n == 0) = false := beq_eq_false_iff_ne.2 h0
    have t2 : (n != 0) = true := by simp [bne, t1]
    have H0 := Lib.hid h0
    clear h0 hn
    go_wp2_with fail
    go_ret
    exact ⟨n, rfl, fun h => absurd h H0.out, HB1.out⟩
   have HG := Lib.hid (hn h0)
   clear hn
   subst h0
   obtain ⟨c0, c1, c2, c3, c4, c5, c6⟩ := HCE.out.below HB1.out (by rw [add_block]; exact HAD.out)
   have HF := Lib.hid (fun n => q_same (rFind_any (some ad) ls k c (by omega) (by omega) l.id (w1.drewN n) ((HR2.out.below HB1.out).drewN n)))
   have HFF := Lib.hid (findR_false (ls.take k) l.id 0)
   clear HC
   go_wp2_with fail
   generalize findR (ls.take k) l.id 0 = fr at HF HFF
   obtain ⟨fn, fb⟩ := fr
   go_quiet ((go_at_call 48; exact HF.out _))
   cases fb
   ·have HNE := Lib.hid (HFF.out rfl)
    go_wp2_with fail
    go_roundw
    case rel =>
     refine ⟨k + 1, by go_num, by omega, ?_, ?_, below_drewN HB1.out _⟩
     ·intro x hx
      rw [HSN.out, List.mem_append] at hx
      rcases hx with hx | hx
      ·exact HOK.out x hx
      ·rw [List.mem_singleton] at hx; subst hx; exact HG.out
     ·rw [HSN.out, List.map_append, List.map_cons, List.map_nil]
      refine List.nodup_append.2 ⟨HND.out, by simp, ?_⟩
      intro a ha b hb
      obtain ⟨x, hx, rfl⟩ := List.mem_map.1 ha
      rw [List.mem_singleton] at hb
      subst hb
      exact HNE.out x hx
    case measure => simp [intOf]; omega
   ·go_wp2_with fail
    go_ret
    exact ⟨5, rfl, fun h => (by cases h), below_drewN HB1.out _⟩
  ·have hcx : decide ((k : Int) < (ls.length : Int)) = false := by simp; omega
   have hkm : k = ls.length := by omega
   subst hkm
   go_wp2_with fail
   go_ret
   refine ⟨0, rfl, fun _ => ?_, HB.out⟩
   have h1 := HOK.out
   have h2 := HND.out
   rw [List.take_of_length_le (Nat.le_refl _)] at h1 h2
   exact ⟨by omega, fun l hl => ⟨(HTI.out l hl).sized, h1 l hl⟩, h2⟩
end Go.Proofs.YtdnmpgoigagjmaaGreatDoor
