/-
  The walks of trancheref06.Check, trancheref10.Name, Code. (Printed by gen_ref9.py.)
  The walks of trancheref10.Digits, Number (short numbers).
-/
import Derived.Test.YtpgjmdggblnfkaaGreatDoorE15
import Derived.Test.YtpgjmdggblnfkaaGreatDoorE24
import Derived.Test.YtpgjmdggblnfkaaGreatDoorE23
set_option linter.unusedVariables false
set_option linter.unusedSimpArgs false
namespace Go.Proofs.YtpgjmdggblnfkaaGreatDoor
open Go.RowKit Tr

theorem rday_yes (d : Int) (h : okDay d) (w : World) : Calls Tryz.prog 77 #[.int .i64 d] w fun e w' => e = .returned (.int .i64 0) ∧ w = w' := by
  unfold okDay at h
  have c1 : decide (d < -25567) = false := decide_eq_false (by omega)
  have c2 : decide (84005 < d) = false := decide_eq_false (by omega)
  go_enter Tryz.func77, Tryz.ntmps77
  go_wp2_with fail
  all_goals first | (exfalso; omega) | (go_ret; exact ⟨rfl, rfl⟩)
theorem rday_no (d : Int) (h : ¬ okDay d) (w : World) : Calls Tryz.prog 77 #[.int .i64 d] w fun e w' => e = .returned (.int .i64 13) ∧ w = w' := by
  unfold okDay at h
  by_cases h1 : d < -25567
  · have c1 : decide (d < -25567) = true := decide_eq_true h1
    clear h
    go_enter Tryz.func77, Tryz.ntmps77
    go_wp2_with fail
    all_goals first | (exfalso; omega) | (go_ret; exact ⟨rfl, rfl⟩)
  · have c1 : decide (d < -25567) = false := decide_eq_false h1
    have c2 : decide (84005 < d) = true := decide_eq_true (by omega)
    clear h
    go_enter Tryz.func77, Tryz.ntmps77
    go_wp2_with fail
    all_goals first | (exfalso; omega) | (go_ret; exact ⟨rfl, rfl⟩)

set_option maxHeartbeats 4000000 in
set_option maxRecDepth 100000 in
theorem rName_any (s : ByteArray) (hs : s.size ≤ 1000000) (w : World) :
    Calls Tryz.prog 75 #[.string s] w fun e w' => e = .returned (.bool (nameOk s)) ∧ w = w' := by
  go_enter Tryz.func75, Tryz.ntmps75
  go_wp2_with fail
  go_loop [3] (fun v => ∃ j : Nat, v = .int .i64 (j : Int) ∧ j ≤ s.size ∧ (s.data.toList.take j).all nameB = true) (fun v => s.size - (intOf v).toNat)
  case atStart => exact ⟨0, rfl, by omega, rfl⟩
  case round =>
    obtain ⟨j, rfl, hj, hall⟩ := hrel
    have HA := Lib.hid hall
    clear hall
    rcases Nat.lt_or_ge j s.size with hlt | hge
    · have hb := (byt s j).toNat_lt
      have hg : s[j].toNat = (byt s j).toNat := by rw [byt_get]
      generalize hbb : (byt s j).toNat = bb at hb hg
      have HCB := Lib.hid hbb
      clear hbb
      rcases (show (97 ≤ bb ∧ bb ≤ 122) ∨ (48 ≤ bb ∧ bb ≤ 57) ∨ (bb < 48) ∨ (bb = 95) ∨ (57 < bb ∧ bb < 97 ∧ bb ≠ 95) ∨ (122 < bb) from by omega) with a1 | a1 | a1 | a1 | a1 | a1
      · have c1 : decide ((bb : Int) < 97) = false := decide_eq_false (by omega)
        have c2 : decide (122 < (bb : Int)) = false := decide_eq_false (by omega)
        have HN : Hid (nameB (byt s j) = true) := by unfold nameB; rw [HCB.out]; simp only [Bool.or_eq_true, Bool.and_eq_true, decide_eq_true_eq, beq_iff_eq]; show _ ∨ _; omega
        clear HCB a1
        go_wp2_with fail
        go_round
        case rel => exact ⟨j + 1, by go_num, by omega, all_take_succ HA.out hlt HN.out⟩
        case measure => simp [intOf]; omega
      · have c1 : decide ((bb : Int) < 97) = true := decide_eq_true (by omega)
        have c3 : decide ((bb : Int) < 48) = false := decide_eq_false (by omega)
        have c4 : decide (57 < (bb : Int)) = false := decide_eq_false (by omega)
        have HN : Hid (nameB (byt s j) = true) := by unfold nameB; rw [HCB.out]; simp only [Bool.or_eq_true, Bool.and_eq_true, decide_eq_true_eq, beq_iff_eq]; show _ ∨ _; omega
        clear HCB a1
        go_wp2_with fail
        go_round
        case rel => exact ⟨j + 1, by go_num, by omega, all_take_succ HA.out hlt HN.out⟩
        case measure => simp [intOf]; omega
      · have c1 : decide ((bb : Int) < 97) = true := decide_eq_true (by omega)
        have c3 : decide ((bb : Int) < 48) = true := decide_eq_true (by omega)
        have c5 : ((bb : Int) == 95) = false := beq_eq_false_iff_ne.2 (by omega)
        have HN : Hid (nameB (byt s j) = false) := by
          unfold nameB
          rw [HCB.out, ← Bool.not_eq_true]
          simp only [Bool.or_eq_true, Bool.and_eq_true, decide_eq_true_eq, beq_iff_eq]
          show ¬ _; omega
        clear HCB a1
        go_wp2_with fail
        go_ret
        refine ⟨?_, rfl⟩
        unfold nameOk
        rw [not_all hlt HN.out, Bool.and_false]; rfl
      · have c1 : decide ((bb : Int) < 97) = true := decide_eq_true (by omega)
        have c3 : decide ((bb : Int) < 48) = false := decide_eq_false (by omega)
        have c4 : decide (57 < (bb : Int)) = true := decide_eq_true (by omega)
        have c5 : ((bb : Int) == 95) = true := beq_iff_eq.2 (by omega)
        have HN : Hid (nameB (byt s j) = true) := by unfold nameB; rw [HCB.out]; simp only [Bool.or_eq_true, Bool.and_eq_true, decide_eq_true_eq, beq_iff_eq]; show _ ∨ _; omega
        clear HCB a1
        go_wp2_with fail
        go_round
        case rel => exact ⟨j + 1, by go_num, by omega, all_take_succ HA.out hlt HN.out⟩
        case measure => simp [intOf]; omega
      · have c1 : decide ((bb : Int) < 97) = true := decide_eq_true (by omega)
        have c3 : decide ((bb : Int) < 48) = false := decide_eq_false (by omega)
        have c4 : decide (57 < (bb : Int)) = true := decide_eq_true (by omega)
        have c5 : ((bb : Int) == 95) = false := beq_eq_false_iff_ne.2 (by omega)
        have HN : Hid (nameB (byt s j) = false) := by
          unfold nameB
          rw [HCB.out, ← Bool.not_eq_true]
          simp only [Bool.or_eq_true, Bool.and_eq_true, decide_eq_true_eq, beq_iff_eq]
          show ¬ _; omega
        clear HCB a1
        go_wp2_with fail
        go_ret
        refine ⟨?_, rfl⟩
        unfold nameOk
        rw [not_all hlt HN.out, Bool.and_false]; rfl
      · have c1 : decide ((bb : Int) < 97) = false := decide_eq_false (by omega)
        have c2 : decide (122 < (bb : Int)) = true := decide_eq_true (by omega)
        have c3 : decide ((bb : Int) < 48) = false := decide_eq_false (by omega)
        have c4 : decide (57 < (bb : Int)) = true := decide_eq_true (by omega)
        have c5 : ((bb : Int) == 95) = false := beq_eq_false_iff_ne.2 (by omega)
        have HN : Hid (nameB (byt s j) = false) := by
          unfold nameB
          rw [HCB.out, ← Bool.not_eq_true]
          simp only [Bool.or_eq_true, Bool.and_eq_true, decide_eq_true_eq, beq_iff_eq]
          show ¬ _; omega
        clear HCB a1
        go_wp2_with fail
        go_ret
        refine ⟨?_, rfl⟩
        unfold nameOk
        rw [not_all hlt HN.out, Bool.and_false]; rfl
    · have hjs : j = s.size := by omega
      subst hjs
      have HALL : Hid (s.data.toList.all nameB = true) := by
        have := HA.out
        rwa [List.take_of_length_le (by rw [← Lib.size_eq]; exact Nat.le_refl _)] at this
      clear HA hge
      rcases (show s.size = 0 ∨ (1 ≤ s.size ∧ s.size ≤ 16) ∨ 16 < s.size from by omega) with a1 | a1 | a1
      · have HR : Hid (nameOk s = false) := by unfold nameOk; rw [decide_eq_false (by omega)]; rfl
        go_wp2_with fail
        all_goals first | (exfalso; omega) | (go_ret; exact ⟨by rw [HR.out]; first | rfl | (rw [← a2]; rfl), rfl⟩)
      · have HR : Hid (nameOk s = true) := by unfold nameOk; rw [HALL.out, decide_eq_true (by omega), decide_eq_true (by omega)]; rfl
        have a2 : decide ((s.size : Int) ≤ 16) = true := decide_eq_true (by omega)
        go_wp2_with fail
        all_goals first | (exfalso; omega) | (go_ret; exact ⟨by rw [HR.out]; first | rfl | (rw [← a2]; rfl), rfl⟩)
      · have HR : Hid (nameOk s = false) := by unfold nameOk; rw [decide_eq_false (p := s.size ≤ 16) (by omega), Bool.and_false]; rfl
        have a2 : decide ((s.size : Int) ≤ 16) = false := decide_eq_false (by omega)
        go_wp2_with fail
        all_goals first | (exfalso; omega) | (go_ret; exact ⟨by rw [HR.out]; first | rfl | (rw [← a2]; rfl), rfl⟩)

set_option maxHeartbeats 4000000 in
set_option maxRecDepth 100000 in
theorem rCode_any (s : ByteArray) (hs : s.size ≤ 1000000) (w : World) :
    Calls Tryz.prog 76 #[.string s] w fun e w' => e = .returned (.bool (codeOk s)) ∧ w = w' := by
  go_enter Tryz.func76, Tryz.ntmps76
  go_wp2_with fail
  go_loop [3] (fun v => ∃ j : Nat, v = .int .i64 (j : Int) ∧ j ≤ s.size ∧ (s.data.toList.take j).all codeB = true) (fun v => s.size - (intOf v).toNat)
  case atStart => exact ⟨0, rfl, by omega, rfl⟩
  case round =>
    obtain ⟨j, rfl, hj, hall⟩ := hrel
    have HA := Lib.hid hall
    clear hall
    rcases Nat.lt_or_ge j s.size with hlt | hge
    · have hb := (byt s j).toNat_lt
      have hg : s[j].toNat = (byt s j).toNat := by rw [byt_get]
      generalize hbb : (byt s j).toNat = bb at hb hg
      have HCB := Lib.hid hbb
      clear hbb
      rcases (show (65 ≤ bb ∧ bb ≤ 90) ∨ (bb < 65) ∨ (90 < bb) from by omega) with a1 | a1 | a1
      · have c1 : decide ((bb : Int) < 65) = false := decide_eq_false (by omega)
        have c2 : decide (90 < (bb : Int)) = false := decide_eq_false (by omega)
        have HN : Hid (codeB (byt s j) = true) := by unfold codeB; rw [HCB.out]; simp only [Bool.or_eq_true, Bool.and_eq_true, decide_eq_true_eq, beq_iff_eq]; show _ ∧ _; omega
        clear HCB a1
        go_wp2_with fail
        go_round
        case rel => exact ⟨j + 1, by go_num, by omega, all_take_succ HA.out hlt HN.out⟩
        case measure => simp [intOf]; omega
      · have c1 : decide ((bb : Int) < 65) = true := decide_eq_true (by omega)
        have HN : Hid (codeB (byt s j) = false) := by
          unfold codeB
          rw [HCB.out, ← Bool.not_eq_true]
          simp only [Bool.or_eq_true, Bool.and_eq_true, decide_eq_true_eq, beq_iff_eq]
          show ¬ _; omega
        clear HCB a1
        go_wp2_with fail
        go_ret
        refine ⟨?_, rfl⟩
        unfold codeOk
        rw [not_all hlt HN.out, Bool.and_false]; rfl
      · have c1 : decide ((bb : Int) < 65) = false := decide_eq_false (by omega)
        have c2 : decide (90 < (bb : Int)) = true := decide_eq_true (by omega)
        have HN : Hid (codeB (byt s j) = false) := by
          unfold codeB
          rw [HCB.out, ← Bool.not_eq_true]
          simp only [Bool.or_eq_true, Bool.and_eq_true, decide_eq_true_eq, beq_iff_eq]
          show ¬ _; omega
        clear HCB a1
        go_wp2_with fail
        go_ret
        refine ⟨?_, rfl⟩
        unfold codeOk
        rw [not_all hlt HN.out, Bool.and_false]; rfl
    · have hjs : j = s.size := by omega
      subst hjs
      have HALL : Hid (s.data.toList.all codeB = true) := by
        have := HA.out
        rwa [List.take_of_length_le (by rw [← Lib.size_eq]; exact Nat.le_refl _)] at this
      clear HA hge
      by_cases a1 : s.size = 3
      · have HR : Hid (codeOk s = true) := by unfold codeOk; rw [HALL.out, decide_eq_true a1]; rfl
        have a2 : ((s.size : Int) == 3) = true := beq_iff_eq.2 (by omega)
        go_wp2_with fail
        all_goals first | (exfalso; omega) | (go_ret; exact ⟨by rw [HR.out]; first | rfl | (rw [← a2]; rfl), rfl⟩)
      · have HR : Hid (codeOk s = false) := by unfold codeOk; rw [decide_eq_false a1]; rfl
        have a2 : ((s.size : Int) == 3) = false := beq_eq_false_iff_ne.2 (by omega)
        go_wp2_with fail
        all_goals first | (exfalso; omega) | (go_ret; exact ⟨by rw [HR.out]; first | rfl | (rw [← a2]; rfl), rfl⟩)
end Go.Proofs.YtpgjmdggblnfkaaGreatDoor
namespace Go.Proofs.YtpgjmdggblnfkaaGreatDoor
open Go.RowKit Tr

theorem rDigits_any (a : ByteArray) (ha : a.size ≤ 1000000) (w : World) :
    Calls Tryz.prog 135 #[.string a] w fun e w' => e = .returned (.int .i64 (ndig a : Nat)) ∧ w = w' := by
  rcases Nat.eq_zero_or_pos a.size with h0 | h0
  · have HR : Hid (ndig a = a.size) := by unfold ndig; rw [if_neg (by omega)]; trivial
    have c1 : decide ((0 : Int) < (a.size : Int)) = false := decide_eq_false (by omega)
    go_enter Tryz.func135, Tryz.ntmps135
    go_wp2_with fail
    all_goals first | (exfalso; omega) | (go_ret; exact ⟨by rw [HR.out, h0]; rfl, rfl⟩)
  · have c1 : decide ((0 : Int) < (a.size : Int)) = true := decide_eq_true (by omega)
    by_cases hm : byt a 0 = 45
    · have HR : Hid ((ndig a : Int) = (a.size : Int) - 1) := by unfold ndig; rw [if_pos ⟨hm, by omega⟩]; show _ = _; omega
      have h3 : ((a[0].toNat : Int) == 45) = true := by rw [byt_get, hm]; rfl
      clear hm
      go_enter Tryz.func135, Tryz.ntmps135
      go_wp2_with fail
      all_goals first | (exfalso; omega) | (go_ret; exact ⟨by rw [HR.out]; rfl, rfl⟩)
    · have HR : Hid (ndig a = a.size) := by unfold ndig; rw [if_neg (fun h => hm h.1)]; trivial
      have h3 : ((a[0].toNat : Int) == 45) = false := by
        rw [byt_get, beq_eq_false_iff_ne]; intro e
        exact hm (UInt8.toNat.inj (by simpa using (show (byt a 0).toNat = 45 from by omega)))
      clear hm
      go_enter Tryz.func135, Tryz.ntmps135
      go_wp2_with fail
      all_goals first | (exfalso; omega) | (go_ret; exact ⟨by rw [HR.out]; rfl, rfl⟩)
theorem ndig_le (a : ByteArray) : ndig a ≤ a.size := by unfold ndig; split <;> omega

set_option maxHeartbeats 2000000 in
theorem rNumber_yes (n d : ByteArray) (ha : n.size ≤ 16) (hb : d.size ≤ 16) (hc : CanQ n d) (w : World) :
    Calls Tryz.prog 78 #[.agg #[.string n, .string d]] w fun e w' => e = .returned (.int .i64 0) ∧ Below w.heap.size w w' := by
  have HB := Lib.hid ((Below.refl _ w).alloc (Nat.le_refl _) (Obj.cells #[.string n, .string d] 25))
  obtain ⟨W0, hW0⟩ : ∃ W0, w.alloc (Obj.cells #[.string n, .string d] 25) = W0 := ⟨_, rfl⟩
  have hk : W0.heap[w.heap.size]? = some (Obj.cells #[.string n, .string d] 25) := by rw [← hW0]; exact heap_alloc_new w _
  rw [hW0] at HB
  have b0 := Lib.cell_of_heap hk 0
  have b1 := Lib.cell_of_heap hk 1
  simp at b0 b1
  have HM := Lib.hid (fun W => rfCheck_yes n d ha hb hc W)
  have HD1 := Lib.hid (rDigits_any n (by omega))
  have HD2 := Lib.hid (rDigits_any d (by omega))
  have l1 := ndig_le n
  have l2 := ndig_le d
  have c3 : decide ((40 : Int) < (ndig n : Int)) = false := decide_eq_false (by omega)
  have c4 : decide ((40 : Int) < (ndig d : Int)) = false := decide_eq_false (by omega)
  clear hk ha hb hc l1 l2
  go_enter Tryz.func78, Tryz.ntmps78
  go_wp2_with fail
  try rw [hW0]
  refine (HM.out _).mono ?_
  rintro e w1 ⟨rfl, hb1⟩
  have d0 : w1.cell? ⟨w.heap.size, 0, none⟩ = some (.string n) := (hb1.cell (cell_lt b0)).trans b0
  have d1 : w1.cell? ⟨w.heap.size, 1, none⟩ = some (.string d) := (hb1.cell (cell_lt b1)).trans b1
  have HB1 := Lib.hid (HB.out.trans (hb1.mono HB.out.size))
  clear hb1 b0 b1
  go_wp2_with fail
  refine (HD1.out _).mono ?_
  rintro e w2 ⟨rfl, rfl⟩
  go_wp2_with fail
  all_goals (refine (HD2.out _).mono ?_; rintro e w2 ⟨rfl, rfl⟩; go_wp2_with fail)
  all_goals first | (exfalso; omega) | (go_ret; exact ⟨rfl, HB1.out⟩)

set_option maxHeartbeats 2000000 in
theorem rNumber_no (n d : ByteArray) (ha : n.size ≤ 16) (hb : d.size ≤ 16) (hc : ¬ CanQ n d) (w : World) :
    Calls Tryz.prog 78 #[.agg #[.string n, .string d]] w fun e w' => e = .returned (.int .i64 1) ∧ Below w.heap.size w w' := by
  have HB := Lib.hid ((Below.refl _ w).alloc (Nat.le_refl _) (Obj.cells #[.string n, .string d] 25))
  obtain ⟨W0, hW0⟩ : ∃ W0, w.alloc (Obj.cells #[.string n, .string d] 25) = W0 := ⟨_, rfl⟩
  have hk : W0.heap[w.heap.size]? = some (Obj.cells #[.string n, .string d] 25) := by rw [← hW0]; exact heap_alloc_new w _
  rw [hW0] at HB
  have b0 := Lib.cell_of_heap hk 0
  have b1 := Lib.cell_of_heap hk 1
  simp at b0 b1
  have HM := Lib.hid (fun W => rfCheck_no n d ha hb hc W)
  clear hk ha hb hc
  go_enter Tryz.func78, Tryz.ntmps78
  go_wp2_with fail
  try rw [hW0]
  refine (HM.out _).mono ?_
  rintro e w1 ⟨rfl, hb1⟩
  have HB1 := Lib.hid (HB.out.trans (hb1.mono HB.out.size))
  clear hb1 b0 b1
  go_wp2_with fail
  go_ret
  exact ⟨rfl, HB1.out⟩
end Go.Proofs.YtpgjmdggblnfkaaGreatDoor
