/-
  The walks of instrument.Name and instrument.isCode.
  The walks of instrument.isCode, valid, digits, sign, number.
  The walks of instrument.number, plain, bond, forward, rules.
  The walks of instrument.plain. (Printed by gen_ins4.py.)
  The walks of instrument.bond and forward, on what is valid. (Printed by gen_ins5.py.)
  The walk of instrument.rules.
  The walks of trancheref10.Digits, Number (short numbers).
  The cells of an instrument in memory.
-/
import Derived.Test.YtbkmhmaldljgmaaGreatDoorC13
import Derived.Lib.ConvBytes
import Derived.Lib.AtoiErrMem
import Derived.Laws.EntriesVeiled
import Derived.Test.YtbkmhmaldljgmaaGreatDoorC04
import Derived.Deep.DeepCutAuto
import Derived.BigQuiet
import Derived.Test.YtbkmhmaldljgmaaGreatDoorC12
import Derived.Deep.QuietTactic
import Derived.Deep.RegionHeld3
set_option linter.unusedVariables false
set_option linter.unusedSimpArgs false
set_option maxHeartbeats 16000000
set_option maxRecDepth 100000
namespace Go.Proofs.YtbkmhmaldljgmaaGreatDoor
open Go.RowKit Tr Go.Shelf
def nameB (c : UInt8) : Bool := (decide (97 ≤ c.toNat) && decide (c.toNat ≤ 122)) || (decide (48 ≤ c.toNat) && decide (c.toNat ≤ 57)) || c.toNat == 95
def codeB (c : UInt8) : Bool := decide (65 ≤ c.toNat) && decide (c.toNat ≤ 90)
def nameOk (s : ByteArray) : Bool := decide (1 ≤ s.size) && decide (s.size ≤ 16) && s.data.toList.all nameB
def codeOk (s : ByteArray) : Bool := decide (s.size = 3) && s.data.toList.all codeB
theorem Name_any (s : ByteArray) (hs : s.size ≤ 1000000) (w : World) :
 Calls Tryz.prog 34 #[.string s] w fun e w' => e = .returned (.bool (nameOk s)) ∧ Below w.heap.size w w' := by
 by_cases h1 : s.size = 0
 ·have e1 : ((s.size : Int) == 0) = true := beq_iff_eq.2 (by omega)
  have hr : nameOk s = false := by unfold nameOk; rw [decide_eq_false (p := 1 ≤ s.size) (by omega)]; rfl
  go_enter Tryz.func34, Tryz.ntmps34
  go_wp2_with fail
  go_ret
  exact ⟨by rw [hr]; rfl, Below.refl _ _⟩
 have e1 : ((s.size : Int) == 0) = false := beq_eq_false_iff_ne.2 (by omega)
 by_cases h2 : 16 < s.size
 ·have e2 : decide (16 < (s.size : Int)) = true := by simp; omega
  have hr : nameOk s = false := by unfold nameOk; rw [decide_eq_false (p := s.size ≤ 16) (by omega), Bool.and_false]; rfl
  go_enter Tryz.func34, Tryz.ntmps34
  go_wp2_with fail
  go_ret
  exact ⟨by rw [hr]; rfl, Below.refl _ _⟩
 have e2 : decide (16 < (s.size : Int)) = false := by simp; omega
 have hcv := Lib.run_convert_string_bytes (P := Tryz.prog) w 9 111 5 s (u := .string) Tryz.underlying9 Tryz.underlying111 Tryz.underlying5
 have hB1 := Lib.bytesWorld_below w 5 s
 have hcell : ∀ j, j < s.size → (Lib.bytesWorld w 5 s).cell? ⟨w.heap.size, j, none⟩ = some (.int .u8 ((byt s j).toNat : Int)) := fun j hj => Lib.bytesWorld_cell w 5 s j hj
 generalize Lib.bytesWorld w 5 s = W1 at hcv hB1 hcell
 generalize grownCap w s.size 0 5 = cp at hcv
 have HCELL := Lib.hid hcell
 have HB1 := Lib.hid hB1
 clear hcell hB1
 go_enter Tryz.func34, Tryz.ntmps34
 go_wp2_with fail
 go_loopw [16] (fun v wr => ∃ j : Nat, v = .int .i64 (j : Int) ∧ j ≤ s.size ∧ (s.data.toList.take j).all nameB = true ∧ wr = W1) (fun v _ => s.size - (intOf v).toNat)
 case atStart => exact ⟨0, rfl, by omega, rfl, rfl⟩
 case round =>
  obtain ⟨j, rfl, hj, hall, rfl⟩ := hrel
  have HA := Lib.hid hall
  clear hall
  rcases Nat.lt_or_ge j s.size with hlt | hge
  ·have hc : decide ((j : Int) < (s.size : Int)) = true := by simp; omega
   have hcj := HCELL.out j hlt
   have hb := (byt s j).toNat_lt
   generalize hcb : ((byt s j).toNat) = bb at hb hcj
   have HCB := Lib.hid hcb
   rcases (show (97 ≤ bb ∧ bb ≤ 122) ∨ (48 ≤ bb ∧ bb ≤ 57) ∨ bb < 48 ∨ bb = 95 ∨ (57 < bb ∧ bb < 97 ∧ bb ≠ 95) ∨ 122 < bb from by omega) with a1 | a1 | a1 | a1 | a1 | a1
   ·have c1 : decide ((bb : Int) < 97) = false := decide_eq_false (by omega)
    have c2 : decide (122 < (bb : Int)) = false := decide_eq_false (by omega)
    have HN : Hid (nameB (byt s j) = true) := by unfold nameB; rw [HCB.out]; simp only [Bool.or_eq_true, Bool.and_eq_true, decide_eq_true_eq, beq_iff_eq]; show _ ∨ _; omega
    clear hcb HCB a1
    go_wp2_with fail
    refine ⟨⟨j + 1, by simp, by omega, all_take_succ HA.out hlt HN.out, by trivial⟩, by simp [intOf]; omega⟩
   ·have c1 : decide ((bb : Int) < 97) = true := decide_eq_true (by omega)
    have c3 : decide ((bb : Int) < 48) = false := decide_eq_false (by omega)
    have c4 : decide (57 < (bb : Int)) = false := decide_eq_false (by omega)
    have HN : Hid (nameB (byt s j) = true) := by unfold nameB; rw [HCB.out]; simp only [Bool.or_eq_true, Bool.and_eq_true, decide_eq_true_eq, beq_iff_eq]; show _ ∨ _; omega
    clear hcb HCB a1
    go_wp2_with fail
    refine ⟨⟨j + 1, by simp, by omega, all_take_succ HA.out hlt HN.out, by trivial⟩, by simp [intOf]; omega⟩
   ·have c1 : decide ((bb : Int) < 97) = true := decide_eq_true (by omega)
    have c3 : decide ((bb : Int) < 48) = true := decide_eq_true (by omega)
    have c5 : ((bb : Int) == 95) = false := beq_eq_false_iff_ne.2 (by omega)
    have HN : Hid (nameB (byt s j) = false) := by
     unfold nameB
     rw [HCB.out, ← Bool.not_eq_true]
     simp only [Bool.or_eq_true, Bool.and_eq_true, decide_eq_true_eq, beq_iff_eq]
     show ¬ _; omega
    clear hcb HCB a1
    go_wp2_with fail
    go_ret
    refine ⟨?_, HB1.out⟩
    unfold nameOk
    rw [not_all hlt HN.out, Bool.and_false]; rfl
   ·have c1 : decide ((bb : Int) < 97) = true := decide_eq_true (by omega)
    have c3 : decide ((bb : Int) < 48) = false := decide_eq_false (by omega)
    have c4 : decide (57 < (bb : Int)) = true := decide_eq_true (by omega)
    have c5 : ((bb : Int) == 95) = true := beq_iff_eq.2 (by omega)
    have HN : Hid (nameB (byt s j) = true) := by unfold nameB; rw [HCB.out]; simp only [Bool.or_eq_true, Bool.and_eq_true, decide_eq_true_eq, beq_iff_eq]; show _ ∨ _; omega
    clear hcb HCB a1
    go_wp2_with fail
    refine ⟨⟨j + 1, by simp, by omega, all_take_succ HA.out hlt HN.out, by trivial⟩, by simp [intOf]; omega⟩
   ·have c1 : decide ((bb : Int) < 97) = true := decide_eq_true (by omega)
    have c3 : decide ((bb : Int) < 48) = false := decide_eq_false (by omega)
    have c4 : decide (57 < (bb : Int)) = true := decide_eq_true (by omega)
    have c5 : ((bb : Int) == 95) = false := beq_eq_false_iff_ne.2 (by omega)
    have HN : Hid (nameB (byt s j) = false) := by
     unfold nameB
     rw [HCB.out, ← Bool.not_eq_true]
     simp only [Bool.or_eq_true, Bool.and_eq_true, decide_eq_true_eq, beq_iff_eq]
     show ¬ _; omega
    clear hcb HCB a1
    go_wp2_with fail
    go_ret
    refine ⟨?_, HB1.out⟩
    unfold nameOk
    rw [not_all hlt HN.out, Bool.and_false]; rfl
   ·have c1 : decide ((bb : Int) < 97) = false := decide_eq_false (by omega)
    have c2 : decide (122 < (bb : Int)) = true := decide_eq_true (by omega)
    have c3 : decide ((bb : Int) < 48) = false := decide_eq_false (by omega)
    have c4 : decide (57 < (bb : Int)) = true := decide_eq_true (by omega)
    have c5 : ((bb : Int) == 95) = false := beq_eq_false_iff_ne.2 (by omega)
    have HN : Hid (nameB (byt s j) = false) := by
     unfold nameB
     rw [HCB.out, ← Bool.not_eq_true]
     simp only [Bool.or_eq_true, Bool.and_eq_true, decide_eq_true_eq, beq_iff_eq]
     show ¬ _; omega
    clear hcb HCB a1
    go_wp2_with fail
    go_ret
    refine ⟨?_, HB1.out⟩
    unfold nameOk
    rw [not_all hlt HN.out, Bool.and_false]; rfl
  ·have hc : decide ((j : Int) < (s.size : Int)) = false := by simp; omega
   go_wp2_with fail
   go_ret
   refine ⟨?_, HB1.out⟩
   have := HA.out
   rw [List.take_of_length_le (by rw [← Lib.size_eq]; omega)] at this
   unfold nameOk
   rw [this, decide_eq_true (p := 1 ≤ s.size) (by omega), decide_eq_true (p := s.size ≤ 16) (by omega)]; rfl
theorem isCode_any (s : ByteArray) (hs : s.size ≤ 1000000) (w : World) :
 Calls Tryz.prog 44 #[.string s] w fun e w' => e = .returned (.bool (codeOk s)) ∧ Below w.heap.size w w' := by
 rcases (show s.size ≠ 3 ∨ s.size = 3 from by omega) with h1 | h1
 ·have e1 : ((s.size : Int) == 3) = false := beq_eq_false_iff_ne.2 (by omega)
  have hr : codeOk s = false := by unfold codeOk; rw [decide_eq_false (p := s.size = 3) (by omega)]; rfl
  go_enter Tryz.func44, Tryz.ntmps44
  go_wp2_with fail
  go_ret
  exact ⟨by rw [hr]; rfl, Below.refl _ _⟩
 have e1 : ((s.size : Int) == 3) = true := beq_iff_eq.2 (by omega)
 have H1 := Lib.hid h1
 have h3 : s.size ≤ 3 := by omega
 clear h1
 have hcv := Lib.run_convert_string_bytes (P := Tryz.prog) w 9 111 5 s (u := .string) Tryz.underlying9 Tryz.underlying111 Tryz.underlying5
 have hB1 := Lib.bytesWorld_below w 5 s
 have hcell : ∀ j, j < s.size → (Lib.bytesWorld w 5 s).cell? ⟨w.heap.size, j, none⟩ = some (.int .u8 ((byt s j).toNat : Int)) := fun j hj => Lib.bytesWorld_cell w 5 s j hj
 generalize Lib.bytesWorld w 5 s = W1 at hcv hB1 hcell
 generalize grownCap w s.size 0 5 = cp at hcv
 have HCELL := Lib.hid hcell
 have HB1 := Lib.hid hB1
 clear hcell hB1
 go_enter Tryz.func44, Tryz.ntmps44
 go_wp2_with fail
 go_loopw [11] (fun v wr => ∃ j : Nat, v = .int .i64 (j : Int) ∧ j ≤ s.size ∧ (s.data.toList.take j).all codeB = true ∧ wr = W1) (fun v _ => s.size - (intOf v).toNat)
 case atStart => exact ⟨0, rfl, by omega, rfl, rfl⟩
 case round =>
  obtain ⟨j, rfl, hj, hall, rfl⟩ := hrel
  have HA := Lib.hid hall
  clear hall
  rcases Nat.lt_or_ge j s.size with hlt | hge
  ·have hc : decide ((j : Int) < (s.size : Int)) = true := by simp; omega
   have hcj := HCELL.out j hlt
   have hb := (byt s j).toNat_lt
   generalize hcb : ((byt s j).toNat) = bb at hb hcj
   have HCB := Lib.hid hcb
   rcases (show (65 ≤ bb ∧ bb ≤ 90) ∨ bb < 65 ∨ 90 < bb from by omega) with a1 | a1 | a1
   ·have c1 : decide ((bb : Int) < 65) = false := decide_eq_false (by omega)
    have c2 : decide (90 < (bb : Int)) = false := decide_eq_false (by omega)
    have HN : Hid (codeB (byt s j) = true) := by unfold codeB; rw [HCB.out]; simp only [Bool.and_eq_true, decide_eq_true_eq]; show _ ∧ _; omega
    clear hcb HCB a1
    go_wp2_with fail
    refine ⟨⟨j + 1, by simp, by omega, all_take_succ HA.out hlt HN.out, by trivial⟩, by simp [intOf]; omega⟩
   ·have c1 : decide ((bb : Int) < 65) = true := decide_eq_true (by omega)
    have HN : Hid (codeB (byt s j) = false) := by
     unfold codeB
     rw [HCB.out, ← Bool.not_eq_true]
     simp only [Bool.and_eq_true, decide_eq_true_eq]
     show ¬ _; omega
    clear hcb HCB a1
    go_wp2_with fail
    go_ret
    refine ⟨?_, HB1.out⟩
    unfold codeOk
    rw [not_all hlt HN.out, Bool.and_false]; rfl
   ·have c1 : decide ((bb : Int) < 65) = false := decide_eq_false (by omega)
    have c2 : decide (90 < (bb : Int)) = true := decide_eq_true (by omega)
    have HN : Hid (codeB (byt s j) = false) := by
     unfold codeB
     rw [HCB.out, ← Bool.not_eq_true]
     simp only [Bool.and_eq_true, decide_eq_true_eq]
     show ¬ _; omega
    clear hcb HCB a1
    go_wp2_with fail
    go_ret
    refine ⟨?_, HB1.out⟩
    unfold codeOk
    rw [not_all hlt HN.out, Bool.and_false]; rfl
  ·have hc : decide ((j : Int) < (s.size : Int)) = false := by simp; omega
   go_wp2_with fail
   go_ret
   refine ⟨?_, HB1.out⟩
   have := HA.out
   rw [List.take_of_length_le (by rw [← Lib.size_eq]; omega)] at this
   unfold codeOk
   rw [this, decide_eq_true (p := s.size = 3) H1.out]; rfl
theorem ivalid_any (d : Int) (w : World) :
 Calls Tryz.prog 45 #[.int .i64 d] w fun e w' => e = .returned (.bool (decide (okDay d))) ∧ w' = w := by
 go_enter Tryz.func45, Tryz.ntmps45
 go_wp2_with fail
 all_goals (go_ret; refine ⟨?_, rfl⟩; first | (rw [decide_eq_true (p := okDay d) (by unfold okDay; omega)]; rfl) | (rw [decide_eq_false (p := okDay d) (by unfold okDay; omega)]; rfl) | (simp [okDay, *]; done))
def ndig (a : ByteArray) : Nat := if byt a 0 = 45 ∧ a.size ≠ 0 then a.size - 1 else a.size
theorem idigits_any (a : ByteArray) (ha : a.size ≤ 1000000) (w : World) :
 Calls Tryz.prog 80 #[.string a] w fun e w' => e = .returned (.int .i64 (ndig a : Nat)) ∧ w' = w := by
 rcases Nat.eq_zero_or_pos a.size with h0 | h0
 ·have h1 : a.toList = [] := by rw [Lib.toList_data]; exact List.eq_nil_of_length_eq_zero (by rw [← Lib.size_eq]; exact h0)
  have hr : ndig a = 0 := by unfold ndig; rw [if_neg (by omega)]; exact h0
  go_enter Tryz.func80, Tryz.ntmps80
  go_wp2_with fail
  go_ret
  exact ⟨by rw [hr]; simp [h0], rfl⟩
 ·have h1 : a.toList ≠ [] := by
   rw [Lib.toList_data]; intro e
   have := congrArg List.length e
   rw [← Lib.size_eq] at this; rw [this] at h0; exact absurd h0 (by decide)
  have h2 : (!a.toList.isEmpty) = true := by simp [h1]
  by_cases hm : byt a 0 = 45
  ·have hr : ndig a = a.size - 1 := by unfold ndig; rw [if_pos ⟨hm, by omega⟩]
   have h3 : ((a[0].toNat : Int) == 45) = true := by rw [byt_get, hm]; rfl
   go_enter Tryz.func80, Tryz.ntmps80
   go_wp2_with fail
   go_ret
   exact ⟨by rw [hr, show ((a.size - 1 : Nat) : Int) = (a.size : Int) - 1 from by omega]; rfl, rfl⟩
  ·have hr : ndig a = a.size := by unfold ndig; rw [if_neg (fun h => hm h.1)]
   have h3 : ((a[0].toNat : Int) == 45) = false := by
    rw [byt_get, beq_eq_false_iff_ne]; intro e
    exact hm (UInt8.toNat.inj (by simpa using (show (byt a 0).toNat = 45 from by omega)))
   go_enter Tryz.func80, Tryz.ntmps80
   go_wp2_with fail
   go_ret
   exact ⟨by rw [hr]; rfl, rfl⟩
theorem isign_any (n d : ByteArray) (hn : n.size ≤ 1000000) (w : World) :
 Calls Tryz.prog 133 #[.agg #[.string n, .string d]] w fun e w' => e = .returned (.int .i64 (cmpI (vl n) 0)) ∧ Below w.heap.size w w' := by
 have HB := Lib.hid ((Below.refl _ w).alloc (Nat.le_refl _) (Obj.cells #[.string n, .string d] 25))
 have HC := Lib.hid (Compare_any n ⟨#[]⟩ (w.alloc (Obj.cells #[.string n, .string d] 25)) (by omega) (by show 0 ≤ _; omega))
 rw [show vl (⟨#[]⟩ : ByteArray) = 0 from by rw [zero_eq, vl_I]] at HC
 go_enter Tryz.func133, Tryz.ntmps133
 go_wp2_with fail
 refine HC.out.mono ?_
 rintro e w1 ⟨rfl, B1⟩
 go_wp2_with fail
 go_ret
 exact ⟨rfl, HB.out.trans (B1.mono HB.out.size)⟩
open Classical in
noncomputable def numchk (n d : ByteArray) : Int := if ¬ CanQ n d then 1 else if 40 < ndig n ∨ 40 < ndig d then 4 else 0
theorem inumber_any (n d : ByteArray) (hn : n.size ≤ 1000000) (hd : d.size ≤ 1000000) (w : World) (ht : Tabs w) :
 Calls Tryz.prog 47 #[.agg #[.string n, .string d]] w fun e w' => e = .returned (.int .i64 (numchk n d)) ∧ Below w.heap.size w w' := by
 have HB := Lib.hid ((Below.refl _ w).alloc (Nat.le_refl _) (Obj.cells #[.string n, .string d] 25))
 obtain ⟨W0, hW0⟩ : ∃ W0, w.alloc (Obj.cells #[.string n, .string d] 25) = W0 := ⟨_, rfl⟩
 have hk : W0.heap[w.heap.size]? = some (Obj.cells #[.string n, .string d] 25) := by rw [← hW0]; exact heap_alloc_new w _
 rw [hW0] at HB
 have b0 := Lib.cell_of_heap hk 0
 have b1 := Lib.cell_of_heap hk 1
 simp at b0 b1
 have HT := Lib.hid (ht.below HB.out)
 clear ht hk
 by_cases hc : CanQ n d
 ·have HC := Lib.hid (fCheck_yes n d W0 (by omega) (by omega) hc HT.out)
  have HN : Hid (numchk n d = if 40 < ndig n ∨ 40 < ndig d then 4 else 0) := by unfold numchk; rw [if_neg (by simpa using hc)]; exact Eq.refl _
  clear hc
  by_cases h4 : 40 < ndig n ∨ 40 < ndig d
  ·have hm : decide ((40 : Int) < max (ndig n : Int) (ndig d : Int)) = true := decide_eq_true (by omega)
   have H4 := Lib.hid h4
   clear h4
   go_enter Tryz.func47, Tryz.ntmps47
   go_wp2_with fail
   refine HC.out.mono ?_
   rintro e w1 ⟨rfl, B1⟩
   have c0 := keepc b0 B1
   have c1 := keepc b1 B1
   have HB1 := Lib.hid (HB.out.trans (B1.mono HB.out.size))
   clear B1 HC
   go_wp2_with fail
   go_region_held3 (fun W => W.cell? ⟨w.heap.size, 0, none⟩ = some (.string n) ∧ W.cell? ⟨w.heap.size, 1, none⟩ = some (.string d))
    (refine ⟨?_, ?_⟩ <;> first | assumption | (go_simp; done))
    (first
      | (go_at_call_of 80 [Value.string n]; refine (idigits_any n (by omega) w1.drew).mono ?_; rintro e w2 ⟨rfl, rfl⟩)
      | (go_at_call_of 80 [Value.string d]; refine (idigits_any d (by omega) w1.drew).mono ?_; rintro e w3 ⟨rfl, rfl⟩))
   go_wp2_with fail
   go_ret
   exact ⟨by rw [HN.out, if_pos H4.out]; rfl, HB1.out.drew⟩
  ·have hm : decide ((40 : Int) < max (ndig n : Int) (ndig d : Int)) = false := decide_eq_false (by omega)
   have H4 := Lib.hid h4
   clear h4
   go_enter Tryz.func47, Tryz.ntmps47
   go_wp2_with fail
   refine HC.out.mono ?_
   rintro e w1 ⟨rfl, B1⟩
   have c0 := keepc b0 B1
   have c1 := keepc b1 B1
   have HB1 := Lib.hid (HB.out.trans (B1.mono HB.out.size))
   clear B1 HC
   go_wp2_with fail
   go_region_held3 (fun W => W.cell? ⟨w.heap.size, 0, none⟩ = some (.string n) ∧ W.cell? ⟨w.heap.size, 1, none⟩ = some (.string d))
    (refine ⟨?_, ?_⟩ <;> first | assumption | (go_simp; done))
    (first
      | (go_at_call_of 80 [Value.string n]; refine (idigits_any n (by omega) w1.drew).mono ?_; rintro e w2 ⟨rfl, rfl⟩)
      | (go_at_call_of 80 [Value.string d]; refine (idigits_any d (by omega) w1.drew).mono ?_; rintro e w3 ⟨rfl, rfl⟩))
   go_wp2_with fail
   go_ret
   exact ⟨by rw [HN.out, if_neg H4.out]; rfl, HB1.out.drew⟩
 ·have HC := Lib.hid (fCheck_no n d W0 (by omega) (by omega) hc HT.out)
  have HN : Hid (numchk n d = 1) := by unfold numchk; rw [if_pos hc]; exact Eq.refl _
  clear hc
  go_enter Tryz.func47, Tryz.ntmps47
  go_wp2_with fail
  refine HC.out.mono ?_
  rintro e w1 ⟨rfl, B1⟩
  go_wp2_with fail
  go_ret
  exact ⟨by rw [HN.out]; rfl, HB.out.trans (B1.mono HB.out.size)⟩
structure Inst where
 id : ByteArray
 kind : Int
 cur : ByteArray
 places : Int
 issued : Int
 matures : Int
 fn : ByteArray
 fd : ByteArray
 cn : ByteArray
 cd : ByteArray
 months : Int
 count : Int
 other : ByteArray
 sn : ByteArray
 sd : ByteArray
abbrev Inst.cells (i : Inst) : Array Value := #[.string i.id, .int .i64 i.kind, .string i.cur, .int .i64 i.places, .int .i64 i.issued, .int .i64 i.matures, .string i.fn, .string i.fd, .string i.cn, .string i.cd, .int .i64 i.months, .int .i64 i.count, .string i.other, .string i.sn, .string i.sd]
abbrev Inst.enc (i : Inst) : Value := .agg i.cells
def Inst.sized (i : Inst) : Prop := i.id.size ≤ 1000000 ∧ i.cur.size ≤ 1000000 ∧ i.fn.size ≤ 1000000 ∧ i.fd.size ≤ 1000000 ∧ i.cn.size ≤ 1000000 ∧ i.cd.size ≤ 1000000 ∧ i.other.size ≤ 1000000 ∧ i.sn.size ≤ 1000000 ∧ i.sd.size ≤ 1000000
theorem ibox (i : Inst) (w : World) : ∃ W0, w.alloc (.cells i.cells 27) = W0 ∧ Below w.heap.size w W0 ∧ W0.heap.size = w.heap.size + 1 ∧ W0.heap[w.heap.size]? = some (.cells i.cells 27) :=
 ⟨_, rfl, (Below.refl _ w).alloc (Nat.le_refl _) _, by simp, heap_alloc_new w _⟩
theorem str_empty (s : ByteArray) : (s.toList == []) = decide (s = ⟨#[]⟩) := by
 by_cases h : s = ⟨#[]⟩
 ·subst h; rw [Lib.toList_data]; rfl
 ·rw [decide_eq_false h, show ([] : List UInt8) = (⟨#[]⟩ : ByteArray).toList from by rw [Lib.toList_data]]
  exact neq_toList h
def plainOk (i : Inst) : Prop := vl i.fn = 0 ∧ vl i.cn = 0 ∧ i.months = 0 ∧ i.count = 0 ∧ vl i.sn = 0 ∧ i.other = ⟨#[]⟩
theorem plain_ok (i : Inst) (hs : i.sized) (h : plainOk i) (w : World) :
 Calls Tryz.prog 76 #[i.enc] w fun e w' => e = .returned (.int .i64 0) ∧ Below w.heap.size w w' := by
 obtain ⟨h1, h2, h3, h4, h5, h6⟩ := h
 obtain ⟨W0, hW0, hB0, hz, hk⟩ := ibox i w
 obtain ⟨c0, c1, c2, c3, c4, c5, c6, c7, c8, c9, c10, c11, c12, c13, c14⟩ := cells15 hk
 have HB0 := Lib.hid hB0
 have hlt : w.heap.size < W0.heap.size := by omega
 obtain ⟨z1, z2, z3, z4, z5, z6, z7, z8, z9⟩ := hs
 clear hk hB0 hz
 have S1 := fun W => isign_any i.fn i.fd (by omega) W
 have S2 := fun W => isign_any i.cn i.cd (by omega) W
 have S3 := fun W => isign_any i.sn i.sd (by omega) W
 rw [h1, show cmpI 0 0 = 0 from rfl] at S1
 rw [h2, show cmpI 0 0 = 0 from rfl] at S2
 rw [h5, show cmpI 0 0 = 0 from rfl] at S3
 rw [h3] at c10
 rw [h4] at c11
 rw [h6] at c12
 have HS1 := Lib.hid S1
 have HS2 := Lib.hid S2
 have HS3 := Lib.hid S3
 clear S1 S2 S3 h1 h2 h3 h4 h5 h6
 unfold Inst.enc Inst.cells at *
 go_enter Tryz.func76, Tryz.ntmps76
 go_wp2_with fail
 refine (HS1.out W0).mono ?_
 rintro e w1 ⟨rfl, B1⟩
 have d8 := keepc c8 B1
 have d9 := keepc c9 B1
 have d10 := keepc c10 B1
 have d11 := keepc c11 B1
 have d12 := keepc c12 B1
 have d13 := keepc c13 B1
 have d14 := keepc c14 B1
 have HB1 := Lib.hid (HB0.out.trans (B1.mono HB0.out.size))
 clear B1 c0 c1 c2 c3 c4 c5 c6 c7 c8 c9 c10 c11 c12 c13 c14
 go_wp2_with fail
 refine (HS2.out w1).mono ?_
 rintro e w2 ⟨rfl, B2⟩
 have g10 := keepc d10 B2
 have g11 := keepc d11 B2
 have g12 := keepc d12 B2
 have g13 := keepc d13 B2
 have g14 := keepc d14 B2
 have HB2 := Lib.hid (HB1.out.trans (B2.mono HB1.out.size))
 clear B2 d8 d9 d10 d11 d12 d13 d14
 go_wp2_with fail
 refine (HS3.out w2).mono ?_
 rintro e w3 ⟨rfl, B3⟩
 have k12 := keepc g12 B3
 have HB3 := Lib.hid (HB2.out.trans (B3.mono HB2.out.size))
 clear B3 g10 g11 g12 g13 g14
 go_wp2_with fail
 go_ret
 exact ⟨rfl, HB3.out⟩
def monthsL : List Int := [1, 2, 3, 4, 6, 12]
def bondOk (i : Inst) : Prop := 0 < vl i.fn ∧ 0 ≤ vl i.cn ∧ i.months ∈ monthsL ∧ 1 ≤ i.count ∧ i.count ≤ 5 ∧ i.other = ⟨#[]⟩ ∧ vl i.sn = 0
theorem bond_ok (i : Inst) (hs : i.sized) (h : bondOk i) (w : World) :
 Calls Tryz.prog 77 #[i.enc] w fun e w' => e = .returned (.int .i64 0) ∧ Below w.heap.size w w' := by
 obtain ⟨h1, h2, h3, h4, h5, h6, h7⟩ := h
 obtain ⟨W0, hW0, hB0, hz, hk⟩ := ibox i w
 obtain ⟨W1, hW1⟩ : ∃ W1, W0.alloc (.cells #[.int .i64 1, .int .i64 2, .int .i64 3, .int .i64 4, .int .i64 6, .int .i64 12] 183) = W1 := ⟨_, rfl⟩
 have hB1 : Below w.heap.size w W1 := by rw [← hW1]; exact hB0.alloc (by omega) _
 have hk1 : W1.heap[w.heap.size]? = some (.cells i.cells 27) := by rw [← hW1]; exact (Below.heap_alloc _ _ _ (by omega)).trans hk
 have hkm : W1.heap[w.heap.size + 1]? = some (.cells #[.int .i64 1, .int .i64 2, .int .i64 3, .int .i64 4, .int .i64 6, .int .i64 12] 183) := by
  rw [← hW1, ← hz]; exact heap_alloc_new W0 _
 have c6 := Lib.cell_of_heap hk1 6
 have c7 := Lib.cell_of_heap hk1 7
 have c8 := Lib.cell_of_heap hk1 8
 have c9 := Lib.cell_of_heap hk1 9
 have c10 := Lib.cell_of_heap hk1 10
 have c11 := Lib.cell_of_heap hk1 11
 have c12 := Lib.cell_of_heap hk1 12
 have c13 := Lib.cell_of_heap hk1 13
 have c14 := Lib.cell_of_heap hk1 14
 simp at c6 c7 c8 c9 c10 c11 c12 c13 c14
 have HB1 := Lib.hid hB1
 have HKM := Lib.hid hkm
 obtain ⟨z1, z2, z3, z4, z5, z6, z7, z8, z9⟩ := hs
 have hsz : W0.heap.size = w.heap.size + 1 := hz
 have hoe : (i.other.toList == []) = true := by rw [str_empty, decide_eq_true h6]
 have q1 : decide (cmpI (vl i.fn) 0 ≤ 0) = false := decide_eq_false (by rw [cmpI_le]; omega)
 have q2 : decide (cmpI (vl i.cn) 0 < 0) = false := decide_eq_false (by rw [cmpI_lt]; omega)
 have q3 : decide (i.count < 1) = false := decide_eq_false (by omega)
 have q4 : decide (5 < i.count) = false := decide_eq_false (by omega)
 have q5 : (cmpI (vl i.sn) 0 == 0) = true := beq_iff_eq.2 (cmpI_eq.2 h7)
 have H3 := Lib.hid h3
 clear hk hB0 hz hk1 hkm hB1 h1 h2 h3 h4 h5 h6 h7
 unfold Inst.enc Inst.cells at *
 go_enter Tryz.func77, Tryz.ntmps77
 go_wp2_with fail
 go_region_held3 (fun W => W.cell? ⟨w.heap.size, 6, none⟩ = some (.string i.fn) ∧ W.cell? ⟨w.heap.size, 7, none⟩ = some (.string i.fd) ∧ W.cell? ⟨w.heap.size, 8, none⟩ = some (.string i.cn) ∧ W.cell? ⟨w.heap.size, 9, none⟩ = some (.string i.cd) ∧ W.cell? ⟨w.heap.size, 10, none⟩ = some (.int .i64 i.months) ∧ W.cell? ⟨w.heap.size, 11, none⟩ = some (.int .i64 i.count))
  (refine ⟨?_, ?_, ?_, ?_, ?_, ?_⟩ <;> first | assumption | (go_simp; done))
  (first
    | (go_at_call_of 133 [Value.agg #[Value.string i.fn, Value.string i.fd]]; refine (isign_any i.fn i.fd (by omega) W1.drew).mono ?_; rintro e w1 ⟨rfl, b1⟩; have d6 := keepc c6 b1; have d7 := keepc c7 b1; have d8 := keepc c8 b1; have d9 := keepc c9 b1; have d10 := keepc c10 b1; have d11 := keepc c11 b1; have d12 := keepc c12 b1; have d13 := keepc c13 b1; have d14 := keepc c14 b1; have HB2 := Lib.hid (HB1.out.drew.trans (b1.mono HB1.out.size)); have HKM1 := Lib.hid ((b1.block (w.heap.size + 1) (Array.getElem?_eq_some_iff.1 HKM.out).1).trans HKM.out); clear b1)
    | (go_at_call_of 133 [Value.agg #[Value.string i.cn, Value.string i.cd]]; refine (isign_any i.cn i.cd (by omega) w1).mono ?_; rintro e w2 ⟨rfl, b2⟩; have g6 := keepc d6 b2; have g7 := keepc d7 b2; have g8 := keepc d8 b2; have g9 := keepc d9 b2; have g10 := keepc d10 b2; have g11 := keepc d11 b2; have g12 := keepc d12 b2; have g13 := keepc d13 b2; have g14 := keepc d14 b2; have HB3 := Lib.hid (HB2.out.trans (b2.mono HB2.out.size)); have HKM2 := Lib.hid ((b2.block (w.heap.size + 1) (Array.getElem?_eq_some_iff.1 HKM1.out).1).trans HKM1.out); clear b2)
    | (go_at_call 134; refine (Tryz.slices_Contains_int (w.heap.size + 1) 0 6 6 monthsL i.months w2 (by decide) (by decide) (fun j hj => by rw [Lib.cell_of_heap HKM2.out]; match j, hj with | 0, _ => rfl | 1, _ => rfl | 2, _ => rfl | 3, _ => rfl | 4, _ => rfl | 5, _ => rfl)).mono ?_; rintro e w3 ⟨rfl, rfl⟩; rw [show (monthsL.take 6).contains i.months = true from by rw [List.contains_iff_mem]; exact H3.out]))
 go_wp2_with fail
 refine (isign_any i.sn i.sd (by omega) w3).mono ?_
 rintro e w4 ⟨rfl, b4⟩
 go_wp2_with fail
 go_ret
 exact ⟨rfl, HB3.out.trans (b4.mono HB3.out.size)⟩
def fwdOk (i : Inst) : Prop := codeOk i.other = true ∧ i.other ≠ i.cur ∧ 0 < vl i.sn ∧ vl i.fn = 0 ∧ vl i.cn = 0 ∧ i.months = 0 ∧ i.count = 0
theorem forward_ok (i : Inst) (hs : i.sized) (h : fwdOk i) (w : World) :
 Calls Tryz.prog 78 #[i.enc] w fun e w' => e = .returned (.int .i64 0) ∧ Below w.heap.size w w' := by
 obtain ⟨h1, h2, h3, h4, h5, h6, h7⟩ := h
 obtain ⟨W0, hW0, hB0, hz, hk⟩ := ibox i w
 have c2 := Lib.cell_of_heap hk 2
 have c6 := Lib.cell_of_heap hk 6
 have c7 := Lib.cell_of_heap hk 7
 have c8 := Lib.cell_of_heap hk 8
 have c9 := Lib.cell_of_heap hk 9
 have c10 := Lib.cell_of_heap hk 10
 have c11 := Lib.cell_of_heap hk 11
 have c12 := Lib.cell_of_heap hk 12
 have c13 := Lib.cell_of_heap hk 13
 have c14 := Lib.cell_of_heap hk 14
 simp at c2 c6 c7 c8 c9 c10 c11 c12 c13 c14
 have HB0 := Lib.hid hB0
 obtain ⟨z1, z2, z3, z4, z5, z6, z7, z8, z9⟩ := hs
 have S0 := fun W => isCode_any i.other (by omega) W
 rw [h1] at S0
 have HS0 := Lib.hid S0
 have q0 : (i.other.toList == i.cur.toList) = false := neq_toList h2
 have q1 : decide (cmpI (vl i.sn) 0 ≤ 0) = false := decide_eq_false (by rw [cmpI_le]; omega)
 have S1 := fun W => isign_any i.fn i.fd (by omega) W
 have S2 := fun W => isign_any i.cn i.cd (by omega) W
 rw [h4, show cmpI 0 0 = 0 from rfl] at S1
 rw [h5, show cmpI 0 0 = 0 from rfl] at S2
 rw [h6] at c10
 rw [h7] at c11
 have HS1 := Lib.hid S1
 have HS2 := Lib.hid S2
 clear S0 S1 S2 h1 h2 h3 h4 h5 h6 h7 hk hB0 hz
 unfold Inst.enc Inst.cells at *
 go_enter Tryz.func78, Tryz.ntmps78
 go_wp2_with fail
 refine (HS0.out W0).mono ?_
 rintro e w1 ⟨rfl, b1⟩
 have d2 := keepc c2 b1
 have d6 := keepc c6 b1
 have d7 := keepc c7 b1
 have d8 := keepc c8 b1
 have d9 := keepc c9 b1
 have d12 := keepc c12 b1
 have d13 := keepc c13 b1
 have d14 := keepc c14 b1
 have d10 := keepc c10 b1
 have d11 := keepc c11 b1
 have HB1 := Lib.hid (HB0.out.trans (b1.mono HB0.out.size))
 clear b1
 go_wp2_with fail
 refine (isign_any i.sn i.sd (by omega) w1).mono ?_
 rintro e w2 ⟨rfl, b2⟩
 have g6 := keepc d6 b2
 have g7 := keepc d7 b2
 have g8 := keepc d8 b2
 have g9 := keepc d9 b2
 have g10 := keepc d10 b2
 have g11 := keepc d11 b2
 have HB2 := Lib.hid (HB1.out.trans (b2.mono HB1.out.size))
 clear b2
 go_wp2_with fail
 refine (HS1.out w2).mono ?_
 rintro e w3 ⟨rfl, b3⟩
 have k8 := keepc g8 b3
 have k9 := keepc g9 b3
 have k10 := keepc g10 b3
 have k11 := keepc g11 b3
 have HB3 := Lib.hid (HB2.out.trans (b3.mono HB2.out.size))
 clear b3
 go_wp2_with fail
 refine (HS2.out w3).mono ?_
 rintro e w4 ⟨rfl, b4⟩
 have m10 := keepc k10 b4
 have m11 := keepc k11 b4
 have HB4 := Lib.hid (HB3.out.trans (b4.mono HB3.out.size))
 clear b4
 go_wp2_with fail
 go_ret
 exact ⟨rfl, HB4.out⟩
abbrev ruleCells : Array Value := #[.bool false, .nilFunc, .bool false, .func (.func 76) #[] #[], .bool true, .func (.func 77) #[] #[], .bool false, .func (.func 76) #[] #[], .bool false, .func (.func 76) #[] #[], .bool true, .func (.func 78) #[] #[]]
theorem rules_any (w : World) : Calls Tryz.prog 46 #[] w fun e w' => e = .returned (.agg ruleCells) ∧ Below w.heap.size w w' := by
 obtain ⟨W0, hW0⟩ : ∃ W0, w.alloc (.cells #[.bool false, .nilFunc, .bool false, .nilFunc, .bool false, .nilFunc, .bool false, .nilFunc, .bool false, .nilFunc, .bool false, .nilFunc] 94) = W0 := ⟨_, rfl⟩
 have hk : W0.heap[w.heap.size]? = some (.cells #[.bool false, .nilFunc, .bool false, .nilFunc, .bool false, .nilFunc, .bool false, .nilFunc, .bool false, .nilFunc, .bool false, .nilFunc] 94) := by rw [← hW0]; exact heap_alloc_new w _
 have HB : Hid (Below w.heap.size w W0) := by rw [← hW0]; exact (Below.refl _ w).alloc (Nat.le_refl _) _
 have c0 := Lib.cell_of_heap hk 0
 have c1 := Lib.cell_of_heap hk 1
 have c2 := Lib.cell_of_heap hk 2
 have c3 := Lib.cell_of_heap hk 3
 have c4 := Lib.cell_of_heap hk 4
 have c5 := Lib.cell_of_heap hk 5
 have c6 := Lib.cell_of_heap hk 6
 have c7 := Lib.cell_of_heap hk 7
 have c8 := Lib.cell_of_heap hk 8
 have c9 := Lib.cell_of_heap hk 9
 have c10 := Lib.cell_of_heap hk 10
 have c11 := Lib.cell_of_heap hk 11
 simp at c0 c1 c2 c3 c4 c5 c6 c7 c8 c9 c10 c11
 have f := Lib.frozen_of_heap hk
 have f0 := f 0
 have f1 := f 1
 have f2 := f 2
 have f3 := f 3
 have f4 := f 4
 have f5 := f 5
 have f6 := f 6
 have f7 := f 7
 have f8 := f 8
 have f9 := f 9
 have f10 := f 10
 have f11 := f 11
 have HK := Lib.hid hk
 clear hk f
 go_enter Tryz.func46, Tryz.ntmps46
 go_wp2_with fail
 have hB2 : Below w.heap.size w ((((((((((((W0.setCell ⟨w.heap.size, 0, none⟩ (.bool false)).setCell ⟨w.heap.size, 1, none⟩ (.nilFunc)).setCell ⟨w.heap.size, 2, none⟩ (.bool false)).setCell ⟨w.heap.size, 3, none⟩ (.func (.func 76) #[] #[])).setCell ⟨w.heap.size, 4, none⟩ (.bool true)).setCell ⟨w.heap.size, 5, none⟩ (.func (.func 77) #[] #[])).setCell ⟨w.heap.size, 6, none⟩ (.bool false)).setCell ⟨w.heap.size, 7, none⟩ (.func (.func 76) #[] #[])).setCell ⟨w.heap.size, 8, none⟩ (.bool false)).setCell ⟨w.heap.size, 9, none⟩ (.func (.func 76) #[] #[])).setCell ⟨w.heap.size, 10, none⟩ (.bool true)).setCell ⟨w.heap.size, 11, none⟩ (.func (.func 78) #[] #[])) := ((((((((((((HB.out.setCell (p := ⟨w.heap.size, 0, none⟩) (Nat.le_refl _) (.bool false)).setCell (p := ⟨w.heap.size, 1, none⟩) (Nat.le_refl _) (.nilFunc)).setCell (p := ⟨w.heap.size, 2, none⟩) (Nat.le_refl _) (.bool false)).setCell (p := ⟨w.heap.size, 3, none⟩) (Nat.le_refl _) (.func (.func 76) #[] #[])).setCell (p := ⟨w.heap.size, 4, none⟩) (Nat.le_refl _) (.bool true)).setCell (p := ⟨w.heap.size, 5, none⟩) (Nat.le_refl _) (.func (.func 77) #[] #[])).setCell (p := ⟨w.heap.size, 6, none⟩) (Nat.le_refl _) (.bool false)).setCell (p := ⟨w.heap.size, 7, none⟩) (Nat.le_refl _) (.func (.func 76) #[] #[])).setCell (p := ⟨w.heap.size, 8, none⟩) (Nat.le_refl _) (.bool false)).setCell (p := ⟨w.heap.size, 9, none⟩) (Nat.le_refl _) (.func (.func 76) #[] #[])).setCell (p := ⟨w.heap.size, 10, none⟩) (Nat.le_refl _) (.bool true)).setCell (p := ⟨w.heap.size, 11, none⟩) (Nat.le_refl _) (.func (.func 78) #[] #[]))
 have k2 : ((((((((((((W0.setCell ⟨w.heap.size, 0, none⟩ (.bool false)).setCell ⟨w.heap.size, 1, none⟩ (.nilFunc)).setCell ⟨w.heap.size, 2, none⟩ (.bool false)).setCell ⟨w.heap.size, 3, none⟩ (.func (.func 76) #[] #[])).setCell ⟨w.heap.size, 4, none⟩ (.bool true)).setCell ⟨w.heap.size, 5, none⟩ (.func (.func 77) #[] #[])).setCell ⟨w.heap.size, 6, none⟩ (.bool false)).setCell ⟨w.heap.size, 7, none⟩ (.func (.func 76) #[] #[])).setCell ⟨w.heap.size, 8, none⟩ (.bool false)).setCell ⟨w.heap.size, 9, none⟩ (.func (.func 76) #[] #[])).setCell ⟨w.heap.size, 10, none⟩ (.bool true)).setCell ⟨w.heap.size, 11, none⟩ (.func (.func 78) #[] #[])).heap[w.heap.size]? = some (.cells ruleCells 94) := by
  have := HK.out
  simp [World.setCell, Array.getElem?_modify, this]
 generalize ((((((((((((W0.setCell ⟨w.heap.size, 0, none⟩ (.bool false)).setCell ⟨w.heap.size, 1, none⟩ (.nilFunc)).setCell ⟨w.heap.size, 2, none⟩ (.bool false)).setCell ⟨w.heap.size, 3, none⟩ (.func (.func 76) #[] #[])).setCell ⟨w.heap.size, 4, none⟩ (.bool true)).setCell ⟨w.heap.size, 5, none⟩ (.func (.func 77) #[] #[])).setCell ⟨w.heap.size, 6, none⟩ (.bool false)).setCell ⟨w.heap.size, 7, none⟩ (.func (.func 76) #[] #[])).setCell ⟨w.heap.size, 8, none⟩ (.bool false)).setCell ⟨w.heap.size, 9, none⟩ (.func (.func 76) #[] #[])).setCell ⟨w.heap.size, 10, none⟩ (.bool true)).setCell ⟨w.heap.size, 11, none⟩ (.func (.func 78) #[] #[])) = W2 at hB2 k2 ⊢
 have m0 := Lib.cell_of_heap k2 0
 have m1 := Lib.cell_of_heap k2 1
 have m2 := Lib.cell_of_heap k2 2
 have m3 := Lib.cell_of_heap k2 3
 have m4 := Lib.cell_of_heap k2 4
 have m5 := Lib.cell_of_heap k2 5
 have m6 := Lib.cell_of_heap k2 6
 have m7 := Lib.cell_of_heap k2 7
 have m8 := Lib.cell_of_heap k2 8
 have m9 := Lib.cell_of_heap k2 9
 have m10 := Lib.cell_of_heap k2 10
 have m11 := Lib.cell_of_heap k2 11
 simp at m0 m1 m2 m3 m4 m5 m6 m7 m8 m9 m10 m11
 refine bodyPost_ret (v := .agg ruleCells) (by simp [results, Tryz.results46, go_sem, m0, m1, m2, m3, m4, m5, m6, m7, m8, m9, m10, m11]) rfl ?_
 exact ⟨rfl, hB2⟩
end Go.Proofs.YtbkmhmaldljgmaaGreatDoor
namespace Go.Proofs.YtbkmhmaldljgmaaGreatDoor
open Go.RowKit Tr
theorem ndig_le (a : ByteArray) : ndig a ≤ a.size := by unfold ndig; split <;> omega
end Go.Proofs.YtbkmhmaldljgmaaGreatDoor
namespace Go.Proofs.YtbkmhmaldljgmaaGreatDoor
open Go.RowKit Tr Go.Shelf
theorem icellsV {W : World} {b : Nat} {i : Inst} (h : W.heap[b]? = some (.cells i.cells 27 (0, 0))) : W.cell? ⟨b, 0, none⟩ = some (.string i.id) ∧ W.cell? ⟨b, 1, none⟩ = some (.int .i64 i.kind) ∧ W.cell? ⟨b, 2, none⟩ = some (.string i.cur) ∧ W.cell? ⟨b, 3, none⟩ = some (.int .i64 i.places) ∧ W.cell? ⟨b, 4, none⟩ = some (.int .i64 i.issued) ∧ W.cell? ⟨b, 5, none⟩ = some (.int .i64 i.matures) ∧ W.cell? ⟨b, 6, none⟩ = some (.string i.fn) ∧ W.cell? ⟨b, 7, none⟩ = some (.string i.fd) ∧ W.cell? ⟨b, 8, none⟩ = some (.string i.cn) ∧ W.cell? ⟨b, 9, none⟩ = some (.string i.cd) ∧ W.cell? ⟨b, 10, none⟩ = some (.int .i64 i.months) ∧ W.cell? ⟨b, 11, none⟩ = some (.int .i64 i.count) ∧ W.cell? ⟨b, 12, none⟩ = some (.string i.other) ∧ W.cell? ⟨b, 13, none⟩ = some (.string i.sn) ∧ W.cell? ⟨b, 14, none⟩ = some (.string i.sd) :=
 ⟨(Lib.cell_of_heap h 0).trans rfl, (Lib.cell_of_heap h 1).trans rfl, (Lib.cell_of_heap h 2).trans rfl, (Lib.cell_of_heap h 3).trans rfl, (Lib.cell_of_heap h 4).trans rfl, (Lib.cell_of_heap h 5).trans rfl, (Lib.cell_of_heap h 6).trans rfl, (Lib.cell_of_heap h 7).trans rfl, (Lib.cell_of_heap h 8).trans rfl, (Lib.cell_of_heap h 9).trans rfl, (Lib.cell_of_heap h 10).trans rfl, (Lib.cell_of_heap h 11).trans rfl, (Lib.cell_of_heap h 12).trans rfl, (Lib.cell_of_heap h 13).trans rfl, (Lib.cell_of_heap h 14).trans rfl⟩
end Go.Proofs.YtbkmhmaldljgmaaGreatDoor
