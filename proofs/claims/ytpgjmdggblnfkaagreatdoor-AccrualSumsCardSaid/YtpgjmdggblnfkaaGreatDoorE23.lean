/-
  The walk of date.Print.
  The walks of trancheref02.Canonical, Check (short numbers). (Printed by gen_ref8.py.)
  The walks of trancheref02.Compare, Sign (short numbers).
-/
import Derived.Test.YtpgjmdggblnfkaaGreatDoorE20
import Derived.Test.YtpgjmdggblnfkaaGreatDoorE17
import Derived.Test.YtpgjmdggblnfkaaGreatDoorE22
set_option linter.unusedVariables false
set_option linter.unusedSimpArgs false
namespace Go.Proofs.YtpgjmdggblnfkaaGreatDoor
open Go.RowKit Tr Go.Shelf

theorem Itoa_any (n : Int) (h0 : -9223372036854775808 ≤ n) (h1 : n ≤ 9223372036854775807) (w : World) (ht : Tabs w) :
    Calls Tryz.prog 54 #[.int .i64 n] w fun e w' => e = .returned (.string (bs (Lib.itoa n))) ∧ Below w.heap.size w w' := by
  refine (Tryz.strconv_Itoa n h0 h1 w ht.pow10).mono ?_
  rintro e w1 ⟨rfl, k, os, rfl⟩
  exact ⟨rfl, below_grow os k⟩

/-- a number of two digits -/
def two (n : Nat) : List UInt8 := List.replicate (2 - (Lib.itoa (n : Int)).length) 48 ++ Lib.itoa (n : Int)
theorem itoa_len {n : Nat} (h : n < 100) : 1 ≤ (Lib.itoa (n : Int)).length ∧ (Lib.itoa (n : Int)).length ≤ 2 := by
  have : ∀ n : Fin 100, 1 ≤ (Lib.itoa ((n : Nat) : Int)).length ∧ (Lib.itoa ((n : Nat) : Int)).length ≤ 2 := by
    intro n
    unfold Lib.itoa
    rw [if_neg (by omega)]
    rw [show (((n : Nat) : Int)).toNat = (n : Nat) from by omega]
    rcases Nat.eq_zero_or_pos (n : Nat) with h | h
    · rw [h]; have := dec_zero; unfold dec at this; rw [this]; simp
    · rw [Lib.decDigits_length]
      have := (digits_length_le_iff 2 (n : Nat)).2 (by have := n.2; omega)
      have e := dec_pos h
      unfold dec at e
      have e2 := congrArg List.length e
      rw [Lib.decDigits_length] at e2
      have : 1 ≤ (digits (n : Nat)).length := by
        rcases hd : digits (n : Nat) with _ | _
        · have := dval_digits (n : Nat); rw [hd] at this; simp [dval] at this; omega
        · simp
      omega
  exact this ⟨n, h⟩

set_option maxHeartbeats 1000000 in
theorem two_any (n : Nat) (h : n < 100) (w : World) (ht : Tabs w) :
    Calls Tryz.prog 63 #[.int .i64 (n : Int)] w fun e w' => e = .returned (.string (bs (two n))) ∧ Below w.heap.size w w' := by
  have HT := Lib.hid ht
  have HI := Lib.hid (fun W hW => Itoa_any (n : Int) (by omega) (by omega) W hW)
  have hl := itoa_len h
  have hz : (bs (Lib.itoa (n : Int))).size = (Lib.itoa (n : Int)).length := bs_size _
  clear ht
  go_enter Tryz.func63, Tryz.ntmps63
  go_wp2_with fail
  refine (HI.out w HT.out).mono ?_
  rintro e w1 ⟨rfl, B1⟩
  go_wp2_with fail
  rw [show (2 : Int) - ((Lib.itoa (n : Int)).length : Int) = ((2 - (Lib.itoa (n : Int)).length : Nat) : Int) from by omega]
  refine (Tryz.strings_Repeat ⟨#[48]⟩ (2 - (Lib.itoa (n : Int)).length) _ (by omega) (by simp [ByteArray.size]; omega)).mono ?_
  rintro e w2 ⟨rfl, hb2⟩
  rw [show (⟨#[48]⟩ : ByteArray).data.toList = [48] from rfl, repeatL_eq]
  have hrl : (List.replicate (2 - (Lib.itoa (n : Int)).length) (48 : UInt8)).length ≤ 2 := by simp
  rw [show (ByteArray.mk (List.toArray (List.replicate (2 - (Lib.itoa (n : Int)).length) (48 : UInt8)))) = bs (List.replicate (2 - (Lib.itoa (n : Int)).length) (48 : UInt8)) from rfl]
  have hrz : (bs (List.replicate (2 - (Lib.itoa (n : Int)).length) (48 : UInt8))).size = (List.replicate (2 - (Lib.itoa (n : Int)).length) (48 : UInt8)).length := bs_size _
  have B2 := B1.trans (hb2.mono B1.size)
  clear hb2 B1
  go_wp2_with fail
  refine (HI.out w2 (HT.out.below B2)).mono ?_
  rintro e w3 ⟨rfl, B3⟩
  have B3 := B2.trans (B3.mono B2.size)
  clear B2 HI
  go_wp2_with fail
  go_ret
  refine ⟨?_, B3⟩
  show Ending.returned (Value.string (bs _ ++ bs _)) = _
  rw [bs_append]; rfl

/-- the text of a date -/
def dtext (y : Int) (m d : Nat) : ByteArray := bs (Lib.itoa y ++ [45] ++ two m ++ [45] ++ two d)
def IsText (d : Int) (s : ByteArray) : Prop := ∃ (y : Int) (m : Nat) (dd : Nat), VDate y m dd ∧ dayOf y m dd = d ∧ s = dtext y m dd
noncomputable def ptext (d : Int) : ByteArray := by classical exact if h : ∃ s, IsText d s then h.choose else ⟨#[]⟩
theorem ptext_eq {y : Int} {m dd : Nat} (h : VDate y m dd) {d : Int} (hd : dayOf y m dd = d) : ptext d = dtext y m dd := by
  have hex : ∃ s, IsText d s := ⟨_, y, m, dd, h, hd, rfl⟩
  unfold ptext
  rw [dif_pos hex]
  obtain ⟨y', m', dd', h', e', es⟩ := hex.choose_spec
  obtain ⟨rfl, rfl, e3⟩ := date_unique h h' (hd.trans e'.symm)
  rw [es]
  have : dd = dd' := by omega
  subst this; rfl
theorem Print_no (d : Int) (hd : ¬ okDay d) (w : World) :
    Calls Tryz.prog 25 #[.int .i64 d] w fun e w' => e = .returned (.tuple #[.string ⟨#[]⟩, .int .i64 13]) ∧ w' = w := by
  have HP := Lib.hid (Parts_no d hd w)
  go_enter Tryz.func25, Tryz.ntmps25
  go_wp2_with fail
  refine HP.out.mono ?_
  rintro e w1 ⟨rfl, rfl⟩
  go_wp2_with fail
  go_ret2
  exact ⟨rfl, rfl⟩

set_option maxHeartbeats 2000000 in
theorem Print_any (d : Int) (hd : okDay d) (w : World) (ht : Tabs w) :
    Calls Tryz.prog 25 #[.int .i64 d] w fun e w' => e = .returned (.tuple #[.string (ptext d), .int .i64 0]) ∧ Below w.heap.size w w' := by
  have HP := Lib.hid (Parts_any d hd w)
  have HT := Lib.hid ht
  clear ht
  go_enter Tryz.func25, Tryz.ntmps25
  go_wp2_with fail
  refine HP.out.mono ?_
  rintro e w1 ⟨y, m, dd, rfl, hv, hd', B1⟩
  obtain ⟨q, rfl⟩ : ∃ q : Nat, dd = (q : Int) := ⟨dd.toNat, by have := hv.2.2.2.2.1; omega⟩
  have hpt := ptext_eq hv hd'
  have HPT := Lib.hid hpt
  have b1 := hv.1
  have b2 := hv.2.1
  have b3 := hv.2.2.2.1
  have b4 := hv.2.2.2.2.2
  have b5 := lenB_pos (leapB y) m
  have hz1 : (bs (Lib.itoa y)).size = (Lib.itoa y).length := bs_size _
  have hz2 := nDigits_size y (by omega) (by omega)
  have t2 : ∀ k : Nat, k < 100 → (two k).length = 2 := by
    intro k hk
    have := itoa_len hk
    unfold two; simp; omega
  have hm2 := t2 m (by omega)
  have hq2 := t2 q (by omega)
  clear hv hd' hpt HP t2
  go_wp2_with fail
  refine (Itoa_any y (by omega) (by omega) w1 (HT.out.below B1)).mono ?_
  rintro e w2 ⟨rfl, B2⟩
  have B2 := B1.trans (B2.mono B1.size)
  clear B1
  go_wp2_with fail
  refine (two_any m (by omega) w2 (HT.out.below B2)).mono ?_
  rintro e w3 ⟨rfl, B3⟩
  have B3 := B2.trans (B3.mono B2.size)
  clear B2
  have hz3 : (bs (two m)).size = (two m).length := bs_size _
  go_wp2_with fail
  refine (two_any q (by omega) w3 (HT.out.below B3)).mono ?_
  rintro e w4 ⟨rfl, B4⟩
  have B4 := B3.trans (B4.mono B3.size)
  clear B3
  have hz4 : (bs (two q)).size = (two q).length := bs_size _
  go_wp2_with fail
  go_ret2
  refine ⟨?_, B4⟩
  rw [HPT.out]
  unfold dtext
  rw [← bs_append, ← bs_append, ← bs_append, ← bs_append]
  rfl
end Go.Proofs.YtpgjmdggblnfkaaGreatDoor
namespace Go.Proofs.YtpgjmdggblnfkaaGreatDoor
open Go.RowKit Tr

theorem raw_facts (n d : ByteArray) (ha : n.size ≤ 16) (hb : d.size ≤ 16) : (rawN n d).size ≤ 1000000 ∧ (rawD d).size ≤ 1000000 ∧ (vl (rawN n d)).natAbs < 100000000000000000 ∧ (vl (rawD d)).natAbs < 100000000000000000 ∧ 0 < vl (rawD d) ∧ Rat.divInt (vl (rawN n d)) (vl (rawD d)) = fv n d := by
  have hn : (vl n).natAbs < 10 ^ 16 := Nat.lt_of_lt_of_le (vl_lt n) (pow_mono ha)
  have hd : (vl d).natAbs < 10 ^ 16 := Nat.lt_of_lt_of_le (vl_lt d) (pow_mono hb)
  unfold rawN rawD fv dd
  rcases Int.lt_trichotomy (vl d) 0 with h | h | h
  · rw [if_pos h, if_neg (by omega), if_pos h, if_neg (by omega)]
    have z1 : (I (-vl n)).size ≤ 17 := I_size_le (by rw [Int.natAbs_neg]; exact hn)
    have z2 : (I (-vl d)).size ≤ 17 := I_size_le (by rw [Int.natAbs_neg]; exact hd)
    rw [vl_I, vl_I, Rat.neg_divInt_neg]
    exact ⟨by omega, by omega, by omega, by omega, by omega, rfl⟩
  · rw [if_neg (by omega), if_pos h, if_pos h]
    have : vl one1 = 1 := by rw [one1_eq, vl_I]
    have z : one1.size = 1 := rfl
    rw [this]
    exact ⟨by omega, by omega, by omega, by omega, by omega, rfl⟩
  · rw [if_neg (by omega), if_neg (by omega), if_neg (by omega), if_neg (by omega)]
    exact ⟨by omega, by omega, by omega, by omega, by omega, rfl⟩

set_option maxHeartbeats 2000000 in
theorem rfCanonical_any (n d : ByteArray) (ha : n.size ≤ 16) (hb : d.size ≤ 16) (w : World) :
    Calls Tryz.prog 172 #[.agg #[.string n, .string d]] w fun e w' => e = .returned (fenc (fv n d)) ∧ Below w.heap.size w w' := by
  obtain ⟨r1, r2, r3, r4, r5, r6⟩ := raw_facts n d ha hb
  have HR := fun W => rreduced_short (rawN n d) (rawD d) r1 r2 r3 r4 r5 W
  rw [r6] at HR
  have HR := Lib.hid HR
  have HW := Lib.hid (fun W => rRaw_any n d (by omega) (by omega) W)
  clear r1 r2 r3 r4 r5 r6 ha hb
  obtain ⟨W0, hW0, hb0, hs0, k0, k1⟩ := box2 w (.cells #[.string n, .string d] 25) (.cells #[.string ⟨#[]⟩, .string ⟨#[]⟩] 25)
  have b0 := Lib.cell_of_heap k0 0
  have b1 := Lib.cell_of_heap k0 1
  simp at b0 b1
  have HB := Lib.hid hb0
  have HK := Lib.hid k1
  clear hb0 k0 k1 hs0
  go_enter Tryz.func172, Tryz.ntmps172
  go_wp2_with fail
  try rw [← hW0]
  refine (HW.out _).mono ?_
  rintro e w1 ⟨rfl, c1⟩
  have HC1 := Lib.hid c1
  clear c1
  go_wp2_with fail
  refine (HR.out _).mono ?_
  rintro e w2 ⟨rfl, c2⟩
  have c12 := HC1.out.trans (c2.mono HC1.out.size)
  have k2 := (c12.block _ (Array.getElem?_eq_some_iff.1 HK.out).1).trans HK.out
  have a0 := Lib.cell_of_heap k2 0
  have a1 := Lib.cell_of_heap k2 1
  simp at a0 a1
  have f0 := Lib.frozen_of_heap k2 0
  have f1 := Lib.frozen_of_heap k2 1
  have HB2 := Lib.hid (HB.out.trans (c12.mono HB.out.size))
  have K2 := Lib.hid k2
  clear c2 c12 k2 HB HC1 HK HR HW
  obtain ⟨q, hq⟩ : ∃ q, fv n d = q := ⟨_, rfl⟩
  rw [hq]
  have HQ := Lib.hid hq
  clear hq
  unfold fenc
  go_wp2_with fail
  have k2 := set2 K2.out (.string (I q.num)) (.string (dn q))
  have m0 := Lib.cell_of_heap k2 0
  have m1 := Lib.cell_of_heap k2 1
  simp at m0 m1
  refine bodyPost_ret (v := .agg #[.string (I q.num), .string (dn q)]) (by simp [results, Tryz.results172, go_sem, m0, m1]) rfl ?_
  exact ⟨by rw [HQ.out]; rfl, (HB2.out.setCell (p := ⟨w.heap.size + 1, 0, none⟩) (by simp) _).setCell (p := ⟨w.heap.size + 1, 1, none⟩) (by simp) _⟩

set_option maxHeartbeats 2000000 in
theorem rfCheck_yes (n d : ByteArray) (ha : n.size ≤ 16) (hb : d.size ≤ 16) (hc : CanQ n d) (w : World) :
    Calls Tryz.prog 134 #[.agg #[.string n, .string d]] w fun e w' => e = .returned (.int .i64 0) ∧ Below w.heap.size w w' := by
  have HB := Lib.hid ((Below.refl _ w).alloc (Nat.le_refl _) (Obj.cells #[.string n, .string d] 25))
  obtain ⟨W0, hW0⟩ : ∃ W0, w.alloc (Obj.cells #[.string n, .string d] 25) = W0 := ⟨_, rfl⟩
  have hk : W0.heap[w.heap.size]? = some (Obj.cells #[.string n, .string d] 25) := by rw [← hW0]; exact heap_alloc_new w _
  rw [hW0] at HB
  have b0 := Lib.cell_of_heap hk 0
  have b1 := Lib.cell_of_heap hk 1
  simp at b0 b1
  have HM := Lib.hid (fun W => rfCanonical_any n d ha hb W)
  clear hk ha hb
  have HC := Lib.hid hc
  clear hc
  go_enter Tryz.func134, Tryz.ntmps134
  go_wp2_with fail
  go_region_held3 (fun W => W.cell? ⟨w.heap.size, 0, none⟩ = some (.string n) ∧ W.cell? ⟨w.heap.size, 1, none⟩ = some (.string d))
    (refine ⟨?_, ?_⟩ <;> first | assumption | (go_simp; done))
    ((go_at_call 172; refine (HM.out W0.drew).mono ?_; rintro e w2 ⟨rfl, hb2⟩; unfold fenc; rw [← HC.out.1, ← HC.out.2]; have d0 : w2.cell? ⟨w.heap.size, 0, none⟩ = some (.string n) := (hb2.cell (cell_lt b0)).trans b0; have d1 : w2.cell? ⟨w.heap.size, 1, none⟩ = some (.string d) := (hb2.cell (cell_lt b1)).trans b1; have HB2 := Lib.hid (HB.out.drew.trans (hb2.mono HB.out.size)); clear hb2))
  all_goals (first | go_wp2_with fail | skip)
  all_goals (go_ret; exact ⟨rfl, HB2.out⟩)

set_option maxHeartbeats 2000000 in
theorem rfCheck_no (n d : ByteArray) (ha : n.size ≤ 16) (hb : d.size ≤ 16) (hc : ¬ CanQ n d) (w : World) :
    Calls Tryz.prog 134 #[.agg #[.string n, .string d]] w fun e w' => e = .returned (.int .i64 1) ∧ Below w.heap.size w w' := by
  have HB := Lib.hid ((Below.refl _ w).alloc (Nat.le_refl _) (Obj.cells #[.string n, .string d] 25))
  obtain ⟨W0, hW0⟩ : ∃ W0, w.alloc (Obj.cells #[.string n, .string d] 25) = W0 := ⟨_, rfl⟩
  have hk : W0.heap[w.heap.size]? = some (Obj.cells #[.string n, .string d] 25) := by rw [← hW0]; exact heap_alloc_new w _
  rw [hW0] at HB
  have b0 := Lib.cell_of_heap hk 0
  have b1 := Lib.cell_of_heap hk 1
  simp at b0 b1
  have HM := Lib.hid (fun W => rfCanonical_any n d ha hb W)
  clear hk ha hb
  have HC : Hid (¬ (n = I (fv n d).num ∧ d = dn (fv n d))) := hc
  clear hc
  by_cases hn : n = I (fv n d).num
  · have hd' : (d.toList == (dn (fv n d)).toList) = false := neq_toList (fun e => HC.out ⟨hn, e⟩)
    have hn' : (n.toList == (I (fv n d).num).toList) = true := by rw [← hn]; simp
    clear hn HC
    go_enter Tryz.func134, Tryz.ntmps134
    go_wp2_with fail
    go_region_held3 (fun W => W.cell? ⟨w.heap.size, 0, none⟩ = some (.string n) ∧ W.cell? ⟨w.heap.size, 1, none⟩ = some (.string d))
      (refine ⟨?_, ?_⟩ <;> first | assumption | (go_simp; done))
      ((go_at_call 172; refine (HM.out W0.drew).mono ?_; rintro e w2 ⟨rfl, hb2⟩; unfold fenc;  have d0 : w2.cell? ⟨w.heap.size, 0, none⟩ = some (.string n) := (hb2.cell (cell_lt b0)).trans b0; have d1 : w2.cell? ⟨w.heap.size, 1, none⟩ = some (.string d) := (hb2.cell (cell_lt b1)).trans b1; have HB2 := Lib.hid (HB.out.drew.trans (hb2.mono HB.out.size)); clear hb2))
    all_goals (first | go_wp2_with fail | skip)
    all_goals (go_ret; exact ⟨rfl, HB2.out⟩)
  · have hn' : (n.toList == (I (fv n d).num).toList) = false := neq_toList hn
    clear hn HC
    by_cases hd : d = dn (fv n d)
    · have hd' : (d.toList == (dn (fv n d)).toList) = true := by rw [← hd]; simp
      clear hd
      go_enter Tryz.func134, Tryz.ntmps134
      go_wp2_with fail
      go_region_held3 (fun W => W.cell? ⟨w.heap.size, 0, none⟩ = some (.string n) ∧ W.cell? ⟨w.heap.size, 1, none⟩ = some (.string d))
        (refine ⟨?_, ?_⟩ <;> first | assumption | (go_simp; done))
        ((go_at_call 172; refine (HM.out W0.drew).mono ?_; rintro e w2 ⟨rfl, hb2⟩; unfold fenc;  have d0 : w2.cell? ⟨w.heap.size, 0, none⟩ = some (.string n) := (hb2.cell (cell_lt b0)).trans b0; have d1 : w2.cell? ⟨w.heap.size, 1, none⟩ = some (.string d) := (hb2.cell (cell_lt b1)).trans b1; have HB2 := Lib.hid (HB.out.drew.trans (hb2.mono HB.out.size)); clear hb2))
      all_goals (first | go_wp2_with fail | skip)
      all_goals (go_ret; exact ⟨rfl, HB2.out⟩)
    · have hd' : (d.toList == (dn (fv n d)).toList) = false := neq_toList hd
      clear hd
      go_enter Tryz.func134, Tryz.ntmps134
      go_wp2_with fail
      go_region_held3 (fun W => W.cell? ⟨w.heap.size, 0, none⟩ = some (.string n) ∧ W.cell? ⟨w.heap.size, 1, none⟩ = some (.string d))
        (refine ⟨?_, ?_⟩ <;> first | assumption | (go_simp; done))
        ((go_at_call 172; refine (HM.out W0.drew).mono ?_; rintro e w2 ⟨rfl, hb2⟩; unfold fenc;  have d0 : w2.cell? ⟨w.heap.size, 0, none⟩ = some (.string n) := (hb2.cell (cell_lt b0)).trans b0; have d1 : w2.cell? ⟨w.heap.size, 1, none⟩ = some (.string d) := (hb2.cell (cell_lt b1)).trans b1; have HB2 := Lib.hid (HB.out.drew.trans (hb2.mono HB.out.size)); clear hb2))
      all_goals (first | go_wp2_with fail | skip)
      all_goals (go_ret; exact ⟨rfl, HB2.out⟩)
end Go.Proofs.YtpgjmdggblnfkaaGreatDoor
namespace Go.Proofs.YtpgjmdggblnfkaaGreatDoor
open Go.RowKit Tr Go.Shelf

theorem raw_small (n d : ByteArray) (ha : n.size ≤ 100) (hb : d.size ≤ 100) : (rawN n d).size ≤ 200 ∧ (rawD d).size ≤ 200 := by
  have hn : (vl n).natAbs < 10 ^ 100 := Nat.lt_of_lt_of_le (vl_lt n) (pow_mono ha)
  have hd : (vl d).natAbs < 10 ^ 100 := Nat.lt_of_lt_of_le (vl_lt d) (pow_mono hb)
  have z1 : (I (-vl n)).size ≤ 101 := I_size_le (by rw [Int.natAbs_neg]; exact hn)
  have z2 : (I (-vl d)).size ≤ 101 := I_size_le (by rw [Int.natAbs_neg]; exact hd)
  have z : one1.size = 1 := rfl
  unfold rawN rawD
  constructor
  · split <;> omega
  · split
    · omega
    · split <;> omega

set_option maxHeartbeats 2000000 in
theorem rfCompare_any (n d n' d' : ByteArray) (ha : n.size ≤ 100) (hb : d.size ≤ 100) (ha' : n'.size ≤ 100) (hb' : d'.size ≤ 100) (w : World) :
    Calls Tryz.prog 136 #[.agg #[.string n, .string d], .agg #[.string n', .string d']] w fun e w' => e = .returned (.int .i64 (cmpI (vl (rawN n d) * vl (rawD d')) (vl (rawN n' d') * vl (rawD d)))) ∧ Below w.heap.size w w' := by
  have r := raw_small n d ha hb
  have r' := raw_small n' d' ha' hb'
  have H1 := Lib.hid (fun W => rRaw_any n d (by omega) (by omega) W)
  have H2 := Lib.hid (fun W => rRaw_any n' d' (by omega) (by omega) W)
  have H3 := Lib.hid (fun W => rMul_any (rawN n d) (rawD d') (by omega) (by omega) W)
  have H4 := Lib.hid (fun W => rMul_any (rawN n' d') (rawD d) (by omega) (by omega) W)
  have hs1 : (I (vl (rawN n d) * vl (rawD d'))).size ≤ 1000000 := by
    have := I_size_le (mul_lt_pow (vl_lt (rawN n d)) (vl_lt (rawD d'))); omega
  have hs2 : (I (vl (rawN n' d') * vl (rawD d))).size ≤ 1000000 := by
    have := I_size_le (mul_lt_pow (vl_lt (rawN n' d')) (vl_lt (rawD d))); omega
  have H5 := fun W => rCompare_any _ _ hs1 hs2 W
  rw [vl_I, vl_I] at H5
  have H5 := Lib.hid H5
  clear hs1 hs2 r r' ha hb ha' hb'
  obtain ⟨W0, hW0, hb0, hs0, k0, k1⟩ := box2 w (.cells #[.string n, .string d] 25) (.cells #[.string n', .string d'] 25)
  have a0 := Lib.cell_of_heap k0 0
  have a1 := Lib.cell_of_heap k0 1
  have b0 := Lib.cell_of_heap k1 0
  have b1 := Lib.cell_of_heap k1 1
  simp at a0 a1 b0 b1
  have HB := Lib.hid hb0
  have HZ := Lib.hid hs0
  clear hb0 k0 k1 hs0
  go_enter Tryz.func136, Tryz.ntmps136
  go_wp2_with fail
  try rw [← hW0]
  refine (H1.out _).mono ?_
  rintro e w1 ⟨rfl, c1⟩
  have e0 := (c1.cell (cell_lt b0)).trans b0
  have e1 := (c1.cell (cell_lt b1)).trans b1
  have C1 := Lib.hid (HB.out.trans (c1.mono HB.out.size))
  clear c1 a0 a1 b0 b1 HB H1 hW0
  go_wp2_with fail
  refine (H2.out _).mono ?_
  rintro e w2 ⟨rfl, c2⟩
  have C2 := Lib.hid (C1.out.trans (c2.mono C1.out.size))
  clear c2 e0 e1 C1 H2
  go_wp2_with fail
  refine (H3.out _).mono ?_
  rintro e w3 ⟨rfl, c3⟩
  have C3 := Lib.hid (C2.out.trans (c3.mono C2.out.size))
  clear c3 C2 H3
  go_wp2_with fail
  refine (H4.out _).mono ?_
  rintro e w4 ⟨rfl, c4⟩
  have C4 := Lib.hid (C3.out.trans (c4.mono C3.out.size))
  clear c4 C3 H4
  go_wp2_with fail
  refine (H5.out _).mono ?_
  rintro e w5 ⟨rfl, rfl⟩
  go_wp2_with fail
  go_ret
  exact ⟨rfl, C4.out⟩

theorem cmpI_raw {n d : ByteArray} (hc : CanQ n d) : cmpI (vl (rawN n d) * vl (rawD ⟨#[]⟩)) (vl (rawN ⟨#[]⟩ ⟨#[]⟩) * vl (rawD d)) = cmpI (vl n) 0 := by
  have e0 : vl (⟨#[]⟩ : ByteArray) = 0 := by rw [zero_eq, vl_I]
  have e1 : vl one1 = 1 := by rw [one1_eq, vl_I]
  have hd : ¬ vl d < 0 := by
    rw [hc.2]
    unfold dn
    split
    · rw [e0]; omega
    · rw [vl_I]; omega
  have r1 : rawN n d = n := by unfold rawN; rw [if_neg hd]
  have r2 : rawD ⟨#[]⟩ = one1 := by unfold rawD; rw [if_pos e0]
  have r3 : rawN ⟨#[]⟩ ⟨#[]⟩ = ⟨#[]⟩ := by unfold rawN; rw [if_neg (by omega)]
  rw [r1, r2, r3, e0, e1, Int.mul_one, Int.zero_mul]
theorem rfSign_any (n d : ByteArray) (ha : n.size ≤ 100) (hb : d.size ≤ 100) (hc : CanQ n d) (w : World) :
    Calls Tryz.prog 79 #[.agg #[.string n, .string d]] w fun e w' => e = .returned (.int .i64 (cmpI (vl n) 0)) ∧ Below w.heap.size w w' := by
  have H := fun W => rfCompare_any n d ⟨#[]⟩ ⟨#[]⟩ ha hb (show 0 ≤ 100 by omega) (show 0 ≤ 100 by omega) W
  rw [cmpI_raw hc] at H
  have H := Lib.hid H
  have HB := Lib.hid ((Below.refl _ w).alloc (Nat.le_refl _) (Obj.cells #[.string n, .string d] 25))
  obtain ⟨W0, hW0⟩ : ∃ W0, w.alloc (Obj.cells #[.string n, .string d] 25) = W0 := ⟨_, rfl⟩
  have hk : W0.heap[w.heap.size]? = some (Obj.cells #[.string n, .string d] 25) := by rw [← hW0]; exact heap_alloc_new w _
  rw [hW0] at HB
  have c0 := Lib.cell_of_heap hk 0
  have c1 := Lib.cell_of_heap hk 1
  simp at c0 c1
  clear hk hc ha hb
  go_enter Tryz.func79, Tryz.ntmps79
  go_wp2_with fail
  refine (H.out _).mono ?_
  rintro e w1 ⟨rfl, h1⟩
  have HB1 := Lib.hid (HB.out.trans (h1.mono HB.out.size))
  clear h1
  go_wp2_with fail
  go_ret
  exact ⟨rfl, HB1.out⟩
end Go.Proofs.YtpgjmdggblnfkaaGreatDoor
