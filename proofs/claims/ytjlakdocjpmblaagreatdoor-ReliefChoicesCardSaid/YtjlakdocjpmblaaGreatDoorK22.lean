/-
  A region that draws its order, outside of a fence, by an invariant over what has come up.
  The walks of trancheref19.day, GreatOne, Check, Find (their yes: a valid lot, a small one, no such id).
  The walks of lot.isId, lot.Check on whatever is small: which answer. (Printed by gen_lot8.py.)
  The walks of trancheref19.number, Id, Check: which answer. (Printed by gen_ref32.py.)
  Fractions by their values; the walks of accrual.round, days, valid.
  The walk of accrual.exact, the rest.
  The iterator of accrual.amounts: it gives the exact amortizations of the lots of an instrument.
  The walk of accrual.sum over the amounts.
  The walks of accrual.check, checkOne, Amortized, Total, Book on what is valid. (Printed by gen_acc6.py.)
  The walks of trancheref19.Great, CheckAll of no lots; tranchelaw39.great, fine of no lots.
  The walks of trancheref19.Great, CheckAll; tranchelaw39.great, fine. (Printed by gen_ref22.py.)
  The walks of lot.CheckAll and trancheref19.CheckAll on whatever is small: which answer.
  Fractions: New, Neg, Compare (seats of layer 19).
  What a cut of a lot is worth, plainly.
  allocate.Share of a part of what is not negative.
  The walks of accrual.checkOne and Amortized on what is valid. (Printed by gen_acc9.py.)
  The walks of trancheref02.Sub, Canonical, New, Floor, Compare on canonical fractions of any length. (Printed by gen_ref30.py.)
  The walk of trancheref03.RoundTo, to the nearest integer. (Printed by gen_ref33.py.)
  The walk of trancheref19.CheckAll: which answer. (Printed by gen_ref41.py.)
-/
import Derived.Test.YtjlakdocjpmblaaGreatDoorK20
import Derived.Test.YtjlakdocjpmblaaGreatDoorK19
import Derived.Deep.DeepCutAuto
import Derived.Deep.RegionHeld3
import Derived.Test.YtjlakdocjpmblaaGreatDoorK21
import Derived.Test.YtjlakdocjpmblaaGreatDoorK17
import Derived.Test.YtjlakdocjpmblaaGreatDoorK15
import Derived.Test.YtjlakdocjpmblaaGreatDoorK14
set_option linter.unusedVariables false
set_option linter.unusedSimpArgs false
set_option maxHeartbeats 16000000
set_option maxRecDepth 100000
namespace Go.Proofs.YtjlakdocjpmblaaGreatDoor
open Go.RowKit Tr Go.Shelf
variable {P : Program} {md : Region.Mode} {ops : Array Oper} {Q : Exit → Act → World → Prop}
theorem wpAny_inv (J : Array Bool → Act → World → Prop)
 (hstep : ∀ L a w, J L a w → ∀ i ∈ Region.ready md ops L, wpOp P ops Q i (J (L.setIfInBounds i true)) a w)
 (hdone : ∀ L a w, J L a w → Region.ready md ops L = [] → Q .normal a w) :
 ∀ (fuel : Nat) (L : Array Bool) (a : Act) (w : World), J L a w → waits L.toList ≤ fuel → wpAny P md ops Q fuel L a w := by
 intro fuel
 induction fuel with
 | zero =>
   intro L a w hj hw
   have hr : Region.ready md ops L = [] := by
    refine List.eq_nil_iff_forall_not_mem.2 fun i hi => ?_
    exact waits_zero L.toList i (by omega) (getD_false (mem_ready.1 hi).1)
   exact ⟨hr, hdone L a w hj hr⟩
 | succ fuel ih =>
   intro L a w hj hw
   refine ⟨fun hr => hdone L a w hj hr, fun i hi => wpOp_mono (fun a' w' h' => ih _ a' w' h' ?_) (hstep L a w hj i hi)⟩
   have := waits_set L.toList i (getD_false (mem_ready.1 hi).1)
   rw [Array.toList_setIfInBounds]
   omega
end Go.Proofs.YtjlakdocjpmblaaGreatDoor
namespace Go.Proofs.YtjlakdocjpmblaaGreatDoor
open Go.RowKit Tr Go.Shelf
def Lot.tiny (l : Lot) : Prop := l.qty.size ≤ 13 ∧ l.cost.size ≤ 13 ∧ l.used.size ≤ 13 ∧ l.id.size ≤ 40 ∧ l.inst.size ≤ 40
theorem Lot.tiny.sized {l : Lot} (h : l.tiny) : l.sized := by
 obtain ⟨h1, h2, h3, h4, h5⟩ := h
 exact ⟨by omega, by omega, by omega, by omega, by omega⟩
theorem rday19_any (d : Int) (w : World) :
 Calls Tryz.prog 104 #[.int .i64 d] w fun e w' => e = .returned (.bool (decide (okDay d))) ∧ w = w' := by
 go_enter Tryz.func104, Tryz.ntmps104
 go_wp2_with fail
 all_goals (go_ret; refine ⟨?_, rfl⟩; first | (rw [decide_eq_true (p := okDay d) (by unfold okDay; omega)]; rfl) | (rw [decide_eq_false (p := okDay d) (by unfold okDay; omega)]; rfl) | (simp [okDay, *]; done))
theorem lbox (l : Lot) (w : World) : ∃ W0, w.alloc (.cells l.cells 48) = W0 ∧ Below w.heap.size w W0 ∧ W0.heap[w.heap.size]? = some (.cells l.cells 48) :=
 ⟨_, rfl, (Below.refl _ w).alloc (Nat.le_refl _) _, heap_alloc_new w _⟩
theorem rGreatOne_any (l : Lot) (w : World) : Calls Tryz.prog 63 #[l.enc] w (GreatPost w l.tiny) := by
 obtain ⟨W0, hW0, hB0, hk⟩ := lbox l w
 obtain ⟨c0, c1, c2, c3, c4, c5, c6⟩ := cells7 hk
 have HB := Lib.hid hB0
 clear hB0 hk
 go_enter Tryz.func63, Tryz.ntmps63
 go_wp2_with fail
 refine (rLong_any l.qty _).mono ?_
 rintro e w1 ⟨rfl, rfl⟩
 by_cases h1 : 13 < l.qty.size
 ·rw [decide_eq_true h1]
  go_wp2_with fail
  go_ret
  exact ⟨true, rfl, fun h => (by cases h), HB.out⟩
 rw [decide_eq_false h1]
 go_wp2_with fail
 refine (rLong_any l.cost _).mono ?_
 rintro e w1 ⟨rfl, rfl⟩
 by_cases h2 : 13 < l.cost.size
 ·rw [decide_eq_true h2]
  go_wp2_with fail
  go_ret
  exact ⟨true, rfl, fun h => (by cases h), HB.out⟩
 rw [decide_eq_false h2]
 go_wp2_with fail
 refine (rLong_any l.used _).mono ?_
 rintro e w1 ⟨rfl, rfl⟩
 by_cases h3 : 13 < l.used.size
 ·rw [decide_eq_true h3]
  go_wp2_with fail
  go_ret
  exact ⟨true, rfl, fun h => (by cases h), HB.out⟩
 rw [decide_eq_false h3]
 by_cases h4 : 40 < l.id.size
 ·have t4 : decide ((40 : Int) < (l.id.size : Int)) = true := decide_eq_true (by omega)
  go_wp2_with fail
  go_ret
  exact ⟨true, rfl, fun h => (by cases h), HB.out⟩
 have t4 : decide ((40 : Int) < (l.id.size : Int)) = false := decide_eq_false (by omega)
 by_cases h5 : 40 < l.inst.size
 ·have t5 : decide ((40 : Int) < (l.inst.size : Int)) = true := decide_eq_true (by omega)
  go_wp2_with fail
  go_ret
  exact ⟨true, rfl, fun h => (by cases h), HB.out⟩
 have t5 : decide ((40 : Int) < (l.inst.size : Int)) = false := decide_eq_false (by omega)
 go_wp2_with fail
 go_ret
 exact ⟨false, rfl, fun _ => ⟨by omega, by omega, by omega, by omega, by omega⟩, HB.out⟩
theorem cmpI_pos {z : Int} (h : 0 < z) : decide (cmpI z 0 ≤ 0) = false := decide_eq_false (by rw [cmpI_le]; omega)
theorem cmpI_npos {z : Int} (h : ¬ 0 < z) : decide (cmpI z 0 ≤ 0) = true := decide_eq_true (by rw [cmpI_le]; omega)
theorem cmpI_neg {z : Int} (h : z < 0) : decide (cmpI z 0 < 0) = true := decide_eq_true (by rw [cmpI_lt]; omega)
theorem cmpI_nneg {z : Int} (h : ¬ z < 0) : decide (cmpI z 0 < 0) = false := decide_eq_false (by rw [cmpI_lt]; omega)
theorem bytes_eq (a b : ByteArray) : (a.toList == b.toList) = decide (a = b) := by
 by_cases h : a = b
 ·subst h; simp
 ·rw [decide_eq_false h]; exact neq_toList h
def findR : List Lot → ByteArray → Nat → Nat × Bool
 | [], _, _ => (0, false)
 | l :: r, id, k => if l.id = id then (k, true) else findR r id (k + 1)
theorem findR_skip : ∀ (a b : List Lot) (id : ByteArray) (k : Nat), (∀ x ∈ a, x.id ≠ id) → findR (a ++ b) id k = findR b id (k + a.length)
 | [], b, id, k, _ => rfl
 | l :: r, b, id, k, h => by
   rw [List.cons_append, findR, if_neg (h l (List.mem_cons_self ..)), findR_skip r b id (k + 1) (fun x hx => h x (List.mem_cons_of_mem _ hx)), List.length_cons]
   congr 1
   omega
theorem findR_none {a : List Lot} {id : ByteArray} (h : ∀ x ∈ a, x.id ≠ id) (k : Nat) : findR a id k = (0, false) := by
 have := findR_skip a [] id k h
 rw [List.append_nil] at this
 rw [this]; rfl
theorem findR_false : ∀ (a : List Lot) (id : ByteArray) (k : Nat), (findR a id k).2 = false → ∀ x ∈ a, x.id ≠ id
 | [], _, _, _, _, hx => by cases hx
 | l :: r, id, k, h, x, hx => by
   rw [findR] at h
   by_cases e : l.id = id
   ·rw [if_pos e] at h; cases h
   ·rw [if_neg e] at h
    rcases List.mem_cons.1 hx with rfl | hx
    ·exact e
    ·exact findR_false r id (k + 1) h x hx
theorem findR_hit {ls : List Lot} {m k : Nat} {l : Lot} {id : ByteArray} (hk : k < m) (hm : m ≤ ls.length) (hs : ls.take (k + 1) = ls.take k ++ [l]) (hn : ∀ x ∈ ls.take k, x.id ≠ id) (h : l.id = id) : findR (ls.take m) id 0 = (k, true) := by
 have e : ls.take m = ls.take k ++ (l :: (ls.take m).drop (k + 1)) := by
  have := List.take_append_drop (k + 1) (ls.take m)
  rw [List.take_take, show min (k + 1) m = k + 1 by omega, hs] at this
  rw [List.append_assoc] at this
  exact this.symm
 rw [e, findR_skip _ _ _ _ hn, findR, if_pos h, List.length_take]
 congr 1
 omega
theorem rFind_any (A : Option Addr) (ls : List Lot) (m c : Nat) (hm : m ≤ ls.length) (hl : ls.length ≤ 1000000) (id : ByteArray) (w : World) (hR : RdL w A ls) :
 Calls Tryz.prog 51 #[.slice A m c, .string id] w fun e w' => e = .returned (.tuple #[.int .i64 ((findR (ls.take m) id 0).1 : Int), .bool (findR (ls.take m) id 0).2]) ∧ w = w' := by
 have HR := Lib.hid hR
 clear hR
 go_enter Tryz.func51, Tryz.ntmps51
 go_wp2_with fail
 go_loop [6] (fun v => ∃ k : Nat, v = .int .i64 (k : Int) ∧ k ≤ m ∧ ∀ x ∈ ls.take k, x.id ≠ id) (fun v => m - (intOf v).toNat)
 case atStart => exact ⟨0, rfl, by omega, fun x hx => by simp at hx⟩
 case round =>
  obtain ⟨k, rfl, hk, hx⟩ := hrel
  have HX := Lib.hid hx
  clear hx
  rcases Nat.lt_or_ge k m with hlt | hge
  ·have hlt' : k < ls.length := by omega
   obtain ⟨l, hl'⟩ : ∃ l, ls[k]? = some l := ⟨_, List.getElem?_eq_getElem hlt'⟩
   obtain ⟨ad, rfl, had, hcell⟩ := HR.out (by intro e; rw [e] at hlt'; cases hlt')
   have hcx : decide ((k : Int) < (m : Int)) = true := by simp; omega
   obtain ⟨c0, c1, c2, c3, c4, c5, c6⟩ := hcell k l hl'
   have HSN : Hid (ls.take (k + 1) = ls.take k ++ [l]) := by
    rw [Hid, List.take_succ_eq_append_getElem hlt']
    congr 2
    rw [List.getElem?_eq_getElem hlt'] at hl'
    exact Option.some.inj hl'
   clear hcell hl'
   have e2 := bytes_eq l.id id
   by_cases h1 : l.id = id
   ·rw [decide_eq_true h1] at e2
    have H1 := Lib.hid h1
    clear h1
    go_wp2_with fail
    go_ret2
    refine ⟨?_, rfl⟩
    rw [findR_hit hlt hm HSN.out HX.out H1.out]
    rfl
   ·rw [decide_eq_false h1] at e2
    have H1 := Lib.hid h1
    clear h1
    go_wp2_with fail
    go_round
    case rel =>
     refine ⟨k + 1, by go_num, by omega, fun x hx => ?_⟩
     rw [HSN.out, List.mem_append] at hx
     rcases hx with hx | hx
     ·exact HX.out x hx
     ·rw [List.mem_singleton] at hx; subst hx; exact H1.out
    case measure => simp [intOf]; omega
  ·have hcx : decide ((k : Int) < (m : Int)) = false := by simp; omega
   have hkm : k = m := by omega
   subst hkm
   go_wp2_with fail
   go_ret2
   refine ⟨?_, rfl⟩
   rw [findR_none HX.out]
   rfl
theorem itoa_nat {n : Nat} (h : 0 < n) : Lib.itoa (n : Int) = digits n := by
 unfold Lib.itoa
 rw [if_neg (by omega), Int.toNat_natCast]
 have := dec_pos h
 unfold dec at this
 exact this
theorem digits_head {n : Nat} (h : 0 < n) : (digits n).getD 0 0 ≠ 48 := by
 have h1 := (digits_dval (digits n) (all_digits n)).1
 rw [dval_digits] at h1
 have h2 := digits_ne_nil h
 match hd : digits n, h2 with
 | b :: r, _ =>
   rw [hd] at h1
   intro e
   have hb : b = 48 := by simpa using e
   subst hb
   have h3 : strip (48 :: r) = strip r := rfl
   rw [h3] at h1
   have h4 : (strip r).length ≤ r.length := by unfold strip; exact (List.dropWhile_sublist _).length_le
   have h5 := congrArg List.length h1
   simp at h5
   omega
theorem numB_itoa {v : Int} {t : List UInt8} (h1 : 1 ≤ v) (h2 : v ≤ 9999) (h : Lib.itoa v = t) : numB t = true := by
 obtain ⟨n, rfl⟩ : ∃ n : Nat, v = (n : Int) := ⟨v.toNat, by omega⟩
 have hn : 0 < n := by omega
 rw [itoa_nat hn] at h
 subst h
 refine numB_of ?_ ?_ (all_digits n) (digits_head hn)
 ·exact List.length_pos_iff.2 (digits_ne_nil hn)
 ·exact (digits_length_le_iff 4 n).2 (by omega)
theorem cut_len (s p : List UInt8) : (Lib.cut s p).1.length ≤ s.length ∧ (Lib.cut s p).2.1.length ≤ s.length := by
 unfold Lib.cut
 split
 ·exact ⟨by simp only [List.length_take]; omega, by simp only [List.length_drop]; omega⟩
 ·exact ⟨Nat.le_refl _, by simp⟩
theorem isId_no (s : ByteArray) (hs : s.size ≤ 1000) (h : idB s = false) (w : World) (ht : Tabs w) :
 Calls Tryz.prog 92 #[.string s] w fun e w' => e = .returned (.bool false) ∧ Below w.heap.size w w' := by
 obtain ⟨m, hm⟩ := ht.maxLen
 have HC := Lib.hid (Tryz.strings_Cut s ⟨#[47]⟩ m w (by omega) hm)
 have hlc : (Lib.cut s.data.toList [47]).1.length ≤ 1000 ∧ (Lib.cut s.data.toList [47]).2.1.length ≤ 1000 := by
  have hl : s.data.toList.length = s.size := (Lib.size_eq s).symm
  have := cut_len s.data.toList [47]
  omega
 unfold idB at h
 rw [Bool.and_eq_false_iff] at h
 rw [show (⟨#[47]⟩ : ByteArray).data.toList = [47] from rfl] at HC
 generalize Lib.cut s.data.toList [47] = c at HC h hlc
 obtain ⟨c1, c2, c3⟩ := c
 dsimp only at HC h hlc
 have hz : (bs c2).size = c2.length := bs_size _
 have hz1 : (bs c1).size = c1.length := bs_size _
 have hd2 : (bs c2).data.toList = c2 := by unfold bs; simp
 have H := Lib.hid h
 have HT := Lib.hid ht
 have HN := Lib.hid (fun W => Name_any (bs c1) (by omega) W)
 rw [show (ByteArray.mk c1.toArray) = bs c1 from rfl, show (ByteArray.mk c2.toArray) = bs c2 from rfl] at HC
 have HL := Lib.hid (show (bs c2).size ≤ 1000 by omega)
 have HD := Lib.hid hd2
 clear hm h ht hz hz1 hlc hd2
 go_enter Tryz.func92, Tryz.ntmps92
 go_wp2_with fail
 refine HC.out.mono ?_
 rintro e w1 ⟨rfl, k, hw1⟩
 have B1 : Below w.heap.size w w1 := by rw [hw1]; exact below_drewN (Below.refl _ _) k
 have HB1 := Lib.hid B1
 clear hw1 B1 HC
 go_wp2_with fail
 cases hat : Lib.atoiAll (bs c2).data.toList with
 | range =>
   obtain ⟨tp, p, hv⟩ := (HT.out.below HB1.out).rng
   have HA := Lib.hid (Tryz.strconv_Atoi_range_var (bs c2) (by have := HL.out; omega) hat tp p w1 hv)
   clear hv hat
   refine HA.out.mono ?_
   rintro e w2 ⟨N, rfl, _, _, b2⟩
   have HB2 := Lib.hid (HB1.out.trans (b2.mono HB1.out.size))
   clear b2 HA
   go_wp2_with fail
   go_ret
   exact ⟨rfl, HB2.out⟩
 | ok v =>
   have HA := Lib.hid (Tryz.strconv_Atoi_ok (bs c2) (by have := HL.out; omega) v hat w1)
   clear hat
   refine HA.out.mono ?_
   rintro e w2 ⟨rfl, hw2⟩
   have B2 : Below w.heap.size w w2 := by
    rcases hw2 with rfl | ⟨t, rfl⟩
    ·exact HB1.out
    ·exact HB1.out.trans ((Lib.bytesWorld_below _ _ _).mono HB1.out.size)
   have HB2 := Lib.hid B2
   clear hw2 B2 HA HB1
   by_cases h1 : 1 ≤ v
   case neg =>
    have t1 : decide (1 ≤ v) = false := decide_eq_false h1
    clear h1
    go_wp2_with fail
    go_ret
    exact ⟨rfl, HB2.out⟩
   by_cases h2 : v ≤ 9999
   case neg =>
    have t1 : decide (1 ≤ v) = true := decide_eq_true h1
    have t2 : decide (v ≤ 9999) = false := decide_eq_false h2
    clear h1 h2
    go_wp2_with fail
    go_ret
    exact ⟨rfl, HB2.out⟩
   have t1 : decide (1 ≤ v) = true := decide_eq_true h1
   have t2 : decide (v ≤ 9999) = true := decide_eq_true h2
   have HI := Lib.hid (fun W hW => Itoa_any v (by omega) (by omega) W hW)
   have HV := Lib.hid (And.intro h1 h2)
   clear h1 h2
   go_wp2_with fail
   refine (HI.out _ (HT.out.below HB2.out)).mono ?_
   rintro e w3 ⟨rfl, b3⟩
   have HB3 := Lib.hid (HB2.out.trans (b3.mono HB2.out.size))
   clear b3 HB2
   by_cases h3 : bs (Lib.itoa v) = bs c2
   case neg =>
    have t3 : ((bs (Lib.itoa v)).toList == (bs c2).toList) = false := neq_toList h3
    clear h3
    go_wp2_with fail
    go_ret
    exact ⟨rfl, HB3.out⟩
   have hnum : numB c2 = true := by
    refine numB_itoa HV.out.1 HV.out.2 ?_
    have := congrArg (fun b : ByteArray => b.data.toList) h3
    simpa [bs] using this
   have hnm : nameOk (bs c1) = false := by
    rcases H.out with h | h
    ·rw [hnum] at h; cases h
    ·exact h
   rw [hnm] at HN
   rw [h3]
   clear h3 hnum hnm H
   go_wp2_with fail
   refine (HN.out _).mono ?_
   rintro e w4 ⟨rfl, b4⟩
   have HB4 := Lib.hid (HB3.out.trans (b4.mono HB3.out.size))
   clear b4 HB3
   go_wp2_with fail
   go_ret
   exact ⟨rfl, HB4.out⟩
 | _ =>
   obtain ⟨tp, p, hv⟩ := (HT.out.below HB1.out).syn
   have HA := Lib.hid (Tryz.strconv_Atoi_syntax_var (bs c2) (by have := HL.out; omega) (fun v h => by rw [hat] at h; cases h) (fun h => by rw [hat] at h; cases h) tp p w1 hv)
   clear hv hat
   refine HA.out.mono ?_
   rintro e w2 ⟨N, rfl, _, _, b2⟩
   have HB2 := Lib.hid (HB1.out.trans (b2.mono HB1.out.size))
   clear b2 HA
   go_wp2_with fail
   go_ret
   exact ⟨rfl, HB2.out⟩
theorem isId_any (s : ByteArray) (hs : s.size ≤ 1000) (w : World) (ht : Tabs w) :
 Calls Tryz.prog 92 #[.string s] w fun e w' => e = .returned (.bool (idB s)) ∧ Below w.heap.size w w' := by
 cases h : idB s
 ·exact isId_no s hs h w ht
 ·exact isId_ok s hs h w ht
open Classical in
noncomputable def lchk (l : Lot) : Int :=
 if idB l.id = false ∨ nameOk l.inst = false then 23
 else if ¬ okDay l.acq ∨ ¬ okDay l.opn then 13
 else if l.opn < l.acq then 8
 else if ¬ Can l.qty ∨ ¬ Can l.cost ∨ ¬ Can l.used then 1
 else if ¬ 0 < vl l.qty ∨ vl l.cost < 0 ∨ (l.used ≠ ⟨#[]⟩ ∧ l.used ≠ l.qty) then 2 else 0
theorem lchk_zero {l : Lot} : lchk l = 0 ↔ l.ok := by
 unfold lchk
 constructor
 ·intro h
  split at h
  ·cases h
  rename_i a1
  split at h
  ·cases h
  rename_i a2
  split at h
  ·cases h
  rename_i a3
  split at h
  ·cases h
  rename_i a4
  split at h
  ·cases h
  rename_i a5
  simp only [not_or, Bool.not_eq_false, Classical.not_not, not_and] at a1 a2 a4 a5
  refine ⟨a1.1, a1.2, a2.1, a2.2, by omega, a4.1, a4.2.1, a4.2.2, a5.1, by omega, ?_⟩
  rcases Classical.em (l.used = ⟨#[]⟩) with h | h
  ·exact .inl h
  ·exact .inr (a5.2.2 h)
 ·intro h
  have b1 : ¬ (idB l.id = false ∨ nameOk l.inst = false) := by rw [h.id, h.inst]; simp
  have b2 : ¬ (¬ okDay l.acq ∨ ¬ okDay l.opn) := by intro x; rcases x with x | x; exact x h.acq; exact x h.opn
  have b3 : ¬ l.opn < l.acq := by have := h.ord; omega
  have b4 : ¬ (¬ Can l.qty ∨ ¬ Can l.cost ∨ ¬ Can l.used) := by intro x; rcases x with x | x | x; exact x h.cq; exact x h.cc; exact x h.cu
  have b5 : ¬ (¬ 0 < vl l.qty ∨ vl l.cost < 0 ∨ (l.used ≠ ⟨#[]⟩ ∧ l.used ≠ l.qty)) := by
   intro x
   rcases x with x | x | x
   ·exact x h.pq
   ·have := h.pc; omega
   ·rcases h.us with u | u
    ·exact x.1 u
    ·exact x.2 u
  rw [if_neg b1, if_neg b2, if_neg b3, if_neg b4, if_neg b5]
theorem lchk_23 {l : Lot} (h : idB l.id = false ∨ nameOk l.inst = false) : lchk l = 23 := by unfold lchk; rw [if_pos h]
theorem lchk_13 {l : Lot} (a : idB l.id = true) (b : nameOk l.inst = true) (h : ¬ okDay l.acq ∨ ¬ okDay l.opn) : lchk l = 13 := by unfold lchk; rw [if_neg (by rw [a, b]; simp), if_pos h]
theorem lchk_8 {l : Lot} (a : idB l.id = true) (b : nameOk l.inst = true) (c : okDay l.acq) (d : okDay l.opn) (h : l.opn < l.acq) : lchk l = 8 := by
 unfold lchk; rw [if_neg (by rw [a, b]; simp), if_neg (by intro x; rcases x with x | x; exact x c; exact x d), if_pos h]
theorem lchk_1 {l : Lot} (a : idB l.id = true) (b : nameOk l.inst = true) (c : okDay l.acq) (d : okDay l.opn) (e : l.acq ≤ l.opn) (h : ¬ Can l.qty ∨ ¬ Can l.cost ∨ ¬ Can l.used) : lchk l = 1 := by
 unfold lchk; rw [if_neg (by rw [a, b]; simp), if_neg (by intro x; rcases x with x | x; exact x c; exact x d), if_neg (by omega), if_pos h]
theorem lchk_2 {l : Lot} (a : idB l.id = true) (b : nameOk l.inst = true) (c : okDay l.acq) (d : okDay l.opn) (e : l.acq ≤ l.opn) (f : Can l.qty) (g : Can l.cost) (i : Can l.used) (h : ¬ 0 < vl l.qty ∨ vl l.cost < 0 ∨ (l.used ≠ ⟨#[]⟩ ∧ l.used ≠ l.qty)) : lchk l = 2 := by
 unfold lchk; rw [if_neg (by rw [a, b]; simp), if_neg (by intro x; rcases x with x | x; exact x c; exact x d), if_neg (by omega), if_neg (by intro x; rcases x with x | x | x; exact x f; exact x g; exact x i), if_pos h]
theorem lCheck_any (l : Lot) (hs : l.sized) (w : World) (ht : Tabs w) :
 Calls Tryz.prog 64 #[l.enc] w fun e w' => e = .returned (.int .i64 (lchk l)) ∧ Below w.heap.size w w' := by
 obtain ⟨W0, hW0⟩ : ∃ W0, w.alloc (.cells l.cells 48) = W0 := ⟨_, rfl⟩
 have hk : LotBox W0 w.heap.size l := by rw [← hW0]; exact heap_alloc_new w _
 have HB : Hid (Below w.heap.size w W0) := by rw [← hW0]; exact (Below.refl _ w).alloc (Nat.le_refl _) _
 obtain ⟨c0, c1, c2, c3, c4, c5, c6⟩ := cells7 hk
 have HK0 := Lib.hid hk
 have HT := Lib.hid ht
 obtain ⟨z1, z2, z3, z4, z5⟩ := hs
 have S1 := Lib.hid (fun W (hW : Tabs W) => isId_any l.id (by omega) W hW)
 have S2 := Lib.hid (fun W => Name_any l.inst (by omega) W)
 have Y1 := Lib.hid (fun (h : Can l.qty) W => Check_yes l.qty W (by omega) h)
 have X1 := Lib.hid (fun (h : ¬ Can l.qty) W => Check_no l.qty W (by omega) h)
 have Y2 := Lib.hid (fun (h : Can l.cost) W => Check_yes l.cost W (by omega) h)
 have X2 := Lib.hid (fun (h : ¬ Can l.cost) W => Check_no l.cost W (by omega) h)
 have Y3 := Lib.hid (fun (h : Can l.used) W => Check_yes l.used W (by omega) h)
 have X3 := Lib.hid (fun (h : ¬ Can l.used) W => Check_no l.used W (by omega) h)
 have M1 := Lib.hid (fun W => Compare_any l.qty ⟨#[]⟩ W (by omega) (by show 0 ≤ _; omega))
 have M2 := Lib.hid (fun W => Compare_any l.cost ⟨#[]⟩ W (by omega) (by show 0 ≤ _; omega))
 rw [show vl (⟨#[]⟩ : ByteArray) = 0 from by rw [zero_eq, vl_I]] at M1 M2
 clear ht hk z1 z2 z3 z4 z5
 unfold Lot.enc Lot.cells at *
 go_enter Tryz.func64, Tryz.ntmps64
 go_wp2_with fail
 refine (S1.out W0 (HT.out.below HB.out)).mono ?_
 rintro e w1 ⟨rfl, b1⟩
 have hk1 := HK0.out.below b1
 replace HB := Lib.hid (HB.out.trans (b1.mono HB.out.size))
 clear c0 c1 c2 c3 c4 c5 c6
 obtain ⟨c0, c1, c2, c3, c4, c5, c6⟩ := cells7 hk1
 have HK1 := Lib.hid hk1
 clear b1 S1 hk1 HK0 hW0
 cases hid : idB l.id
 ·have H := Lib.hid hid
  clear hid
  go_wp2_with fail
  go_ret
  exact ⟨by rw [lchk_23 (.inl H.out)]; rfl, HB.out⟩
 have G1 := Lib.hid hid
 clear hid
 go_wp2_with fail
 refine (S2.out w1).mono ?_
 rintro e w2 ⟨rfl, b2⟩
 have hk2 := HK1.out.below b2
 replace HB := Lib.hid (HB.out.trans (b2.mono HB.out.size))
 clear c0 c1 c2 c3 c4 c5 c6
 obtain ⟨c0, c1, c2, c3, c4, c5, c6⟩ := cells7 hk2
 have HK2 := Lib.hid hk2
 clear b2 S2 hk2 HK1
 cases hnm : nameOk l.inst
 ·have H := Lib.hid hnm
  clear hnm
  go_wp2_with fail
  go_ret
  exact ⟨by rw [lchk_23 (.inr H.out)]; rfl, HB.out⟩
 have G2 := Lib.hid hnm
 clear hnm
 go_wp2_with fail
 refine (lvalid_any l.acq w2).mono ?_
 rintro e w3 ⟨rfl, rfl⟩
 by_cases h3 : okDay l.acq
 case neg =>
  rw [decide_eq_false h3]
  have H := Lib.hid h3
  clear h3
  go_wp2_with fail
  go_ret
  exact ⟨by rw [lchk_13 G1.out G2.out (.inl H.out)]; rfl, HB.out⟩
 rw [decide_eq_true h3]
 have G3 := Lib.hid h3
 clear h3
 go_wp2_with fail
 refine (lvalid_any l.opn _).mono ?_
 rintro e w4 ⟨rfl, rfl⟩
 by_cases h4 : okDay l.opn
 case neg =>
  rw [decide_eq_false h4]
  have H := Lib.hid h4
  clear h4
  go_wp2_with fail
  go_ret
  exact ⟨by rw [lchk_13 G1.out G2.out (.inr H.out)]; rfl, HB.out⟩
 rw [decide_eq_true h4]
 have G4 := Lib.hid h4
 clear h4
 by_cases h5 : l.opn < l.acq
 ·have t5 : decide (l.opn < l.acq) = true := decide_eq_true h5
  have H := Lib.hid h5
  clear h5
  go_wp2_with fail
  go_ret
  exact ⟨by rw [lchk_8 G1.out G2.out G3.out G4.out H.out]; rfl, HB.out⟩
 have t5 : decide (l.opn < l.acq) = false := decide_eq_false h5
 have G5 := Lib.hid (show l.acq ≤ l.opn by omega)
 clear h5
 obtain ⟨W5, hW5⟩ : ∃ W5, w4.alloc (.cells (u3Cells l) 23) = W5 := ⟨_, rfl⟩
 have b5 : Below w4.heap.size w4 W5 := by rw [← hW5]; exact (Below.refl _ w4).alloc (Nat.le_refl _) _
 have HS5 : Hid (LLoop w w4.heap.size l W5) := ⟨by rw [← hW5]; exact heap_alloc_new w4 _, HK2.out.below b5, HB.out.trans (b5.mono HB.out.size)⟩
 clear b5 HK2 HB
 unfold u3Cells at hW5
 go_wp2_with fail
 go_loopw [38] (fun v wx => ∃ k : Nat, v = .int .i64 (k : Int) ∧ k ≤ 3 ∧ (1 ≤ k → Can l.qty) ∧ (2 ≤ k → Can l.cost) ∧ (3 ≤ k → Can l.used) ∧ LLoop w w4.heap.size l wx) (fun v _ => 3 - (intOf v).toNat)
 case atStart => exact ⟨0, rfl, by omega, fun h => by omega, fun h => by omega, fun h => by omega, HS5.out⟩
 case round =>
  obtain ⟨k, rfl, hk, k1, k2, k3, hL⟩ := hrel
  clear HS5 hW5
  clear c0 c1 c2 c3 c4 c5 c6
  have K1 := Lib.hid k1
  have K2 := Lib.hid k2
  have K3 := Lib.hid k3
  clear k1 k2 k3
  have n0 := Lib.cell_of_heap hL.ns 0
  have n1 := Lib.cell_of_heap hL.ns 1
  have n2 := Lib.cell_of_heap hL.ns 2
  simp [u3Cells] at n0 n1 n2
  obtain ⟨c0, c1, c2, c3, c4, c5, c6⟩ := cells7 hL.ib
  have HL := Lib.hid hL
  clear hL
  rcases (show k = 0 ∨ k = 1 ∨ k = 2 ∨ k = 3 from by omega) with rfl | rfl | rfl | rfl
  ·by_cases hc : Can l.qty
   ·have H := Lib.hid hc
    clear hc
    go_wp2_with fail
    refine (Y1.out H.out _).mono ?_
    rintro e w6 ⟨rfl, b6⟩
    have HL6 := Lib.hid (HL.out.below b6)
    clear b6
    go_wp2_with fail
    go_roundw
    case rel => exact ⟨1, rfl, by omega, (fun _ => H.out), (fun h => by omega), (fun h => by omega), HL6.out⟩
    case measure => simp [intOf]
   ·have H := Lib.hid hc
    clear hc
    go_wp2_with fail
    refine (X1.out H.out _).mono ?_
    rintro e w6 ⟨rfl, b6⟩
    have HB := Lib.hid (HL.out.below b6).be
    clear b6
    go_wp2_with fail
    go_ret
    exact ⟨by rw [lchk_1 G1.out G2.out G3.out G4.out G5.out (.inl H.out)]; rfl, HB.out⟩
  ·by_cases hc : Can l.cost
   ·have H := Lib.hid hc
    clear hc
    go_wp2_with fail
    refine (Y2.out H.out _).mono ?_
    rintro e w6 ⟨rfl, b6⟩
    have HL6 := Lib.hid (HL.out.below b6)
    clear b6
    go_wp2_with fail
    go_roundw
    case rel => exact ⟨2, rfl, by omega, (fun _ => K1.out (by omega)), (fun _ => H.out), (fun h => by omega), HL6.out⟩
    case measure => simp [intOf]
   ·have H := Lib.hid hc
    clear hc
    go_wp2_with fail
    refine (X2.out H.out _).mono ?_
    rintro e w6 ⟨rfl, b6⟩
    have HB := Lib.hid (HL.out.below b6).be
    clear b6
    go_wp2_with fail
    go_ret
    exact ⟨by rw [lchk_1 G1.out G2.out G3.out G4.out G5.out (.inr (.inl H.out))]; rfl, HB.out⟩
  ·by_cases hc : Can l.used
   ·have H := Lib.hid hc
    clear hc
    go_wp2_with fail
    refine (Y3.out H.out _).mono ?_
    rintro e w6 ⟨rfl, b6⟩
    have HL6 := Lib.hid (HL.out.below b6)
    clear b6
    go_wp2_with fail
    go_roundw
    case rel => exact ⟨3, rfl, by omega, (fun _ => K1.out (by omega)), (fun _ => K2.out (by omega)), (fun _ => H.out), HL6.out⟩
    case measure => simp [intOf]
   ·have H := Lib.hid hc
    clear hc
    go_wp2_with fail
    refine (X3.out H.out _).mono ?_
    rintro e w6 ⟨rfl, b6⟩
    have HB := Lib.hid (HL.out.below b6).be
    clear b6
    go_wp2_with fail
    go_ret
    exact ⟨by rw [lchk_1 G1.out G2.out G3.out G4.out G5.out (.inr (.inr H.out))]; rfl, HB.out⟩
  ·go_wp2_with fail
   refine (M1.out _).mono ?_
   rintro e w6 ⟨rfl, b6⟩
   have hL6 := HL.out.below b6
   clear c0 c1 c2 c3 c4 c5 c6
   clear n0 n1 n2
   obtain ⟨c0, c1, c2, c3, c4, c5, c6⟩ := cells7 hL6.ib
   have HL6 := Lib.hid hL6
   clear b6 hL6 HL
   by_cases h9 : 0 < vl l.qty
   case neg =>
    have t9 := cmpI_npos h9
    have H := Lib.hid h9
    clear h9
    go_wp2_with fail
    go_ret
    exact ⟨by rw [lchk_2 G1.out G2.out G3.out G4.out G5.out (K1.out (by omega)) (K2.out (by omega)) (K3.out (by omega)) (.inl (Int.not_lt.2 H.out))]; rfl, HL6.out.be⟩
   have t9 := cmpI_pos h9
   have G9 := Lib.hid h9
   clear h9
   go_wp2_with fail
   refine (M2.out _).mono ?_
   rintro e w7 ⟨rfl, b7⟩
   have hL7 := HL6.out.below b7
   clear c0 c1 c2 c3 c4 c5 c6
   obtain ⟨c0, c1, c2, c3, c4, c5, c6⟩ := cells7 hL7.ib
   have HL7 := Lib.hid hL7
   clear b7 hL7 HL6
   by_cases h10 : vl l.cost < 0
   ·have t10 := cmpI_neg h10
    have H := Lib.hid h10
    clear h10
    go_wp2_with fail
    go_ret
    exact ⟨by rw [lchk_2 G1.out G2.out G3.out G4.out G5.out (K1.out (by omega)) (K2.out (by omega)) (K3.out (by omega)) (.inr (.inl H.out))]; rfl, HL7.out.be⟩
   have t10 := cmpI_nneg h10
   have G10 := Lib.hid (show 0 ≤ vl l.cost by omega)
   clear h10
   have e1 := bytes_eq l.used ⟨#[]⟩
   rw [show (⟨#[]⟩ : ByteArray).toList = [] from by rw [Lib.toList_data]] at e1
   have e2 := bytes_eq l.used l.qty
   have OK := Lib.hid (fun (u : l.used = ⟨#[]⟩ ∨ l.used = l.qty) => lchk_zero.2 (⟨G1.out, G2.out, G3.out, G4.out, G5.out, K1.out (by omega), K2.out (by omega), K3.out (by omega), G9.out, G10.out, u⟩ : l.ok))
   by_cases h11 : l.used = ⟨#[]⟩
   ·have G11 := Lib.hid h11
    rw [decide_eq_true h11] at e1
    clear h11 e2
    go_wp2_with fail
    go_ret
    exact ⟨by rw [OK.out (.inl G11.out)]; rfl, HL7.out.be⟩
   rw [decide_eq_false h11] at e1
   have H11 := Lib.hid h11
   clear h11
   by_cases h12 : l.used = l.qty
   ·have G12 := Lib.hid h12
    rw [decide_eq_true h12] at e2
    clear h12
    go_wp2_with fail
    go_ret
    exact ⟨by rw [OK.out (.inr G12.out)]; rfl, HL7.out.be⟩
   rw [decide_eq_false h12] at e2
   have H12 := Lib.hid h12
   clear h12
   go_wp2_with fail
   go_ret
   exact ⟨by rw [lchk_2 G1.out G2.out G3.out G4.out G5.out (K1.out (by omega)) (K2.out (by omega)) (K3.out (by omega)) (.inr (.inr ⟨H11.out, H12.out⟩))]; rfl, HL7.out.be⟩
theorem numB_parts {t : List UInt8} (h : numB t = true) : 1 ≤ t.length ∧ t.length ≤ 4 ∧ t.all isDigit = true ∧ t.getD 0 0 ≠ 48 := by
 obtain ⟨h4, v, _, h1, h2, h3⟩ := numB_spec h
 obtain ⟨n, rfl⟩ : ∃ n : Nat, v = (n : Int) := ⟨v.toNat, by omega⟩
 have hn : 0 < n := by omega
 rw [itoa_nat hn] at h3
 subst h3
 exact ⟨List.length_pos_iff.2 (digits_ne_nil hn), h4, all_digits n, digits_head hn⟩
theorem numB_no {t : List UInt8} (h : numB t = true → False) : numB t = false := by
 cases e : numB t
 ·rfl
 ·exact (h e).elim
theorem idB_at {s : ByteArray} {i : Nat} (hi : i < s.size) (h47 : byt s i = 47) (hn : ∀ j, j < i → byt s j ≠ 47) : idB s = (numB (s.extract (i + 1) s.size).data.toList && nameOk (s.extract 0 i)) := by
 have hl : s.data.toList.length = s.size := (Lib.size_eq s).symm
 have hx : Lib.indexB s ⟨#[47]⟩ = (i : Int) := by
  refine index_slash _ i ?_ ?_
  ·have : s.data.toList.getD i 0 = 47 := h47
   rw [List.getD_eq_getElem?_getD, List.getElem?_eq_getElem (by omega), Option.getD_some] at this
   rw [List.getElem?_eq_getElem (by omega), this]
  ·intro j hj e
   refine hn j hj ?_
   unfold byt
   rw [List.getD_eq_getElem?_getD, e]
   rfl
 obtain ⟨c1, c2, _⟩ := Lib.cutB_hit s ⟨#[47]⟩ i hx
 rw [show (⟨#[47]⟩ : ByteArray).data.toList = [47] from rfl] at c1 c2
 rw [show (⟨#[47]⟩ : ByteArray).size = 1 from rfl] at c2
 unfold idB
 rw [← c2, ← c1]
 unfold bs
 simp
theorem index_none : ∀ (l : List UInt8), (∀ j, j < l.length → l[j]? ≠ some 47) → Lib.index l [47] = -1
 | [], _ => by simp [Lib.index]
 | b :: r, hn => by
   have hb : b ≠ 47 := fun e => hn 0 (by simp) (by simp [e])
   have hr := index_none r (fun j hj => by have := hn (j + 1) (by simpa using hj); simpa using this)
   unfold Lib.index
   rw [if_neg (by simpa using fun e => hb e.symm), hr]
   rfl
theorem idB_none {s : ByteArray} (hn : ∀ j, j < s.size → byt s j ≠ 47) : idB s = false := by
 have hl : s.data.toList.length = s.size := (Lib.size_eq s).symm
 have hx : Lib.index s.data.toList [47] = -1 := by
  refine index_none _ (fun j hj e => hn j (by omega) ?_)
  unfold byt
  rw [List.getD_eq_getElem?_getD, e]
  rfl
 have hc : (Lib.cut s.data.toList [47]).2.1 = [] := by
  unfold Lib.cut
  rw [hx]
  rfl
 unfold idB
 rw [hc, numB_no (fun h => by have := (numB_parts h).1; simp at this)]
 rfl
theorem rnumber_ex (s : ByteArray) (hs : s.size ≤ 1000) (w : World) : Calls Tryz.prog 134 #[.string s] w fun e w' => e = .returned (.bool (numB s.data.toList)) ∧ w = w' := by
 by_cases h1 : s.size < 1
 ·have t1 : decide ((s.size : Int) < 1) = true := decide_eq_true (by omega)
  go_enter Tryz.func134, Tryz.ntmps134
  go_wp2_with fail
  go_ret
  exact ⟨by rw [numB_no (fun h => by have := (numB_parts h).1; rw [← Lib.size_eq] at this; omega)]; rfl, rfl⟩
 have t1 : decide ((s.size : Int) < 1) = false := decide_eq_false (by omega)
 by_cases h4 : 4 < s.size
 ·have t2 : decide ((4 : Int) < (s.size : Int)) = true := decide_eq_true (by omega)
  go_enter Tryz.func134, Tryz.ntmps134
  go_wp2_with fail
  go_ret
  exact ⟨by rw [numB_no (fun h => by have := (numB_parts h).2.1; rw [← Lib.size_eq] at this; omega)]; rfl, rfl⟩
 have t2 : decide ((4 : Int) < (s.size : Int)) = false := decide_eq_false (by omega)
 have hg0 : (s[0]'(by omega)).toNat = (byt s 0).toNat := by rw [byt_get]
 by_cases h0 : byt s 0 = 48
 ·have hz : (byt s 0).toNat = 48 := by rw [h0]; rfl
  rw [hz] at hg0
  have H0 := Lib.hid h0
  have t3 : (((s[0]'(by omega)).toNat : Int) == 48) = true := by rw [hg0]; rfl
  go_enter Tryz.func134, Tryz.ntmps134
  go_wp2_with fail
  go_ret
  exact ⟨by rw [numB_no (fun h => (numB_parts h).2.2.2 (show s.data.toList.getD 0 0 = 48 from H0.out))]; rfl, rfl⟩
 have hz : (byt s 0).toNat ≠ 48 := fun e => h0 (UInt8.toNat_inj.1 (by simpa using e))
 have t3 : (((s[0]'(by omega)).toNat : Int) == 48) = false := by rw [beq_eq_false_iff_ne, hg0]; omega
 have H0 := Lib.hid h0
 clear h0 hz hg0
 go_enter Tryz.func134, Tryz.ntmps134
 go_wp2_with fail
 go_loop [3] (fun v => ∃ j : Nat, v = .int .i64 (j : Int) ∧ j ≤ s.size ∧ (s.data.toList.take j).all isDigit = true) (fun v => s.size - (intOf v).toNat)
 case atStart => exact ⟨0, rfl, by omega, rfl⟩
 case round =>
  clear t3
  obtain ⟨j, rfl, hj, hall⟩ := hrel
  have HA := Lib.hid hall
  clear hall
  rcases Nat.lt_or_ge j s.size with hlt | hge
  ·have hb := (byt s j).toNat_lt
   have hg : s[j].toNat = (byt s j).toNat := by rw [byt_get]
   generalize hbb : (byt s j).toNat = bb at hb hg
   have HCB := Lib.hid hbb
   clear hbb
   by_cases a1 : bb < 48
   ·have c1 : decide ((bb : Int) < 48) = true := decide_eq_true (by omega)
    have HN : Hid (isDigit (byt s j) = false) := by rw [Hid, ← Bool.not_eq_true, isDigit_iff, HCB.out]; omega
    clear HCB
    go_wp2_with fail
    go_ret
    exact ⟨by rw [numB_no (fun h => by have := (numB_parts h).2.2.1; rw [not_all hlt HN.out] at this; cases this)]; rfl, rfl⟩
   have c1 : decide ((bb : Int) < 48) = false := decide_eq_false (by omega)
   by_cases a2 : 57 < bb
   ·have c2 : decide (57 < (bb : Int)) = true := decide_eq_true (by omega)
    have HN : Hid (isDigit (byt s j) = false) := by rw [Hid, ← Bool.not_eq_true, isDigit_iff, HCB.out]; omega
    clear HCB
    go_wp2_with fail
    go_ret
    exact ⟨by rw [numB_no (fun h => by have := (numB_parts h).2.2.1; rw [not_all hlt HN.out] at this; cases this)]; rfl, rfl⟩
   have c2 : decide (57 < (bb : Int)) = false := decide_eq_false (by omega)
   have HN : Hid (isDigit (byt s j) = true) := by rw [Hid, isDigit_iff, HCB.out]; omega
   clear HCB a1 a2
   go_wp2_with fail
   go_round
   case rel => exact ⟨j + 1, by go_num, by omega, all_take_succ HA.out hlt HN.out⟩
   case measure => simp [intOf]; omega
  ·have hc : decide ((j : Int) < (s.size : Int)) = false := decide_eq_false (by omega)
   have HH : Hid (s.data.toList.all isDigit = true) := by
    have := HA.out
    rw [List.take_of_length_le (by rw [← Lib.size_eq]; omega)] at this
    exact this
   go_wp2_with fail
   go_ret
   exact ⟨by rw [numB_of (by rw [← Lib.size_eq]; omega) (by rw [← Lib.size_eq]; omega) HH.out H0.out]; rfl, rfl⟩
theorem rId_ex (s : ByteArray) (hs : s.size ≤ 1000) (w : World) : Calls Tryz.prog 102 #[.string s] w fun e w' => e = .returned (.bool (idB s)) ∧ w = w' := by
 go_enter Tryz.func102, Tryz.ntmps102
 go_wp2_with fail
 go_loop [3] (fun v => ∃ j : Nat, v = .int .i64 (j : Int) ∧ j ≤ s.size ∧ (∀ k, k < j → byt s k ≠ 47)) (fun v => s.size - (intOf v).toNat)
 case atStart => exact ⟨0, rfl, by omega, fun k hk => by omega⟩
 case round =>
  obtain ⟨j, rfl, hj, hall⟩ := hrel
  have HA := Lib.hid hall
  clear hall
  rcases Nat.lt_or_ge j s.size with hlt | hge
  ·have hg : s[j].toNat = (byt s j).toNat := by rw [byt_get]
   have hbt := (byt s j).toNat_lt
   by_cases a1 : byt s j = 47
   ·have HE := Lib.hid a1
    rw [a1] at hg
    have hg' : s[j].toNat = 47 := hg
    have z1 : (s.extract 0 j).size = j := by rw [ByteArray.size_extract]; omega
    have z2 : (s.extract (j + 1) s.size).size ≤ 1000 := by rw [ByteArray.size_extract]; omega
    have HNM := Lib.hid (fun W => rName_any (s.extract 0 j) (by omega) W)
    have HNU := fun W => rnumber_ex (s.extract (j + 1) s.size) z2 W
    obtain ⟨nb, hnb⟩ : ∃ nb, numB (s.extract (j + 1) s.size).data.toList = nb := ⟨_, rfl⟩
    rw [hnb] at HNU
    replace HNU := Lib.hid HNU
    have HNB := Lib.hid hnb
    clear hnb
    clear hg hbt a1
    go_wp2_with fail
    refine (HNM.out _).mono ?_
    rintro e w1 ⟨rfl, rfl⟩
    cases hnm : nameOk (s.extract 0 j)
    ·have HM := Lib.hid hnm
     clear hnm
     go_wp2_with fail
     go_ret
     exact ⟨by rw [idB_at hlt HE.out HA.out, HM.out, Bool.and_false]; rfl, rfl⟩
    ·have HM := Lib.hid hnm
     clear hnm
     go_wp2_with fail
     refine (HNU.out _).mono ?_
     rintro e w2 ⟨rfl, rfl⟩
     go_wp2_with fail
     go_ret
     exact ⟨by rw [idB_at hlt HE.out HA.out, HM.out, Bool.and_true, HNB.out]; rfl, rfl⟩
   ·have a2 : (byt s j).toNat ≠ 47 := fun e => a1 (UInt8.toNat_inj.1 (by simpa using e))
    have HE := Lib.hid a1
    generalize (byt s j).toNat = bb at hg a2 hbt
    have c1 : ((bb : Int) == 47) = false := by rw [beq_eq_false_iff_ne]; omega
    clear a1 a2
    go_wp2_with fail
    go_round
    case rel =>
     refine ⟨j + 1, by go_num, by omega, fun k hk => ?_⟩
     rcases Nat.lt_or_ge k j with h | h
     ·exact HA.out k h
     ·have : k = j := by omega
      subst this
      exact HE.out
    case measure => simp [intOf]; omega
  ·have hc : decide ((j : Int) < (s.size : Int)) = false := decide_eq_false (by omega)
   go_wp2_with fail
   go_ret
   exact ⟨by rw [idB_none (fun k hk => HA.out k (by omega))]; rfl, rfl⟩
theorem rCheck19_ex (l : Lot) (hs : l.tiny) (w : World) : Calls Tryz.prog 68 #[l.enc] w fun e w' => e = .returned (.int .i64 (lchk l)) ∧ Below w.heap.size w w' := by
 obtain ⟨W0, hW0, hB0, hk⟩ := lbox l w
 obtain ⟨z1, z2, z3, z4, z5⟩ := hs
 have N1 := Lib.hid (fun W => rId_ex l.id (by omega) W)
 have N2 := Lib.hid (fun W => rName_any l.inst (by omega) W)
 have Y1 := Lib.hid (fun (h : Can l.qty) W => rCheck_yes l.qty (by omega) h W)
 have X1 := Lib.hid (fun (h : ¬ Can l.qty) W => rCheck_no l.qty (by omega) h W)
 have Y2 := Lib.hid (fun (h : Can l.cost) W => rCheck_yes l.cost (by omega) h W)
 have X2 := Lib.hid (fun (h : ¬ Can l.cost) W => rCheck_no l.cost (by omega) h W)
 have Y3 := Lib.hid (fun (h : Can l.used) W => rCheck_yes l.used (by omega) h W)
 have X3 := Lib.hid (fun (h : ¬ Can l.used) W => rCheck_no l.used (by omega) h W)
 have S1 := Lib.hid (fun W => rSign_any l.qty (by omega) W)
 have S2 := Lib.hid (fun W => rSign_any l.cost (by omega) W)
 clear z1 z2 z3 z4 z5
 obtain ⟨c0, c1, c2, c3, c4, c5, c6⟩ := cells7 hk
 have HB := Lib.hid hB0
 clear hB0 hk
 go_enter Tryz.func68, Tryz.ntmps68
 go_wp2_with fail
 refine (N1.out _).mono ?_
 rintro e w1 ⟨rfl, rfl⟩
 cases hg : idB l.id
 ·have H := Lib.hid hg
  clear hg
  go_wp2_with fail
  go_ret
  exact ⟨by rw [lchk_23 (.inl H.out)]; rfl, HB.out⟩
 have G1 := Lib.hid hg
 clear hg N1
 go_wp2_with fail
 refine (N2.out _).mono ?_
 rintro e w1 ⟨rfl, rfl⟩
 cases hn : nameOk l.inst
 ·have H := Lib.hid hn
  clear hn
  go_wp2_with fail
  go_ret
  exact ⟨by rw [lchk_23 (.inr H.out)]; rfl, HB.out⟩
 have G2 := Lib.hid hn
 clear hn N2
 go_wp2_with fail
 refine (rday19_any l.acq _).mono ?_
 rintro e w1 ⟨rfl, rfl⟩
 by_cases h3 : okDay l.acq
 case neg =>
  rw [decide_eq_false h3]
  have H := Lib.hid h3
  clear h3
  go_wp2_with fail
  go_ret
  exact ⟨by rw [lchk_13 G1.out G2.out (.inl H.out)]; rfl, HB.out⟩
 rw [decide_eq_true h3]
 have G3 := Lib.hid h3
 clear h3
 go_wp2_with fail
 refine (rday19_any l.opn _).mono ?_
 rintro e w1 ⟨rfl, rfl⟩
 by_cases h4 : okDay l.opn
 case neg =>
  rw [decide_eq_false h4]
  have H := Lib.hid h4
  clear h4
  go_wp2_with fail
  go_ret
  exact ⟨by rw [lchk_13 G1.out G2.out (.inr H.out)]; rfl, HB.out⟩
 rw [decide_eq_true h4]
 have G4 := Lib.hid h4
 clear h4
 by_cases h5 : l.opn < l.acq
 ·have t5 : decide (l.opn < l.acq) = true := decide_eq_true h5
  have H := Lib.hid h5
  clear h5
  go_wp2_with fail
  go_ret
  exact ⟨by rw [lchk_8 G1.out G2.out G3.out G4.out H.out]; rfl, HB.out⟩
 have t5 : decide (l.opn < l.acq) = false := decide_eq_false h5
 have G5 := Lib.hid (show l.acq ≤ l.opn by omega)
 clear h5
 go_wp2_with fail
 by_cases h6 : Can l.qty
 case neg =>
  refine (X1.out h6 _).mono ?_
  rintro e w1 ⟨rfl, rfl⟩
  have H := Lib.hid h6
  clear h6
  go_wp2_with fail
  go_ret
  exact ⟨by rw [lchk_1 G1.out G2.out G3.out G4.out G5.out (.inl H.out)]; rfl, HB.out⟩
 refine (Y1.out h6 _).mono ?_
 rintro e w1 ⟨rfl, rfl⟩
 have G6 := Lib.hid h6
 clear h6 Y1 X1
 go_wp2_with fail
 by_cases h7 : Can l.cost
 case neg =>
  refine (X2.out h7 _).mono ?_
  rintro e w1 ⟨rfl, rfl⟩
  have H := Lib.hid h7
  clear h7
  go_wp2_with fail
  go_ret
  exact ⟨by rw [lchk_1 G1.out G2.out G3.out G4.out G5.out (.inr (.inl H.out))]; rfl, HB.out⟩
 refine (Y2.out h7 _).mono ?_
 rintro e w1 ⟨rfl, rfl⟩
 have G7 := Lib.hid h7
 clear h7 Y2 X2
 go_wp2_with fail
 by_cases h8 : Can l.used
 case neg =>
  refine (X3.out h8 _).mono ?_
  rintro e w1 ⟨rfl, rfl⟩
  have H := Lib.hid h8
  clear h8
  go_wp2_with fail
  go_ret
  exact ⟨by rw [lchk_1 G1.out G2.out G3.out G4.out G5.out (.inr (.inr H.out))]; rfl, HB.out⟩
 refine (Y3.out h8 _).mono ?_
 rintro e w1 ⟨rfl, rfl⟩
 have G8 := Lib.hid h8
 clear h8 Y3 X3
 go_wp2_with fail
 refine (S1.out _).mono ?_
 rintro e w1 ⟨rfl, rfl⟩
 by_cases h9 : 0 < vl l.qty
 case neg =>
  have t9 := cmpI_npos h9
  have H := Lib.hid h9
  clear h9
  go_wp2_with fail
  go_ret
  exact ⟨by rw [lchk_2 G1.out G2.out G3.out G4.out G5.out G6.out G7.out G8.out (.inl (by have := H.out; omega))]; rfl, HB.out⟩
 have t9 := cmpI_pos h9
 have G9 := Lib.hid h9
 clear h9
 go_wp2_with fail
 refine (S2.out _).mono ?_
 rintro e w1 ⟨rfl, rfl⟩
 by_cases h10 : vl l.cost < 0
 ·have t10 := cmpI_neg h10
  have H := Lib.hid h10
  clear h10
  go_wp2_with fail
  go_ret
  exact ⟨by rw [lchk_2 G1.out G2.out G3.out G4.out G5.out G6.out G7.out G8.out (.inr (.inl H.out))]; rfl, HB.out⟩
 have t10 := cmpI_nneg h10
 have G10 := Lib.hid (show 0 ≤ vl l.cost by omega)
 clear h10
 have e1 := bytes_eq l.used ⟨#[]⟩
 rw [show (⟨#[]⟩ : ByteArray).toList = [] from by rw [Lib.toList_data]] at e1
 have e2 := bytes_eq l.used l.qty
 by_cases h11 : l.used = ⟨#[]⟩
 ·have G11 := Lib.hid h11
  rw [decide_eq_true h11] at e1
  clear h11 e2
  go_wp2_with fail
  go_ret
  exact ⟨by rw [lchk_zero.2 ⟨G1.out, G2.out, G3.out, G4.out, G5.out, G6.out, G7.out, G8.out, G9.out, G10.out, .inl G11.out⟩]; rfl, HB.out⟩
 rw [decide_eq_false h11] at e1
 have G11 := Lib.hid h11
 clear h11
 by_cases h12 : l.used = l.qty
 ·have G12 := Lib.hid h12
  rw [decide_eq_true h12] at e2
  clear h12
  go_wp2_with fail
  go_ret
  exact ⟨by rw [lchk_zero.2 ⟨G1.out, G2.out, G3.out, G4.out, G5.out, G6.out, G7.out, G8.out, G9.out, G10.out, .inr G12.out⟩]; rfl, HB.out⟩
 rw [decide_eq_false h12] at e2
 have G12 := Lib.hid h12
 clear h12
 go_wp2_with fail
 go_ret
 exact ⟨by rw [lchk_2 G1.out G2.out G3.out G4.out G5.out G6.out G7.out G8.out (.inr (.inr ⟨G11.out, G12.out⟩))]; rfl, HB.out⟩
theorem BdQ.divInt {a b : Int} {k : Nat} (ha : a.natAbs < 10 ^ k) (hb : b.natAbs < 10 ^ k) (h0 : b ≠ 0) : BdQ (Rat.divInt a b) k := BdQ.div ha hb h0
theorem q_divInt (q : Rat) : q = Rat.divInt q.num q.den := (Rat.num_divInt_den q).symm
theorem BdQ.add {p q : Rat} {a b : Nat} (hp : BdQ p a) (hq : BdQ q b) : BdQ (p + q) (a + b + 1) := by
 have h1 := p.den_pos
 have h2 := q.den_pos
 rw [q_divInt p, q_divInt q, Rat.divInt_add_divInt _ _ (by omega) (by omega)]
 refine BdQ.div ?_ ?_ (Int.mul_ne_zero (by omega) (by omega))
 ·have e1 := mul_lt_pow (x := p.num) (y := (q.den : Int)) hp.1 (by simpa using hq.2)
  have e2 := mul_lt_pow (x := q.num) (y := (p.den : Int)) hq.1 (by simpa using hp.2)
  rw [Nat.add_comm b a] at e2
  exact add_lt_pow e1 e2 (by omega) (by omega)
 ·exact Nat.lt_of_lt_of_le (mul_lt_pow (x := (p.den : Int)) (y := (q.den : Int)) (by simpa using hp.2) (by simpa using hq.2)) (pow_mono (by omega))
theorem BdQ.neg {q : Rat} {a : Nat} (hq : BdQ q a) : BdQ (-q) a := ⟨by rw [Rat.neg_num, Int.natAbs_neg]; exact hq.1, by rw [Rat.neg_den]; exact hq.2⟩
theorem BdQ.sub {p q : Rat} {a b : Nat} (hp : BdQ p a) (hq : BdQ q b) : BdQ (p - q) (a + b + 1) := by
 rw [Rat.sub_eq_add_neg]; exact hp.add hq.neg
theorem BdQ.int {z : Int} {k : Nat} (h : z.natAbs < 10 ^ k) (hk : 1 ≤ k) : BdQ (z : Rat) k := ⟨h, Nat.lt_of_lt_of_le (show 1 < 10 ^ 1 by omega) (pow_mono hk)⟩
theorem BdQ.zero {k : Nat} (hk : 1 ≤ k) : BdQ 0 k := BdQ.int (z := 0) (Nat.pow_pos (by omega)) hk
def FBox (W : World) (B : Nat) (q : Rat) : Prop := W.heap[B]? = some (.cells #[.string (I q.num), .string (dn q)] 141 (0, 0))
theorem FBox.below {W W' : World} {B : Nat} {q : Rat} (h : FBox W B q) (hb : Below W.heap.size W W') : FBox W' B q := (hb.block B (Array.getElem?_eq_some_iff.1 h).1).trans h
theorem FBox.lt {W : World} {B : Nat} {q : Rat} (h : FBox W B q) : B < W.heap.size := (Array.getElem?_eq_some_iff.1 h).1
attribute [local go_sem] Oper.semAt_some
def KpZ (m b : Nat) (W W' : World) : Prop := Below m W W' ∧ ∀ (k : Nat) (o : Obj), k ≠ b → W.heap[k]? = some o → o.isCells = true → W'.heap[k]? = some o
theorem KpZ.trans {m b : Nat} {A B C : World} (h : KpZ m b A B) (k : KpZ m b B C) : KpZ m b A C := ⟨h.1.trans k.1, fun i o hi ho hc => k.2 i o hi (h.2 i o hi ho hc) hc⟩
theorem KpZ.put {m b : Nat} (W : World) (l : Nat) (o o' : Obj) (hm : m ≤ l) (hl : W.heap[l]? = some o) (ho : o.isCells = false) : KpZ m b W (W.putObj l o') := by
 refine ⟨(Below.refl m W).grown (grownBy_putObj' W l o') (by have := (Array.getElem?_eq_some_iff.1 hl).1; omega) (fun k e => by cases e; omega), fun k o2 _ hk hc => ?_⟩
 rcases Nat.decEq k l with h | h
 ·exact (World.putObj_heap_other (by omega)).trans hk
 ·subst h; rw [hl] at hk; injection hk with hk; subst hk; rw [ho] at hc; cases hc
theorem KpZ.below {m b : Nat} {A B : World} (h : Below A.heap.size A B) (hm : m ≤ A.heap.size) : KpZ m b A B := ⟨h.mono hm, fun k o _ hk _ => (h.block k (Array.getElem?_eq_some_iff.1 hk).1).trans hk⟩
theorem KpZ.cell {m b : Nat} {W W' : World} (h : KpZ m b W W') {p : Addr} (hp : p.block ≠ b) {v : Value} (hc : W.cell? p = some v) : W'.cell? p = some v := by
 obtain ⟨o, ho, hoc⟩ := cells_of_cell hc
 have := h.2 _ o hp ho hoc
 rw [← hc]
 unfold World.cell?
 rw [ho, this]
end Go.Proofs.YtjlakdocjpmblaaGreatDoor
namespace Go.Proofs.YtjlakdocjpmblaaGreatDoor
open Go.RowKit Tr Go.Shelf
attribute [local go_sem] Oper.semAt_some
end Go.Proofs.YtjlakdocjpmblaaGreatDoor
namespace Go.Proofs.YtjlakdocjpmblaaGreatDoor
open Go.RowKit Tr Go.Shelf
structure Inst.small (i : Inst) : Prop where
 id : i.id.size ≤ 1000
 cur : i.cur.size ≤ 1000
 fn : i.fn.size ≤ 1000
 fd : i.fd.size ≤ 1000
 cn : i.cn.size ≤ 1000
 cd : i.cd.size ≤ 1000
 other : i.other.size ≤ 1000
 sn : i.sn.size ≤ 1000
 sd : i.sd.size ≤ 1000
theorem Inst.small.sized {i : Inst} (h : i.small) : i.sized := by
 obtain ⟨h1, h2, h3, h4, h5, h6, h7, h8, h9⟩ := h
 exact ⟨by omega, by omega, by omega, by omega, by omega, by omega, by omega, by omega, by omega⟩
structure AOk (i : Inst) (ls : List SLot) (d : Int) : Prop where
 small : i.small
 ok : i.ok
 lots : LotsOk (ls.map Subtype.val)
 len : ls.length ≤ 99
 dy : okDay d
theorem Inst.tiny.small {i : Inst} (h : i.tiny) : i.small := by
 obtain ⟨h1, h2, h3, h4, h5, h6, h7, h8, h9⟩ := h
 exact ⟨by omega, by omega, by omega, by omega, by omega, by omega, by omega, by omega, by omega⟩
theorem RdL.drewN {w : World} {A : Option Addr} {ls : List Lot} (h : RdL w A ls) (n : Nat) : RdL (w.drewN n) A ls := h.below (below_drewN (Below.refl _ _) n)
theorem take_snoc {α : Type} {ls : List α} {k : Nat} {l : α} (h : ls[k]? = some l) : ls.take (k + 1) = ls.take k ++ [l] := by
 obtain ⟨hlt, he⟩ := List.getElem?_eq_some_iff.1 h
 rw [List.take_succ_eq_append_getElem hlt, he]
theorem rGreat19_any (A : Option Addr) (ls : List Lot) (c : Nat) (hlm : ls.length ≤ 9223372036854775807) (w : World) (hR : RdL w A ls) :
 Calls Tryz.prog 24 #[.slice A ls.length c] w (GreatPost w ((ls.length ≤ 12 ∨ 999 ≤ ls.length) ∧ ∀ l ∈ ls, l.tiny)) := by
 have HR := hI hR
 clear hR
 by_cases h1 : 12 < ls.length ∧ ls.length < 999
 ·have t1 : decide ((12 : Int) < (ls.length : Int)) = true := decide_eq_true (by omega)
  have t2 : decide ((ls.length : Int) < 999) = true := decide_eq_true (by omega)
  clear h1
  go_enter Tryz.func24, Tryz.ntmps24
  go_wp2_with fail
  go_ret
  exact ⟨true, rfl, fun h => (by cases h), Below.refl _ _⟩
 by_cases h2 : 1002 < ls.length
 ·have t1 : decide ((12 : Int) < (ls.length : Int)) = true := decide_eq_true (by omega)
  have t2 : decide ((ls.length : Int) < 999) = false := decide_eq_false (by omega)
  have t3 : decide ((1002 : Int) < (ls.length : Int)) = true := decide_eq_true (by omega)
  clear h1 h2
  go_enter Tryz.func24, Tryz.ntmps24
  go_wp2_with fail
  go_ret
  exact ⟨true, rfl, fun h => (by cases h), Below.refl _ _⟩
 have H1 := hI (show (ls.length ≤ 12 ∨ 999 ≤ ls.length) by omega)
 have t3 : decide ((1002 : Int) < (ls.length : Int)) = false := decide_eq_false (by omega)
 have hlz : ls.length ≤ 1002 := by omega
 rcases Classical.em (12 < ls.length) with h3 | h3
 ·have t1 : decide ((12 : Int) < (ls.length : Int)) = true := decide_eq_true (by omega)
  have t2 : decide ((ls.length : Int) < 999) = false := decide_eq_false (by omega)
  clear h1 h2 hlm h3
  go_enter Tryz.func24, Tryz.ntmps24
  go_wp2_with fail
  go_loopw [3] (fun v wr => ∃ k : Nat, v = .int .i64 (k : Int) ∧ k ≤ ls.length ∧ (∀ l ∈ ls.take k, l.tiny) ∧ Below w.heap.size w wr) (fun v _ => ls.length - (intOf v).toNat)
  case atStart => exact ⟨0, rfl, by omega, fun l hl => by simp at hl, Below.refl _ _⟩
  case round =>
   obtain ⟨k, rfl, hk, hti, hb⟩ := hrel
   have HTI := hI hti
   have HB := hI hb
   clear hti hb
   rcases Nat.lt_or_ge k ls.length with hlt | hge
   ·obtain ⟨l, hl⟩ : ∃ l, ls[k]? = some l := ⟨_, List.getElem?_eq_getElem hlt⟩
    obtain ⟨ad, rfl, had, hcell⟩ := HR.out (by intro e; rw [e] at hlt; cases hlt)
    have hcx : decide ((k : Int) < (ls.length : Int)) = true := by simp; omega
    obtain ⟨c0, c1, c2, c3, c4, c5, c6⟩ := (hcell k l hl).below HB.out (by rw [add_block]; exact had)
    have HSN := hI (take_snoc hl)
    clear hcell hl
    go_wp2_with fail
    refine (rGreatOne_any l _).mono ?_
    rintro e w1 ⟨g, rfl, hg, b1⟩
    have HB1 := hI (HB.out.trans (b1.mono HB.out.size))
    clear b1 c0 c1 c2 c3 c4 c5 c6
    cases g
    ·have HG := hI (hg rfl)
     clear hg
     go_wp2_with fail
     go_roundw
     case rel =>
      refine ⟨k + 1, by go_num, by omega, fun x hx => ?_, HB1.out⟩
      rw [HSN.out, List.mem_append] at hx
      rcases hx with hx | hx
      ·exact HTI.out x hx
      ·rw [List.mem_singleton] at hx; subst hx; exact HG.out
     case measure => simp [intOf]; omega
    ·go_wp2_with fail
     go_ret
     exact ⟨true, rfl, fun h => (by cases h), HB1.out⟩
   ·have hcx : decide ((k : Int) < (ls.length : Int)) = false := by simp; omega
    go_wp2_with fail
    go_ret
    refine ⟨false, rfl, fun _ => ⟨H1.out, fun l hl => HTI.out l ?_⟩, HB.out⟩
    rw [List.take_of_length_le (by omega)]
    exact hl
 ·have t1 : decide ((12 : Int) < (ls.length : Int)) = false := decide_eq_false (by omega)
  clear h1 h2 hlm h3
  go_enter Tryz.func24, Tryz.ntmps24
  go_wp2_with fail
  go_loopw [3] (fun v wr => ∃ k : Nat, v = .int .i64 (k : Int) ∧ k ≤ ls.length ∧ (∀ l ∈ ls.take k, l.tiny) ∧ Below w.heap.size w wr) (fun v _ => ls.length - (intOf v).toNat)
  case atStart => exact ⟨0, rfl, by omega, fun l hl => by simp at hl, Below.refl _ _⟩
  case round =>
   obtain ⟨k, rfl, hk, hti, hb⟩ := hrel
   have HTI := hI hti
   have HB := hI hb
   clear hti hb
   rcases Nat.lt_or_ge k ls.length with hlt | hge
   ·obtain ⟨l, hl⟩ : ∃ l, ls[k]? = some l := ⟨_, List.getElem?_eq_getElem hlt⟩
    obtain ⟨ad, rfl, had, hcell⟩ := HR.out (by intro e; rw [e] at hlt; cases hlt)
    have hcx : decide ((k : Int) < (ls.length : Int)) = true := by simp; omega
    obtain ⟨c0, c1, c2, c3, c4, c5, c6⟩ := (hcell k l hl).below HB.out (by rw [add_block]; exact had)
    have HSN := hI (take_snoc hl)
    clear hcell hl
    go_wp2_with fail
    refine (rGreatOne_any l _).mono ?_
    rintro e w1 ⟨g, rfl, hg, b1⟩
    have HB1 := hI (HB.out.trans (b1.mono HB.out.size))
    clear b1 c0 c1 c2 c3 c4 c5 c6
    cases g
    ·have HG := hI (hg rfl)
     clear hg
     go_wp2_with fail
     go_roundw
     case rel =>
      refine ⟨k + 1, by go_num, by omega, fun x hx => ?_, HB1.out⟩
      rw [HSN.out, List.mem_append] at hx
      rcases hx with hx | hx
      ·exact HTI.out x hx
      ·rw [List.mem_singleton] at hx; subst hx; exact HG.out
     case measure => simp [intOf]; omega
    ·go_wp2_with fail
     go_ret
     exact ⟨true, rfl, fun h => (by cases h), HB1.out⟩
   ·have hcx : decide ((k : Int) < (ls.length : Int)) = false := by simp; omega
    go_wp2_with fail
    go_ret
    refine ⟨false, rfl, fun _ => ⟨H1.out, fun l hl => HTI.out l ?_⟩, HB.out⟩
    rw [List.take_of_length_le (by omega)]
    exact hl
end Go.Proofs.YtjlakdocjpmblaaGreatDoor
namespace Go.Proofs.YtjlakdocjpmblaaGreatDoor
open Go.RowKit Tr Go.Shelf Go.Maps Go.WideMaps
open Classical in
noncomputable def lallF (pre : List Lot) : List Lot → Int
 | [] => 0
 | l :: r => if lchk l ≠ 0 then lchk l else if l.id ∈ pre.map Lot.id then 5 else lallF (pre ++ [l]) r
open Classical in
noncomputable def lall (ls : List Lot) : Int := if 1000 < ls.length then 4 else lallF [] ls
theorem lall_at {ls : List Lot} {k : Nat} {l : Lot} (hlen : ls.length ≤ 1000) (hg : lallF (ls.take k) (ls.drop k) = lall ls) (hl : ls[k]? = some l) :
 (lchk l ≠ 0 → lall ls = lchk l) ∧ (lchk l = 0 → l.id ∈ (ls.take k).map Lot.id → lall ls = 5) ∧ (lchk l = 0 → l.id ∉ (ls.take k).map Lot.id → lallF (ls.take (k + 1)) (ls.drop (k + 1)) = lall ls) := by
 have hk : k < ls.length := (List.getElem?_eq_some_iff.1 hl).1
 have hd : ls.drop k = l :: ls.drop (k + 1) := by
  rw [List.drop_eq_getElem_cons hk]
  congr 1
  rw [List.getElem?_eq_getElem hk] at hl
  exact Option.some.inj hl
 rw [hd] at hg
 unfold lallF at hg
 refine ⟨fun h => ?_, fun h h2 => ?_, fun h h2 => ?_⟩
 ·rw [if_pos h] at hg; exact hg.symm
 ·rw [if_neg (fun x => x h), if_pos h2] at hg; exact hg.symm
 ·rw [if_neg (fun x => x h), if_neg h2] at hg
  rw [take_snoc hl]; exact hg
theorem lall_start {ls : List Lot} (h : ls.length ≤ 1000) : lallF (ls.take 0) (ls.drop 0) = lall ls := by unfold lall; rw [if_neg (by omega)]; rfl
theorem lall_end {ls : List Lot} (hg : lallF (ls.take ls.length) (ls.drop ls.length) = lall ls) : lall ls = 0 := by
 rw [List.drop_length] at hg; exact hg.symm
theorem lall_great {ls : List Lot} (h : 1000 < ls.length) : lall ls = 4 := by unfold lall; rw [if_pos h]
theorem atKey_fold (u z : DataW Unit) (k : Lit) (hk : WideAt.IsKeyLit k) : ∀ (acc : List Lit) (m : DataW Unit), IsMap m → (k ∈ acc ∨ m.atKey k z = u) → (acc.foldl (fun m x => m.put x u) m).atKey k z = u
 | [], m, _, h => h.resolve_left (fun x => by cases x)
 | x :: r, m, hm, h => by
   rw [List.foldl_cons]
   refine atKey_fold u z k hk r _ (hm.put _ _) ?_
   by_cases hx : x = k
   ·subst hx; exact .inr (atKey_put_same hm hk _ _)
   ·rcases h with h | h
    ·rcases List.mem_cons.1 h with h | h
     ·exact absurd h.symm hx
     ·exact .inl h
    ·exact .inr ((atKey_put_other (fun e => hx e.symm) _ _).trans h)
theorem atKey_setOf (u z : DataW Unit) (k : Lit) (hk : WideAt.IsKeyLit k) (acc : List Lit) (h : k ∈ acc) : (setOf u acc).atKey k z = u :=
 atKey_fold u z k hk acc _ isMap_empty (.inl h)
theorem seen_true {w : World} {b n : Nat} {ls : List Lot} {l : Lot} (h : w.ownsMap Tryz.prog 9 (plainElem Tryz.prog 4) b n (seenD ls)) (hs : l.id.size ≤ maxLen) (hn : l.id ∈ ls.map Lot.id) :
 (Instr.lookup 84 (.map (some b)) (.string l.id) false).run Tryz.prog w = .ok (.bool true) w := by
 obtain ⟨v, ps, hrun, hv⟩ := h.lookup strKeyed Tryz.underlying84 (zeroBool w) (plainElem_bool Tryz.underlying4 false) (keyOf_string_mk Tryz.underlying9 hs)
 have hh := atKey_setOf (.lit (.bool true)) (.lit (.bool false)) (.string l.id.data.toList : Lit) trivial (ls.map idKey) (by
  obtain ⟨x, hx, e⟩ := List.mem_map.1 hn
  exact List.mem_map.2 ⟨x, hx, by unfold idKey; rw [e]⟩)
 have hv' := hv
 unfold seenD at hv'
 rw [hh] at hv'
 obtain ⟨a, rfl, ha⟩ := plainElem_bool_inv Tryz.underlying4 hv'
 simp at ha
 rw [hrun, ← ha.1]
theorem lCheckAll_any (A : Option Addr) (c : Nat) (ls : List Lot) (hc : ls.length ≤ c) (hlm : ls.length ≤ 9223372036854775807) (w : World) (hr : RdL w A ls) (hsz : ∀ l ∈ ls, l.sized) (ht : Tabs w) :
 Calls Tryz.prog 27 #[.slice A ls.length c] w fun e w' => e = .returned (.int .i64 (lall ls)) ∧ Below w.heap.size w w' := by
 have HR := hI hr
 have HT := hI ht
 have H := hI hsz
 clear hr ht hsz
 by_cases hgr : 1000 < ls.length
 ·have hgt : decide ((1000 : Int) < (ls.length : Int)) = true := by simp; omega
  have HG := hI (lall_great hgr)
  clear hgr
  go_enter Tryz.func27, Tryz.ntmps27
  go_wp2_with fail
  go_ret
  exact ⟨by rw [HG.out]; rfl, Below.refl _ _⟩
 have hgt : decide ((1000 : Int) < (ls.length : Int)) = false := by simp; omega
 have hlen : ls.length ≤ 1000 := by omega
 clear hgr
 have hmm := @run_makeMap Tryz.prog
 go_enter Tryz.func27, Tryz.ntmps27
 go_wp2_with fail
 go_loopw [13] (fun v wr => ∃ k : Nat, v = .int .i64 (k : Int) ∧ k ≤ ls.length ∧ lallF (ls.take k) (ls.drop k) = lall ls ∧ wr.ownsMap Tryz.prog 9 (plainElem Tryz.prog 4) w.heap.size k (seenD (ls.take k)) ∧ Below w.heap.size w wr) (fun v _ => ls.length - (intOf v).toNat)
 case atStart => exact ⟨0, rfl, by omega, lall_start hlen, World.ownsMap_made _ _ _ _, (Below.refl _ _).alloc (Nat.le_refl _) _⟩
 case round =>
  obtain ⟨k, rfl, hk, hg, hown, hb⟩ := hrel
  have HO := hI hown
  have HB := hI hb
  have HG := hI hg
  clear hown hb hg
  rcases Nat.lt_or_ge k ls.length with hlt | hge
  ·obtain ⟨l, hl⟩ : ∃ l, ls[k]? = some l := ⟨_, List.getElem?_eq_getElem hlt⟩
   obtain ⟨ad, rfl, had, hcell⟩ := HR.out (by intro e; rw [e] at hlt; cases hlt)
   have hcx : decide ((k : Int) < (ls.length : Int)) = true := by simp; omega
   obtain ⟨c0, c1, c2, c3, c4, c5, c6⟩ := (hcell k l hl).below HB.out (by rw [add_block]; exact had)
   have hs := H.out l (List.mem_of_getElem? hl)
   have hzid : l.id.size ≤ maxLen := by unfold maxLen; have := hs.1; omega
   have HSN := hI (take_snoc hl)
   have HAT := hI (lall_at hlen HG.out hl)
   have HC := hI (fun W hW => lCheck_any l hs W hW)
   clear hcell hl hs
   obtain ⟨W5, hW5⟩ : ∃ W5, wr.alloc (.cells l.cells 48) = W5 := ⟨_, rfl⟩
   have k5 : LotBox W5 wr.heap.size l := by rw [← hW5]; exact heap_alloc_new wr _
   have b5 : Below wr.heap.size wr W5 := by rw [← hW5]; exact (Below.refl _ wr).alloc (Nat.le_refl _) _
   have HK5 := hI k5
   have HB5 := hI (HB.out.trans (b5.mono HB.out.size))
   have HO5 := hI (ownsMap_below HO.out b5)
   obtain ⟨m0, m1, m2, m3, m4, m5, m6⟩ := cells7 k5
   clear k5 b5 HO
   unfold Lot.cells at hW5
   go_wp2_with fail
   refine (HC.out _ (HT.out.below HB5.out)).mono ?_
   rintro e w6 ⟨rfl, b6⟩
   have k6 := HK5.out.below b6
   have HB6 := hI (HB5.out.trans (b6.mono HB5.out.size))
   have hO6 := ownsMap_below HO5.out b6
   by_cases h0 : lchk l = 0
   case neg =>
    have t1 : (lchk l == 0) = false := beq_eq_false_iff_ne.2 h0
    have t1' : (lchk l != 0) = true := by rw [bne, t1]; rfl
    have HN := hI (HAT.out.1 h0)
    clear h0 hO6 b6 k6 m0 m1 m2 m3 m4 m5 m6 hW5
    go_wp2_with fail
    go_ret
    exact ⟨by rw [HN.out]; rfl, HB6.out⟩
   have H0 := hI h0
   rw [h0]
   clear h0
   clear m0 m1 m2 m3 m4 m5 m6
   obtain ⟨m0, m1, m2, m3, m4, m5, m6⟩ := cells7 k6
   by_cases hid : l.id ∈ (ls.take k).map Lot.id
   ·have hlk := seen_true hO6 hzid hid
    have HN := hI (HAT.out.2.1 H0.out hid)
    clear hid hO6 b6 k6
    go_wp2_with fail
    go_ret
    exact ⟨by rw [HN.out]; rfl, HB6.out⟩
   have hlk := seen_false hO6 hzid (fun x hx e => hid (List.mem_map.2 ⟨x, hx, e⟩))
   have HN := hI (HAT.out.2.2 H0.out hid)
   obtain ⟨w7, hup, hO7, hg7⟩ := hO6.update strKeyed Tryz.underlying84 (by unfold maxLen; omega) (keyOf_string_mk Tryz.underlying9 hzid) (plainElem_bool Tryz.underlying4 true)
   have HO7 : Hid (w7.ownsMap Tryz.prog 9 (plainElem Tryz.prog 4) w.heap.size (k + 1) (seenD (ls.take (k + 1)))) := by
    rw [HSN.out, seenD_snoc]; exact hO7
   have HB7 := hI (HB6.out.grown hg7 HB6.out.size (fun j hj => by cases hj; exact Nat.le_refl _))
   clear hid hO6 hO7 hg7 b6 k6 HO5 HB5 HK5
   go_wp2_with fail
   go_roundw
   case rel => exact ⟨k + 1, by go_num, by omega, HN.out, HO7.out, HB7.out⟩
   case measure => simp [intOf]; omega
  ·have hcx : decide ((k : Int) < (ls.length : Int)) = false := by simp; omega
   have hkk : k = ls.length := by omega
   subst hkk
   have HN := hI (lall_end HG.out)
   go_wp2_with fail
   go_ret
   exact ⟨by rw [HN.out]; rfl, HB.out⟩
end Go.Proofs.YtjlakdocjpmblaaGreatDoor
namespace Go.Proofs.YtjlakdocjpmblaaGreatDoor
open Go.RowKit Tr Go.Shelf
theorem fNew_any (n d : ByteArray) (w : World) (s1 : n.size ≤ 3000000) (s2 : d.size ≤ 3000000) (h0 : vl d ≠ 0) (ht : Tabs w) :
 Calls Tryz.prog 119 #[.string n, .string d] w fun e w' => e = .returned (.tuple #[fenc (Rat.divInt (vl n) (vl d)), .int .i64 0]) ∧ Below w.heap.size w w' := by
 have HB := Lib.hid ((Below.refl _ w).alloc (Nat.le_refl _) (Obj.cells #[.string ⟨#[]⟩, .string ⟨#[]⟩] 141))
 have HC := Lib.hid (Compare_any d ⟨#[]⟩ (w.alloc (Obj.cells #[.string ⟨#[]⟩, .string ⟨#[]⟩] 141)) (by omega) (by show 0 ≤ _; omega))
 rw [show vl (⟨#[]⟩ : ByteArray) = 0 from by rw [zero_eq, vl_I]] at HC
 have hc : (cmpI (vl d) 0 == 0) = false := beq_eq_false_iff_ne.2 (fun h => h0 (cmpI_eq.1 h))
 obtain ⟨W0, hW0⟩ : ∃ W0, w.alloc (Obj.cells #[.string ⟨#[]⟩, .string ⟨#[]⟩] 141) = W0 := ⟨_, rfl⟩
 have hk : W0.heap[w.heap.size]? = some (Obj.cells #[.string ⟨#[]⟩, .string ⟨#[]⟩] 141) := by rw [← hW0]; exact heap_alloc_new w _
 have hs : W0.heap.size = w.heap.size + 1 := by rw [← hW0]; simp
 rw [hW0] at HB HC
 have HT := Lib.hid ht
 have HM := Lib.hid (fun W hW => made_any n d W s1 s2 h0 hW)
 generalize Rat.divInt (vl n) (vl d) = q at HM ⊢
 clear ht h0
 go_enter Tryz.func119, Tryz.ntmps119
 go_wp2_with fail
 try rw [hW0]
 refine HC.out.mono ?_
 rintro e w1 ⟨rfl, B1⟩
 have k1 := Lib.hid ((B1.block w.heap.size (by omega)).trans hk)
 have HB1 := Lib.hid (HB.out.trans (B1.mono HB.out.size))
 clear B1 HB hk HC
 go_wp2_with fail
 refine (HM.out w1 (HT.out.below HB1.out)).mono ?_
 rintro e w2 ⟨rfl, B2⟩
 have hs1 : w.heap.size < w1.heap.size := (Array.getElem?_eq_some_iff.1 k1.out).1
 have k2 := (B2.block w.heap.size hs1).trans k1.out
 have HB2 := Lib.hid (HB1.out.trans (B2.mono HB1.out.size))
 unfold fenc
 have a0 := Lib.cell_of_heap k2 0
 have a1 := Lib.cell_of_heap k2 1
 simp at a0 a1
 have f0 := Lib.frozen_of_heap k2 0
 have f1 := Lib.frozen_of_heap k2 1
 have K2 := Lib.hid k2
 clear k2 k1 B2 HB1 hc
 go_wp2_with fail
 have k3 := set2 K2.out (.string (I q.num)) (.string (dn q))
 have m0 := Lib.cell_of_heap k3 0
 have m1 := Lib.cell_of_heap k3 1
 simp at m0 m1
 refine bodyPost_ret (v := .tuple #[.agg #[.string (I q.num), .string (dn q)], .int .i64 0]) (by simp [results, Tryz.results119, go_sem, m0, m1]) rfl ?_
 exact ⟨by unfold fenc; rfl, (HB2.out.setCell (p := ⟨w.heap.size, 0, none⟩) (Nat.le_refl _) _).setCell (p := ⟨w.heap.size, 1, none⟩) (Nat.le_refl _) _⟩
def shareQ (t p a : Int) : Rat := Rat.divInt (t * p) a
def shareZ (t p a : Int) : Int := rnd (shareQ t p a)
theorem rnd_le {p : Rat} {c : Int} (h : p.num ≤ c * (p.den : Int)) : rnd p ≤ c := by
 have h1 := rnd_int p
 have hd : 0 < (p.den : Int) := by have := p.den_pos; omega
 rcases Int.lt_or_le c (rnd p) with h2 | h2
 ·exfalso
  have h3 : (c + 1) * (p.den : Int) ≤ rnd p * (p.den : Int) := Int.mul_le_mul_of_nonneg_right (by omega) (by omega)
  rw [Int.add_mul, Int.one_mul] at h3
  generalize rnd p * (p.den : Int) = x at *
  generalize c * (p.den : Int) = y at *
  omega
 ·exact h2
theorem rnd_nn {p : Rat} (h : 0 ≤ p.num) : 0 ≤ rnd p := by
 have h1 := rnd_int p
 have hd : 0 < (p.den : Int) := by have := p.den_pos; omega
 rcases Int.lt_or_le (rnd p) 0 with h2 | h2
 ·exfalso
  have h3 : rnd p * (p.den : Int) ≤ (-1) * (p.den : Int) := Int.mul_le_mul_of_nonneg_right (by omega) (by omega)
  generalize rnd p * (p.den : Int) = x at *
  omega
 ·exact h2
theorem share_cross {t p a : Int} (ha : 0 < a) : (shareQ t p a).num * a = t * p * ((shareQ t p a).den : Int) := by
 unfold shareQ
 have h := Rat.num_divInt_den (Rat.divInt (t * p) a)
 have hd : ((Rat.divInt (t * p) a).den : Int) ≠ 0 := by have := (Rat.divInt (t * p) a).den_pos; omega
 rw [Rat.divInt_eq_divInt_iff hd (by omega)] at h
 exact h
theorem share_bounds {t p a : Int} (ht : 0 ≤ t) (hp : 0 ≤ p) (ha : 0 < a) (hpa : p ≤ a) : 0 ≤ shareZ t p a ∧ shareZ t p a ≤ t := by
 have hc := share_cross (t := t) (p := p) ha
 have hd : 0 < ((shareQ t p a).den : Int) := by have := (shareQ t p a).den_pos; omega
 constructor
 ·refine rnd_nn ?_
  have h1 : 0 ≤ t * p * ((shareQ t p a).den : Int) := Int.mul_nonneg (Int.mul_nonneg ht hp) (by omega)
  rw [← hc] at h1
  exact Int.nonneg_of_mul_nonneg_left h1 ha
 ·refine rnd_le ?_
  have h1 : t * p * ((shareQ t p a).den : Int) ≤ t * a * ((shareQ t p a).den : Int) := Int.mul_le_mul_of_nonneg_right (Int.mul_le_mul_of_nonneg_left hpa ht) (by omega)
  rw [← hc, show t * a * ((shareQ t p a).den : Int) = t * ((shareQ t p a).den : Int) * a from by rw [Int.mul_assoc, Int.mul_comm a, ← Int.mul_assoc]] at h1
  exact Int.le_of_mul_le_mul_right h1 ha
theorem anegative_no (a : ByteArray) (w : World) (s : a.size ≤ 4000000) (h : ¬ vl a < 0) :
 Calls Tryz.prog 118 #[.string a] w fun e w' => e = .returned (.bool false) ∧ Below w.heap.size w w' := by
 have HC := Lib.hid (Compare_any a ⟨#[]⟩ w s (by show 0 ≤ _; omega))
 rw [show vl (⟨#[]⟩ : ByteArray) = 0 from by rw [zero_eq, vl_I]] at HC
 have hc : decide (cmpI (vl a) 0 < 0) = false := decide_eq_false (by rw [cmpI_lt]; exact h)
 go_enter Tryz.func118, Tryz.ntmps118
 go_wp2_with fail
 refine HC.out.mono ?_
 rintro e w1 ⟨rfl, B1⟩
 clear HC
 go_wp2_with fail
 go_ret
 exact ⟨rfl, B1⟩
theorem aShare_ok (t p a : Int) (w : World) (st : (I t).size ≤ 1000) (sp : (I p).size ≤ 1000) (sa : (I a).size ≤ 1000) (t0 : 0 ≤ t) (p0 : 0 ≤ p) (a0 : 0 < a) (pa : p ≤ a) (ht : Tabs w) :
 Calls Tryz.prog 83 #[.string (I t), .string (I p), .string (I a)] w fun e w' => e = .returned (.tuple #[.string (I (shareZ t p a)), .string (I (t - shareZ t p a)), .int .i64 0]) ∧ Below w.heap.size w w' := by
 have HT := Lib.hid ht
 have zm : (I (t * p)).size ≤ 2001 := by have := mul_size (a := I t) (b := I p) st sp; rwa [vl_I, vl_I] at this
 obtain ⟨K, hK⟩ : ∃ K, K = 2001 := ⟨_, rfl⟩
 have zk : (I a).size ≤ K := by omega
 have zk2 : (I t).size ≤ K := by omega
 rw [← hK] at zm
 have bq : BdQ (Rat.divInt (t * p) a) K := BdQ.div (by have := vl_lt (I (t * p)); rw [vl_I] at this; exact Nat.lt_of_lt_of_le this (pow_mono zm)) (by have := vl_lt (I a); rw [vl_I] at this; exact Nat.lt_of_lt_of_le this (pow_mono zk)) (by omega)
 have zn := bq.num
 have zd := bq.dn
 have zr : (I (shareZ t p a)).size ≤ K + 1 := I_size_le (by
  obtain ⟨h1, h2⟩ := share_bounds t0 p0 a0 pa
  have h3 := vl_lt (I t)
  rw [vl_I] at h3
  have h4 : t.natAbs < 10 ^ K := Nat.lt_of_lt_of_le h3 (pow_mono zk2)
  omega)
 have HS := Lib.hid (show rnd (fv (I (Rat.divInt (t * p) a).num) (dn (Rat.divInt (t * p) a))) = shareZ t p a from by rw [fv_enc]; rfl)
 have HC1 := Lib.hid (fun W => Check_yes (I t) W (by omega) (by unfold Can; rw [vl_I]))
 have HC2 := Lib.hid (fun W => Check_yes (I p) W (by omega) (by unfold Can; rw [vl_I]))
 have HC3 := Lib.hid (fun W => Check_yes (I a) W (by omega) (by unfold Can; rw [vl_I]))
 have hz := toList_nil a
 rw [decide_eq_false (by omega)] at hz
 have HN1 := Lib.hid (fun W => anegative_no (I a) W (by omega) (by rw [vl_I]; omega))
 have HN2 := Lib.hid (fun W => anegative_no (I p) W (by omega) (by rw [vl_I]; omega))
 have hc1 : decide (0 < cmpI p a) = false := decide_eq_false (by rw [cmpI_gt]; omega)
 have hc2 : decide (cmpI p a > 0) = false := hc1
 generalize shareZ t p a = r at HS zr ⊢
 clear ht t0 p0 pa bq
 go_enter Tryz.func83, Tryz.ntmps83
 go_wp2_with fail
 refine (HC1.out _).mono ?_
 rintro e w1 ⟨rfl, B1⟩
 go_wp2_with fail
 refine (HC2.out _).mono ?_
 rintro e w2 ⟨rfl, B2⟩
 have B2 := B1.trans (B2.mono B1.size)
 clear B1
 go_wp2_with fail
 refine (HC3.out _).mono ?_
 rintro e w3 ⟨rfl, B3⟩
 have B3 := B2.trans (B3.mono B2.size)
 clear B2 HC1 HC2 HC3
 go_wp2_with fail
 refine (HN1.out _).mono ?_
 rintro e w4 ⟨rfl, B4⟩
 have B4 := B3.trans (B4.mono B3.size)
 clear B3
 go_wp2_with fail
 refine (HN2.out _).mono ?_
 rintro e w5 ⟨rfl, B5⟩
 have B5 := B4.trans (B5.mono B4.size)
 clear B4 HN1 HN2
 go_wp2_with fail
 refine (Compare_any (I p) (I a) _ (by omega) (by omega)).mono ?_
 rintro e w6 ⟨rfl, B6⟩
 have B6 := Lib.hid (B5.trans (B6.mono B5.size))
 rw [vl_I, vl_I]
 clear B5
 go_wp2_with fail
 refine (Mul_any (I t) (I p) w6 (by omega) (by omega) (HT.out.below B6.out)).mono ?_
 rintro e w7 ⟨rfl, B7⟩
 have B7 := Lib.hid (B6.out.trans (B7.mono B6.out.size))
 rw [vl_I, vl_I]
 clear B6 hc1 hc2 hz
 go_wp2_with fail
 refine (fNew_any (I (t * p)) (I a) w7 (by omega) (by omega) (by rw [vl_I]; omega) (HT.out.below B7.out)).mono ?_
 rintro e w8 ⟨rfl, B8⟩
 have B8 := Lib.hid (B7.out.trans (B8.mono B7.out.size))
 rw [vl_I, vl_I]
 unfold fenc
 clear B7
 generalize Rat.divInt (t * p) a = q at *
 go_wp2_with fail
 refine (Round_any (I q.num) (dn q) _ (by omega) (by omega) (HT.out.below (B8.out.alloc (by simp [B8.out.size]) _))).mono ?_
 rintro e w9 ⟨rfl, B9⟩
 have B9 := Lib.hid ((B8.out.alloc B8.out.size (Obj.cells #[.string (I q.num), .string (dn q)] 141)).trans (B9.mono (B8.out.alloc B8.out.size (Obj.cells #[.string (I q.num), .string (dn q)] 141)).size))
 rw [HS.out]
 clear B8
 go_wp2_with fail
 refine (Sub_any (I t) (I r) w9 (by omega) (by omega) (HT.out.below B9.out)).mono ?_
 rintro e w10 ⟨rfl, B10⟩
 rw [vl_I, vl_I]
 go_wp2_with fail
 refine bodyPost_ret (v := .tuple #[.string (I r), .string (I (t - r)), .int .i64 0]) (by simp [results, Tryz.results83, go_sem]) rfl ?_
 exact ⟨rfl, B9.out.trans (B10.mono B9.out.size)⟩
def ith (ds : List Int) (k : Nat) : Int := ds.getD k 0
def RdD (w : World) (A : Option Addr) (ds : List Int) : Prop :=
 ds ≠ [] → ∃ ad : Addr, A = some ad ∧ ad.block < w.heap.size ∧ ∀ j, j < ds.length → w.cell? (ad.add j) = some (.int .i64 (ith ds j))
theorem RdD.below {w w' : World} {A : Option Addr} {ds : List Int} (h : RdD w A ds) (hb : Below w.heap.size w w') : RdD w' A ds := by
 intro hl
 obtain ⟨ad, rfl, h1, h2⟩ := h hl
 exact ⟨ad, rfl, Nat.lt_of_lt_of_le h1 hb.size, fun j hj => (hb.cell (by rw [add_block]; exact h1)).trans (h2 j hj)⟩
structure BOk (i : Inst) (l : Lot) : Prop where
 small : i.small
 ok : i.ok
 sized : l.sized
 lok : l.ok
 inst : l.inst = i.id
structure SBx (w : World) (p q : Rat) (W : World) : Prop where
 k0 : W.heap[w.heap.size]? = some (.cells #[.string (I p.num), .string (dn p)] 141 (0, 0))
 k1 : W.heap[w.heap.size + 1]? = some (.cells #[.string (I q.num), .string (dn q)] 141 (0, 0))
 k2 : W.heap[w.heap.size + 1 + 1]? = some (.cells #[.string ⟨#[]⟩, .string ⟨#[]⟩] 141 (0, 0))
 bel : Below w.heap.size w W
theorem SBx.below {w : World} {p q : Rat} {W W' : World} (h : SBx w p q W) (hb : Below W.heap.size W W') : SBx w p q W' :=
 ⟨(hb.block _ (Array.getElem?_eq_some_iff.1 h.k0).1).trans h.k0, (hb.block _ (Array.getElem?_eq_some_iff.1 h.k1).1).trans h.k1, (hb.block _ (Array.getElem?_eq_some_iff.1 h.k2).1).trans h.k2, h.bel.trans (hb.mono h.bel.size)⟩
def BX (w : World) (l : List (Nat × Obj)) (W : World) : Prop := Below w.heap.size w W ∧ ∀ x, x ∈ l → W.heap[x.1]? = some x.2
theorem BX.below {w : World} {l : List (Nat × Obj)} {W W' : World} (h : BX w l W) (hb : Below W.heap.size W W') : BX w l W' :=
 ⟨h.1.trans (hb.mono h.1.size), fun x hx => (hb.block _ (Array.getElem?_eq_some_iff.1 (h.2 x hx)).1).trans (h.2 x hx)⟩
theorem BX.get {w : World} {l : List (Nat × Obj)} {W : World} (h : BX w l W) (k : Nat) {b : Nat} {o : Obj} (hk : l[k]? = some (b, o)) : W.heap[b]? = some o := h.2 _ (List.mem_of_getElem? hk)
theorem BX.lt {w : World} {l : List (Nat × Obj)} {W : World} (h : BX w l W) (k : Nat) {b : Nat} {o : Obj} (hk : l[k]? = some (b, o)) : b < W.heap.size := (Array.getElem?_eq_some_iff.1 (h.get k hk)).1
abbrev fobj (q : Rat) : Obj := .cells #[.string (I q.num), .string (dn q)] 141 (0, 0)
abbrev RP (w : World) (p : Rat) (W : World) : Prop := BX w [(w.heap.size, fobj p)] W
theorem RP.two {w : World} {p : Rat} {W : World} (h : RP w p W) : W.cell? ⟨w.heap.size, 0, none⟩ = some (.string (I p.num)) ∧ W.cell? ⟨w.heap.size, 1, none⟩ = some (.string (dn p)) :=
 ⟨Lib.cell_of_heap (h.get 0 rfl) 0, Lib.cell_of_heap (h.get 0 rfl) 1⟩
theorem rCheckAll19_ex (A : Option Addr) (ls : List Lot) (c : Nat) (hcap : ls.length ≤ c) (hlm : ls.length ≤ 9223372036854775807) (hti : ∀ l ∈ ls, l.tiny) (w : World) (hR : RdL w A ls) :
 Calls Tryz.prog 30 #[.slice A ls.length c] w fun e w' => e = .returned (.int .i64 (lall ls)) ∧ Below w.heap.size w w' := by
 have HR := hI hR
 have HTI := hI hti
 clear hR hti
 by_cases hgr : 1000 < ls.length
 ·have t0 : decide ((1000 : Int) < (ls.length : Int)) = true := decide_eq_true (by omega)
  have HG := hI (lall_great hgr)
  clear hgr
  go_enter Tryz.func30, Tryz.ntmps30
  go_wp2_with fail
  go_ret
  exact ⟨by rw [HG.out]; rfl, Below.refl _ _⟩
 have hlen : ls.length ≤ 1000 := by omega
 have t0 : decide ((1000 : Int) < (ls.length : Int)) = false := decide_eq_false (by omega)
 clear hgr
 go_enter Tryz.func30, Tryz.ntmps30
 go_wp2_with fail
 go_loopw [3, 4, 5, 6, 24] (fun v _ _ _ _ wr => ∃ k : Nat, v = .int .i64 (k : Int) ∧ k ≤ ls.length ∧ lallF (ls.take k) (ls.drop k) = lall ls ∧ Below w.heap.size w wr) (fun v _ _ _ _ _ => ls.length - (intOf v).toNat)
 case atStart => exact ⟨0, rfl, by omega, lall_start hlen, Below.refl _ _⟩
 case round =>
  obtain ⟨k, rfl, hk, hg, hb⟩ := hrel
  have HG := hI hg
  have HB := hI hb
  clear hg hb
  rcases Nat.lt_or_ge k ls.length with hlt | hge
  ·obtain ⟨l, hl⟩ : ∃ l, ls[k]? = some l := ⟨_, List.getElem?_eq_getElem hlt⟩
   have HR2 := hI HR.out
   obtain ⟨ad, rfl, had, hcell⟩ := HR.out (by intro e; rw [e] at hlt; cases hlt)
   have hcx : decide ((k : Int) < (ls.length : Int)) = true := by simp; omega
   have HCE := hI (hcell k l hl)
   have HAD := hI had
   obtain ⟨c0, c1, c2, c3, c4, c5, c6⟩ := (hcell k l hl).below HB.out (by rw [add_block]; exact had)
   have HSN := hI (take_snoc hl)
   have hlt1 := HTI.out l (List.mem_of_getElem? hl)
   have HAT := hI (lall_at hlen HG.out hl)
   have HC := hI (fun W => rCheck19_ex l hlt1 W)
   clear hcell hl hlt1 had
   go_wp2_with fail
   refine (HC.out _).mono ?_
   rintro e w1 ⟨rfl, b1⟩
   obtain ⟨n, hn⟩ : ∃ n, lchk l = n := ⟨_, rfl⟩
   rw [hn]
   rw [hn] at HAT
   have HB1 := hI (HB.out.trans (b1.mono HB.out.size))
   clear b1 c0 c1 c2 c3 c4 c5 c6
   by_cases h0 : n = 0
   case neg =>
    have t1 : (n == 0) = false := beq_eq_false_iff_ne.2 h0
    have t2 : (n != 0) = true := by simp [bne, t1]
    have H0 := hI h0
    clear h0 hn
    go_wp2_with fail
    go_ret
    exact ⟨by rw [HAT.out.1 H0.out]; rfl, HB1.out⟩
   clear hn
   subst h0
   obtain ⟨c0, c1, c2, c3, c4, c5, c6⟩ := HCE.out.below HB1.out (by rw [add_block]; exact HAD.out)
   have HF := hI (fun n => q_same (rFind_any (some ad) ls k c (by omega) (by omega) l.id (w1.drewN n) ((HR2.out.below HB1.out).drewN n)))
   have HFF := hI (findR_false (ls.take k) l.id 0)
   have HFT := hI (fun (h : ∀ x ∈ ls.take k, x.id ≠ l.id) => congrArg Prod.snd (findR_none h 0))
   clear HC
   go_wp2_with fail
   generalize findR (ls.take k) l.id 0 = fr at HF HFF HFT
   obtain ⟨fn, fb⟩ := fr
   go_quiet ((go_at_call 51; exact HF.out _))
   cases fb
   ·have HNE := hI (HFF.out rfl)
    go_wp2_with fail
    go_roundw
    case rel =>
     exact ⟨k + 1, by go_num, by omega, HAT.out.2.2 (by trivial) (fun h => by obtain ⟨x, hx, e⟩ := List.mem_map.1 h; exact HNE.out x hx e), below_drewN HB1.out _⟩
    case measure => simp [intOf]; omega
   ·go_wp2_with fail
    go_ret
    refine ⟨?_, below_drewN HB1.out _⟩
    rw [HAT.out.2.1 (by trivial) (Classical.byContradiction (fun hn => by
     have := HFT.out (fun x hx e => hn (List.mem_map.2 ⟨x, hx, e⟩))
     cases this))]
    rfl
  ·have hcx : decide ((k : Int) < (ls.length : Int)) = false := by simp; omega
   have hkm : k = ls.length := by omega
   subst hkm
   go_wp2_with fail
   go_ret
   exact ⟨by rw [lall_end HG.out]; rfl, HB.out⟩
end Go.Proofs.YtjlakdocjpmblaaGreatDoor
