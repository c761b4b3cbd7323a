/-
  tranchelaw39.AccrualSums returns true. (Printed by gen_law6.py.)
-/
import Derived.Test.YtpgjmdggblnfkaaGreatDoorS46
import Derived.Test.YtpgjmdggblnfkaaGreatDoorE38
import Derived.Test.YtpgjmdggblnfkaaGreatDoorP43
import Derived.Deep.RegionWith
set_option linter.unusedVariables false
set_option linter.unusedSimpArgs false
namespace Go.Proofs.YtpgjmdggblnfkaaGreatDoor
open Go.RowKit Tr Go.Shelf

theorem cmp_ge {x y : Int} (h : y ≤ x) : decide (0 ≤ cmpI x y) = true := decide_eq_true (by rw [cmpI_ge]; omega)
theorem cmp_nge {x y : Int} (h : x < y) : decide (0 ≤ cmpI x y) = false := decide_eq_false (by rw [cmpI_ge]; omega)

theorem natAbs_of_size (z : Int) : z.natAbs < 10 ^ (I z).size := by have := vl_lt (I z); rwa [vl_I] at this

set_option maxHeartbeats 16000000 in
set_option maxRecDepth 100000 in
theorem AccrualSums_any (i : Inst) (A : Option Addr) (ls : List Lot) (c : Nat) (hcap : ls.length ≤ c) (hlm : ls.length ≤ 9223372036854775807) (d : Int) (w : World) (hR : RdL w A ls) (ht : Tabs w) :
    Calls Tryz.prog 3 #[i.enc, .slice A ls.length c, .int .i64 d] w (TruePost w) := by
  have HT := Lib.hid ht
  have HR := Lib.hid hR
  obtain ⟨W0, hW0, hB0, hz, hk⟩ := ibox i w
  have HG0 : Hid (SG w i W0) := ⟨hk, hB0⟩
  have c0 := Lib.cell_of_heap hk 0
  have c1 := Lib.cell_of_heap hk 1
  have c2 := Lib.cell_of_heap hk 2
  have c3 := Lib.cell_of_heap hk 3
  have c4 := Lib.cell_of_heap hk 4
  have c5 := Lib.cell_of_heap hk 5
  have c6 := Lib.cell_of_heap hk 6
  have c7 := Lib.cell_of_heap hk 7
  have c8 := Lib.cell_of_heap hk 8
  have c9 := Lib.cell_of_heap hk 9
  have c10 := Lib.cell_of_heap hk 10
  have c11 := Lib.cell_of_heap hk 11
  have c12 := Lib.cell_of_heap hk 12
  have c13 := Lib.cell_of_heap hk 13
  have c14 := Lib.cell_of_heap hk 14
  simp at c0 c1 c2 c3 c4 c5 c6 c7 c8 c9 c10 c11 c12 c13 c14
  clear hB0 hz hk ht hR
  go_enter Tryz.func3, Tryz.ntmps3
  go_wp2_with fail
  refine (fine39_any i A ls c hcap hlm d _ (HR.out.below HG0.out.bel)).mono ?_
  rintro e w1 ⟨g, rfl, hg, b1⟩
  have HG1 := Lib.hid (HG0.out.below b1)
  have HV := Lib.hid hg
  clear b1 hg HG0 hW0 c0 c1 c2 c3 c4 c5 c6 c7 c8 c9 c10 c11 c12 c13 c14
  cases g
  case false =>
    go_wp2_with fail
    refine (awake_any _ (HT.out.below HG1.out.bel)).mono ?_
    rintro e wz ⟨rfl, bz⟩
    have HZ := Lib.hid ((HG1.out.below bz).bel)
    clear bz
    go_wp2_with fail
    go_ret
    exact ⟨rfl, HZ.out⟩
  have hv := HV.out rfl
  clear HV
  obtain ⟨v1, v2, v3, v4, v5, v6⟩ := hv
  obtain ⟨sls, rfl⟩ := exists_slots ls (fun l hl => (v5 l hl).sized)
  have hA : AOk i sls d := ⟨v1.small, v2, v6, by rw [List.length_map] at v4; omega, v3⟩
  rw [List.length_map] at hcap v4 ⊢
  have hRB := HR.out.rdb
  have HCL := Lib.hid (sums_lots i (ownL sls i.id) d)
  have HONE := Lib.hid (fun h k x hx => sums_one i (ownL sls i.id) d h (k := k) (x := x) hx)
  have HFIN := Lib.hid (fun hk hm ho => face_sum (i := i) (d := d) hk hm (ownL sls i.id) ho)
  rw [← qsum_rsum] at HFIN
  have HLO := Lib.hid (fun W (hW : SG w i W) => lOf_any w.heap.size A sls c i.id W (by omega) (hRB.below hW.bel) hW.bel.size)
  have HT1 := Lib.hid (fun W (hW : SG w i W) => aTotal_ok w.heap.size i A sls c hcap d hA W (hRB.below hW.bel) hW.bel.size (HT.out.below hW.bel))
  have hT2 := fun n1 A' c' (hc' : (ownL sls i.id).length ≤ c') W (hW : SI w i n1 A' (ownL sls i.id) W) => aTotal_ok n1 i A' (ownL sls i.id) c' hc' d (hA.own i.id) W hW.rd hW.n1 (HT.out.below hW.sg.bel)
  rw [ownL_own] at hT2
  have HT2 := Lib.hid hT2
  clear hT2
  have HBK := Lib.hid (fun W (hW : SG w i W) => aBook_ok w.heap.size i A sls c hcap d hA W (hRB.below hW.bel) hW.bel.size (HT.out.below hW.bel) (by have := hA.tot_size; omega))
  have HTL := Lib.hid (fun W (hW : SG w i W) => lTotal_any w.heap.size A sls c i.id W (by omega) (hRB.below hW.bel) hW.bel.size (HT.out.below hW.bel))
  obtain ⟨K, hK⟩ : ∃ K, K = 1000 := ⟨_, rfl⟩
  have hol : (ownL sls i.id).length ≤ 12 := Nat.le_trans (List.length_filter_le _ _) v4
  have zQ := sumBy_size (fun x => qty_lt hK x) (ownL sls i.id) (by omega)
  have zC := sumBy_size (fun x => cost_lt hK x) (ownL sls i.id) (by omega)
  have zT := hA.tot_size
  have HZS := Lib.hid hA.sum_size
  have HZE := Lib.hid (fun k x (hx : (ownL sls i.id)[k]? = some x) => hA.exact_size (List.mem_of_getElem? hx))
  have HAM := Lib.hid (fun k x (hx : (ownL sls i.id)[k]? = some x) W (hW : SG w i W) => Amortized_ok i x.1 d (hA.one hx) v3 W (HT.out.below hW.bel))
  have bf : BdQ (fv i.fn i.fd) K := fv_bd _ _ (by have := v1.2.2.2.1; omega) (by have := v1.2.2.2.2.1; omega)
  have HS0 : Hid (i.fn.size ≤ 13 ∧ i.fd.size ≤ 13) := ⟨v1.2.2.2.1, v1.2.2.2.2.1⟩
  clear hA hRB v1 v2 v3 v5 v6 HR
  generalize ownL sls i.id = own at *
  generalize hTT : rnd (qsum (own.map fun l => exactQ i l.1 d)) = T at *
  generalize hQQ : sumBy qtyOf own = Q at *
  generalize hCC : sumBy costOf own = C at *
  have HTQ := Lib.hid hTT
  clear hTT hQQ hCC
  have HBF := Lib.hid bf
  have hK' : K = 1000 := hK
  have HKK := Lib.hid hK'
  have HZ1 : Hid ((I Q).size ≤ 10000 ∧ (I C).size ≤ 10000 ∧ (I T).size ≤ 1000000) := ⟨by omega, by omega, zT⟩
  clear zQ zC zT bf hK hK'
  have hib := HG1.out.ib
  have c0 := Lib.cell_of_heap hib 0
  have c1 := Lib.cell_of_heap hib 1
  have c2 := Lib.cell_of_heap hib 2
  have c3 := Lib.cell_of_heap hib 3
  have c4 := Lib.cell_of_heap hib 4
  have c5 := Lib.cell_of_heap hib 5
  have c6 := Lib.cell_of_heap hib 6
  have c7 := Lib.cell_of_heap hib 7
  have c8 := Lib.cell_of_heap hib 8
  have c9 := Lib.cell_of_heap hib 9
  have c10 := Lib.cell_of_heap hib 10
  have c11 := Lib.cell_of_heap hib 11
  have c12 := Lib.cell_of_heap hib 12
  have c13 := Lib.cell_of_heap hib 13
  have c14 := Lib.cell_of_heap hib 14
  simp at c0 c1 c2 c3 c4 c5 c6 c7 c8 c9 c10 c11 c12 c13 c14
  clear hib
  go_wp2_with fail
  refine (HLO.out _ HG1.out).mono ?_
  rintro e w2 ⟨A', c', rfl, hc', _, hrd, b2⟩
  have HI2 : Hid (SI w i w2.heap.size A' own w2) := ⟨HG1.out.below b2, hrd, Nat.le_refl _⟩
  generalize w2.heap.size = n1 at HI2
  clear b2 hrd HG1 HLO c0 c1 c2 c3 c4 c5 c6 c7 c8 c9 c10 c11 c12 c13 c14
  have hib := HI2.out.sg.ib
  have c0 := Lib.cell_of_heap hib 0
  have c1 := Lib.cell_of_heap hib 1
  have c2 := Lib.cell_of_heap hib 2
  have c3 := Lib.cell_of_heap hib 3
  have c4 := Lib.cell_of_heap hib 4
  have c5 := Lib.cell_of_heap hib 5
  have c6 := Lib.cell_of_heap hib 6
  have c7 := Lib.cell_of_heap hib 7
  have c8 := Lib.cell_of_heap hib 8
  have c9 := Lib.cell_of_heap hib 9
  have c10 := Lib.cell_of_heap hib 10
  have c11 := Lib.cell_of_heap hib 11
  have c12 := Lib.cell_of_heap hib 12
  have c13 := Lib.cell_of_heap hib 13
  have c14 := Lib.cell_of_heap hib 14
  simp at c0 c1 c2 c3 c4 c5 c6 c7 c8 c9 c10 c11 c12 c13 c14
  clear hib
  go_wp2_with fail
  refine (HT1.out _ HI2.out.sg).mono ?_
  rintro e w3 ⟨rfl, b3⟩
  have HI3 := Lib.hid (HI2.out.below b3)
  clear b3 HI2 HT1 c0 c1 c2 c3 c4 c5 c6 c7 c8 c9 c10 c11 c12 c13 c14
  have hib := HI3.out.sg.ib
  have c0 := Lib.cell_of_heap hib 0
  have c1 := Lib.cell_of_heap hib 1
  have c2 := Lib.cell_of_heap hib 2
  have c3 := Lib.cell_of_heap hib 3
  have c4 := Lib.cell_of_heap hib 4
  have c5 := Lib.cell_of_heap hib 5
  have c6 := Lib.cell_of_heap hib 6
  have c7 := Lib.cell_of_heap hib 7
  have c8 := Lib.cell_of_heap hib 8
  have c9 := Lib.cell_of_heap hib 9
  have c10 := Lib.cell_of_heap hib 10
  have c11 := Lib.cell_of_heap hib 11
  have c12 := Lib.cell_of_heap hib 12
  have c13 := Lib.cell_of_heap hib 13
  have c14 := Lib.cell_of_heap hib 14
  simp at c0 c1 c2 c3 c4 c5 c6 c7 c8 c9 c10 c11 c12 c13 c14
  clear hib
  go_wp2_with fail
  refine (HT2.out n1 A' c' hc' _ HI3.out).mono ?_
  rintro e w4 ⟨rfl, b4⟩
  have HI4 := Lib.hid (HI3.out.below b4)
  clear b4 HI3 HT2 c0 c1 c2 c3 c4 c5 c6 c7 c8 c9 c10 c11 c12 c13 c14
  have hib := HI4.out.sg.ib
  have c0 := Lib.cell_of_heap hib 0
  have c1 := Lib.cell_of_heap hib 1
  have c2 := Lib.cell_of_heap hib 2
  have c3 := Lib.cell_of_heap hib 3
  have c4 := Lib.cell_of_heap hib 4
  have c5 := Lib.cell_of_heap hib 5
  have c6 := Lib.cell_of_heap hib 6
  have c7 := Lib.cell_of_heap hib 7
  have c8 := Lib.cell_of_heap hib 8
  have c9 := Lib.cell_of_heap hib 9
  have c10 := Lib.cell_of_heap hib 10
  have c11 := Lib.cell_of_heap hib 11
  have c12 := Lib.cell_of_heap hib 12
  have c13 := Lib.cell_of_heap hib 13
  have c14 := Lib.cell_of_heap hib 14
  simp at c0 c1 c2 c3 c4 c5 c6 c7 c8 c9 c10 c11 c12 c13 c14
  clear hib
  go_wp2_with fail
  refine (HBK.out _ HI4.out.sg).mono ?_
  rintro e w5 ⟨rfl, b5⟩
  have HI5 := Lib.hid (HI4.out.below b5)
  clear b5 HI4 HBK c0 c1 c2 c3 c4 c5 c6 c7 c8 c9 c10 c11 c12 c13 c14
  have hib := HI5.out.sg.ib
  have c0 := Lib.cell_of_heap hib 0
  have c1 := Lib.cell_of_heap hib 1
  have c2 := Lib.cell_of_heap hib 2
  have c3 := Lib.cell_of_heap hib 3
  have c4 := Lib.cell_of_heap hib 4
  have c5 := Lib.cell_of_heap hib 5
  have c6 := Lib.cell_of_heap hib 6
  have c7 := Lib.cell_of_heap hib 7
  have c8 := Lib.cell_of_heap hib 8
  have c9 := Lib.cell_of_heap hib 9
  have c10 := Lib.cell_of_heap hib 10
  have c11 := Lib.cell_of_heap hib 11
  have c12 := Lib.cell_of_heap hib 12
  have c13 := Lib.cell_of_heap hib 13
  have c14 := Lib.cell_of_heap hib 14
  simp at c0 c1 c2 c3 c4 c5 c6 c7 c8 c9 c10 c11 c12 c13 c14
  clear hib
  go_wp2_with fail
  refine (HTL.out _ HI5.out.sg).mono ?_
  rintro e w6 ⟨rfl, b6⟩
  have HI6 := Lib.hid (HI5.out.below b6)
  clear b6 HI5 HTL c0 c1 c2 c3 c4 c5 c6 c7 c8 c9 c10 c11 c12 c13 c14
  go_wp2_with fail
  refine (Add_any (I C) (I T) _ (by have := HZ1.out; omega) (by have := HZ1.out; omega) (HT.out.below HI6.out.sg.bel)).mono ?_
  rintro e w7 ⟨rfl, b7⟩
  rw [vl_I, vl_I]
  have HI7 := Lib.hid (HI6.out.below b7)
  clear b7 HI6
  go_wp2_with fail
  have hst : ∃ (S : Int), S = 0 ∧ S = sumTo i own d 0 := ⟨0, rfl, rfl⟩
  go_loopw [16, 17, 87] (fun s o x wr => ∃ (k : Nat) (S : Int) (b : Bool), s = .string (I S) ∧ o = .bool b ∧ x = .int .i64 (k : Int) ∧ k ≤ own.length ∧ S = sumTo i own d k ∧ (b = true → ∀ y ∈ own.take k, y.1.opn ≤ d) ∧ SI w i n1 A' own wr) (fun _ _ x _ => own.length - (intOf x).toNat)
  case atStart => exact ⟨0, 0, true, rfl, rfl, rfl, by omega, rfl, fun _ y hy => by simp at hy, HI7.out⟩
  case round =>
    clear hst HI7
    obtain ⟨k, S, b, rfl, rfl, rfl, hk, hS, hb, hi⟩ := hrel
    have HS := Lib.hid hS
    have HBO := Lib.hid hb
    have HI := Lib.hid hi
    clear hS hb hi
    rcases Nat.lt_or_ge k own.length with hlt | hge
    · obtain ⟨x, hx⟩ : ∃ x, own[k]? = some x := ⟨_, List.getElem?_eq_getElem hlt⟩
      obtain ⟨ad, rfl, had, hcell⟩ := HI.out.rd (by intro e; rw [e] at hlt; cases hlt)
      have hcx : decide ((k : Int) < (own.length : Int)) = true := by simp; omega
      obtain ⟨c0, c1, c2, c3, c4, c5, c6⟩ := hcell k x hx
      have HX := Lib.hid hx
      clear hcell hx had
      go_upto_region 14 with fail
      have HX1 : Hid (SX w i n1 (some ad) own x wr.heap.size (wr.alloc (.cells x.1.cells 39))) := ⟨HI.out.below ((Below.refl _ _).alloc (Nat.le_refl _) _), heap_alloc_new wr _⟩
      generalize wr.alloc (Obj.cells x.1.cells 39) = w8 at HX1 ⊢
      generalize wr.heap.size = B at HX1 ⊢
      clear c0 c1 c2 c3 c4 c5 c6 HI
      have hib := HX1.out.si.sg.ib
      have hob := HX1.out.xb
      have c0 := Lib.cell_of_heap hib 0
      have c1 := Lib.cell_of_heap hib 1
      have c2 := Lib.cell_of_heap hib 2
      have c3 := Lib.cell_of_heap hib 3
      have c4 := Lib.cell_of_heap hib 4
      have c5 := Lib.cell_of_heap hib 5
      have c6 := Lib.cell_of_heap hib 6
      have c7 := Lib.cell_of_heap hib 7
      have c8 := Lib.cell_of_heap hib 8
      have c9 := Lib.cell_of_heap hib 9
      have c10 := Lib.cell_of_heap hib 10
      have c11 := Lib.cell_of_heap hib 11
      have c12 := Lib.cell_of_heap hib 12
      have c13 := Lib.cell_of_heap hib 13
      have c14 := Lib.cell_of_heap hib 14
      simp at c0 c1 c2 c3 c4 c5 c6 c7 c8 c9 c10 c11 c12 c13 c14
      have o0 := Lib.cell_of_heap hob 0
      have o1 := Lib.cell_of_heap hob 1
      have o2 := Lib.cell_of_heap hob 2
      have o3 := Lib.cell_of_heap hob 3
      have o4 := Lib.cell_of_heap hob 4
      have o5 := Lib.cell_of_heap hob 5
      have o6 := Lib.cell_of_heap hob 6
      simp at o0 o1 o2 o3 o4 o5 o6
      clear hib hob
      go_wp2_with fail
      refine (HAM.out k x HX.out _ HX1.out.si.sg).mono ?_
      rintro e w9 ⟨rfl, b9⟩
      have HX2 := Lib.hid (HX1.out.below b9)
      clear b9 HX1 c0 c1 c2 c3 c4 c5 c6 c7 c8 c9 c10 c11 c12 c13 c14 o0 o1 o2 o3 o4 o5 o6
      obtain ⟨z, hz⟩ : ∃ z, rnd (exactQ i x.1 d) = z := ⟨_, rfl⟩
      rw [hz]
      have HZ := Lib.hid hz
      have HADD : Hid (∀ W, SX w i n1 (some ad) own x B W → Calls Tryz.prog 13 #[.string (I S), .string (I z)] W fun e wn => e = .returned (.string (I (S + z))) ∧ SX w i n1 (some ad) own x B wn ∧ wn.cell? ⟨B, 3, none⟩ = some (.int .i64 x.1.opn)) := fun W hW => by
        refine (Add_any (I S) (I z) W (by rw [HS.out]; have := HZS.out k; omega) (by rw [← HZ.out]; have := HZE.out k x HX.out; omega) (HT.out.below hW.si.sg.bel)).mono ?_
        rintro e wn ⟨rfl, bn⟩
        exact ⟨by rw [vl_I, vl_I], hW.below bn, Lib.cell_of_heap (hW.below bn).xb 3⟩
      have HSN : Hid (S + z = sumTo i own d (k + 1)) := by rw [Hid, sumTo_succ HX.out, ← HS.out, HZ.out]
      have HTK : Hid (own.take (k + 1) = own.take k ++ [x]) := take_snoc HX.out
      have o3 := Lib.cell_of_heap HX2.out.xb 3
      simp at o3
      have hg : SX w i n1 (some ad) own x B w9.drew := HX2.out.below (Below.refl _ _).drew
      clear hz

      by_cases h1 : own.length = 1
      · have hzT : z = T := by rw [← HZ.out]; exact HONE.out h1 k x HX.out
        have t1 : ((own.length : Int) == 1) = true := by rw [beq_iff_eq]; omega
        have t2 : (own.length == 1) = true := by rw [beq_iff_eq]; omega
        have t3 : ((I z).toList == (I T).toList) = true := by rw [hzT]; simp
        clear h1 hzT
        as_aux_lemma =>
          cases b
          · go_wp2_with fail
            first
              | go_region_with (go_at_call 13; refine (HADD.out _ hg).mono ?_; clear hg o3; rintro e wn ⟨rfl, hg, o3⟩)
              | fail "it fell"
            all_goals go_wp2_with fail
            all_goals go_roundw
            all_goals first
              | exact ⟨k + 1, S + z, false, rfl, rfl, (by go_num), (by omega), HSN.out, (fun h => by cases h), hg.si⟩
              | (simp [intOf]; omega)
          · go_wp2_with fail
            go_region_held3 (fun W => W.cell? ⟨B, 3, none⟩ = some (.int .i64 x.1.opn)) (first | assumption | (go_simp; done)) ((go_at_call 13; refine (HADD.out _ hg).mono ?_; clear hg o3; rintro e wn ⟨rfl, hg, o3⟩))
            go_wp2_with fail
            go_roundw
            case rel =>
              refine ⟨k + 1, S + z, decide (x.1.opn ≤ d), rfl, rfl, by go_num, by omega, HSN.out, fun h y hy => ?_, hg.si⟩
              rw [HTK.out, List.mem_append, List.mem_singleton] at hy
              rcases hy with hy | rfl
              · exact HBO.out trivial y hy
              · exact of_decide_eq_true h
            case measure => simp [intOf]; omega
      · have t1 : ((own.length : Int) == 1) = false := by rw [beq_eq_false_iff_ne]; omega
        have t2 : (own.length == 1) = false := by rw [beq_eq_false_iff_ne]; omega
        clear h1
        as_aux_lemma =>
          cases b
          · go_wp2_with fail
            first
              | go_region_with (go_at_call 13; refine (HADD.out _ hg).mono ?_; clear hg o3; rintro e wn ⟨rfl, hg, o3⟩)
              | fail "it fell"
            all_goals go_wp2_with fail
            all_goals go_roundw
            all_goals first
              | exact ⟨k + 1, S + z, false, rfl, rfl, (by go_num), (by omega), HSN.out, (fun h => by cases h), hg.si⟩
              | (simp [intOf]; omega)
          · go_wp2_with fail
            go_region_held3 (fun W => W.cell? ⟨B, 3, none⟩ = some (.int .i64 x.1.opn)) (first | assumption | (go_simp; done)) ((go_at_call 13; refine (HADD.out _ hg).mono ?_; clear hg o3; rintro e wn ⟨rfl, hg, o3⟩))
            go_wp2_with fail
            go_roundw
            case rel =>
              refine ⟨k + 1, S + z, decide (x.1.opn ≤ d), rfl, rfl, by go_num, by omega, HSN.out, fun h y hy => ?_, hg.si⟩
              rw [HTK.out, List.mem_append, List.mem_singleton] at hy
              rcases hy with hy | rfl
              · exact HBO.out trivial y hy
              · exact of_decide_eq_true h
            case measure => simp [intOf]; omega
    · have hcx : decide ((k : Int) < (own.length : Int)) = false := by simp; omega
      have hkk : k = own.length := by omega
      subst hkk
      go_wp2_with fail
      refine (Sub_any (I S) (I T) _ (by rw [HS.out]; have := HZS.out own.length; omega) (by have := HZ1.out; omega) (HT.out.below HI.out.sg.bel)).mono ?_
      rintro e w8 ⟨rfl, b8⟩
      rw [vl_I, vl_I]
      have HI8 := Lib.hid (HI.out.below b8)
      clear b8 HI
      obtain ⟨D, hD⟩ : ∃ D, S - T = D := ⟨_, rfl⟩
      rw [hD]
      have HD : Hid ((own ≠ [] → D.natAbs < own.length) ∧ (own = [] → D = 0)) := by rw [Hid, ← hD, HS.out]; exact HCL.out
      have zD : (I D).size ≤ 3 := by
        refine small_size ?_
        rcases Classical.em (own = []) with h | h
        · rw [HD.out.2 h]; decide
        · have := HD.out.1 h; omega
      have HZD := Lib.hid zD
      clear hD zD
      go_wp2_with fail
      refine (Compare_any (I D) ⟨#[]⟩ _ (by have := HZD.out; omega) (by show 0 ≤ _; omega)).mono ?_
      rintro e w9 ⟨rfl, b9⟩
      rw [vl_I, show vl ⟨#[]⟩ = 0 from rfl]
      have HI9 := Lib.hid (HI8.out.below b9)
      clear b9 HI8

      rcases Nat.eq_zero_or_pos own.length with how | how
      · have hoe : own = [] := List.eq_nil_of_length_eq_zero how
        have hD0 := HD.out.2 hoe
        have HIE0 := HI9
        have tn : decide (cmpI D 0 < 0) = false := cmpI_nneg (by omega)
        have hq1 : decide (0 ≤ cmpI 0 (own.length : Int)) = true := cmp_ge (by omega)
        subst hD0
        have HOW := Lib.hid how
        clear how hoe
        go_wp2_with fail
        refine (Of_any (own.length : Int) (by omega) (by omega) _ (HT.out.below HI9.out.sg.bel)).mono ?_
        rintro e wa ⟨rfl, ba⟩
        have HIA := Lib.hid (HI9.out.below ba)
        clear ba HI9 HIE0
        go_wp2_with fail
        refine (Compare_any (I 0) (I (own.length : Int)) _ (by show 0 ≤ _; omega) (by have := small_size (z := (own.length : Int)) (by omega); omega)).mono ?_
        rintro e wE ⟨rfl, bb⟩
        rw [vl_I, vl_I]
        have HIE := Lib.hid (HIA.out.below bb)
        clear bb HIA
        have q2 : ((own.length : Int) == 0) = true := by rw [beq_iff_eq]; have := HOW.out; omega
        have q3 : (own.length == 0) = true := by rw [beq_iff_eq]; have := HOW.out; omega
        have q4 : decide ((0 : Int) < (own.length : Int)) = false := decide_eq_false (by have := HOW.out; omega)
        have q5 : decide (0 < own.length) = false := decide_eq_false (by have := HOW.out; omega)
        have q6 : ((I 0).toList == []) = true := by rw [toList_nil]; rfl
        have hib := HIE.out.sg.ib
        have c0 := Lib.cell_of_heap hib 0
        have c1 := Lib.cell_of_heap hib 1
        have c2 := Lib.cell_of_heap hib 2
        have c3 := Lib.cell_of_heap hib 3
        have c4 := Lib.cell_of_heap hib 4
        have c5 := Lib.cell_of_heap hib 5
        have c6 := Lib.cell_of_heap hib 6
        have c7 := Lib.cell_of_heap hib 7
        have c8 := Lib.cell_of_heap hib 8
        have c9 := Lib.cell_of_heap hib 9
        have c10 := Lib.cell_of_heap hib 10
        have c11 := Lib.cell_of_heap hib 11
        have c12 := Lib.cell_of_heap hib 12
        have c13 := Lib.cell_of_heap hib 13
        have c14 := Lib.cell_of_heap hib 14
        simp at c0 c1 c2 c3 c4 c5 c6 c7 c8 c9 c10 c11 c12 c13 c14
        clear hib
        as_aux_lemma =>
          by_cases hk2 : i.kind = 2
          case neg =>
            have t1 : (i.kind == 2) = false := beq_eq_false_iff_ne.2 hk2
            have t2 : (i.kind != 2) = true := by simp [hk2]
            clear hk2
            go_wp2_with fail
            refine (awake_any _ (HT.out.below HIE.out.sg.bel)).mono ?_
            rintro e wz ⟨rfl, bz⟩
            have HZ := Lib.hid ((HIE.out.sg.below bz).bel)
            clear bz
            go_wp2_with fail
            go_ret
            exact ⟨rfl, HZ.out⟩
          have t1 : (i.kind == 2) = true := beq_iff_eq.2 hk2
          have t2 : (i.kind != 2) = false := by simp [hk2]
          by_cases hm : d < i.matures
          case pos =>
            have t3 : decide (d < i.matures) = true := decide_eq_true hm
            clear hm
            go_wp2_with fail
            refine (awake_any _ (HT.out.below HIE.out.sg.bel)).mono ?_
            rintro e wz ⟨rfl, bz⟩
            have HZ := Lib.hid ((HIE.out.sg.below bz).bel)
            clear bz
            go_wp2_with fail
            go_ret
            exact ⟨rfl, HZ.out⟩
          have t3 : decide (d < i.matures) = false := decide_eq_false hm
          cases b
          case false =>
            go_wp2_with fail
            refine (awake_any _ (HT.out.below HIE.out.sg.bel)).mono ?_
            rintro e wz ⟨rfl, bz⟩
            have HZ := Lib.hid ((HIE.out.sg.below bz).bel)
            clear bz
            go_wp2_with fail
            go_ret
            exact ⟨rfl, HZ.out⟩
          have hfin := HFIN.out hk2 (by omega) (fun y hy => HBO.out rfl y (by rw [List.take_of_length_le (Nat.le_refl _)]; exact hy))
          have HEQ : Hid (rnd (fv i.fn i.fd * (Q : Rat) - (C : Rat)) = T) := by rw [Hid, ← hfin]; exact HTQ.out
          clear hm hk2 hfin
          obtain ⟨N, hN⟩ : ∃ N, N = 10000 := ⟨_, rfl⟩
          have bf : BdQ (fv i.fn i.fd) N := HBF.out.mono (by have := HKK.out; omega)
          have bq : BdQ (Q : Rat) N := BdQ.int (Nat.lt_of_lt_of_le (natAbs_of_size Q) (pow_mono (by have := HZ1.out; omega))) (by omega)
          have bc : BdQ (C : Rat) N := BdQ.int (Nat.lt_of_lt_of_le (natAbs_of_size C) (pow_mono (by have := HZ1.out; omega))) (by omega)
          have bm := bf.mul bq
          have bs := bm.sub bc
          have C1 := fun W hW => fOf_any (I Q) W (by have := HZ1.out; omega) hW
          have C3 := fun W hW => fOf_any (I C) W (by have := HZ1.out; omega) hW
          rw [vl_I] at C1 C3
          have C2 := fun W hW => fMul_any i.fn i.fd (I (Q : Rat).num) (dn (Q : Rat)) W (by have := HS0.out; omega) (by have := HS0.out; omega) (by have := bq.num; omega) (by have := bq.dn; omega) hW
          rw [fv_enc] at C2
          have C4 := fun W hW => fSubQ bm bc (by omega) (by omega) W hW
          have C5 := fun W hW => Round_any (I (fv i.fn i.fd * (Q : Rat) - (C : Rat)).num) (dn (fv i.fn i.fd * (Q : Rat) - (C : Rat))) W (by have := bs.num; omega) (by have := bs.dn; omega) hW
          rw [fv_enc, HEQ.out] at C5
          generalize (Q : Rat) = rq at C1 C2 C4 C5
          generalize (C : Rat) = rc at C3 C4 C5
          generalize fv i.fn i.fd * rq = rm at C2 C4 C5
          generalize rm - rc = rs at C4 C5
          have HC1 := Lib.hid (SG.calls (i := i) HT.out C1)
          have HC2 := Lib.hid (SG.calls (i := i) HT.out C2)
          have HC3 := Lib.hid (SG.calls (i := i) HT.out C3)
          have HC4 := Lib.hid (SG.calls (i := i) HT.out C4)
          have HC5 := Lib.hid (SG.calls (i := i) HT.out C5)
          unfold fenc at HC1 HC2 HC3 HC4
          clear C1 C2 C3 C4 C5 bf bq bc bm bs hN
          go_upto_region 26 with fail
          go_cut [163, 23, 24] (fun _ v23 v24 wx => v23 = .string (I T) ∧ v24 = .int .i64 0 ∧ SG w i wx)
          case first =>
            have c6 := Lib.cell_of_heap HIE.out.sg.ib 6
            have c7 := Lib.cell_of_heap HIE.out.sg.ib 7
            simp at c6 c7
            have hg : SG w i wE.drew := HIE.out.sg.below (Below.refl _ _).drew
            clear HIE t1 t2 t3
            go_region_held3 (fun W => W.cell? ⟨w.heap.size, 6, none⟩ = some (.string i.fn) ∧ W.cell? ⟨w.heap.size, 7, none⟩ = some (.string i.fd))
              (((try dsimp only); refine ⟨?_, ?_⟩ <;> first | assumption | (go_simp; done)))
              (first
                | (go_at_call_of 22 [Value.string (I Q)]; refine (HC1.out _ hg).mono ?_; clear hg c6 c7; rintro e wn ⟨rfl, hg, c6, c7⟩)
                | (go_at_call_of 22 [Value.string (I C)]; refine (HC3.out _ hg).mono ?_; clear hg c6 c7; rintro e wn ⟨rfl, hg, c6, c7⟩)
                | (go_at_call_of 21 [Value.agg #[Value.string i.fn, Value.string i.fd], Value.agg #[Value.string (I rq.num), Value.string (dn rq)]]; refine (HC2.out _ hg).mono ?_; clear hg c6 c7; rintro e wn ⟨rfl, hg, c6, c7⟩)
                | (go_at_call_of 20 [Value.agg #[Value.string (I rm.num), Value.string (dn rm)], Value.agg #[Value.string (I rc.num), Value.string (dn rc)]]; refine (HC4.out _ hg).mono ?_; clear hg c6 c7; rintro e wn ⟨rfl, hg, c6, c7⟩)
                | (go_at_call 19; refine (HC5.out _ hg).mono ?_; clear hg c6 c7; rintro e wn ⟨rfl, hg, c6, c7⟩))
            all_goals (first | go_wp2_with fail | skip)
            all_goals go_meet
            all_goals exact ⟨rfl, rfl, hg⟩
          case rest =>
            obtain ⟨rfl, rfl, hg⟩ := hcut
            have HG := Lib.hid hg
            clear hg HIE HC1 HC2 HC3 HC4 HC5 t1 t2 t3
            go_wp2_with fail
            refine (Add_any (I C) (I T) _ (by have := HZ1.out; omega) (by have := HZ1.out; omega) (HT.out.below HG.out.bel)).mono ?_
            rintro e wy ⟨rfl, by1⟩
            rw [vl_I, vl_I]
            have HGY := Lib.hid (HG.out.below by1)
            clear by1 HG
            go_wp2_with fail
            refine (awake_any _ (HT.out.below HGY.out.bel)).mono ?_
            rintro e wz ⟨rfl, bz⟩
            have HZ := Lib.hid ((HGY.out.below bz).bel)
            clear bz
            go_wp2_with fail
            go_ret
            exact ⟨rfl, HZ.out⟩
      · have HOW := Lib.hid how
        clear how
        by_cases hneg : D < 0
        · have tn := cmpI_neg hneg
          go_wp2_with fail
          refine (Neg_any (I D) _ (by have := HZD.out; omega) (HT.out.below HI9.out.sg.bel)).mono ?_
          rintro e wm ⟨rfl, bm⟩
          rw [vl_I]
          have HIM := Lib.hid (HI9.out.below bm)
          clear bm HI9
          as_aux_lemma =>
            have HZE2 : Hid ((I (-D)).size ≤ 3) := small_size (by have := HOW.out; have := HD.out.1 (fun e => by rw [e] at this; cases this); omega)
            go_wp2_with fail
            refine (Of_any (own.length : Int) (by omega) (by omega) _ (HT.out.below HIM.out.sg.bel)).mono ?_
            rintro e wa ⟨rfl, ba⟩
            have HIA := Lib.hid (HIM.out.below ba)
            clear ba HIM
            go_wp2_with fail
            refine (Compare_any (I (-D)) (I (own.length : Int)) _ (by have := HZE2.out; omega) (by have := small_size (z := (own.length : Int)) (by omega); omega)).mono ?_
            rintro e wE ⟨rfl, bb⟩
            rw [vl_I, vl_I]
            have HIE := Lib.hid (HIA.out.below bb)
            clear bb HIA
            have q1 : decide (0 ≤ cmpI (-D) (own.length : Int)) = false := cmp_nge (by have := HOW.out; have := HD.out.1 (fun e => by rw [e] at this; cases this); omega)
            have q2 : ((own.length : Int) == 0) = false := by rw [beq_eq_false_iff_ne]; have := HOW.out; omega
            have q3 : (own.length == 0) = false := by rw [beq_eq_false_iff_ne]; have := HOW.out; omega
            have hib := HIE.out.sg.ib
            have c0 := Lib.cell_of_heap hib 0
            have c1 := Lib.cell_of_heap hib 1
            have c2 := Lib.cell_of_heap hib 2
            have c3 := Lib.cell_of_heap hib 3
            have c4 := Lib.cell_of_heap hib 4
            have c5 := Lib.cell_of_heap hib 5
            have c6 := Lib.cell_of_heap hib 6
            have c7 := Lib.cell_of_heap hib 7
            have c8 := Lib.cell_of_heap hib 8
            have c9 := Lib.cell_of_heap hib 9
            have c10 := Lib.cell_of_heap hib 10
            have c11 := Lib.cell_of_heap hib 11
            have c12 := Lib.cell_of_heap hib 12
            have c13 := Lib.cell_of_heap hib 13
            have c14 := Lib.cell_of_heap hib 14
            simp at c0 c1 c2 c3 c4 c5 c6 c7 c8 c9 c10 c11 c12 c13 c14
            clear hib
            by_cases hk2 : i.kind = 2
            case neg =>
              have t1 : (i.kind == 2) = false := beq_eq_false_iff_ne.2 hk2
              have t2 : (i.kind != 2) = true := by simp [hk2]
              clear hk2
              go_wp2_with fail
              refine (awake_any _ (HT.out.below HIE.out.sg.bel)).mono ?_
              rintro e wz ⟨rfl, bz⟩
              have HZ := Lib.hid ((HIE.out.sg.below bz).bel)
              clear bz
              go_wp2_with fail
              go_ret
              exact ⟨rfl, HZ.out⟩
            have t1 : (i.kind == 2) = true := beq_iff_eq.2 hk2
            have t2 : (i.kind != 2) = false := by simp [hk2]
            by_cases hm : d < i.matures
            case pos =>
              have t3 : decide (d < i.matures) = true := decide_eq_true hm
              clear hm
              go_wp2_with fail
              refine (awake_any _ (HT.out.below HIE.out.sg.bel)).mono ?_
              rintro e wz ⟨rfl, bz⟩
              have HZ := Lib.hid ((HIE.out.sg.below bz).bel)
              clear bz
              go_wp2_with fail
              go_ret
              exact ⟨rfl, HZ.out⟩
            have t3 : decide (d < i.matures) = false := decide_eq_false hm
            cases b
            case false =>
              go_wp2_with fail
              refine (awake_any _ (HT.out.below HIE.out.sg.bel)).mono ?_
              rintro e wz ⟨rfl, bz⟩
              have HZ := Lib.hid ((HIE.out.sg.below bz).bel)
              clear bz
              go_wp2_with fail
              go_ret
              exact ⟨rfl, HZ.out⟩
            have hfin := HFIN.out hk2 (by omega) (fun y hy => HBO.out rfl y (by rw [List.take_of_length_le (Nat.le_refl _)]; exact hy))
            have HEQ : Hid (rnd (fv i.fn i.fd * (Q : Rat) - (C : Rat)) = T) := by rw [Hid, ← hfin]; exact HTQ.out
            clear hm hk2 hfin
            obtain ⟨N, hN⟩ : ∃ N, N = 10000 := ⟨_, rfl⟩
            have bf : BdQ (fv i.fn i.fd) N := HBF.out.mono (by have := HKK.out; omega)
            have bq : BdQ (Q : Rat) N := BdQ.int (Nat.lt_of_lt_of_le (natAbs_of_size Q) (pow_mono (by have := HZ1.out; omega))) (by omega)
            have bc : BdQ (C : Rat) N := BdQ.int (Nat.lt_of_lt_of_le (natAbs_of_size C) (pow_mono (by have := HZ1.out; omega))) (by omega)
            have bm := bf.mul bq
            have bs := bm.sub bc
            have C1 := fun W hW => fOf_any (I Q) W (by have := HZ1.out; omega) hW
            have C3 := fun W hW => fOf_any (I C) W (by have := HZ1.out; omega) hW
            rw [vl_I] at C1 C3
            have C2 := fun W hW => fMul_any i.fn i.fd (I (Q : Rat).num) (dn (Q : Rat)) W (by have := HS0.out; omega) (by have := HS0.out; omega) (by have := bq.num; omega) (by have := bq.dn; omega) hW
            rw [fv_enc] at C2
            have C4 := fun W hW => fSubQ bm bc (by omega) (by omega) W hW
            have C5 := fun W hW => Round_any (I (fv i.fn i.fd * (Q : Rat) - (C : Rat)).num) (dn (fv i.fn i.fd * (Q : Rat) - (C : Rat))) W (by have := bs.num; omega) (by have := bs.dn; omega) hW
            rw [fv_enc, HEQ.out] at C5
            generalize (Q : Rat) = rq at C1 C2 C4 C5
            generalize (C : Rat) = rc at C3 C4 C5
            generalize fv i.fn i.fd * rq = rm at C2 C4 C5
            generalize rm - rc = rs at C4 C5
            have HC1 := Lib.hid (SG.calls (i := i) HT.out C1)
            have HC2 := Lib.hid (SG.calls (i := i) HT.out C2)
            have HC3 := Lib.hid (SG.calls (i := i) HT.out C3)
            have HC4 := Lib.hid (SG.calls (i := i) HT.out C4)
            have HC5 := Lib.hid (SG.calls (i := i) HT.out C5)
            unfold fenc at HC1 HC2 HC3 HC4
            clear C1 C2 C3 C4 C5 bf bq bc bm bs hN
            go_upto_region 26 with fail
            go_cut [163, 23, 24] (fun _ v23 v24 wx => v23 = .string (I T) ∧ v24 = .int .i64 0 ∧ SG w i wx)
            case first =>
              have c6 := Lib.cell_of_heap HIE.out.sg.ib 6
              have c7 := Lib.cell_of_heap HIE.out.sg.ib 7
              simp at c6 c7
              have hg : SG w i wE.drew := HIE.out.sg.below (Below.refl _ _).drew
              clear HIE t1 t2 t3
              go_region_held3 (fun W => W.cell? ⟨w.heap.size, 6, none⟩ = some (.string i.fn) ∧ W.cell? ⟨w.heap.size, 7, none⟩ = some (.string i.fd))
                (((try dsimp only); refine ⟨?_, ?_⟩ <;> first | assumption | (go_simp; done)))
                (first
                  | (go_at_call_of 22 [Value.string (I Q)]; refine (HC1.out _ hg).mono ?_; clear hg c6 c7; rintro e wn ⟨rfl, hg, c6, c7⟩)
                  | (go_at_call_of 22 [Value.string (I C)]; refine (HC3.out _ hg).mono ?_; clear hg c6 c7; rintro e wn ⟨rfl, hg, c6, c7⟩)
                  | (go_at_call_of 21 [Value.agg #[Value.string i.fn, Value.string i.fd], Value.agg #[Value.string (I rq.num), Value.string (dn rq)]]; refine (HC2.out _ hg).mono ?_; clear hg c6 c7; rintro e wn ⟨rfl, hg, c6, c7⟩)
                  | (go_at_call_of 20 [Value.agg #[Value.string (I rm.num), Value.string (dn rm)], Value.agg #[Value.string (I rc.num), Value.string (dn rc)]]; refine (HC4.out _ hg).mono ?_; clear hg c6 c7; rintro e wn ⟨rfl, hg, c6, c7⟩)
                  | (go_at_call 19; refine (HC5.out _ hg).mono ?_; clear hg c6 c7; rintro e wn ⟨rfl, hg, c6, c7⟩))
              all_goals (first | go_wp2_with fail | skip)
              all_goals go_meet
              all_goals exact ⟨rfl, rfl, hg⟩
            case rest =>
              obtain ⟨rfl, rfl, hg⟩ := hcut
              have HG := Lib.hid hg
              clear hg HIE HC1 HC2 HC3 HC4 HC5 t1 t2 t3
              go_wp2_with fail
              refine (Add_any (I C) (I T) _ (by have := HZ1.out; omega) (by have := HZ1.out; omega) (HT.out.below HG.out.bel)).mono ?_
              rintro e wy ⟨rfl, by1⟩
              rw [vl_I, vl_I]
              have HGY := Lib.hid (HG.out.below by1)
              clear by1 HG
              go_wp2_with fail
              refine (awake_any _ (HT.out.below HGY.out.bel)).mono ?_
              rintro e wz ⟨rfl, bz⟩
              have HZ := Lib.hid ((HGY.out.below bz).bel)
              clear bz
              go_wp2_with fail
              go_ret
              exact ⟨rfl, HZ.out⟩
        · have tn := cmpI_nneg hneg
          as_aux_lemma =>
            have HZE2 : Hid ((I (D)).size ≤ 3) := small_size (by have := HOW.out; have := HD.out.1 (fun e => by rw [e] at this; cases this); omega)
            go_wp2_with fail
            refine (Of_any (own.length : Int) (by omega) (by omega) _ (HT.out.below HI9.out.sg.bel)).mono ?_
            rintro e wa ⟨rfl, ba⟩
            have HIA := Lib.hid (HI9.out.below ba)
            clear ba HI9
            go_wp2_with fail
            refine (Compare_any (I (D)) (I (own.length : Int)) _ (by have := HZE2.out; omega) (by have := small_size (z := (own.length : Int)) (by omega); omega)).mono ?_
            rintro e wE ⟨rfl, bb⟩
            rw [vl_I, vl_I]
            have HIE := Lib.hid (HIA.out.below bb)
            clear bb HIA
            have q1 : decide (0 ≤ cmpI (D) (own.length : Int)) = false := cmp_nge (by have := HOW.out; have := HD.out.1 (fun e => by rw [e] at this; cases this); omega)
            have q2 : ((own.length : Int) == 0) = false := by rw [beq_eq_false_iff_ne]; have := HOW.out; omega
            have q3 : (own.length == 0) = false := by rw [beq_eq_false_iff_ne]; have := HOW.out; omega
            have hib := HIE.out.sg.ib
            have c0 := Lib.cell_of_heap hib 0
            have c1 := Lib.cell_of_heap hib 1
            have c2 := Lib.cell_of_heap hib 2
            have c3 := Lib.cell_of_heap hib 3
            have c4 := Lib.cell_of_heap hib 4
            have c5 := Lib.cell_of_heap hib 5
            have c6 := Lib.cell_of_heap hib 6
            have c7 := Lib.cell_of_heap hib 7
            have c8 := Lib.cell_of_heap hib 8
            have c9 := Lib.cell_of_heap hib 9
            have c10 := Lib.cell_of_heap hib 10
            have c11 := Lib.cell_of_heap hib 11
            have c12 := Lib.cell_of_heap hib 12
            have c13 := Lib.cell_of_heap hib 13
            have c14 := Lib.cell_of_heap hib 14
            simp at c0 c1 c2 c3 c4 c5 c6 c7 c8 c9 c10 c11 c12 c13 c14
            clear hib
            by_cases hk2 : i.kind = 2
            case neg =>
              have t1 : (i.kind == 2) = false := beq_eq_false_iff_ne.2 hk2
              have t2 : (i.kind != 2) = true := by simp [hk2]
              clear hk2
              go_wp2_with fail
              refine (awake_any _ (HT.out.below HIE.out.sg.bel)).mono ?_
              rintro e wz ⟨rfl, bz⟩
              have HZ := Lib.hid ((HIE.out.sg.below bz).bel)
              clear bz
              go_wp2_with fail
              go_ret
              exact ⟨rfl, HZ.out⟩
            have t1 : (i.kind == 2) = true := beq_iff_eq.2 hk2
            have t2 : (i.kind != 2) = false := by simp [hk2]
            by_cases hm : d < i.matures
            case pos =>
              have t3 : decide (d < i.matures) = true := decide_eq_true hm
              clear hm
              go_wp2_with fail
              refine (awake_any _ (HT.out.below HIE.out.sg.bel)).mono ?_
              rintro e wz ⟨rfl, bz⟩
              have HZ := Lib.hid ((HIE.out.sg.below bz).bel)
              clear bz
              go_wp2_with fail
              go_ret
              exact ⟨rfl, HZ.out⟩
            have t3 : decide (d < i.matures) = false := decide_eq_false hm
            cases b
            case false =>
              go_wp2_with fail
              refine (awake_any _ (HT.out.below HIE.out.sg.bel)).mono ?_
              rintro e wz ⟨rfl, bz⟩
              have HZ := Lib.hid ((HIE.out.sg.below bz).bel)
              clear bz
              go_wp2_with fail
              go_ret
              exact ⟨rfl, HZ.out⟩
            have hfin := HFIN.out hk2 (by omega) (fun y hy => HBO.out rfl y (by rw [List.take_of_length_le (Nat.le_refl _)]; exact hy))
            have HEQ : Hid (rnd (fv i.fn i.fd * (Q : Rat) - (C : Rat)) = T) := by rw [Hid, ← hfin]; exact HTQ.out
            clear hm hk2 hfin
            obtain ⟨N, hN⟩ : ∃ N, N = 10000 := ⟨_, rfl⟩
            have bf : BdQ (fv i.fn i.fd) N := HBF.out.mono (by have := HKK.out; omega)
            have bq : BdQ (Q : Rat) N := BdQ.int (Nat.lt_of_lt_of_le (natAbs_of_size Q) (pow_mono (by have := HZ1.out; omega))) (by omega)
            have bc : BdQ (C : Rat) N := BdQ.int (Nat.lt_of_lt_of_le (natAbs_of_size C) (pow_mono (by have := HZ1.out; omega))) (by omega)
            have bm := bf.mul bq
            have bs := bm.sub bc
            have C1 := fun W hW => fOf_any (I Q) W (by have := HZ1.out; omega) hW
            have C3 := fun W hW => fOf_any (I C) W (by have := HZ1.out; omega) hW
            rw [vl_I] at C1 C3
            have C2 := fun W hW => fMul_any i.fn i.fd (I (Q : Rat).num) (dn (Q : Rat)) W (by have := HS0.out; omega) (by have := HS0.out; omega) (by have := bq.num; omega) (by have := bq.dn; omega) hW
            rw [fv_enc] at C2
            have C4 := fun W hW => fSubQ bm bc (by omega) (by omega) W hW
            have C5 := fun W hW => Round_any (I (fv i.fn i.fd * (Q : Rat) - (C : Rat)).num) (dn (fv i.fn i.fd * (Q : Rat) - (C : Rat))) W (by have := bs.num; omega) (by have := bs.dn; omega) hW
            rw [fv_enc, HEQ.out] at C5
            generalize (Q : Rat) = rq at C1 C2 C4 C5
            generalize (C : Rat) = rc at C3 C4 C5
            generalize fv i.fn i.fd * rq = rm at C2 C4 C5
            generalize rm - rc = rs at C4 C5
            have HC1 := Lib.hid (SG.calls (i := i) HT.out C1)
            have HC2 := Lib.hid (SG.calls (i := i) HT.out C2)
            have HC3 := Lib.hid (SG.calls (i := i) HT.out C3)
            have HC4 := Lib.hid (SG.calls (i := i) HT.out C4)
            have HC5 := Lib.hid (SG.calls (i := i) HT.out C5)
            unfold fenc at HC1 HC2 HC3 HC4
            clear C1 C2 C3 C4 C5 bf bq bc bm bs hN
            go_upto_region 26 with fail
            go_cut [163, 23, 24] (fun _ v23 v24 wx => v23 = .string (I T) ∧ v24 = .int .i64 0 ∧ SG w i wx)
            case first =>
              have c6 := Lib.cell_of_heap HIE.out.sg.ib 6
              have c7 := Lib.cell_of_heap HIE.out.sg.ib 7
              simp at c6 c7
              have hg : SG w i wE.drew := HIE.out.sg.below (Below.refl _ _).drew
              clear HIE t1 t2 t3
              go_region_held3 (fun W => W.cell? ⟨w.heap.size, 6, none⟩ = some (.string i.fn) ∧ W.cell? ⟨w.heap.size, 7, none⟩ = some (.string i.fd))
                (((try dsimp only); refine ⟨?_, ?_⟩ <;> first | assumption | (go_simp; done)))
                (first
                  | (go_at_call_of 22 [Value.string (I Q)]; refine (HC1.out _ hg).mono ?_; clear hg c6 c7; rintro e wn ⟨rfl, hg, c6, c7⟩)
                  | (go_at_call_of 22 [Value.string (I C)]; refine (HC3.out _ hg).mono ?_; clear hg c6 c7; rintro e wn ⟨rfl, hg, c6, c7⟩)
                  | (go_at_call_of 21 [Value.agg #[Value.string i.fn, Value.string i.fd], Value.agg #[Value.string (I rq.num), Value.string (dn rq)]]; refine (HC2.out _ hg).mono ?_; clear hg c6 c7; rintro e wn ⟨rfl, hg, c6, c7⟩)
                  | (go_at_call_of 20 [Value.agg #[Value.string (I rm.num), Value.string (dn rm)], Value.agg #[Value.string (I rc.num), Value.string (dn rc)]]; refine (HC4.out _ hg).mono ?_; clear hg c6 c7; rintro e wn ⟨rfl, hg, c6, c7⟩)
                  | (go_at_call 19; refine (HC5.out _ hg).mono ?_; clear hg c6 c7; rintro e wn ⟨rfl, hg, c6, c7⟩))
              all_goals (first | go_wp2_with fail | skip)
              all_goals go_meet
              all_goals exact ⟨rfl, rfl, hg⟩
            case rest =>
              obtain ⟨rfl, rfl, hg⟩ := hcut
              have HG := Lib.hid hg
              clear hg HIE HC1 HC2 HC3 HC4 HC5 t1 t2 t3
              go_wp2_with fail
              refine (Add_any (I C) (I T) _ (by have := HZ1.out; omega) (by have := HZ1.out; omega) (HT.out.below HG.out.bel)).mono ?_
              rintro e wy ⟨rfl, by1⟩
              rw [vl_I, vl_I]
              have HGY := Lib.hid (HG.out.below by1)
              clear by1 HG
              go_wp2_with fail
              refine (awake_any _ (HT.out.below HGY.out.bel)).mono ?_
              rintro e wz ⟨rfl, bz⟩
              have HZ := Lib.hid ((HGY.out.below bz).bel)
              clear bz
              go_wp2_with fail
              go_ret
              exact ⟨rfl, HZ.out⟩
end Go.Proofs.YtpgjmdggblnfkaaGreatDoor
