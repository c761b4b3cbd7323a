/-
  RevalueMarks. (Printed by gen_law40.py.)
-/
import Derived.Test.YtbkmhmaldljgmaaGreatDoorC44
set_option linter.unusedVariables false
set_option linter.unusedSimpArgs false
set_option maxHeartbeats 16000000
set_option maxRecDepth 100000
namespace Go.Proofs.YtbkmhmaldljgmaaGreatDoor
open Go.RowKit Tr Go.Shelf
theorem RevalueMarks_any (dc d : Int) (i : Inst) (B A E : Option Addr) (b a f : List ByteArray) (cb ca ce : Nat) (w : World) (hB : RdS w B b) (hA : RdS w A a) (hE : RdS w E f) (ht : Tabs w) : Calls Tryz.prog 4 #[.int .i64 dc, .int .i64 d, i.enc, .slice B b.length cb, .slice A a.length ca, .slice E f.length ce] w fun e w' => e = .returned (.bool true) ∧ Below w.heap.size w w' := by
 obtain ⟨W0, hW0⟩ : ∃ W0, w.alloc (.cells i.cells 27) = W0 := ⟨_, rfl⟩
 have k0 : W0.heap[w.heap.size]? = some (.cells i.cells 27 (0, 0)) := by rw [← hW0]; exact heap_alloc_new w _
 have b0 : Below w.heap.size w W0 := by rw [← hW0]; exact (Below.refl _ w).alloc (Nat.le_refl _) _
 have HB0 := hI b0
 have HK0 := hI k0
 have HT := hI ht
 have HAW := hI (fun W (hb : Below w.heap.size w W) => awake40_any W (ht.below hb))
 obtain ⟨W1, hW1⟩ : ∃ W1, W0.alloc (.cells i.cells 27) = W1 := ⟨_, rfl⟩
 have b1 : Below W0.heap.size W0 W1 := by rw [← hW1]; exact (Below.refl _ W0).alloc (Nat.le_refl _) _
 have HB1 := hI (b0.trans (b1.mono b0.size))
 have HK1 := hI (bkeepK b1 k0)
 have HGR := hI (great10_any W0.heap.size i W1 (by rw [← hW1]; exact heap_alloc_new W0 _))
 have HS0 := hI (fun W (hb : Below w.heap.size w W) => small40_any B b cb W (hB.below hb))
 have HB := hI hB
 have HS1 := hI (fun W (hb : Below w.heap.size w W) => small40_any A a ca W (hA.below hb))
 have HA := hI hA
 have HS2 := hI (fun W (hb : Below w.heap.size w W) => small40_any E f ce W (hE.below hb))
 have HE := hI hE
 obtain ⟨c0, c1, c2, c3, c4, c5, c6, c7, c8, c9, c10, c11, c12, c13, c14⟩ := icellsV k0
 clear k0 b0 b1 ht hB hA hE
 unfold Inst.enc Inst.cells at *
 go_enter Tryz.func4, Tryz.ntmps4
 go_wp2_with fail
 refine HGR.out.mono ?_
 rintro e w2 ⟨g, rfl, hg, b2⟩
 have HB2 := hI (HB1.out.trans (b2.mono HB1.out.size))
 have HK2 := hI (bkeepK b2 HK1.out)
 clear b2 HGR hW0 hW1 HB0 HK0 HB1 HK1 c0 c1 c2 c3 c4 c5 c6 c7 c8 c9 c10 c11 c12 c13 c14
 cases g with
 | true =>
   go_wp2_with fail
   refine (HAW.out _ HB2.out).mono ?_
   rintro e wz ⟨rfl, bz⟩
   have HBZ := hI (HB2.out.trans (bz.mono HB2.out.size))
   clear bz
   go_wp2_with fail
   go_ret
   exact ⟨rfl, HBZ.out⟩
 | false =>
   have HSM : Hid i.small := (hg rfl).small
   clear hg
   go_wp2_with fail
   refine (HS0.out _ HB2.out).mono ?_
   rintro e w3 ⟨rfl, b3⟩
   have HB3 := hI (HB2.out.trans (b3.mono HB2.out.size))
   have HK3 := hI (bkeepK b3 HK2.out)
   clear b3 HS0 HK2
   obtain ⟨s0, hs0⟩ : ∃ s, smallS b = s := ⟨_, rfl⟩
   rw [hs0]
   cases s0 with
   | false =>
     clear hs0
     go_wp2_with fail
     refine (HAW.out _ HB3.out).mono ?_
     rintro e wz ⟨rfl, bz⟩
     have HBZ := hI (HB3.out.trans (bz.mono HB3.out.size))
     clear bz
     go_wp2_with fail
     go_ret
     exact ⟨rfl, HBZ.out⟩
   | true =>
     obtain ⟨hl0, hz0⟩ := small_sizes hs0
     clear hs0 HB2
     go_wp2_with fail
     refine (HS1.out _ HB3.out).mono ?_
     rintro e w4 ⟨rfl, b4⟩
     have HB4 := hI (HB3.out.trans (b4.mono HB3.out.size))
     have HK4 := hI (bkeepK b4 HK3.out)
     clear b4 HS1 HK3
     obtain ⟨s1, hs1⟩ : ∃ s, smallS a = s := ⟨_, rfl⟩
     rw [hs1]
     cases s1 with
     | false =>
       clear hs1
       go_wp2_with fail
       refine (HAW.out _ HB4.out).mono ?_
       rintro e wz ⟨rfl, bz⟩
       have HBZ := hI (HB4.out.trans (bz.mono HB4.out.size))
       clear bz
       go_wp2_with fail
       go_ret
       exact ⟨rfl, HBZ.out⟩
     | true =>
       obtain ⟨hl1, hz1⟩ := small_sizes hs1
       clear hs1 HB3
       go_wp2_with fail
       refine (HS2.out _ HB4.out).mono ?_
       rintro e w5 ⟨rfl, b5⟩
       have HB5 := hI (HB4.out.trans (b5.mono HB4.out.size))
       have HK5 := hI (bkeepK b5 HK4.out)
       clear b5 HS2 HK4
       obtain ⟨s2, hs2⟩ : ∃ s, smallS f = s := ⟨_, rfl⟩
       rw [hs2]
       cases s2 with
       | false =>
         clear hs2
         go_wp2_with fail
         refine (HAW.out _ HB5.out).mono ?_
         rintro e wz ⟨rfl, bz⟩
         have HBZ := hI (HB5.out.trans (bz.mono HB5.out.size))
         clear bz
         go_wp2_with fail
         go_ret
         exact ⟨rfl, HBZ.out⟩
       | true =>
         obtain ⟨hl2, hz2⟩ := small_sizes hs2
         clear hs2 HB4
         obtain ⟨c0, c1, c2, c3, c4, c5, c6, c7, c8, c9, c10, c11, c12, c13, c14⟩ := icellsV HK5.out
         have HEF1 := hI (rvEffects_all dc i B A b a cb ca hl0 hl1 hz0 hz1 w5 (HB.out.below HB5.out) (HA.out.below HB5.out) HSM.out (HT.out.below HB5.out))
         unfold Inst.enc Inst.cells at HEF1
         go_wp2_with fail
         refine HEF1.out.mono ?_
         rintro e w6 ⟨v1, L1, rfl, hsl1, hmap1, b6⟩
         have HB6 := hI (HB5.out.trans (b6.mono HB5.out.size))
         have HK6 := hI (bkeepK b6 HK5.out)
         have HSL1 := hI hsl1
         have HMP1 := hI hmap1
         clear b6 HEF1 HB5 HK5 hsl1 hmap1 c0 c1 c2 c3 c4 c5 c6 c7 c8 c9 c10 c11 c12 c13 c14
         obtain ⟨A1, q1, rfl, _⟩ := HSL1.out
         obtain ⟨n1, hn1⟩ : ∃ n, L1.length = n := ⟨_, rfl⟩
         obtain ⟨z1, hz1'⟩ : ∃ z, efxE dc i b a = z := ⟨_, rfl⟩
         rw [hn1, hz1']
         obtain ⟨c0, c1, c2, c3, c4, c5, c6, c7, c8, c9, c10, c11, c12, c13, c14⟩ := icellsV HK6.out
         have HEF2 := hI (rvEffects_all d i A E a f ca ce hl1 hl2 hz1 hz2 w6 (HA.out.below HB6.out) (HE.out.below HB6.out) HSM.out (HT.out.below HB6.out))
         unfold Inst.enc Inst.cells at HEF2
         go_wp2_with fail
         refine HEF2.out.mono ?_
         rintro e w7 ⟨v2, L2, rfl, hsl2, hmap2, b7⟩
         have HB7 := hI (HB6.out.trans (b7.mono HB6.out.size))
         have HK7 := hI (bkeepK b7 HK6.out)
         have HSL2 := hI hsl2
         have HMP2 := hI hmap2
         have HSX1 := hI (HSL1.out.below b7)
         clear b7 HEF2 HB6 HK6 hsl2 hmap2 c0 c1 c2 c3 c4 c5 c6 c7 c8 c9 c10 c11 c12 c13 c14
         have HSL1 := HSX1
         clear HSX1
         obtain ⟨A2, q2, rfl, _⟩ := HSL2.out
         obtain ⟨n2, hn2⟩ : ∃ n, L2.length = n := ⟨_, rfl⟩
         obtain ⟨z2, hz2'⟩ : ∃ z, efxE d i a f = z := ⟨_, rfl⟩
         rw [hn2, hz2']
         obtain ⟨c0, c1, c2, c3, c4, c5, c6, c7, c8, c9, c10, c11, c12, c13, c14⟩ := icellsV HK7.out
         have HEF3 := hI (rvEffects_all d i B E b f cb ce hl0 hl2 hz0 hz2 w7 (HB.out.below HB7.out) (HE.out.below HB7.out) HSM.out (HT.out.below HB7.out))
         unfold Inst.enc Inst.cells at HEF3
         go_wp2_with fail
         refine HEF3.out.mono ?_
         rintro e w8 ⟨v3, L3, rfl, hsl3, hmap3, b8⟩
         have HB8 := hI (HB7.out.trans (b8.mono HB7.out.size))
         have HK8 := hI (bkeepK b8 HK7.out)
         have HSL3 := hI hsl3
         have HMP3 := hI hmap3
         have HSX1 := hI (HSL1.out.below b8)
         have HSX2 := hI (HSL2.out.below b8)
         clear b8 HEF3 HB7 HK7 hsl3 hmap3 c0 c1 c2 c3 c4 c5 c6 c7 c8 c9 c10 c11 c12 c13 c14
         have HSL1 := HSX1
         clear HSX1
         have HSL2 := HSX2
         clear HSX2
         obtain ⟨A3, q3, rfl, _⟩ := HSL3.out
         obtain ⟨n3, hn3⟩ : ∃ n, L3.length = n := ⟨_, rfl⟩
         obtain ⟨z3, hz3'⟩ : ∃ z, efxE d i b f = z := ⟨_, rfl⟩
         rw [hn3, hz3']
         have HZ : Hid ((∀ x ∈ b, x.size ≤ 13) ∧ (∀ x ∈ a, x.size ≤ 13) ∧ (∀ x ∈ f, x.size ≤ 13)) := ⟨hz0, hz1, hz2⟩
         have HNL : Hid (L1.length = n1 ∧ L2.length = n2 ∧ L3.length = n3) := ⟨hn1, hn2, hn3⟩
         clear hz0 hz1 hz2 hl0 hl1 hl2 hn1 hn2 hn3
         by_cases h1 : z1 = 0
         case neg =>
          have t1 : (z1 == 0) = false := beq_eq_false_iff_ne.2 h1
          have t1' : (z1 != 0) = true := by rw [bne, t1]; rfl
          clear h1
          go_wp2_with fail
          refine (HAW.out _ HB8.out).mono ?_
          rintro e wz ⟨rfl, bz⟩
          have HBZ := hI (HB8.out.trans (bz.mono HB8.out.size))
          clear bz
          go_wp2_with fail
          go_ret
          exact ⟨rfl, HBZ.out⟩
         subst h1
         by_cases h2 : z2 = 0
         case neg =>
          have t1 : (z2 == 0) = false := beq_eq_false_iff_ne.2 h2
          have t1' : (z2 != 0) = true := by rw [bne, t1]; rfl
          clear h2
          go_wp2_with fail
          refine (HAW.out _ HB8.out).mono ?_
          rintro e wz ⟨rfl, bz⟩
          have HBZ := hI (HB8.out.trans (bz.mono HB8.out.size))
          clear bz
          go_wp2_with fail
          go_ret
          exact ⟨rfl, HBZ.out⟩
         subst h2
         obtain ⟨hok, hb3, ha3, hdc⟩ := efxE_zero hz1'
         obtain ⟨_, _, hf3, hd⟩ := efxE_zero hz2'
         have h3 : efxE d i b f = 0 := by unfold efxE; rw [if_neg (fun x => x ⟨hok, hb3, hf3⟩), if_neg (fun x => x hd)]
         rw [h3] at hz3'
         subst hz3'
         have HM1 : Hid (L1.map (fun x => (x.1, x.2.1)) = chosen b a 3) := by have h := HMP1.out; unfold efxL at h; rw [if_pos hz1'] at h; exact h
         have HM2 : Hid (L2.map (fun x => (x.1, x.2.1)) = chosen a f 3) := by have h := HMP2.out; unfold efxL at h; rw [if_pos hz2'] at h; exact h
         have HM3 : Hid (L3.map (fun x => (x.1, x.2.1)) = chosen b f 3) := by have h := HMP3.out; unfold efxL at h; rw [if_pos h3] at h; exact h
         have hbl := (three_can hb3).1
         have hal := (three_can ha3).1
         have hfl := (three_can hf3).1
         obtain ⟨bd, rfl, hbd⟩ := HB.out (fun e => by rw [e] at hbl; cases hbl)
         have HAP1 := hI (apply40_any dc hdc i HSM.out hok bd b hbl (fun x hx => Nat.le_trans (HZ.out.1 x hx) (by omega)) cb _ L1 (chosen b a 3) (chosen_ok HZ.out.1 HZ.out.2.1) HM1.out w8 (HB.out.below HB8.out) HSL1.out (HT.out.below HB8.out))
         have HAP2 := hI (fun (g : Nat) (cg : Nat) (W : World) (hW : Below w.heap.size w W) (h1 : RdS W (some ⟨g, 0, none⟩) a) (h2 : EfSl W (.slice A2 L2.length q2) d i L2) => apply40_any d hd i HSM.out hok ⟨g, 0, none⟩ a hal (fun x hx => Nat.le_trans (HZ.out.2.1 x hx) (by omega)) cg _ L2 (chosen a f 3) (chosen_ok HZ.out.2.1 HZ.out.2.2) HM2.out W h1 h2 (HT.out.below hW))
         have HAP3 := hI (fun (W : World) (hW : Below w.heap.size w W) (h2 : EfSl W (.slice A3 L3.length q3) d i L3) => apply40_any d hd i HSM.out hok bd b hbl (fun x hx => Nat.le_trans (HZ.out.1 x hx) (by omega)) cb _ L3 (chosen b f 3) (chosen_ok HZ.out.1 HZ.out.2.2) HM3.out W (HB.out.below hW) h2 (HT.out.below hW))
         rw [applN_chosen hb3 ha3] at HAP1
         rw [applN_chosen ha3 hf3] at HAP2
         rw [applN_chosen hb3 hf3] at HAP3
         rw [HNL.out.1] at HAP1
         rw [HNL.out.2.1] at HAP2
         rw [HNL.out.2.2] at HAP3
         rw [hbl]
         have HFL := hI hfl
         clear h3 hok hb3 ha3 hf3 hdc hd hbl hal hfl hbd HMP1 HMP2 HMP3 HM1 HM2 HM3 HZ hz1' hz2'
         obtain ⟨c0, c1, c2, c3, c4, c5, c6, c7, c8, c9, c10, c11, c12, c13, c14⟩ := icellsV HK8.out
         unfold Inst.enc Inst.cells at HAP1 HAP2 HAP3
         go_wp2_with fail
         refine HAP1.out.mono ?_
         rintro e w9 ⟨g1, cg1, rfl, hr1, b9⟩
         have HB9 := hI (HB8.out.trans (b9.mono HB8.out.size))
         have HK9 := hI (bkeepK b9 HK8.out)
         have HR1 := hI hr1
         have HE2 : Hid (EfSl w9 (.slice A2 n2 q2) d i L2) := by have h := HSL2.out.below b9; rw [HNL.out.2.1] at h; exact h
         have HE3 : Hid (EfSl w9 (.slice A3 n3 q3) d i L3) := by have h := HSL3.out.below b9; rw [HNL.out.2.2] at h; exact h
         clear b9 hr1 HAP1 HB8 HK8 HSL1 HSL2 HSL3 c0 c1 c2 c3 c4 c5 c6 c7 c8 c9 c10 c11 c12 c13 c14
         obtain ⟨c0, c1, c2, c3, c4, c5, c6, c7, c8, c9, c10, c11, c12, c13, c14⟩ := icellsV HK9.out
         go_wp2_with fail
         refine (HAP2.out g1 cg1 _ HB9.out HR1.out HE2.out).mono ?_
         rintro e w10 ⟨g2, cg2, rfl, hr2, b10⟩
         have HB10 := hI (HB9.out.trans (b10.mono HB9.out.size))
         have HK10 := hI (bkeepK b10 HK9.out)
         have HR2 := hI hr2
         have HE3' := hI (HE3.out.below b10)
         clear b10 hr2 HAP2 HB9 HK9 HR1 HE2 HE3 c0 c1 c2 c3 c4 c5 c6 c7 c8 c9 c10 c11 c12 c13 c14
         obtain ⟨c0, c1, c2, c3, c4, c5, c6, c7, c8, c9, c10, c11, c12, c13, c14⟩ := icellsV HK10.out
         go_wp2_with fail
         refine (HAP3.out _ HB10.out HE3'.out).mono ?_
         rintro e w11 ⟨g3, cg3, rfl, hr3, b11⟩
         have HB11 := hI (HB10.out.trans (b11.mono HB10.out.size))
         have HEQ := hI (eqInts_any (some ⟨g2, 0, none⟩) (some ⟨g3, 0, none⟩) 3 cg2 cg3 _ (by omega) w11 (twoI_of (HR2.out.below b11) hr3 HFL.out))
         clear b11 hr3 HAP3 HB10 HK10 HR2 HE3' c0 c1 c2 c3 c4 c5 c6 c7 c8 c9 c10 c11 c12 c13 c14
         go_wp2_with fail
         refine HEQ.out.mono ?_
         rintro e w12 ⟨rfl, b12⟩
         have HB12 := hI (HB11.out.trans (b12.mono HB11.out.size))
         clear b12 HEQ HB11
         go_wp2_with fail
         refine (HAW.out _ HB12.out).mono ?_
         rintro e wz ⟨rfl, bz⟩
         have HBZ := hI (HB12.out.trans (bz.mono HB12.out.size))
         clear bz
         go_wp2_with fail
         go_ret
         exact ⟨rfl, HBZ.out⟩
end Go.Proofs.YtbkmhmaldljgmaaGreatDoor
