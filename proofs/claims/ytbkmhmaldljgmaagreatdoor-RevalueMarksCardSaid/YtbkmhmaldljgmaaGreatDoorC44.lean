/-
  RevalueChanges. (Printed by gen_law40.py.)
-/
import Derived.Test.YtbkmhmaldljgmaaGreatDoorC32
import Derived.Test.YtbkmhmaldljgmaaGreatDoorC27
import Derived.Test.YtbkmhmaldljgmaaGreatDoorC43
set_option linter.unusedVariables false
set_option linter.unusedSimpArgs false
set_option maxHeartbeats 16000000
set_option maxRecDepth 100000
namespace Go.Proofs.YtbkmhmaldljgmaaGreatDoor
open Go.RowKit Tr Go.Shelf
theorem small_sizes {l : List ByteArray} (h : smallS l = true) : l.length ≤ 1000 ∧ ∀ x ∈ l, x.size ≤ 13 := by
 unfold smallS at h
 rw [Bool.and_eq_true, decide_eq_true_eq, Bool.not_eq_true'] at h
 refine ⟨by omega, fun x hx => ?_⟩
 have h2 := List.any_eq_false.1 h.2 x hx
 unfold longS at h2
 simpa using h2
theorem RevalueChanges_any (d : Int) (i : Inst) (B A : Option Addr) (b a : List ByteArray) (cb ca : Nat) (w : World) (hB : RdS w B b) (hA : RdS w A a) (ht : Tabs w) : Calls Tryz.prog 3 #[.int .i64 d, i.enc, .slice B b.length cb, .slice A a.length ca] w fun e w' => e = .returned (.bool true) ∧ Below w.heap.size w w' := by
 obtain ⟨W0, hW0⟩ : ∃ W0, w.alloc (.cells i.cells 27) = W0 := ⟨_, rfl⟩
 have k0 : W0.heap[w.heap.size]? = some (.cells i.cells 27 (0, 0)) := by rw [← hW0]; exact heap_alloc_new w _
 have b0 : Below w.heap.size w W0 := by rw [← hW0]; exact (Below.refl _ w).alloc (Nat.le_refl _) _
 have HB0 := hI b0
 have HK0 := hI k0
 have HT := hI ht
 have HAW := hI (fun W (hb : Below w.heap.size w W) => awake40_any W (ht.below hb))
 obtain ⟨W1, hW1⟩ : ∃ W1, W0.alloc (.cells i.cells 27) = W1 := ⟨_, rfl⟩
 have b1 : Below W0.heap.size W0 W1 := by rw [← hW1]; exact (Below.refl _ W0).alloc (Nat.le_refl _) _
 have HB1 := hI (b0.trans (b1.mono b0.size))
 have HK1 := hI (bkeepK b1 k0)
 have HGR := hI (great10_any W0.heap.size i W1 (by rw [← hW1]; exact heap_alloc_new W0 _))
 have HS0 := hI (fun W (hb : Below w.heap.size w W) => small40_any B b cb W (hB.below hb))
 have HB := hI hB
 have HS1 := hI (fun W (hb : Below w.heap.size w W) => small40_any A a ca W (hA.below hb))
 have HA := hI hA
 obtain ⟨c0, c1, c2, c3, c4, c5, c6, c7, c8, c9, c10, c11, c12, c13, c14⟩ := icellsV k0
 clear k0 b0 b1 ht hB hA
 unfold Inst.enc Inst.cells at *
 go_enter Tryz.func3, Tryz.ntmps3
 go_wp2_with fail
 refine HGR.out.mono ?_
 rintro e w2 ⟨g, rfl, hg, b2⟩
 have HB2 := hI (HB1.out.trans (b2.mono HB1.out.size))
 have HK2 := hI (bkeepK b2 HK1.out)
 clear b2 HGR hW0 hW1 HB0 HK0 HB1 HK1 c0 c1 c2 c3 c4 c5 c6 c7 c8 c9 c10 c11 c12 c13 c14
 cases g with
 | true =>
   go_wp2_with fail
   refine (HAW.out _ HB2.out).mono ?_
   rintro e wz ⟨rfl, bz⟩
   have HBZ := hI (HB2.out.trans (bz.mono HB2.out.size))
   clear bz
   go_wp2_with fail
   go_ret
   exact ⟨rfl, HBZ.out⟩
 | false =>
   have HSM : Hid i.small := (hg rfl).small
   clear hg
   go_wp2_with fail
   refine (HS0.out _ HB2.out).mono ?_
   rintro e w3 ⟨rfl, b3⟩
   have HB3 := hI (HB2.out.trans (b3.mono HB2.out.size))
   have HK3 := hI (bkeepK b3 HK2.out)
   clear b3 HS0 HK2
   obtain ⟨s0, hs0⟩ : ∃ s, smallS b = s := ⟨_, rfl⟩
   rw [hs0]
   cases s0 with
   | false =>
     clear hs0
     go_wp2_with fail
     refine (HAW.out _ HB3.out).mono ?_
     rintro e wz ⟨rfl, bz⟩
     have HBZ := hI (HB3.out.trans (bz.mono HB3.out.size))
     clear bz
     go_wp2_with fail
     go_ret
     exact ⟨rfl, HBZ.out⟩
   | true =>
     obtain ⟨hl0, hz0⟩ := small_sizes hs0
     clear hs0 HB2
     go_wp2_with fail
     refine (HS1.out _ HB3.out).mono ?_
     rintro e w4 ⟨rfl, b4⟩
     have HB4 := hI (HB3.out.trans (b4.mono HB3.out.size))
     have HK4 := hI (bkeepK b4 HK3.out)
     clear b4 HS1 HK3
     obtain ⟨s1, hs1⟩ : ∃ s, smallS a = s := ⟨_, rfl⟩
     rw [hs1]
     cases s1 with
     | false =>
       clear hs1
       go_wp2_with fail
       refine (HAW.out _ HB4.out).mono ?_
       rintro e wz ⟨rfl, bz⟩
       have HBZ := hI (HB4.out.trans (bz.mono HB4.out.size))
       clear bz
       go_wp2_with fail
       go_ret
       exact ⟨rfl, HBZ.out⟩
     | true =>
       obtain ⟨hl1, hz1⟩ := small_sizes hs1
       clear hs1 HB3
       obtain ⟨c0, c1, c2, c3, c4, c5, c6, c7, c8, c9, c10, c11, c12, c13, c14⟩ := icellsV HK4.out
       have HEF := hI (rvEffects_all d i B A b a cb ca hl0 hl1 hz0 hz1 w4 (HB.out.below HB4.out) (HA.out.below HB4.out) HSM.out (HT.out.below HB4.out))
       have HEF2 := hI (fun W (hb : Below w.heap.size w W) => rvEffects_all d i B B b b cb cb hl0 hl0 hz0 hz0 W (HB.out.below hb) (HB.out.below hb) HSM.out (HT.out.below hb))
       unfold Inst.enc Inst.cells at HEF HEF2
       have HZ : Hid ((∀ x ∈ b, x.size ≤ 13) ∧ (∀ x ∈ a, x.size ≤ 13)) := ⟨hz0, hz1⟩
       clear hl0 hl1 hz0 hz1
       go_wp2_with fail
       refine HEF.out.mono ?_
       rintro e w5 ⟨v, L, rfl, hsl, hmap, b5⟩
       have HB5 := hI (HB4.out.trans (b5.mono HB4.out.size))
       have HK5 := hI (bkeepK b5 HK4.out)
       have HSL := hI hsl
       have HMAP := hI hmap
       clear b5 HEF HB4 HK4 hsl hmap c0 c1 c2 c3 c4 c5 c6 c7 c8 c9 c10 c11 c12 c13 c14
       by_cases he : efxE d i b a = 0
       case neg =>
        have t1 : (efxE d i b a == 0) = false := beq_eq_false_iff_ne.2 he
        have t1' : (efxE d i b a != 0) = true := by rw [bne, t1]; rfl
        obtain ⟨Av, cv, rfl, _⟩ := HSL.out
        have hL : L.length = 0 := by
         have := congrArg List.length HMAP.out
         unfold efxL at this
         rw [if_neg he] at this
         simpa using this
        rw [hL]
        generalize efxE d i b a = z at *
        clear he hL
        go_wp2_with fail
        refine (HAW.out _ HB5.out).mono ?_
        rintro e wz ⟨rfl, bz⟩
        have HBZ := hI (HB5.out.trans (bz.mono HB5.out.size))
        clear bz
        go_wp2_with fail
        go_ret
        exact ⟨rfl, HBZ.out⟩
       obtain ⟨hok, hb3, ha3, hd⟩ := efxE_zero he
       have HM2 : Hid (L.map (fun x => (x.1, x.2.1)) = chosen b a 3) := by have h := HMAP.out; unfold efxL at h; rw [if_pos he] at h; exact h
       have hbl := (three_can hb3).1
       have hal := (three_can ha3).1
       have hesame : efxE d i b b = 0 := by unfold efxE; rw [if_neg (fun x => x ⟨hok, hb3, hb3⟩), if_neg (fun x => x hd)]
       have HES : Hid (efxE d i b b = 0 ∧ efxL d i b b = []) := ⟨hesame, by unfold efxL; rw [if_pos hesame]; exact chosen_same b⟩
       obtain ⟨bd, rfl, hbd⟩ := HB.out (fun e => by rw [e] at hbl; cases hbl)
       have HAP := hI (apply40_any d hd i HSM.out hok bd b hbl (fun x hx => Nat.le_trans (HZ.out.1 x hx) (by omega)) cb v L (chosen b a 3) (chosen_ok HZ.out.1 HZ.out.2) HM2.out w5 (HB.out.below HB5.out) HSL.out (HT.out.below HB5.out))
       rw [applN_chosen hb3 ha3] at HAP
       obtain ⟨Av, cv, rfl, _⟩ := HSL.out
       obtain ⟨nL, hnL⟩ : ∃ n, L.length = n := ⟨_, rfl⟩
       rw [he]
       rw [hbl] at HEF2 ⊢
       rw [hal]
       rw [hnL] at HAP ⊢
       have HAL := hI hal
       clear he hok hb3 ha3 hd hbl hal hesame hbd hnL HMAP HM2 HSL HZ
       obtain ⟨c0, c1, c2, c3, c4, c5, c6, c7, c8, c9, c10, c11, c12, c13, c14⟩ := icellsV HK5.out
       unfold Inst.enc Inst.cells at HAP
       go_wp2_with fail
       refine HAP.out.mono ?_
       rintro e w6 ⟨g, cg, rfl, hrd, b6⟩
       have HB6 := hI (HB5.out.trans (b6.mono HB5.out.size))
       have HK6 := hI (bkeepK b6 HK5.out)
       have HRD := hI hrd
       clear b6 hrd HAP HB5 HK5 c0 c1 c2 c3 c4 c5 c6 c7 c8 c9 c10 c11 c12 c13 c14
       obtain ⟨c0, c1, c2, c3, c4, c5, c6, c7, c8, c9, c10, c11, c12, c13, c14⟩ := icellsV HK6.out
       go_wp2_with fail
       refine (HEF2.out _ HB6.out).mono ?_
       rintro e w7 ⟨v2, L2, rfl, hsl2, hmap2, b7⟩
       have HB7 := hI (HB6.out.trans (b7.mono HB6.out.size))
       obtain ⟨Av2, cv2, rfl, _⟩ := hsl2
       have hL2 : L2.length = 0 := by
        have := congrArg List.length hmap2
        rw [HES.out.2] at this
        simpa using this
       rw [hL2, HES.out.1]
       have HTW := hI (twoI_of (HRD.out.below b7) (HA.out.below HB7.out) HAL.out)
       have HEQ := hI (eqInts_any (some ⟨g, 0, none⟩) A 3 cg ca _ (by omega) w7 HTW.out)
       clear b7 HB6 HK6 hmap2 hL2 HEF2 HES HTW c0 c1 c2 c3 c4 c5 c6 c7 c8 c9 c10 c11 c12 c13 c14
       go_wp2_with fail
       refine HEQ.out.mono ?_
       rintro e w8 ⟨rfl, b8⟩
       have HB8 := hI (HB7.out.trans (b8.mono HB7.out.size))
       clear b8 HEQ HB7
       go_wp2_with fail
       refine (HAW.out _ HB8.out).mono ?_
       rintro e wz ⟨rfl, bz⟩
       have HBZ := hI (HB8.out.trans (bz.mono HB8.out.size))
       clear bz
       go_wp2_with fail
       go_ret
       exact ⟨rfl, HBZ.out⟩
end Go.Proofs.YtbkmhmaldljgmaaGreatDoor
