/-
  The limits of a number: the walk of the closure of fact.between.
-/
import Derived.Test.YtbkmhmaldljgmaaGreatDoorC27
set_option linter.unusedVariables false
set_option linter.unusedSimpArgs false
set_option maxHeartbeats 16000000
set_option maxRecDepth 100000
namespace Go.Proofs.YtbkmhmaldljgmaaGreatDoor
open Go.RowKit Tr Go.Shelf Go.Maps
theorem between1_any (n d : ByteArray) (p q : Bool) (b1 b2 : Nat) (w : World) (s1 : n.size ≤ 13) (s2 : d.size ≤ 13) (h1 : w.heap[b1]? = some (.cells #[.bool p] 4 (0, 0))) (h2 : w.heap[b2]? = some (.cells #[.bool q] 4 (0, 0))) (ht : Tabs w) :
 Calls Tryz.prog 278 #[.agg #[.string n, .string d], .pointer (some ⟨b1, 0, none⟩), .pointer (some ⟨b2, 0, none⟩)] w fun e w' => ∃ c : Int, e = .returned (.int .i64 c) ∧ ((c = 0 ↔ numOk n d p q) ∧ (c = 0 ∨ (CanQ n d ∧ c = 2) ∨ (¬ CanQ n d ∧ c = 1))) ∧ Below w.heap.size w w' := by
 have mixed : Tryz.prog.follows .mixedOrders = true := by kernel_rfl
 obtain ⟨W0, hW0⟩ : ∃ W0, w.alloc (.cells #[.string n, .string d] 25) = W0 := ⟨_, rfl⟩
 have hb0 : Below w.heap.size w W0 := by rw [← hW0]; exact (Below.refl _ w).alloc (Nat.le_refl _) _
 have hg : BX w (btL w n d p q b1 b2) W0 := by
  refine ⟨hb0, fun x hx => ?_⟩
  simp only [btL, List.mem_cons, List.not_mem_nil, or_false] at hx
  rcases hx with rfl | rfl | rfl
  ·rw [← hW0]; exact heap_alloc_new w _
  ·exact (hb0.block _ (Array.getElem?_eq_some_iff.1 h1).1).trans h1
  ·exact (hb0.block _ (Array.getElem?_eq_some_iff.1 h2).1).trans h2
 have HT := hI ht
 have HC0 := hI (fun W (hW : BX w (btL w n d p q b1 b2) W) => fCompare_any n d ⟨#[]⟩ ⟨#[]⟩ W (by omega) (by omega) (by show 0 ≤ _; omega) (by show 0 ≤ _; omega) (HT.out.below hW.1))
 have z : fv n d - fv ⟨#[]⟩ ⟨#[]⟩ = fv n d := by rw [fv_zero2]; grind
 rw [z] at HC0
 have HCy := hI (fun W (hW : BX w (btL w n d p q b1 b2) W) (h : CanQ n d) => fCheck_yes n d W (by omega) (by omega) h (HT.out.below hW.1))
 have HCn := hI (fun W (hW : BX w (btL w n d p q b1 b2) W) (h : ¬ CanQ n d) => fCheck_no n d W (by omega) (by omega) h (HT.out.below hW.1))
 have HDn := hI (fun W => fcDigits_any n W)
 have HDd := hI (fun W => fcDigits_any d W)
 have HO1 := hI (fun W (hW : BX w (btL w n d p q b1 b2) W) => fOf_any one1 W (by show 1 ≤ _; omega) (HT.out.below hW.1))
 have ho : fenc ((vl one1 : Int) : Rat) = .agg #[.string one1, .string ⟨#[]⟩] := by kernel_rfl
 rw [ho] at HO1
 have HC1 := hI (fun W (hW : BX w (btL w n d p q b1 b2) W) => fCompare_any n d one1 ⟨#[]⟩ W (by omega) (by omega) (by show 1 ≤ _; omega) (by show 0 ≤ _; omega) (HT.out.below hW.1))
 obtain ⟨c0, c1, e1, e2⟩ := bt_cells hg
 have HG0 := hI hg
 have S1 := hI s1
 have S2 := hI s2
 have hone : one1 = ⟨#[49]⟩ := by kernel_rfl
 rw [hone] at HO1 HC1
 clear hb0 hg h1 h2 ht z ho s1 s2 hone
 go_enter Tryz.func278, Tryz.ntmps278
 go_wp2_with fail
 refine (HC0.out _ HG0.out).mono ?_
 rintro e w1 ⟨rfl, k1⟩
 have HG1 := hI (HG0.out.below k1)
 clear c0 c1 e1 e2 k1 HG0 hW0 HC0
 obtain ⟨c0, c1, e1, e2⟩ := bt_cells HG1.out
 obtain ⟨s, hs⟩ : ∃ s, cmpI (fv n d).num 0 = s := ⟨_, rfl⟩
 rw [hs]
 have HS := hI hs
 clear hs
 by_cases hcan : CanQ n d
 ·have HCAN := hI hcan
  go_wp2_with fail
  refine (HCy.out _ HG1.out hcan).mono ?_
  rintro e w2 ⟨rfl, k2⟩
  have HG2 := hI (HG1.out.below k2)
  clear c0 c1 e1 e2 k2 HG1 HCy HCn hcan
  obtain ⟨c0, c1, e1, e2⟩ := bt_cells HG2.out
  go_wp2_with fail
  refine (HDn.out _).mono ?_
  rintro e w3 ⟨kn, rfl, hkn, rfl⟩
  have x1 : decide (40 < (kn : Int)) = false := decide_eq_false (by have := S1.out; omega)
  go_wp2_with fail
  refine (HDd.out _).mono ?_
  rintro e w4 ⟨kd, rfl, hkd, rfl⟩
  have x2 : decide (40 < (kd : Int)) = false := decide_eq_false (by have := S2.out; omega)
  clear hkn hkd
  go_wp2_with fail
  have FIN : Hid (∀ c : Int, (c = 0 ∨ c = 2) → (c = 0 ↔ (0 ≤ fv n d ∧ (p = true → 0 < fv n d) ∧ (q = true → fv n d ≤ 1))) → ((c = 0 ↔ numOk n d p q) ∧ (c = 0 ∨ (CanQ n d ∧ c = 2) ∨ (¬ CanQ n d ∧ c = 1)))) := fun c hc2 h => by
   have l1 := ndig_le n
   have l2 := ndig_le d
   have m1 := S1.out
   have m2 := S2.out
   refine ⟨⟨?_, ?_⟩, hc2.imp id (fun e => .inl ⟨HCAN.out, e⟩)⟩
   ·intro h0
    obtain ⟨a1, a2, a3⟩ := h.1 h0
    exact ⟨HCAN.out, by omega, by omega, a1, a2, a3⟩
   ·intro h0
    exact h.2 ⟨h0.2.2.2.1, h0.2.2.2.2.1, h0.2.2.2.2.2⟩
  have hsg : (s < 0 ↔ fv n d < 0) ∧ (s = 0 ↔ fv n d = 0) := by
   have h := HS.out
   rw [← h, cmpI_lt, cmpI_eq]
   exact ⟨by rw [← Rat.not_le, ← Rat.num_nonneg]; omega, Rat.num_eq_zero⟩
  have HSG := hI hsg
  clear hsg
  rcases (show s < 0 ∨ (s = 0 ∧ p = true) ∨ (((s = 0 ∧ p = false) ∨ 0 < s) ∧ q = false) ∨ (((s = 0 ∧ p = false) ∨ 0 < s) ∧ q = true) from by cases p <;> cases q <;> simp <;> omega) with y1 | ⟨y1, rfl⟩ | ⟨y1, rfl⟩ | ⟨y1, rfl⟩
  ·have z1 : decide (s < 0) = true := decide_eq_true y1
   have Y1 := hI y1
   clear y1
   refine wp_region_quietC (fun W => BX w (btL w n d p q b1 b2) W) mixed (by kernel_rfl) ⟨HG2.out.1.drew, HG2.out.2⟩ ?_
   iterate 19
    refine wpQuiet_step (fun K hK => ?_)
    go_simp
    first
    | (refine hK _ ?_; clear hK K)
    | (refine ⟨_, fun _ _ => rfl, hK _ ?_⟩; clear hK K)
    | (refine ⟨.bool true, fun W hW => ?_, hK _ ?_⟩
       focus
        obtain ⟨d0, d1, d2, d3⟩ := bt_cells hW
        go_simp
        done
       clear hK K)
    | (refine ⟨.bool false, fun W hW => ?_, hK _ ?_⟩
       focus
        obtain ⟨d0, d1, d2, d3⟩ := bt_cells hW
        go_simp
        done
       clear hK K)
    | (refine ⟨.agg #[.string n, .string d], fun W hW => ?_, hK _ ?_⟩
       focus
        obtain ⟨d0, d1, d2, d3⟩ := bt_cells hW
        go_simp
        done
       clear hK K)
   refine wpQuiet_nil ?_
   intro w5 hw5
   have HG5 := hI hw5
   clear hw5
   go_wp2_with fail
   go_ret
   refine ⟨2, rfl, FIN.out 2 (.inr rfl) ⟨fun h => absurd h (by omega), fun h => ?_⟩, HG5.out.1⟩
   exact absurd (HSG.out.1.1 Y1.out) (by grind)
  ·have z1 : decide (s < 0) = false := decide_eq_false (by omega)
   have z2 : (s == 0) = true := beq_iff_eq.2 y1
   have Y1 := hI y1
   clear y1
   refine wp_region_quietC (fun W => BX w (btL w n d true q b1 b2) W) mixed (by kernel_rfl) ⟨HG2.out.1.drew, HG2.out.2⟩ ?_
   iterate 19
    refine wpQuiet_step (fun K hK => ?_)
    go_simp
    first
    | (refine hK _ ?_; clear hK K)
    | (refine ⟨_, fun _ _ => rfl, hK _ ?_⟩; clear hK K)
    | (refine ⟨.bool true, fun W hW => ?_, hK _ ?_⟩
       focus
        obtain ⟨d0, d1, d2, d3⟩ := bt_cells hW
        go_simp
        done
       clear hK K)
    | (refine ⟨.bool false, fun W hW => ?_, hK _ ?_⟩
       focus
        obtain ⟨d0, d1, d2, d3⟩ := bt_cells hW
        go_simp
        done
       clear hK K)
    | (refine ⟨.agg #[.string n, .string d], fun W hW => ?_, hK _ ?_⟩
       focus
        obtain ⟨d0, d1, d2, d3⟩ := bt_cells hW
        go_simp
        done
       clear hK K)
   refine wpQuiet_nil ?_
   intro w5 hw5
   have HG5 := hI hw5
   clear hw5
   go_wp2_with fail
   go_ret
   refine ⟨2, rfl, FIN.out 2 (.inr rfl) ⟨fun h => absurd h (by omega), fun h => ?_⟩, HG5.out.1⟩
   have h1 := h.2.1 (by first | rfl | trivial)
   rw [HSG.out.2.1 Y1.out] at h1
   exact absurd h1 (by grind)
  ·rcases y1 with ⟨y1, rfl⟩ | y1
   ·have z1 : decide (s < 0) = false := decide_eq_false (by omega)
    have Y1 : Hid (s = 0) := y1
    clear y1
    refine wp_region_quietC (fun W => BX w (btL w n d false false b1 b2) W) mixed (by kernel_rfl) ⟨HG2.out.1.drew, HG2.out.2⟩ ?_
    iterate 19
     refine wpQuiet_step (fun K hK => ?_)
     go_simp
     first
     | (refine hK _ ?_; clear hK K)
     | (refine ⟨_, fun _ _ => rfl, hK _ ?_⟩; clear hK K)
     | (refine ⟨.bool true, fun W hW => ?_, hK _ ?_⟩
        focus
         obtain ⟨d0, d1, d2, d3⟩ := bt_cells hW
         go_simp
         done
        clear hK K)
     | (refine ⟨.bool false, fun W hW => ?_, hK _ ?_⟩
        focus
         obtain ⟨d0, d1, d2, d3⟩ := bt_cells hW
         go_simp
         done
        clear hK K)
     | (refine ⟨.agg #[.string n, .string d], fun W hW => ?_, hK _ ?_⟩
        focus
         obtain ⟨d0, d1, d2, d3⟩ := bt_cells hW
         go_simp
         done
        clear hK K)
    refine wpQuiet_nil ?_
    intro w5 hw5
    have HG5 := hI hw5
    clear hw5
    go_wp2_with fail
    go_ret
    refine ⟨0, rfl, FIN.out 0 (.inl rfl) ⟨fun _ => ?_, fun _ => rfl⟩, HG5.out.1⟩
    have h1 := HSG.out
    have h2 := Y1.out
    refine ⟨?_, fun hp => ?_, fun hq => by cases hq⟩
    ·exact Rat.not_lt.1 fun h => by have := h1.1.2 h; omega
    ·first
     | (cases hp; done)
     | (refine Rat.not_le.1 fun h => ?_; have e := h1.2.2 (Rat.le_antisymm h (Rat.not_lt.1 fun h => by have := h1.1.2 h; omega)); omega)
   ·cases p
    all_goals
     have z1 : decide (s < 0) = false := decide_eq_false (by omega)
     have z2 : (s == 0) = false := beq_eq_false_iff_ne.2 (by omega)
     have Y1 : Hid (0 < s) := y1
     clear y1
     refine wp_region_quietC (fun W => BX w (btL w n d _ false b1 b2) W) mixed (by kernel_rfl) ⟨HG2.out.1.drew, HG2.out.2⟩ ?_
     iterate 19
      refine wpQuiet_step (fun K hK => ?_)
      go_simp
      first
      | (refine hK _ ?_; clear hK K)
      | (refine ⟨_, fun _ _ => rfl, hK _ ?_⟩; clear hK K)
      | (refine ⟨.bool true, fun W hW => ?_, hK _ ?_⟩
         focus
          obtain ⟨d0, d1, d2, d3⟩ := bt_cells hW
          go_simp
          done
         clear hK K)
      | (refine ⟨.bool false, fun W hW => ?_, hK _ ?_⟩
         focus
          obtain ⟨d0, d1, d2, d3⟩ := bt_cells hW
          go_simp
          done
         clear hK K)
      | (refine ⟨.agg #[.string n, .string d], fun W hW => ?_, hK _ ?_⟩
         focus
          obtain ⟨d0, d1, d2, d3⟩ := bt_cells hW
          go_simp
          done
         clear hK K)
     refine wpQuiet_nil ?_
     intro w5 hw5
     have HG5 := hI hw5
     clear hw5
     go_wp2_with fail
     go_ret
     refine ⟨0, rfl, FIN.out 0 (.inl rfl) ⟨fun _ => ?_, fun _ => rfl⟩, HG5.out.1⟩
     have h1 := HSG.out
     have h2 := Y1.out
     refine ⟨?_, fun hp => ?_, fun hq => by cases hq⟩
     ·exact Rat.not_lt.1 fun h => by have := h1.1.2 h; omega
     ·first
      | (cases hp; done)
      | (refine Rat.not_le.1 fun h => ?_; have e := h1.2.2 (Rat.le_antisymm h (Rat.not_lt.1 fun h => by have := h1.1.2 h; omega)); omega)
  ·obtain ⟨r, hr⟩ : ∃ r, cmpI (fv n d - fv ⟨#[49]⟩ ⟨#[]⟩).num 0 = r := ⟨_, rfl⟩
   have HR1 : Hid ((r ≤ 0 → fv n d ≤ 1) ∧ (fv n d ≤ 1 → r ≤ 0)) := by
    have e1 : fv ⟨#[49]⟩ ⟨#[]⟩ = 1 := fv_enc 1
    rw [← hr, cmpI_le, e1]
    have e2 : (fv n d - 1).num ≤ 0 ↔ fv n d - 1 ≤ 0 := num_le_zero _
    rw [e2]
    constructor <;> intro h <;> grind
   rw [hr] at HC1
   clear hr
   by_cases hr0 : 0 < r
   ·rcases y1 with ⟨y1, rfl⟩ | y1
    ·have z1 : decide (s < 0) = false := decide_eq_false (by omega)
     have Y1 : Hid (s = 0) := y1
     clear y1
     have z3 : decide (0 < r) = true := decide_eq_true hr0
     have HR : Hid (0 < r) := hr0
     clear hr0
     refine wp_region_quietC (fun W => BX w (btL w n d false true b1 b2) W) mixed (by kernel_rfl) ⟨HG2.out.1.drew, HG2.out.2⟩ ?_
     iterate 19
      refine wpQuiet_step (fun K hK => ?_)
      go_simp
      first
      | (refine hK _ ?_; clear hK K)
      | (refine ⟨_, fun _ _ => rfl, hK _ ?_⟩; clear hK K)
      | (refine ⟨.bool true, fun W hW => ?_, hK _ ?_⟩
         focus
          obtain ⟨d0, d1, d2, d3⟩ := bt_cells hW
          go_simp
          done
         clear hK K)
      | (refine ⟨.bool false, fun W hW => ?_, hK _ ?_⟩
         focus
          obtain ⟨d0, d1, d2, d3⟩ := bt_cells hW
          go_simp
          done
         clear hK K)
      | (refine ⟨.agg #[.string n, .string d], fun W hW => ?_, hK _ ?_⟩
         focus
          obtain ⟨d0, d1, d2, d3⟩ := bt_cells hW
          go_simp
          done
         clear hK K)
      | (refine ⟨.agg #[.string ⟨#[49]⟩, .string ⟨#[]⟩], fun W hW => ?_, hK _ ?_⟩
         focus
          refine (HO1.out W hW).mono ?_
          rintro e wn ⟨rfl, hb⟩
          exact ⟨rfl, hW.below hb⟩
         clear hK K)
      | (refine ⟨.int .i64 r, fun W hW => ?_, hK _ ?_⟩
         focus
          refine (HC1.out W hW).mono ?_
          rintro e wn ⟨rfl, hb⟩
          exact ⟨rfl, hW.below hb⟩
         clear hK K)
     refine wpQuiet_nil ?_
     intro w5 hw5
     have HG5 := hI hw5
     clear hw5
     go_wp2_with fail
     go_ret
     refine ⟨2, rfl, FIN.out 2 (.inr rfl) ⟨fun h => absurd h (by omega), fun h => ?_⟩, HG5.out.1⟩
     have h1 := HR1.out.2 (h.2.2 (by first | rfl | trivial))
     have h2 := HR.out
     omega
    ·cases p
     all_goals
      have z1 : decide (s < 0) = false := decide_eq_false (by omega)
      have z2 : (s == 0) = false := beq_eq_false_iff_ne.2 (by omega)
      have Y1 : Hid (0 < s) := y1
      clear y1
      have z3 : decide (0 < r) = true := decide_eq_true hr0
      have HR : Hid (0 < r) := hr0
      clear hr0
      refine wp_region_quietC (fun W => BX w (btL w n d _ true b1 b2) W) mixed (by kernel_rfl) ⟨HG2.out.1.drew, HG2.out.2⟩ ?_
      iterate 19
       refine wpQuiet_step (fun K hK => ?_)
       go_simp
       first
       | (refine hK _ ?_; clear hK K)
       | (refine ⟨_, fun _ _ => rfl, hK _ ?_⟩; clear hK K)
       | (refine ⟨.bool true, fun W hW => ?_, hK _ ?_⟩
          focus
           obtain ⟨d0, d1, d2, d3⟩ := bt_cells hW
           go_simp
           done
          clear hK K)
       | (refine ⟨.bool false, fun W hW => ?_, hK _ ?_⟩
          focus
           obtain ⟨d0, d1, d2, d3⟩ := bt_cells hW
           go_simp
           done
          clear hK K)
       | (refine ⟨.agg #[.string n, .string d], fun W hW => ?_, hK _ ?_⟩
          focus
           obtain ⟨d0, d1, d2, d3⟩ := bt_cells hW
           go_simp
           done
          clear hK K)
       | (refine ⟨.agg #[.string ⟨#[49]⟩, .string ⟨#[]⟩], fun W hW => ?_, hK _ ?_⟩
          focus
           refine (HO1.out W hW).mono ?_
           rintro e wn ⟨rfl, hb⟩
           exact ⟨rfl, hW.below hb⟩
          clear hK K)
       | (refine ⟨.int .i64 r, fun W hW => ?_, hK _ ?_⟩
          focus
           refine (HC1.out W hW).mono ?_
           rintro e wn ⟨rfl, hb⟩
           exact ⟨rfl, hW.below hb⟩
          clear hK K)
      refine wpQuiet_nil ?_
      intro w5 hw5
      have HG5 := hI hw5
      clear hw5
      go_wp2_with fail
      go_ret
      refine ⟨2, rfl, FIN.out 2 (.inr rfl) ⟨fun h => absurd h (by omega), fun h => ?_⟩, HG5.out.1⟩
      have h1 := HR1.out.2 (h.2.2 (by first | rfl | trivial))
      have h2 := HR.out
      omega
   ·rcases y1 with ⟨y1, rfl⟩ | y1
    ·have z1 : decide (s < 0) = false := decide_eq_false (by omega)
     have Y1 : Hid (s = 0) := y1
     clear y1
     have z3 : decide (0 < r) = false := decide_eq_false (by omega)
     have HR : Hid (¬ 0 < r) := hr0
     clear hr0
     refine wp_region_quietC (fun W => BX w (btL w n d false true b1 b2) W) mixed (by kernel_rfl) ⟨HG2.out.1.drew, HG2.out.2⟩ ?_
     iterate 19
      refine wpQuiet_step (fun K hK => ?_)
      go_simp
      first
      | (refine hK _ ?_; clear hK K)
      | (refine ⟨_, fun _ _ => rfl, hK _ ?_⟩; clear hK K)
      | (refine ⟨.bool true, fun W hW => ?_, hK _ ?_⟩
         focus
          obtain ⟨d0, d1, d2, d3⟩ := bt_cells hW
          go_simp
          done
         clear hK K)
      | (refine ⟨.bool false, fun W hW => ?_, hK _ ?_⟩
         focus
          obtain ⟨d0, d1, d2, d3⟩ := bt_cells hW
          go_simp
          done
         clear hK K)
      | (refine ⟨.agg #[.string n, .string d], fun W hW => ?_, hK _ ?_⟩
         focus
          obtain ⟨d0, d1, d2, d3⟩ := bt_cells hW
          go_simp
          done
         clear hK K)
      | (refine ⟨.agg #[.string ⟨#[49]⟩, .string ⟨#[]⟩], fun W hW => ?_, hK _ ?_⟩
         focus
          refine (HO1.out W hW).mono ?_
          rintro e wn ⟨rfl, hb⟩
          exact ⟨rfl, hW.below hb⟩
         clear hK K)
      | (refine ⟨.int .i64 r, fun W hW => ?_, hK _ ?_⟩
         focus
          refine (HC1.out W hW).mono ?_
          rintro e wn ⟨rfl, hb⟩
          exact ⟨rfl, hW.below hb⟩
         clear hK K)
     refine wpQuiet_nil ?_
     intro w5 hw5
     have HG5 := hI hw5
     clear hw5
     go_wp2_with fail
     go_ret
     refine ⟨0, rfl, FIN.out 0 (.inl rfl) ⟨fun _ => ?_, fun _ => rfl⟩, HG5.out.1⟩
     have h1 := HSG.out
     have h2 := Y1.out
     refine ⟨?_, fun hp => ?_, fun _ => HR1.out.1 (by have := HR.out; omega)⟩
     ·exact Rat.not_lt.1 fun h => by have := h1.1.2 h; omega
     ·first
      | (cases hp; done)
      | (refine Rat.not_le.1 fun h => ?_; have e := h1.2.2 (Rat.le_antisymm h (Rat.not_lt.1 fun h => by have := h1.1.2 h; omega)); omega)
    ·cases p
     all_goals
      have z1 : decide (s < 0) = false := decide_eq_false (by omega)
      have z2 : (s == 0) = false := beq_eq_false_iff_ne.2 (by omega)
      have Y1 : Hid (0 < s) := y1
      clear y1
      have z3 : decide (0 < r) = false := decide_eq_false (by omega)
      have HR : Hid (¬ 0 < r) := hr0
      clear hr0
      refine wp_region_quietC (fun W => BX w (btL w n d _ true b1 b2) W) mixed (by kernel_rfl) ⟨HG2.out.1.drew, HG2.out.2⟩ ?_
      iterate 19
       refine wpQuiet_step (fun K hK => ?_)
       go_simp
       first
       | (refine hK _ ?_; clear hK K)
       | (refine ⟨_, fun _ _ => rfl, hK _ ?_⟩; clear hK K)
       | (refine ⟨.bool true, fun W hW => ?_, hK _ ?_⟩
          focus
           obtain ⟨d0, d1, d2, d3⟩ := bt_cells hW
           go_simp
           done
          clear hK K)
       | (refine ⟨.bool false, fun W hW => ?_, hK _ ?_⟩
          focus
           obtain ⟨d0, d1, d2, d3⟩ := bt_cells hW
           go_simp
           done
          clear hK K)
       | (refine ⟨.agg #[.string n, .string d], fun W hW => ?_, hK _ ?_⟩
          focus
           obtain ⟨d0, d1, d2, d3⟩ := bt_cells hW
           go_simp
           done
          clear hK K)
       | (refine ⟨.agg #[.string ⟨#[49]⟩, .string ⟨#[]⟩], fun W hW => ?_, hK _ ?_⟩
          focus
           refine (HO1.out W hW).mono ?_
           rintro e wn ⟨rfl, hb⟩
           exact ⟨rfl, hW.below hb⟩
          clear hK K)
       | (refine ⟨.int .i64 r, fun W hW => ?_, hK _ ?_⟩
          focus
           refine (HC1.out W hW).mono ?_
           rintro e wn ⟨rfl, hb⟩
           exact ⟨rfl, hW.below hb⟩
          clear hK K)
      refine wpQuiet_nil ?_
      intro w5 hw5
      have HG5 := hI hw5
      clear hw5
      go_wp2_with fail
      go_ret
      refine ⟨0, rfl, FIN.out 0 (.inl rfl) ⟨fun _ => ?_, fun _ => rfl⟩, HG5.out.1⟩
      have h1 := HSG.out
      have h2 := Y1.out
      refine ⟨?_, fun hp => ?_, fun _ => HR1.out.1 (by have := HR.out; omega)⟩
      ·exact Rat.not_lt.1 fun h => by have := h1.1.2 h; omega
      ·first
       | (cases hp; done)
       | (refine Rat.not_le.1 fun h => ?_; have e := h1.2.2 (Rat.le_antisymm h (Rat.not_lt.1 fun h => by have := h1.1.2 h; omega)); omega)
 ·have HCAN := hI hcan
  go_wp2_with fail
  refine (HCn.out _ HG1.out hcan).mono ?_
  rintro e w2 ⟨rfl, k2⟩
  have HG2 := hI (HG1.out.below k2)
  go_wp2_with fail
  go_ret
  exact ⟨1, rfl, ⟨⟨fun h => absurd h (by omega), fun h => absurd h.1 HCAN.out⟩, .inr (.inr ⟨HCAN.out, rfl⟩)⟩, HG2.out.1⟩
open Classical in
noncomputable def numCode (n d : ByteArray) (p q : Bool) : Int := if numOk n d p q then 0 else if CanQ n d then 2 else 1
theorem numCode_zero (n d : ByteArray) (p q : Bool) : numCode n d p q = 0 ↔ numOk n d p q := by
 unfold numCode
 constructor
 ·intro h
  refine Classical.byContradiction fun hn => ?_
  rw [if_neg hn] at h
  split at h <;> omega
 ·intro h; rw [if_pos h]
theorem between1_code (n d : ByteArray) (p q : Bool) (b1 b2 : Nat) (w : World) (s1 : n.size ≤ 13) (s2 : d.size ≤ 13) (h1 : w.heap[b1]? = some (.cells #[.bool p] 4 (0, 0))) (h2 : w.heap[b2]? = some (.cells #[.bool q] 4 (0, 0))) (ht : Tabs w) :
 Calls Tryz.prog 278 #[.agg #[.string n, .string d], .pointer (some ⟨b1, 0, none⟩), .pointer (some ⟨b2, 0, none⟩)] w fun e w' => e = .returned (.int .i64 (numCode n d p q)) ∧ Below w.heap.size w w' := by
 refine (between1_any n d p q b1 b2 w s1 s2 h1 h2 ht).mono ?_
 rintro e w' ⟨c, rfl, ⟨hc, hk⟩, hb⟩
 refine ⟨?_, hb⟩
 congr 2
 unfold numCode
 by_cases hn : numOk n d p q
 ·rw [if_pos hn]; exact hc.2 hn
 ·rw [if_neg hn]
  rcases hk with h | ⟨h, e⟩ | ⟨h, e⟩
  ·exact absurd (hc.1 h) hn
  ·rw [if_pos h]; exact e
  ·rw [if_neg h]; exact e
end Go.Proofs.YtbkmhmaldljgmaaGreatDoor
