/-
  The walk of (relief.entry).sort.
  lot.Of, and what a nil slice is.
-/
import Derived.Test.YtbkmhmaldljgmaaGreatDoorC26
import Derived.Deep.AppendLies
import Derived.Test.YtbkmhmaldljgmaaGreatDoorC16
set_option linter.unusedVariables false
set_option linter.unusedSimpArgs false
set_option maxHeartbeats 16000000
set_option maxRecDepth 100000
namespace Go.Proofs.YtbkmhmaldljgmaaGreatDoor
open Go.RowKit Tr Go.Shelf
def LotsPostN (w : World) (ls : List SLot) (e : Ending) (w' : World) : Prop := ∃ A c, e = .returned (.slice A ls.length c) ∧ ls.length ≤ c ∧ (∀ ad, A = some ad → w.heap.size ≤ ad.block) ∧ RdB w'.heap.size w' A ls ∧ Below w.heap.size w w' ∧ (A = none → ls.length = 0 ∧ c = 0)
theorem sl_of : ∀ D : List Lot, (∀ x ∈ D, x.sized) → ∃ sl : List SLot, sl.map Subtype.val = D
 | [], _ => ⟨[], rfl⟩
 | x :: r, h => by
   obtain ⟨sl, e⟩ := sl_of r (fun y hy => h y (List.mem_cons_of_mem _ hy))
   exact ⟨⟨x, h x (List.mem_cons_self ..)⟩ :: sl, by rw [List.map_cons, e]⟩
theorem SRow.sl {w0 W : World} {g N : Nat} {sp : List Value} {D : List Lot} (h : SRow okL w0 g sp D W) (hN : D.length = N) : ∃ sl : List SLot, sl.map Subtype.val = D ∧ sl.length = N ∧ RdB W.heap.size W (some ⟨g, 0, none⟩) sl := by
 obtain ⟨sl, e⟩ := sl_of D (fun x hx => (h.ok x hx).1)
 refine ⟨sl, e, by rw [← hN, ← e, List.length_map], fun _ => ⟨_, rfl, h.ltW, fun j l hj => ?_⟩⟩
 rw [addr_add0]
 refine h.at ?_
 rw [← e, List.getElem?_map, hj]
 rfl
theorem lOf_n (n₀ : Nat) (A : Option Addr) (ls : List SLot) (c : Nat) (s : ByteArray) (w : World) (hlen : ls.length ≤ 1000000) (hR : RdB n₀ w A ls) (hnw : n₀ ≤ w.heap.size) :
 Calls Tryz.prog 40 #[.slice A ls.length c, .string s] w (LotsPostN w (ownL ls s)) := by
 have hC : ∀ (W : World) (bl bi : Nat), Boxed W bl 56 (.slice A ls.length c) → Boxed W bi 9 (.string s) → RdB n₀ W A ls → n₀ ≤ W.heap.size →
  Calls Tryz.prog 70 #[.func (.func 119) #[] #[.pointer (some ⟨bl, 0, none⟩), .pointer (some ⟨bi, 0, none⟩)]] W (LotsPostN W (ownL ls s)) := by
  intro W bl bi k0 k1 k2 k3
  have HA := hI ((callsIn_wide (n := 6)).1 (appendSeq_of 6 bl bi n₀ A ls c s W (by omega) hlen k0 k1 k2 k3))
  clear k0 k1 k2 k3 hR hnw
  go_enter Tryz.func70, Tryz.ntmps70
  go_wp2_with fail
  refine HA.out.mono ?_
  rintro e w1 ⟨v, rfl, hrow, hb⟩
  have hnil : ∀ A' c', v = .slice A' (ownL ls s).length c' → A' = none → (ownL ls s).length = 0 ∧ c' = 0 := fun A' c' hv hn0 => by
   rcases hrow.2 with ⟨h, h0⟩ | ⟨g, cap, cur, h, _⟩
   ·rw [h] at hv; injection hv with _ _ h3; exact ⟨h0, h3.symm⟩
   ·rw [h] at hv; injection hv with h1 _ _; rw [hn0] at h1; cases h1
  obtain ⟨A', c', rfl, h1, h2, h3⟩ := RdB.of_own hrow
  have h9 := hnil A' c' rfl
  have HF : Hid (LotsPostN W (ownL ls s) (.returned (.slice A' (ownL ls s).length c')) w1) := ⟨A', c', rfl, h1, h2, h3, hb, h9⟩
  clear hrow h1 h2 h3 hb h9 hnil
  go_wp2_with fail
  go_ret
  exact HF.out
 have HC := hI hC
 have HR := hI hR
 clear hC hR
 go_enter Tryz.func40, Tryz.ntmps40
 go_wp2_with fail
 refine (lof_any A ls.length c s w).mono ?_
 rintro e w1 ⟨rfl, hw1⟩
 have b1 : Below w.heap.size w w1 := by rw [hw1]; exact ((Below.refl _ w).alloc (Nat.le_refl _) _).alloc (by simp) _
 have k0 : Boxed w1 w.heap.size 56 (.slice A ls.length c) := by rw [hw1]; exact (Boxed.new w _ _).alloc _
 have k1 : Boxed w1 (w.heap.size + 1) 9 (.string s) := by
  rw [hw1]
  have := Boxed.new (w.alloc (.cells #[.slice A ls.length c] 56)) 9 (.string s)
  rwa [World.size_alloc] at this
 have HX := hI (HC.out w1 _ _ k0 k1 (HR.out.below (b1.mono hnw)) (Nat.le_trans hnw b1.size))
 have HB1 := hI b1
 clear hw1 k0 k1 b1
 go_wp2_with fail
 refine HX.out.mono ?_
 rintro e w2 ⟨A', c', rfl, h1, h2, h3, h4, h9⟩
 have HF : Hid (LotsPostN w (ownL ls s) (.returned (.slice A' (ownL ls s).length c')) w2) := ⟨A', c', rfl, h1, fun ad e => Nat.le_trans HB1.out.size (h2 ad e), h3, HB1.out.trans (h4.mono HB1.out.size), h9⟩
 clear h1 h2 h3 h4 h9
 go_wp2_with fail
 go_ret
 exact HF.out
end Go.Proofs.YtbkmhmaldljgmaaGreatDoor
