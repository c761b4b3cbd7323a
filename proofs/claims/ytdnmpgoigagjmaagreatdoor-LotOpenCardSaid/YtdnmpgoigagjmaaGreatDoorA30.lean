/-
  A region that draws its order, inside a fence, by an invariant over what has come up.
  A region that draws its order, outside of a fence, by an invariant over what has come up.
-/
import Derived.Test.YtdnmpgoigagjmaaGreatDoorA28
set_option linter.unusedVariables false
set_option linter.unusedSimpArgs false
namespace Go.Proofs.YtdnmpgoigagjmaaGreatDoor
open Go.RowKit Tr Go.Shelf
def waits (L : List Bool) : Nat := (L.filter fun b => !b).length
theorem waits_set : ∀ (L : List Bool) (i : Nat), L[i]? = some false → waits (L.set i true) < waits L
 | [], i, h => by simp at h
 | b :: r, 0, h => by simp at h; subst h; simp [waits]
 | b :: r, i + 1, h => by
   simp at h
   have := waits_set r i h
   unfold waits at *
   cases b <;> simp at * <;> omega
theorem waits_zero : ∀ (L : List Bool) (i : Nat), waits L = 0 → L[i]? ≠ some false
 | [], i, _ => by simp
 | b :: r, 0, h => by cases b <;> simp [waits] at h ⊢
 | b :: r, i + 1, h => by
   simp
   refine waits_zero r i ?_
   unfold waits at *
   cases b <;> simp at h ⊢ <;> exact h
theorem getD_false {L : Array Bool} {i : Nat} (h : L.getD i true = false) : L.toList[i]? = some false := by
 rw [Array.getD_eq_getD_getElem?] at h
 rw [Array.getElem?_toList]
 cases hh : L[i]? with
 | none => rw [hh] at h; cases h
 | some b => rw [hh] at h; simp at h; rw [h]
variable {F : Fence} {n : Nat} {P : Program} {md : Region.Mode} {ops : Array Oper} {Q : Exit → Act → World → Prop}
theorem wpAnyIn_inv (J : Array Bool → Act → World → Prop)
 (hstep : ∀ L a w, J L a w → ∀ i ∈ Region.ready md ops L, wpOpIn F n P ops Q i (J (L.setIfInBounds i true)) a w)
 (hdone : ∀ L a w, J L a w → Region.ready md ops L = [] → Q .normal a w) :
 ∀ (fuel : Nat) (L : Array Bool) (a : Act) (w : World), J L a w → waits L.toList ≤ fuel → wpAnyIn F n P md ops Q fuel L a w := by
 intro fuel
 induction fuel with
 | zero =>
   intro L a w hj hw
   have hr : Region.ready md ops L = [] := by
    refine List.eq_nil_iff_forall_not_mem.2 fun i hi => ?_
    exact waits_zero L.toList i (by omega) (getD_false (mem_ready.1 hi).1)
   exact ⟨hr, hdone L a w hj hr⟩
 | succ fuel ih =>
   intro L a w hj hw
   refine ⟨fun hr => hdone L a w hj hr, fun i hi => wpOpIn_mono (fun a' w' h' => ih _ a' w' h' ?_) (hstep L a w hj i hi)⟩
   have := waits_set L.toList i (getD_false (mem_ready.1 hi).1)
   rw [Array.toList_setIfInBounds]
   omega
theorem getD_set_same {L : Array Bool} {i : Nat} (h : L.getD i true = false) : (L.setIfInBounds i true).getD i false = true := by
 have := getD_false h
 rw [Array.getElem?_toList] at this
 have hi := (Array.getElem?_eq_some_iff.1 this).1
 simp [Array.getD_eq_getD_getElem?, hi]
theorem getD_set_other {L : Array Bool} {i j : Nat} (h : i ≠ j) : (L.setIfInBounds i true).getD j false = L.getD j false := by
 simp [Array.getD_eq_getD_getElem?, Array.getElem?_setIfInBounds, h]
theorem getD_off {L : Array Bool} {i : Nat} (h : L.getD i true = false) : L.getD i false = false := by
 have := getD_false h
 rw [Array.getElem?_toList] at this
 simp [Array.getD_eq_getD_getElem?, this]
theorem getD_up {L : Array Bool} {i j : Nat} (hun : L.getD i true = false) (h : L.getD j false = true) : (L.setIfInBounds i true).getD j false = true := by
 by_cases e : i = j
 ·subst e; exact getD_set_same hun
 ·rw [getD_set_other e]; exact h
theorem getD_dn {L : Array Bool} {i j : Nat} (e : i ≠ j) (h : (L.setIfInBounds i true).getD j false = true) : L.getD j false = true := by rwa [getD_set_other e] at h
theorem getD_df {L : Array Bool} {i j : Nat} (e : i ≠ j) (h : (L.setIfInBounds i true).getD j false = false) : L.getD j false = false := by rwa [getD_set_other e] at h
theorem not_on {L : Array Bool} {i : Nat} (h : L.getD i false = false) (k : L.getD i false = true) : False := by rw [h] at k; cases k
theorem off_or_on (L : Array Bool) (i : Nat) : L.getD i false = false ∨ L.getD i false = true := by cases L.getD i false <;> simp
theorem ready_of {L : Array Bool} {i : Nat} {o : Oper} (hsz : i < L.size) (hoff : L.getD i false = false) (ho : ops[i]? = some o) (ha : ∀ e ∈ o.after, Region.binds md e = true → L.getD e.on false = true) : i ∈ Region.ready md ops L :=
 mem_ready.2 ⟨by rw [Array.getD_eq_getD_getElem?] at *; rw [Array.getElem?_eq_getElem hsz] at *; simpa using hoff, o, ho, ha⟩
end Go.Proofs.YtdnmpgoigagjmaaGreatDoor
namespace Go.Proofs.YtdnmpgoigagjmaaGreatDoor
open Go.RowKit Tr Go.Shelf
variable {P : Program} {md : Region.Mode} {ops : Array Oper} {Q : Exit → Act → World → Prop}
theorem wpAny_inv (J : Array Bool → Act → World → Prop)
 (hstep : ∀ L a w, J L a w → ∀ i ∈ Region.ready md ops L, wpOp P ops Q i (J (L.setIfInBounds i true)) a w)
 (hdone : ∀ L a w, J L a w → Region.ready md ops L = [] → Q .normal a w) :
 ∀ (fuel : Nat) (L : Array Bool) (a : Act) (w : World), J L a w → waits L.toList ≤ fuel → wpAny P md ops Q fuel L a w := by
 intro fuel
 induction fuel with
 | zero =>
   intro L a w hj hw
   have hr : Region.ready md ops L = [] := by
    refine List.eq_nil_iff_forall_not_mem.2 fun i hi => ?_
    exact waits_zero L.toList i (by omega) (getD_false (mem_ready.1 hi).1)
   exact ⟨hr, hdone L a w hj hr⟩
 | succ fuel ih =>
   intro L a w hj hw
   refine ⟨fun hr => hdone L a w hj hr, fun i hi => wpOp_mono (fun a' w' h' => ih _ a' w' h' ?_) (hstep L a w hj i hi)⟩
   have := waits_set L.toList i (getD_false (mem_ready.1 hi).1)
   rw [Array.toList_setIfInBounds]
   omega
end Go.Proofs.YtdnmpgoigagjmaaGreatDoor
