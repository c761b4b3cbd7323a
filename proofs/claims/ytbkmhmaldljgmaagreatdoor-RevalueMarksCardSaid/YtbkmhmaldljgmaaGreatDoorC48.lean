/-
  A slice of texts, opened out of an argument's reading.
-/
import Derived.Test.YtbkmhmaldljgmaaGreatDoorC47
import Derived.Test.YtbkmhmaldljgmaaGreatDoorC16
import Derived.Deep.Slices
set_option linter.unusedVariables false
set_option linter.unusedSimpArgs false
set_option maxHeartbeats 16000000
set_option maxRecDepth 100000
namespace Go.Proofs.YtbkmhmaldljgmaaGreatDoor
open Go.RowKit Tr Go.Shelf Go.ChangeShapes Go.WideShapes Go.ChangeAt
set_option maxRecDepth 100000
theorem list_of {α : Type} (n : Nat) (P : Nat → α → Prop) (h : ∀ i, i < n → ∃ x, P i x) : ∃ l : List α, l.length = n ∧ ∀ i x, l[i]? = some x → P i x := by
 induction n with
 | zero => exact ⟨[], rfl, fun i x hx => by simp at hx⟩
 | succ n ih =>
   obtain ⟨l, hl, hp⟩ := ih (fun i hi => h i (by omega))
   obtain ⟨y, hy⟩ := h n (by omega)
   refine ⟨l ++ [y], by simp [hl], fun i x hx => ?_⟩
   rcases Nat.lt_or_ge i l.length with hi | hi
   ·rw [List.getElem?_append_left hi] at hx; exact hp i x hx
   ·rw [List.getElem?_append_right hi] at hx
    have : i - l.length = 0 := by have := (List.getElem?_eq_some_iff.1 hx).1; simp at this; omega
    rw [this] at hx
    simp at hx
    subst hx
    have : i = n := by omega
    subst this
    exact hy
theorem open_texts {H : Type} {enc : TypeId × Value → H} {W : World} {base b : Nat} {sp : Nat → Bool} {held : Bool} {v : Value} {d : DataW H} {p : List MemPlace} (hv : Value.okWide Tryz.prog W .any base 28 v) (h : DataW.Trod enc Tryz.prog W b sp held 28 v d p) :
 ∃ (A : Option Addr) (ds : List ByteArray) (c : Nat), v = .slice A ds.length c ∧ ds.length ≤ c ∧ ds.length ≤ maxLen ∧ RdS W A ds := by
 obtain ⟨a0, len, cap, rfl⟩ := okWide_slice Tryz.underlying28 hv
 obtain ⟨fuel, hf⟩ := h
 have hC : Tryz.prog.cellsOf 23 = 1 := by kernel_rfl
 rcases Deep.open_slice Tryz.underlying28 hf with ⟨h0, _⟩ | ⟨a, len', cap', m, n, D, Pl, hcs, _, hl, hm, hmm, _, hel⟩
 ·simp only [Value.cells, List.cons.injEq, and_true] at h0
  injection h0 with e1 e2 e3
  subst e1 e2 e3
  exact ⟨none, [], 0, rfl, by simp, by simp, fun h => absurd rfl h⟩
 ·simp only [Value.cells, List.cons.injEq, and_true] at hcs
  injection hcs with e1 e2 e3
  subst e1 e2 e3
  have hlm : len ≤ m := by rw [hmm]; split <;> omega
  obtain ⟨ds, hds, hP⟩ := list_of len (fun j (z : ByteArray) => W.cell? (a.add j) = some (.string z)) (fun j hj => by
   obtain ⟨cs', g1, g2⟩ := hel j (by omega)
   rw [hC, Nat.mul_one] at g1
   obtain ⟨z, rfl, _⟩ := DataW.trod_string Tryz.underlying23 g2
   obtain ⟨_, _, hc⟩ := World.cells?_some g1
   have := hc 0 (by omega)
   exact ⟨z, by simpa [Addr.add] using this⟩)
  refine ⟨some a, ds, cap, by rw [hds], by omega, by omega, fun hne => ⟨a, rfl, ?_, fun j x hj => hP j x hj⟩⟩
  have hpos : 0 < ds.length := List.length_pos_iff.2 hne
  have := cell_lt (hP 0 _ (List.getElem?_eq_getElem hpos))
  simpa [Addr.add] using this
end Go.Proofs.YtbkmhmaldljgmaaGreatDoor
