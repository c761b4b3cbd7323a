/-
  The walk of trancheref01.read.
  The walks of trancheref01.order, plus, minus.
-/
import Derived.Test.YtdnmpgoigagjmaaGreatDoorL01
import Derived.Test.YtdnmpgoigagjmaaGreatDoorL12
import Derived.Test.YtdnmpgoigagjmaaGreatDoorL06
import Derived.Test.YtdnmpgoigagjmaaGreatDoorL07
set_option linter.unusedVariables false
set_option linter.unusedSimpArgs false
set_option maxHeartbeats 16000000
set_option maxRecDepth 100000
namespace Go.Proofs.YtdnmpgoigagjmaaGreatDoor
open Go.RowKit Tr Go.Shelf
theorem RdN.of_own {w : World} {base : Nat} {e : TypeId} {A : Option Addr} {n c : Nat} {l : List Nat} (h : w.ownsRow base e 1 (.slice A n c) n (l.map V)) : n = l.length ∧ n ≤ c ∧ RdN w A l := by
 have hn : n = l.length := by have := h.1; simpa using this.symm
 refine ⟨hn, ?_, fun hl => ?_⟩
 ·rcases h.2 with ⟨h', _⟩ | ⟨g', cap', cur, h', _, hg, hnc, _⟩
  ·simp at h'; omega
  ·simp only [Value.slice.injEq] at h'; omega
 ·rcases h.2 with ⟨h', _⟩ | ⟨g', cap', cur, h', _, hg, _⟩
  ·exact absurd (List.eq_nil_of_length_eq_zero (by simp at h'; omega)) hl
  ·simp only [Value.slice.injEq, true_and] at h'
   obtain ⟨rfl, rfl⟩ := h'
   have hlt : g' < w.heap.size := by
    rcases Nat.lt_or_ge g' w.heap.size with h | h
    ·exact h
    ·rw [Array.getElem?_eq_none h] at hg; cases hg
   refine ⟨_, rfl, hlt, fun j hj => ?_⟩
   have hc := h.cells (g := g') rfl j (.int .i64 (gt l j)) (by simp [gt, V, hj])
   exact hc
theorem RdN.far {w : World} {A : Option Addr} {l : List Nat} (h : RdN w A l) {p : Addr} (hp : ∀ ad : Addr, A = some ad → ad.block ≠ p.block) (u : Value) : RdN (w.setCell p u) A l := by
 intro hl
 obtain ⟨ad, rfl, h1, h2⟩ := h hl
 refine ⟨ad, rfl, by simpa [World.setCell] using h1, fun j hj => ?_⟩
 rw [World.cell?_setCell_other _ _ _ _ (fun e => hp ad rfl (by rw [← add_block ad j, ← e]))]
 exact h2 j hj
def RReadPost (w : World) (a : ByteArray) (e : Ending) (w' : World) : Prop :=
 ∃ (A : Option Addr) (l : List Nat) (c : Nat), e = .returned (.agg #[.bool (decide (vl a < 0)), .slice A l.length c]) ∧ (Dig l ∧ Norm l ∧ mval l = (vl a).natAbs ∧ 9 * l.length ≤ a.size + 8) ∧ l.length ≤ c ∧ RdN w' A l ∧ Below w.heap.size w w'
theorem PlusR.full {l m : List Nat} {k : Nat} {p : List Nat} (h : PlusR l m k p 0) (h1 : l.length ≤ k) (h2 : m.length ≤ k) : mval p = mval l + mval m := by
 have h3 := h.2.2
 rw [List.take_of_length_le h1, List.take_of_length_le h2] at h3
 omega
theorem Dig.cutz {l : List Nat} (h : Dig l) : Dig (cutz l) := by rw [cutz_is_take]; exact h.take _
end Go.Proofs.YtdnmpgoigagjmaaGreatDoor
