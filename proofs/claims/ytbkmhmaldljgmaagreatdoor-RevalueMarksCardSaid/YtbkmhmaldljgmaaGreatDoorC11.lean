/-
  The walk of trancheref01.read.
  The walks of trancheref01.order, plus, minus.
-/
import Derived.Test.YtbkmhmaldljgmaaGreatDoorC02
import Derived.Test.YtbkmhmaldljgmaaGreatDoorC04
import Derived.Deep.DeepCutAuto
import Derived.Test.YtbkmhmaldljgmaaGreatDoorC05
import Derived.Test.YtbkmhmaldljgmaaGreatDoorC06
set_option linter.unusedVariables false
set_option linter.unusedSimpArgs false
set_option maxHeartbeats 16000000
set_option maxRecDepth 100000
namespace Go.Proofs.YtbkmhmaldljgmaaGreatDoor
open Go.RowKit Tr Go.Shelf
theorem RdN.of_own {w : World} {base : Nat} {e : TypeId} {A : Option Addr} {n c : Nat} {l : List Nat} (h : w.ownsRow base e 1 (.slice A n c) n (l.map V)) : n = l.length ∧ n ≤ c ∧ RdN w A l := by
 have hn : n = l.length := by have := h.1; simpa using this.symm
 refine ⟨hn, ?_, fun hl => ?_⟩
 ·rcases h.2 with ⟨h', _⟩ | ⟨g', cap', cur, h', _, hg, hnc, _⟩
  ·simp at h'; omega
  ·simp only [Value.slice.injEq] at h'; omega
 ·rcases h.2 with ⟨h', _⟩ | ⟨g', cap', cur, h', _, hg, _⟩
  ·exact absurd (List.eq_nil_of_length_eq_zero (by simp at h'; omega)) hl
  ·simp only [Value.slice.injEq, true_and] at h'
   obtain ⟨rfl, rfl⟩ := h'
   have hlt : g' < w.heap.size := by
    rcases Nat.lt_or_ge g' w.heap.size with h | h
    ·exact h
    ·rw [Array.getElem?_eq_none h] at hg; cases hg
   refine ⟨_, rfl, hlt, fun j hj => ?_⟩
   have hc := h.cells (g := g') rfl j (.int .i64 (gt l j)) (by simp [gt, V, hj])
   exact hc
theorem Dig.cutz {l : List Nat} (h : Dig l) : Dig (cutz l) := by rw [cutz_is_take]; exact h.take _
end Go.Proofs.YtbkmhmaldljgmaaGreatDoor
