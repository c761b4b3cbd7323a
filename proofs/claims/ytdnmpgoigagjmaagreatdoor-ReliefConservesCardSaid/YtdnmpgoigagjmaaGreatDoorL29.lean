/-
  The walk of accrual.Plan on what is valid. (Printed by gen_acc11.py.)
  The plain side of tranchelaw39.AccrualSums; what its walk keeps.
-/
import Derived.Test.YtdnmpgoigagjmaaGreatDoorL21
import Derived.Laws.AppendOwn
import Derived.Test.YtdnmpgoigagjmaaGreatDoorL16
set_option linter.unusedVariables false
set_option linter.unusedSimpArgs false
set_option maxHeartbeats 16000000
set_option maxRecDepth 100000
namespace Go.Proofs.YtdnmpgoigagjmaaGreatDoor
open Go.RowKit Tr Go.Shelf
def Asc (ds : List Int) (n : Nat) : Prop := ∀ k, 0 < k → k < n → ith ds (k - 1) < ith ds k
theorem Asc.snoc {ds : List Int} {n : Nat} (h : Asc ds n) (h1 : n = 0 ∨ ith ds (n - 1) < ith ds n) : Asc ds (n + 1) := fun k hk hk' => by
 rcases Nat.lt_or_ge k n with h2 | h2
 ·exact h k hk h2
 ·have : k = n := by omega
  subst this
  rcases h1 with h1 | h1
  ·omega
  ·exact h1
theorem foldl_sumBy (f : SLot → Int) : ∀ (l : List SLot) (a : Int), l.foldl (fun n x => n + f x) a = a + sumBy f l
 | [], a => by simp [sumBy]
 | x :: l, a => by
   have h := foldl_sumBy f l
   unfold sumBy at *
   rw [List.foldl_cons, List.foldl_cons, h, h (0 + f x)]
   omega
theorem AOk.own {i : Inst} {ls : List SLot} {d : Int} (h : AOk i ls d) (s : ByteArray) : AOk i (ownL ls s) d := by
 have hsub : (ownL ls s).Sublist ls := List.filter_sublist
 refine ⟨h.small, h.ok, ⟨?_, ?_, ?_⟩, ?_, h.dy⟩
 ·have := h.lots.len
  have := (hsub.map Subtype.val).length_le
  omega
 ·intro l hl
  exact h.lots.ok l ((hsub.map Subtype.val).subset hl)
 ·exact ((hsub.map Subtype.val).map Lot.id).nodup h.lots.ids
 ·have := h.len
  have := hsub.length_le
  omega
theorem AOk.one {i : Inst} {ls : List SLot} {d : Int} (h : AOk i ls d) {k : Nat} {x : SLot} (hx : (ownL ls i.id)[k]? = some x) : BOk i x.1 := by
 have hm := List.mem_of_getElem? hx
 have h2 := List.mem_filter.1 hm
 exact ⟨h.small, h.ok, x.2, (h.lots.ok x.1 (List.mem_map.2 ⟨x, h2.1, rfl⟩)).2, by simpa using h2.2⟩
theorem RdL.rdb {w : World} {A : Option Addr} {ls : List SLot} (h : RdL w A (ls.map Subtype.val)) : RdB w.heap.size w A ls := by
 intro hl
 obtain ⟨ad, rfl, h1, h2⟩ := h (fun e => hl (List.map_eq_nil_iff.1 e))
 exact ⟨ad, rfl, h1, fun j l hj => h2 j l.1 (by rw [List.getElem?_map, hj]; rfl)⟩
end Go.Proofs.YtdnmpgoigagjmaaGreatDoor
