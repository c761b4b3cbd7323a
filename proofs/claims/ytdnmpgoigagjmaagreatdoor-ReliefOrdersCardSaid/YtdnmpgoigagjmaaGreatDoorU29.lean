/-
  The walk of accrual.Plan on what is valid. (Printed by gen_acc11.py.)
  The plain side of tranchelaw39.AccrualSums; what its walk keeps.
-/
import Derived.Test.YtdnmpgoigagjmaaGreatDoorU22
import Derived.Laws.AppendOwn
import Derived.Test.YtdnmpgoigagjmaaGreatDoorU17
set_option linter.unusedVariables false
set_option linter.unusedSimpArgs false
set_option maxHeartbeats 16000000
set_option maxRecDepth 100000
namespace Go.Proofs.YtdnmpgoigagjmaaGreatDoor
open Go.RowKit Tr Go.Shelf
theorem rnd_abs (q : Rat) : (rnd q).natAbs ≤ q.num.natAbs + 1 := by
 have hp : (1 : Int) ≤ (q.den : Int) := by have := q.den_pos; omega
 have h1 : (q.num / (q.den : Int)).natAbs ≤ q.num.natAbs := by
  rcases Int.lt_or_le q.num 0 with h | h
  ·have a1 : q.num / (q.den : Int) < 0 := Int.ediv_neg_of_neg_of_pos h (by omega)
   have a2 : q.num ≤ q.num / (q.den : Int) := by
    refine (Int.le_ediv_iff_mul_le (by omega)).2 ?_
    have := Int.mul_le_mul_of_nonpos_left (a := q.num) (b := (q.den : Int)) (c := 1) (by omega) hp
    omega
   omega
  ·have a1 : 0 ≤ q.num / (q.den : Int) := Int.ediv_nonneg h (by omega)
   have a2 : q.num / (q.den : Int) ≤ q.num := Int.ediv_le_self _ h
   omega
 unfold rnd
 split <;> omega
def Asc (ds : List Int) (n : Nat) : Prop := ∀ k, 0 < k → k < n → ith ds (k - 1) < ith ds k
theorem Asc.snoc {ds : List Int} {n : Nat} (h : Asc ds n) (h1 : n = 0 ∨ ith ds (n - 1) < ith ds n) : Asc ds (n + 1) := fun k hk hk' => by
 rcases Nat.lt_or_ge k n with h2 | h2
 ·exact h k hk h2
 ·have : k = n := by omega
  subst this
  rcases h1 with h1 | h1
  ·omega
  ·exact h1
theorem foldl_sumBy (f : SLot → Int) : ∀ (l : List SLot) (a : Int), l.foldl (fun n x => n + f x) a = a + sumBy f l
 | [], a => by simp [sumBy]
 | x :: l, a => by
   have h := foldl_sumBy f l
   unfold sumBy at *
   rw [List.foldl_cons, List.foldl_cons, h, h (0 + f x)]
   omega
def sumTo (i : Inst) (own : List SLot) (d : Int) (k : Nat) : Int := isum ((own.take k).map fun l => rnd (exactQ i l.1 d))
theorem isum_bd {K : Nat} : ∀ (l : List Int), (∀ z ∈ l, z.natAbs < K) → (isum l).natAbs ≤ l.length * K
 | [], _ => by simp [isum]
 | z :: l, h => by
   have h1 := h z (List.mem_cons_self ..)
   have h2 := isum_bd l (fun y hy => h y (List.mem_cons_of_mem _ hy))
   rw [isum, List.length_cons, Nat.add_mul]
   omega
theorem AOk.own {i : Inst} {ls : List SLot} {d : Int} (h : AOk i ls d) (s : ByteArray) : AOk i (ownL ls s) d := by
 have hsub : (ownL ls s).Sublist ls := List.filter_sublist
 refine ⟨h.small, h.ok, ⟨?_, ?_, ?_⟩, ?_, h.dy⟩
 ·have := h.lots.len
  have := (hsub.map Subtype.val).length_le
  omega
 ·intro l hl
  exact h.lots.ok l ((hsub.map Subtype.val).subset hl)
 ·exact ((hsub.map Subtype.val).map Lot.id).nodup h.lots.ids
 ·have := h.len
  have := hsub.length_le
  omega
theorem AOk.one {i : Inst} {ls : List SLot} {d : Int} (h : AOk i ls d) {k : Nat} {x : SLot} (hx : (ownL ls i.id)[k]? = some x) : BOk i x.1 := by
 have hm := List.mem_of_getElem? hx
 have h2 := List.mem_filter.1 hm
 exact ⟨h.small, h.ok, x.2, (h.lots.ok x.1 (List.mem_map.2 ⟨x, h2.1, rfl⟩)).2, by simpa using h2.2⟩
theorem RdL.rdb {w : World} {A : Option Addr} {ls : List SLot} (h : RdL w A (ls.map Subtype.val)) : RdB w.heap.size w A ls := by
 intro hl
 obtain ⟨ad, rfl, h1, h2⟩ := h (fun e => hl (List.map_eq_nil_iff.1 e))
 exact ⟨ad, rfl, h1, fun j l hj => h2 j l.1 (by rw [List.getElem?_map, hj]; rfl)⟩
theorem AOk.sum_size {i : Inst} {ls : List SLot} {d : Int} (h : AOk i ls d) (k : Nat) : (I (sumTo i (ownL ls i.id) d k)).size ≤ 1000000 := by
 obtain ⟨K, hK⟩ : ∃ K, K = qB + 1 := ⟨_, rfl⟩
 have hz : ∀ z ∈ ((ownL ls i.id).take k).map (fun l => rnd (exactQ i l.1 d)), z.natAbs < 10 ^ K := by
  intro z hz
  obtain ⟨x, hx, rfl⟩ := List.mem_map.1 hz
  have hx2 := (List.mem_filter.1 (List.mem_of_mem_take hx)).1
  have h1 := (exact_bd i x.1 d h.ex x.2 (h.opn _ hx2)).1
  have h2 := rnd_abs (exactQ i x.1 d)
  rw [hK, Nat.pow_succ]
  have : 0 < 10 ^ qB := Nat.pow_pos (by omega)
  omega
 have h1 := isum_bd _ hz
 have h2 : (ownL ls i.id).length ≤ 99 := Nat.le_trans (List.length_filter_le _ _) h.len
 rw [List.length_map, List.length_take] at h1
 have h3 : (sumTo i (ownL ls i.id) d k).natAbs < 10 ^ (K + 2) := by
  unfold sumTo
  rw [Nat.pow_add]
  have := Nat.mul_le_mul_right (10 ^ K) (show min k (ownL ls i.id).length ≤ 99 by omega)
  have : 0 < 10 ^ K := Nat.pow_pos (by omega)
  omega
 have h4 := I_size_le h3
 unfold qB at hK
 omega
end Go.Proofs.YtdnmpgoigagjmaaGreatDoor
