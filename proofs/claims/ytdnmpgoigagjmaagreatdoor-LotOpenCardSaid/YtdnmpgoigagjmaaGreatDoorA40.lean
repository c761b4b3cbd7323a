/-
  The walk of accrual.Plan on what is valid. (Printed by gen_acc11.py.)
  The plain side of tranchelaw39.AccrualSums; what its walk keeps.
-/
import Derived.Test.YtdnmpgoigagjmaaGreatDoorA33
import Derived.Laws.AppendOwn
import Derived.Test.YtdnmpgoigagjmaaGreatDoorA21
set_option linter.unusedVariables false
set_option linter.unusedSimpArgs false
namespace Go.Proofs.YtdnmpgoigagjmaaGreatDoor
open Go.RowKit Tr Go.Shelf
theorem rnd_abs (q : Rat) : (rnd q).natAbs ≤ q.num.natAbs + 1 := by
 have hp : (1 : Int) ≤ (q.den : Int) := by have := q.den_pos; omega
 have h1 : (q.num / (q.den : Int)).natAbs ≤ q.num.natAbs := by
  rcases Int.lt_or_le q.num 0 with h | h
  ·have a1 : q.num / (q.den : Int) < 0 := Int.ediv_neg_of_neg_of_pos h (by omega)
   have a2 : q.num ≤ q.num / (q.den : Int) := by
    refine (Int.le_ediv_iff_mul_le (by omega)).2 ?_
    have := Int.mul_le_mul_of_nonpos_left (a := q.num) (b := (q.den : Int)) (c := 1) (by omega) hp
    omega
   omega
  ·have a1 : 0 ≤ q.num / (q.den : Int) := Int.ediv_nonneg h (by omega)
   have a2 : q.num / (q.den : Int) ≤ q.num := Int.ediv_le_self _ h
   omega
 unfold rnd
 split <;> omega
theorem rnd_size {q : Rat} {K : Nat} (h : BdQ q K) : (I (rnd q)).size ≤ K + 2 := by
 refine I_size_le (k := K + 1) ?_
 have h1 := rnd_abs q
 have h2 := h.1
 rw [Nat.pow_succ]
 have : 0 < 10 ^ K := Nat.pow_pos (by omega)
 omega
def prevN (i : Inst) (l : Lot) (ds : List Int) (k : Nat) : Int := if k = 0 then 0 else rnd (exactQ i l (ith ds (k - 1)))
def planN (i : Inst) (l : Lot) (ds : List Int) (k : Nat) : Int := rnd (exactQ i l (ith ds k)) - prevN i l ds k
def strI (z : Int) : Value := .string (I z)
def planV (i : Inst) (l : Lot) (ds : List Int) (n : Nat) : List Value := (List.range n).map fun k => strI (planN i l ds k)
theorem planV_succ (i : Inst) (l : Lot) (ds : List Int) (n : Nat) : planV i l ds (n + 1) = planV i l ds n ++ [strI (planN i l ds n)] := by
 unfold planV; rw [List.range_succ, List.map_append]; rfl
def Asc (ds : List Int) (n : Nat) : Prop := ∀ k, 0 < k → k < n → ith ds (k - 1) < ith ds k
theorem Asc.snoc {ds : List Int} {n : Nat} (h : Asc ds n) (h1 : n = 0 ∨ ith ds (n - 1) < ith ds n) : Asc ds (n + 1) := fun k hk hk' => by
 rcases Nat.lt_or_ge k n with h2 | h2
 ·exact h k hk h2
 ·have : k = n := by omega
  subst this
  rcases h1 with h1 | h1
  ·omega
  ·exact h1
def PlanPost (w : World) (i : Inst) (l : Lot) (ds : List Int) (e : Ending) (w' : World) : Prop :=
 Below w.heap.size w w' ∧ ((e = .returned (.tuple #[.slice none 0 0, .int .i64 8]) ∧ ¬ Asc ds ds.length) ∨
  ∃ v, e = .returned (.tuple #[v, .int .i64 0]) ∧ Asc ds ds.length ∧ w'.ownsRow w.heap.size 25 1 v ds.length (planV i l ds ds.length))
theorem Tryz.infoInt : (Tryz.prog.info? 25).map (fun i => (i.zero, i.size, i.bytes)) = some (some (.string ⟨#[]⟩), 1, 16) := by kernel_rfl
theorem addr_succ {W : World} {ad : Addr} {k : Nat} {v : Value} (h : W.cell? (ad.add (k + 1)) = some v) : W.cell? ⟨ad.block, ad.off + (k + 1), none⟩ = some v := by simpa [Addr.add] using h
end Go.Proofs.YtdnmpgoigagjmaaGreatDoor
namespace Go.Proofs.YtdnmpgoigagjmaaGreatDoor
open Go.RowKit Tr Go.Shelf
theorem foldl_rsum : ∀ (l : List Rat) (a : Rat), l.foldl (fun a b => a + b) a = a + rsum l
 | [], a => by simp only [List.foldl_nil, rsum, Rat.add_zero]
 | q :: l, a => by rw [List.foldl_cons, foldl_rsum l, rsum, Rat.add_assoc]
theorem qsum_rsum (l : List Rat) : qsum l = rsum l := by unfold qsum; rw [foldl_rsum, Rat.zero_add]
theorem isum_snoc : ∀ (l : List Int) (z : Int), isum (l ++ [z]) = isum l + z
 | [], z => by simp [isum]
 | q :: l, z => by rw [List.cons_append, isum, isum, isum_snoc l z, Int.add_assoc]
theorem foldl_sumBy (f : SLot → Int) : ∀ (l : List SLot) (a : Int), l.foldl (fun n x => n + f x) a = a + sumBy f l
 | [], a => by simp [sumBy]
 | x :: l, a => by
   have h := foldl_sumBy f l
   unfold sumBy at *
   rw [List.foldl_cons, List.foldl_cons, h, h (0 + f x)]
   omega
theorem sumBy_cons (f : SLot → Int) (x : SLot) (l : List SLot) : sumBy f (x :: l) = f x + sumBy f l := by
 have := foldl_sumBy f l (0 + f x)
 unfold sumBy at *
 rw [List.foldl_cons, this]
 omega
theorem face_sum {i : Inst} {d : Int} (hk : i.kind = 2) (hm : i.matures ≤ d) : ∀ (ls : List SLot), (∀ x ∈ ls, x.1.opn ≤ d) → rsum (ls.map fun l => exactQ i l.1 d) = fv i.fn i.fd * ((sumBy qtyOf ls : Int) : Rat) - ((sumBy costOf ls : Int) : Rat)
 | [], _ => by
   simp only [List.map_nil, rsum]
   rw [show sumBy qtyOf [] = 0 from rfl, show sumBy costOf [] = 0 from rfl]
   grind
 | x :: ls, h => by
   have ih := face_sum hk hm ls (fun y hy => h y (List.mem_cons_of_mem _ hy))
   have hx := h x (List.mem_cons_self ..)
   rw [List.map_cons, rsum, ih, sumBy_cons, sumBy_cons]
   have e : exactQ i x.1 d = fv i.fn i.fd * ((qtyOf x : Int) : Rat) - ((costOf x : Int) : Rat) := by
    unfold exactQ; rw [if_neg (by omega), if_pos hm]; rfl
   rw [e]
   push_cast
   grind
def sumTo (i : Inst) (own : List SLot) (d : Int) (k : Nat) : Int := isum ((own.take k).map fun l => rnd (exactQ i l.1 d))
theorem sumTo_succ {i : Inst} {own : List SLot} {d : Int} {k : Nat} {x : SLot} (h : own[k]? = some x) : sumTo i own d (k + 1) = sumTo i own d k + rnd (exactQ i x.1 d) := by
 obtain ⟨hlt, he⟩ := List.getElem?_eq_some_iff.1 h
 unfold sumTo
 rw [List.take_succ_eq_append_getElem hlt, he, List.map_append, List.map_cons, List.map_nil, isum_snoc]
theorem sums_lots (i : Inst) (own : List SLot) (d : Int) : (own ≠ [] → (sumTo i own d own.length - rnd (qsum (own.map fun l => exactQ i l.1 d))).natAbs < own.length) ∧ (own = [] → sumTo i own d own.length - rnd (qsum (own.map fun l => exactQ i l.1 d)) = 0) := by
 constructor
 ·intro h
  have := sums_close (own.map fun l => exactQ i l.1 d) (fun e => h (List.map_eq_nil_iff.1 e))
  rw [List.map_map, List.length_map] at this
  unfold sumTo
  rw [List.take_of_length_le (Nat.le_refl _), qsum_rsum]
  exact this
 ·rintro rfl
  have e : rnd (qsum (([] : List SLot).map fun l => exactQ i l.1 d)) = 0 := by kernel_rfl
  rw [e]
  rfl
theorem sums_one (i : Inst) (own : List SLot) (d : Int) (h1 : own.length = 1) {k : Nat} {x : SLot} (h : own[k]? = some x) : rnd (exactQ i x.1 d) = rnd (qsum (own.map fun l => exactQ i l.1 d)) := by
 match own, h1 with
 | [y], _ =>
   have hk : k = 0 := by have := (List.getElem?_eq_some_iff.1 h).1; simp at this; omega
   subst hk
   simp at h
   subst h
   rw [qsum_rsum, List.map_cons, List.map_nil, rsum, rsum, Rat.add_zero]
theorem isum_bd {K : Nat} : ∀ (l : List Int), (∀ z ∈ l, z.natAbs < K) → (isum l).natAbs ≤ l.length * K
 | [], _ => by simp [isum]
 | z :: l, h => by
   have h1 := h z (List.mem_cons_self ..)
   have h2 := isum_bd l (fun y hy => h y (List.mem_cons_of_mem _ hy))
   rw [isum, List.length_cons, Nat.add_mul]
   omega
theorem AOk.own {i : Inst} {ls : List SLot} {d : Int} (h : AOk i ls d) (s : ByteArray) : AOk i (ownL ls s) d := by
 have hsub : (ownL ls s).Sublist ls := List.filter_sublist
 refine ⟨h.small, h.ok, ⟨?_, ?_, ?_⟩, ?_, h.dy⟩
 ·have := h.lots.len
  have := (hsub.map Subtype.val).length_le
  omega
 ·intro l hl
  exact h.lots.ok l ((hsub.map Subtype.val).subset hl)
 ·exact ((hsub.map Subtype.val).map Lot.id).nodup h.lots.ids
 ·have := h.len
  have := hsub.length_le
  omega
theorem ownL_own (ls : List SLot) (s : ByteArray) : ownL (ownL ls s) s = ownL ls s := by unfold ownL; rw [List.filter_filter]; simp
theorem AOk.one {i : Inst} {ls : List SLot} {d : Int} (h : AOk i ls d) {k : Nat} {x : SLot} (hx : (ownL ls i.id)[k]? = some x) : BOk i x.1 := by
 have hm := List.mem_of_getElem? hx
 have h2 := List.mem_filter.1 hm
 exact ⟨h.small, h.ok, x.2, (h.lots.ok x.1 (List.mem_map.2 ⟨x, h2.1, rfl⟩)).2, by simpa using h2.2⟩
theorem exists_slots (ls : List Lot) (h : ∀ l ∈ ls, l.sized) : ∃ sls : List SLot, sls.map Subtype.val = ls :=
 ⟨ls.attach.map fun x => ⟨x.1, h x.1 x.2⟩, by rw [List.map_map]; exact List.attach_map_subtype_val ls⟩
theorem RdL.rdb {w : World} {A : Option Addr} {ls : List SLot} (h : RdL w A (ls.map Subtype.val)) : RdB w.heap.size w A ls := by
 intro hl
 obtain ⟨ad, rfl, h1, h2⟩ := h (fun e => hl (List.map_eq_nil_iff.1 e))
 exact ⟨ad, rfl, h1, fun j l hj => h2 j l.1 (by rw [List.getElem?_map, hj]; rfl)⟩
theorem AOk.tot_bd {i : Inst} {ls : List SLot} {d : Int} (h : AOk i ls d) : BdQ (qsum ((ownL ls i.id).map fun l => exactQ i l.1 d)) (100 * (qB + 1) + 1) := by
 have e : ((ownL ls i.id).map fun l => exactQ i l.1 d) = ((ownL ls i.id).attach.map (fun l => (⟨exactQ i l.1.1 d, exact_bd i l.1.1 d h.ex l.1.2 (h.opn _ (List.mem_filter.1 l.2).1)⟩ : SQ))).map Subtype.val := by
  rw [List.map_map]
  conv => lhs; rw [← List.attach_map_subtype_val (ownL ls i.id), List.map_map]
  rfl
 rw [e]
 refine (qsum_bd _).mono ?_
 rw [List.length_map, List.length_attach]
 have : (ownL ls i.id).length ≤ 99 := Nat.le_trans (List.length_filter_le _ _) h.len
 have := Nat.mul_le_mul_right (qB + 1) (show (ownL ls i.id).length ≤ 100 by omega)
 omega
theorem AOk.tot_size {i : Inst} {ls : List SLot} {d : Int} (h : AOk i ls d) : (I (rnd (qsum ((ownL ls i.id).map fun l => exactQ i l.1 d)))).size ≤ 1000000 := by
 have := rnd_size h.tot_bd
 unfold qB at this; omega
theorem AOk.sum_size {i : Inst} {ls : List SLot} {d : Int} (h : AOk i ls d) (k : Nat) : (I (sumTo i (ownL ls i.id) d k)).size ≤ 1000000 := by
 obtain ⟨K, hK⟩ : ∃ K, K = qB + 1 := ⟨_, rfl⟩
 have hz : ∀ z ∈ ((ownL ls i.id).take k).map (fun l => rnd (exactQ i l.1 d)), z.natAbs < 10 ^ K := by
  intro z hz
  obtain ⟨x, hx, rfl⟩ := List.mem_map.1 hz
  have hx2 := (List.mem_filter.1 (List.mem_of_mem_take hx)).1
  have h1 := (exact_bd i x.1 d h.ex x.2 (h.opn _ hx2)).1
  have h2 := rnd_abs (exactQ i x.1 d)
  rw [hK, Nat.pow_succ]
  have : 0 < 10 ^ qB := Nat.pow_pos (by omega)
  omega
 have h1 := isum_bd _ hz
 have h2 : (ownL ls i.id).length ≤ 99 := Nat.le_trans (List.length_filter_le _ _) h.len
 rw [List.length_map, List.length_take] at h1
 have h3 : (sumTo i (ownL ls i.id) d k).natAbs < 10 ^ (K + 2) := by
  unfold sumTo
  rw [Nat.pow_add]
  have := Nat.mul_le_mul_right (10 ^ K) (show min k (ownL ls i.id).length ≤ 99 by omega)
  have : 0 < 10 ^ K := Nat.pow_pos (by omega)
  omega
 have h4 := I_size_le h3
 unfold qB at hK
 omega
theorem AOk.exact_size {i : Inst} {ls : List SLot} {d : Int} (h : AOk i ls d) {x : SLot} (hx : x ∈ ownL ls i.id) : (I (rnd (exactQ i x.1 d))).size ≤ 1000000 := by
 have := rnd_size (exact_bd i x.1 d h.ex x.2 (h.opn _ (List.mem_filter.1 hx).1))
 unfold qB at this; omega
theorem small_size {z : Int} (h : z.natAbs < 100) : (I z).size ≤ 3 := I_size_le (k := 2) h
end Go.Proofs.YtdnmpgoigagjmaaGreatDoor
