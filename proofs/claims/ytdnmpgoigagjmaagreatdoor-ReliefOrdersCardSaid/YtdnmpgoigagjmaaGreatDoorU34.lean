/-
  What relief.Take takes, plainly.
  What is chosen is possible; lots as a whole; what it costs.
  What is left and what is taken, plainly.
  Picks in memory.
  relief.positive, least; a pick that is looked for.
  Relief's comparisons of lots. (Printed by gen_rel1.py.)
-/
import Derived.Test.YtdnmpgoigagjmaaGreatDoorU33
import Derived.Test.YtdnmpgoigagjmaaGreatDoorU27
import Derived.Test.YtdnmpgoigagjmaaGreatDoorU22
import Derived.Test.YtdnmpgoigagjmaaGreatDoorU14
set_option linter.unusedVariables false
set_option linter.unusedSimpArgs false
set_option maxHeartbeats 16000000
set_option maxRecDepth 100000
namespace Go.Proofs.YtdnmpgoigagjmaaGreatDoor
open Go.RowKit Tr Go.Shelf
def lotOf (ls : List Lot) (id : ByteArray) : Option Lot := ls.find? fun x => decide (x.id = id)
theorem lotOf_none {ls : List Lot} {id : ByteArray} : lotOf ls id = none ↔ ∀ x ∈ ls, x.id ≠ id := by
 unfold lotOf; rw [List.find?_eq_none]; simp
theorem lotOf_split : ∀ {ls : List Lot} {id : ByteArray} {x : Lot}, lotOf ls id = some x → ∃ A B, ls = A ++ x :: B ∧ x.id = id ∧ ∀ y ∈ A, y.id ≠ id
 | [], _, _, h => by cases h
 | y :: r, id, x, h => by
   by_cases e : y.id = id
   ·unfold lotOf at h
    rw [List.find?_cons_of_pos (by simp [e])] at h
    injection h with h
    subst h
    exact ⟨[], r, rfl, e, fun z hz => by cases hz⟩
   ·unfold lotOf at h
    rw [List.find?_cons_of_neg (by simp [e])] at h
    obtain ⟨A, B, h1, h2, h3⟩ := lotOf_split (ls := r) h
    refine ⟨y :: A, B, by rw [h1]; rfl, h2, fun z hz => ?_⟩
    rcases List.mem_cons.1 hz with hz | hz
    ·rw [hz]; exact e
    ·exact h3 z hz
theorem lotOf_mem {ls : List Lot} {id : ByteArray} {x : Lot} (h : lotOf ls id = some x) : x ∈ ls ∧ x.id = id := by
 obtain ⟨A, B, h1, h2, _⟩ := lotOf_split h
 exact ⟨by rw [h1]; simp, h2⟩
theorem lotOf_of_mem {ls : List Lot} {x : Lot} (hid : (ls.map Lot.id).Nodup) (h : x ∈ ls) : lotOf ls x.id = some x := by
 cases hl : lotOf ls x.id with
 | none => exact absurd rfl (lotOf_none.1 hl x h)
 | some y =>
   have hy := lotOf_mem hl
   rw [nd_inj hid hy.1 h hy.2]
theorem findR_lotOf_some {ls : List Lot} {id : ByteArray} {x : Lot} (h : lotOf ls id = some x) : (findR ls id 0).2 = true ∧ ls[(findR ls id 0).1]? = some x := by
 obtain ⟨A, B, rfl, h2, h3⟩ := lotOf_split h
 rw [findR_skip A (x :: B) id 0 h3, findR, if_pos h2]
 refine ⟨rfl, ?_⟩
 show (A ++ x :: B)[0 + A.length]? = some x
 rw [Nat.zero_add, List.getElem?_append_right (Nat.le_refl _), Nat.sub_self]; rfl
theorem findR_lotOf_none {ls : List Lot} {id : ByteArray} (h : lotOf ls id = none) : findR ls id 0 = (0, false) := findR_none (lotOf_none.1 h) 0
def pkOf (ps : List Pk) (id : ByteArray) : Option Pk := ps.find? fun p => decide (p.lot = id)
theorem pkOf_none {ps : List Pk} {id : ByteArray} : pkOf ps id = none ↔ ∀ p ∈ ps, p.lot ≠ id := by
 unfold pkOf; rw [List.find?_eq_none]; simp
theorem pkOf_snoc_ne {ps : List Pk} {p : Pk} {id : ByteArray} (h : p.lot ≠ id) : pkOf (ps ++ [p]) id = pkOf ps id := by
 unfold pkOf
 rw [List.find?_append, List.find?_cons_of_neg (by simp [h])]
 cases List.find? (fun p => decide (p.lot = id)) ps <;> rfl
theorem pkOf_snoc_eq {ps : List Pk} {p : Pk} {id : ByteArray} (h : p.lot = id) (hn : pkOf ps id = none) : pkOf (ps ++ [p]) id = some p := by
 unfold pkOf at *
 rw [List.find?_append, hn, List.find?_cons_of_pos (by simp [h])]; rfl
def leftO (ps : List Pk) (x : Lot) : Option Lot :=
 match pkOf ps x.id with
 | none => some x
 | some p => if x.qty = p.qty then none else some (cutB x p.qty)
theorem leftO_none {ps : List Pk} {x : Lot} (h : pkOf ps x.id = none) : leftO ps x = some x := by unfold leftO; rw [h]
theorem leftO_some {ps : List Pk} {x : Lot} {p : Pk} (h : pkOf ps x.id = some p) : leftO ps x = if x.qty = p.qty then none else some (cutB x p.qty) := by unfold leftO; rw [h]
theorem leftO_id {ps : List Pk} {x y : Lot} (h : leftO ps x = some y) : y.id = x.id := by
 unfold leftO at h
 split at h
 ·injection h with h; rw [h]
 ·split at h
  ·cases h
  ·injection h with h; rw [← h]; rfl
def restR (ls : List Lot) (ps : List Pk) : List Lot := ls.filterMap (leftO ps)
def tknO (ls : List Lot) (p : Pk) : Lot :=
 match lotOf ls p.lot with
 | some x => if x.qty = p.qty then x else cutA x p.qty
 | none => zeroLot
theorem tknO_some {ls : List Lot} {p : Pk} {x : Lot} (h : lotOf ls p.lot = some x) : tknO ls p = if x.qty = p.qty then x else cutA x p.qty := by unfold tknO; rw [h]
def takenR (ls : List Lot) (ps : List Pk) : List Lot := ps.map (tknO ls)
theorem restR_nil (ls : List Lot) : restR ls [] = ls := by
 unfold restR
 have : leftO [] = some := funext fun x => leftO_none rfl
 rw [this, List.filterMap_some]
theorem restR_snoc_ne {ls : List Lot} {ps : List Pk} {p : Pk} (h : ∀ x ∈ ls, p.lot ≠ x.id) : restR ls (ps ++ [p]) = restR ls ps := by
 unfold restR
 induction ls with
 | nil => rfl
 | cons x r ih =>
   have e : leftO (ps ++ [p]) x = leftO ps x := by unfold leftO; rw [pkOf_snoc_ne (h x (List.mem_cons_self ..))]
   rw [List.filterMap_cons, List.filterMap_cons, e, ih (fun y hy => h y (List.mem_cons_of_mem _ hy))]
theorem restR_ids {ls : List Lot} {ps : List Pk} {y : Lot} (h : y ∈ restR ls ps) : ∃ x ∈ ls, y.id = x.id := by
 obtain ⟨x, hx, e⟩ := List.mem_filterMap.1 h
 exact ⟨x, hx, leftO_id e⟩
theorem restR_len (ls : List Lot) (ps : List Pk) : (restR ls ps).length ≤ ls.length := List.length_filterMap_le _ _
theorem nd_split {A B : List Lot} {x : Lot} (hid : ((A ++ x :: B).map Lot.id).Nodup) : (∀ y ∈ A, x.id ≠ y.id) ∧ ∀ y ∈ B, x.id ≠ y.id := by
 rw [List.map_append, List.map_cons, List.nodup_append, List.nodup_cons] at hid
 exact ⟨fun y hy e => hid.2.2 y.id (List.mem_map.2 ⟨y, hy, rfl⟩) x.id (List.mem_cons_self ..) e.symm, fun y hy e => hid.2.1.1 (by rw [e]; exact List.mem_map.2 ⟨y, hy, rfl⟩)⟩
theorem restR_step {ls : List Lot} {ps : List Pk} {p : Pk} {x : Lot} (hid : (ls.map Lot.id).Nodup) (hx : lotOf ls p.lot = some x) (hn : p.lot ∉ ps.map Pk.lot) :
 ∃ P Q, restR ls ps = P ++ x :: Q ∧ findR (restR ls ps) p.lot 0 = (P.length, true) ∧ restR ls (ps ++ [p]) = P ++ (if x.qty = p.qty then [] else [cutB x p.qty]) ++ Q := by
 obtain ⟨A, B, rfl, e, _⟩ := lotOf_split hx
 obtain ⟨hA, hB⟩ := nd_split hid
 have hA' : ∀ y ∈ A, p.lot ≠ y.id := fun y hy => by rw [← e]; exact hA y hy
 have hB' : ∀ y ∈ B, p.lot ≠ y.id := fun y hy => by rw [← e]; exact hB y hy
 have hp : pkOf ps x.id = none := pkOf_none.2 fun q hq e2 => hn (by rw [← e, ← e2]; exact List.mem_map.2 ⟨q, hq, rfl⟩)
 have e1 : restR (A ++ x :: B) ps = restR A ps ++ x :: restR B ps := by
  unfold restR; rw [List.filterMap_append, List.filterMap_cons_some (leftO_none hp)]
 refine ⟨restR A ps, restR B ps, e1, ?_, ?_⟩
 ·rw [e1, findR_skip _ _ _ _ (fun y hy => ?_), findR, if_pos e, Nat.zero_add]
  obtain ⟨z, hz, e3⟩ := restR_ids hy
  rw [e3]
  exact (hA' z hz).symm
 ·have h1 := restR_snoc_ne (ps := ps) hA'
  have h2 := restR_snoc_ne (ps := ps) hB'
  have h3 : leftO (ps ++ [p]) x = if x.qty = p.qty then none else some (cutB x p.qty) := leftO_some (pkOf_snoc_eq e.symm hp)
  unfold restR at h1 h2 ⊢
  rw [List.filterMap_append, h1]
  by_cases hq : x.qty = p.qty
  ·rw [if_pos hq] at h3 ⊢
   rw [List.filterMap_cons_none h3, h2]; simp
  ·rw [if_neg hq] at h3 ⊢
   rw [List.filterMap_cons_some h3, h2]; simp
open Classical in
noncomputable def posE (ls : List Lot) (io : Option ByteArray) : List Pk → List Pk → Int
 | _, [] => 0
 | pre, p :: r =>
   match lotOf ls p.lot with
   | none => 6
   | some x =>
     if (∃ s, io = some s ∧ x.inst ≠ s) then 9
     else if p.lot ∈ pre.map Pk.lot then 5
     else if ¬ Can p.qty then 1
     else if vl p.qty ≤ 0 then 2
     else if vl x.qty < vl p.qty then 15
     else posE ls io (pre ++ [p]) r
structure PkOk (ls : List Lot) (io : Option ByteArray) (p : Pk) (x : Lot) : Prop where
 lot : lotOf ls p.lot = some x
 inst : ∀ s, io = some s → x.inst = s
 can : Can p.qty
 pos : 0 < vl p.qty
 le : vl p.qty ≤ vl x.qty
theorem posE_none {ls : List Lot} {io : Option ByteArray} {pre r : List Pk} {p : Pk} (h : lotOf ls p.lot = none) : posE ls io pre (p :: r) = 6 := by rw [posE, h]
theorem posE_inst {ls : List Lot} {io : Option ByteArray} {pre r : List Pk} {p : Pk} {x : Lot} (h : lotOf ls p.lot = some x) {s : ByteArray} (hs : io = some s) (h1 : x.inst ≠ s) : posE ls io pre (p :: r) = 9 := by rw [posE, h]; exact if_pos ⟨s, hs, h1⟩
theorem posE_was {ls : List Lot} {io : Option ByteArray} {pre r : List Pk} {p : Pk} {x : Lot} (h : lotOf ls p.lot = some x) (h1 : ∀ s, io = some s → x.inst = s) (h2 : p.lot ∈ pre.map Pk.lot) : posE ls io pre (p :: r) = 5 := by
 rw [posE, h]; dsimp only; rw [if_neg (fun ⟨s, e, n⟩ => n (h1 s e)), if_pos h2]
theorem posE_can {ls : List Lot} {io : Option ByteArray} {pre r : List Pk} {p : Pk} {x : Lot} (h : lotOf ls p.lot = some x) (h1 : ∀ s, io = some s → x.inst = s) (h2 : p.lot ∉ pre.map Pk.lot) (h3 : ¬ Can p.qty) : posE ls io pre (p :: r) = 1 := by
 rw [posE, h]; dsimp only; rw [if_neg (fun ⟨s, e, n⟩ => n (h1 s e)), if_neg h2, if_pos h3]
theorem posE_pos {ls : List Lot} {io : Option ByteArray} {pre r : List Pk} {p : Pk} {x : Lot} (h : lotOf ls p.lot = some x) (h1 : ∀ s, io = some s → x.inst = s) (h2 : p.lot ∉ pre.map Pk.lot) (h3 : Can p.qty) (h4 : vl p.qty ≤ 0) : posE ls io pre (p :: r) = 2 := by
 rw [posE, h]; dsimp only; rw [if_neg (fun ⟨s, e, n⟩ => n (h1 s e)), if_neg h2, if_neg (fun n => n h3), if_pos h4]
theorem posE_short {ls : List Lot} {io : Option ByteArray} {pre r : List Pk} {p : Pk} {x : Lot} (h : lotOf ls p.lot = some x) (h1 : ∀ s, io = some s → x.inst = s) (h2 : p.lot ∉ pre.map Pk.lot) (h3 : Can p.qty) (h4 : 0 < vl p.qty) (h5 : vl x.qty < vl p.qty) : posE ls io pre (p :: r) = 15 := by
 rw [posE, h]; dsimp only; rw [if_neg (fun ⟨s, e, n⟩ => n (h1 s e)), if_neg h2, if_neg (fun n => n h3), if_neg (by omega), if_pos h5]
theorem posE_ok {ls : List Lot} {io : Option ByteArray} {pre r : List Pk} {p : Pk} {x : Lot} (h : PkOk ls io p x) (h2 : p.lot ∉ pre.map Pk.lot) : posE ls io pre (p :: r) = posE ls io (pre ++ [p]) r := by
 rw [posE, h.lot]; dsimp only; rw [if_neg (fun ⟨s, e, n⟩ => n (h.inst s e)), if_neg h2, if_neg (fun n => n h.can), if_neg (by have := h.pos; omega), if_neg (by have := h.le; omega)]
structure PksOk (ls : List Lot) (io : Option ByteArray) (ps : List Pk) : Prop where
 nd : (ps.map Pk.lot).Nodup
 ok : ∀ p ∈ ps, ∃ x, PkOk ls io p x
theorem posE_zero : ∀ (ls : List Lot) (io : Option ByteArray) (r pre : List Pk), posE ls io pre r = 0 ↔ (∀ p ∈ r, p.lot ∉ pre.map Pk.lot) ∧ PksOk ls io r
 | ls, io, [], pre => by rw [posE]; exact ⟨fun _ => ⟨(fun p h => by cases h), ⟨List.nodup_nil, (fun p h => by cases h)⟩⟩, fun _ => rfl⟩
 | ls, io, p :: r, pre => by
   constructor
   ·intro h
    cases hl : lotOf ls p.lot with
    | none => rw [posE_none hl] at h; exact absurd h (by decide)
    | some x =>
      have h1 : ∀ s, io = some s → x.inst = s := fun s hs => Classical.byContradiction fun n => by rw [posE_inst hl hs n] at h; exact absurd h (by decide)
      have h2 : p.lot ∉ pre.map Pk.lot := fun n => by rw [posE_was hl h1 n] at h; exact absurd h (by decide)
      have h3 : Can p.qty := Classical.byContradiction fun n => by rw [posE_can hl h1 h2 n] at h; exact absurd h (by decide)
      have h4 : 0 < vl p.qty := Int.not_le.1 fun n => by rw [posE_pos hl h1 h2 h3 n] at h; exact absurd h (by decide)
      have h5 : vl p.qty ≤ vl x.qty := Int.not_lt.1 fun n => by rw [posE_short hl h1 h2 h3 h4 n] at h; exact absurd h (by decide)
      have hk : PkOk ls io p x := ⟨hl, h1, h3, h4, h5⟩
      rw [posE_ok hk h2, posE_zero] at h
      obtain ⟨i1, i2⟩ := h
      refine ⟨fun q hq => ?_, ⟨?_, fun q hq => ?_⟩⟩
      ·rcases List.mem_cons.1 hq with rfl | hq
       ·exact h2
       ·exact fun n => i1 q hq (by rw [List.map_append, List.mem_append]; exact .inl n)
      ·rw [List.map_cons, List.nodup_cons]
       refine ⟨fun hm => ?_, i2.nd⟩
       obtain ⟨q, hq, e⟩ := List.mem_map.1 hm
       exact i1 q hq (by rw [List.map_append, List.mem_append]; right; rw [e]; simp)
      ·rcases List.mem_cons.1 hq with rfl | hq
       ·exact ⟨x, hk⟩
       ·exact i2.ok q hq
   ·rintro ⟨i1, i2⟩
    obtain ⟨x, hk⟩ := i2.ok p (List.mem_cons_self ..)
    rw [posE_ok hk (i1 p (List.mem_cons_self ..)), posE_zero]
    have hd := i2.nd
    rw [List.map_cons, List.nodup_cons] at hd
    refine ⟨fun q hq n => ?_, ⟨hd.2, fun q hq => i2.ok q (List.mem_cons_of_mem _ hq)⟩⟩
    rw [List.map_append, List.mem_append] at n
    rcases n with n | n
    ·exact i1 q (List.mem_cons_of_mem _ hq) n
    ·simp at n
     exact hd.1 (by rw [← n]; exact List.mem_map.2 ⟨q, hq, rfl⟩)
theorem isum_perm {a b : List Int} (h : a.Perm b) : a.sum = b.sum := by
 induction h with
 | nil => rfl
 | cons x _ ih => rw [List.sum_cons, List.sum_cons, ih]
 | swap x y l => rw [List.sum_cons, List.sum_cons, List.sum_cons, List.sum_cons]; omega
 | trans _ _ h1 h2 => rw [h1, h2]
theorem greedy_whole : ∀ (S : List Lot) (q : Int) (i : Nat) (a : ByteArray × Int), (greedy S q)[i]? = some a → i + 1 < (greedy S q).length → ∃ x ∈ S, a = (x.id, vl x.qty)
 | [], q, i, a, h, _ => by rw [greedy] at h; simp at h
 | x :: r, q, i, a, h, hl => by
   rw [greedy] at h hl
   split at h
   ·simp at h
   ·rename_i h1
    rw [if_neg h1] at hl
    split at h
    ·rename_i h2
     rw [if_pos h2] at hl
     simp at hl
    ·rename_i h2
     rw [if_neg h2] at hl
     cases i with
     | zero => simp at h; exact ⟨x, List.mem_cons_self .., h.symm⟩
     | succ i =>
       obtain ⟨y, hy, e⟩ := greedy_whole r _ i a (by simpa using h) (by simpa using hl)
       exact ⟨y, List.mem_cons_of_mem _ hy, e⟩
theorem pksOf_lot (out : Am) : (pksOf out).map Pk.lot = out.map Prod.fst := by unfold pksOf; rw [List.map_map]; rfl
theorem can_I (z : Int) : Can (I z) := by unfold Can; rw [vl_I]
theorem InvA.pks {ls : List Lot} {s : ByteArray} (hid : (ls.map Lot.id).Nodup) {own : List Lot} (hown : ∀ x ∈ own, x ∈ ls ∧ x.inst = s) {q0 : Int} {st : Am × Int} (h : InvA own q0 st) (io : Option ByteArray) (hio : ∀ t, io = some t → t = s) : PksOk ls io (pksOf st.1) := by
 refine ⟨by rw [pksOf_lot]; exact h.nd, fun p hp => ?_⟩
 obtain ⟨a, ha, rfl⟩ := List.mem_map.1 hp
 obtain ⟨x, hx, e⟩ := h.sub a ha
 have hl := lotOf_of_mem hid (hown x hx).1
 rw [e] at hl
 refine ⟨x, hl, fun t ht => by rw [hio t ht]; exact (hown x hx).2, can_I _, by show 0 < vl (I a.2); rw [vl_I]; exact h.pos a ha, ?_⟩
 show vl (I a.2) ≤ _
 rw [vl_I, ← amt_mem h.nd ha, ← e]
 exact h.le x hx
def sumPk (ps : List Pk) : Int := ps.foldl (fun n p => n + vl p.qty) 0
theorem foldl_pk (f : Pk → Int) : ∀ (ps : List Pk) (n : Int), ps.foldl (fun n p => n + f p) n = n + ps.foldl (fun n p => n + f p) 0
 | [], n => by simp
 | p :: r, n => by rw [List.foldl_cons, foldl_pk f r, List.foldl_cons, foldl_pk f r (0 + f p)]; omega
theorem sumPk_pks : ∀ out : Am, sumPk (pksOf out) = sumA out
 | [] => rfl
 | a :: r => by
   have ih := sumPk_pks r
   unfold sumPk pksOf at *
   rw [List.map_cons, List.foldl_cons, foldl_pk (fun p => vl p.qty), ih, sumA]
   show 0 + vl (I a.2) + _ = _
   rw [vl_I]; omega
theorem sumPk_snoc (ps : List Pk) (p : Pk) : sumPk (ps ++ [p]) = sumPk ps + vl p.qty := by unfold sumPk; rw [List.foldl_append]; rfl
def ownB (ls : List Lot) (s : ByteArray) : List Lot := ls.filter fun l => decide (l.inst = s)
theorem ownB_own (ls : List SLot) (s : ByteArray) : (ownL ls s).map Subtype.val = ownB (ls.map Subtype.val) s := by unfold ownL ownB; rw [List.filter_map]; rfl
theorem ownB_mem {ls : List Lot} {s : ByteArray} {x : Lot} : x ∈ ownB ls s ↔ x ∈ ls ∧ x.inst = s := by unfold ownB; rw [List.mem_filter]; simp
theorem ownB_nd {ls : List Lot} (s : ByteArray) (h : (ls.map Lot.id).Nodup) : ((ownB ls s).map Lot.id).Nodup := List.Nodup.sublist (List.Sublist.map _ List.filter_sublist) h
theorem totQ_own (ls : List SLot) : totQ (ls.map Subtype.val) = sumBy qtyOf ls := by
 induction ls with
 | nil => rfl
 | cons x r ih =>
   unfold totQ sumBy at *
   rw [List.map_cons, List.map_cons, List.sum_cons, ih, List.foldl_cons]
   have := sumBy_append qtyOf [x] r
   unfold sumBy at this
   rw [List.singleton_append, List.foldl_cons, List.foldl_cons, List.foldl_nil] at this
   rw [this]
   show vl x.1.qty + _ = 0 + vl x.1.qty + _
   omega
theorem chs_every {own : List Lot} (hid : (own.map Lot.id).Nodup) (ho : ∀ x ∈ own, 0 < vl x.qty) (m : Int) (ps : List Pk) {x : Lot} (hx : x ∈ own) : amt (chsSt own m (totQ own) ps).1 x.id = vl x.qty := by
 have hq : 0 ≤ totQ own := by
  clear hx hid
  induction own with
  | nil => exact Int.le_refl _
  | cons y r ih =>
    have h1 := ho y (List.mem_cons_self ..)
    have h2 := ih (fun z hz => ho z (List.mem_cons_of_mem _ hz))
    unfold totQ at *
    rw [List.map_cons, List.sum_cons]; omega
 have h := InvA.chs hid ho hq m ps
 have h0 := chs_all hid ho hq (Int.le_refl _) m ps
 have h1 := sumA_own own _ hid h.nd h.sub
 have h2 := h.sum
 have h3 := h.le
 rw [h0, Int.add_zero] at h2
 rw [h2] at h1
 clear h0 h2 hq h
 generalize (chsSt own m (totQ own) ps).1 = out at *
 have key : ∀ own : List Lot, (∀ x ∈ own, amt out x.id ≤ vl x.qty) → (own.map fun x => amt out x.id).sum ≤ totQ own ∧ ((own.map fun x => amt out x.id).sum = totQ own → ∀ x ∈ own, amt out x.id = vl x.qty) := by
  intro own
  induction own with
  | nil => intro _; exact ⟨Int.le_refl _, fun _ x hx => by cases hx⟩
  | cons y r ih =>
    intro h
    obtain ⟨i1, i2⟩ := ih (fun z hz => h z (List.mem_cons_of_mem _ hz))
    have hy := h y (List.mem_cons_self ..)
    unfold totQ at *
    rw [List.map_cons, List.sum_cons, List.map_cons, List.sum_cons]
    refine ⟨by omega, fun e x hx => ?_⟩
    rcases List.mem_cons.1 hx with rfl | hx
    ·omega
    ·exact i2 (by omega) x hx
 exact (key own h3).2 h1 x hx
theorem cutU_size (l : Lot) {x : ByteArray} {k : Nat} (hx : x.size ≤ k) : (cutU l x).size ≤ k := by
 unfold cutU
 split
 ·exact Nat.zero_le _
 ·exact hx
theorem cutZ_bounds {l : Lot} {q : ByteArray} (h : l.ok) (q0 : 0 < vl q) (q2 : vl q < vl l.qty) : 0 ≤ cutZ l q ∧ cutZ l q ≤ vl l.cost :=
 share_bounds (t := vl l.cost) (p := vl q) (a := vl l.qty) h.pc (by omega) h.pq (by omega)
def Lot.mid (l : Lot) : Prop := l.qty.size ≤ 14 ∧ l.cost.size ≤ 14 ∧ l.used.size ≤ 14 ∧ l.id.size ≤ 40 ∧ l.inst.size ≤ 40
theorem Lot.mid.sized {l : Lot} (h : l.mid) : l.sized := by
 obtain ⟨h1, h2, h3, h4, h5⟩ := h
 exact ⟨by omega, by omega, by omega, by omega, by omega⟩
theorem Lot.tiny.mid {l : Lot} (h : l.tiny) : l.mid := by
 obtain ⟨h1, h2, h3, h4, h5⟩ := h
 exact ⟨by omega, by omega, by omega, by omega, by omega⟩
theorem cut_sizes {l : Lot} {q : ByteArray} (hti : l.tiny) (h : l.ok) (q1 : q.size ≤ 13) (q0 : 0 < vl q) (q2 : vl q < vl l.qty) : (cutA l q).mid ∧ (cutB l q).mid := by
 obtain ⟨z1, z2⟩ := cutZ_bounds h q0 q2
 have hbc : (vl l.cost).natAbs < 10 ^ 13 := Nat.lt_of_lt_of_le (vl_lt l.cost) (pow_mono hti.2.1)
 have hbq : (vl l.qty).natAbs < 10 ^ 13 := Nat.lt_of_lt_of_le (vl_lt l.qty) (pow_mono hti.1)
 have s1 : (I (cutZ l q)).size ≤ 14 := I_size_le (k := 13) (by omega)
 have s2 : (I (vl l.qty - vl q)).size ≤ 14 := I_size_le (k := 13) (by omega)
 have s3 : (I (vl l.cost - cutZ l q)).size ≤ 14 := I_size_le (k := 13) (by omega)
 obtain ⟨t1, t2, t3, t4, t5⟩ := hti
 exact ⟨⟨by show q.size ≤ _; omega, s1, cutU_size l (by omega), t4, t5⟩, ⟨s2, s3, cutU_size l s2, t4, t5⟩⟩
structure CutSum (f : Lot → Int) : Prop where
 cut : ∀ l q, f (cutA l q) + f (cutB l q) = f l
theorem cutSum_cost : CutSum (fun l => vl l.cost) := ⟨fun l q => by show vl (I _) + vl (I _) = _; rw [vl_I, vl_I]; omega⟩
def sumL (f : Lot → Int) (ls : List Lot) : Int := (ls.map f).sum
theorem sumL_append (f : Lot → Int) (a b : List Lot) : sumL f (a ++ b) = sumL f a + sumL f b := by unfold sumL; rw [List.map_append, List.sum_append]
theorem sumL_cons (f : Lot → Int) (x : Lot) (b : List Lot) : sumL f (x :: b) = f x + sumL f b := by unfold sumL; rw [List.map_cons, List.sum_cons]
theorem sumL_nil (f : Lot → Int) : sumL f [] = 0 := rfl
theorem sumL_own (g : Lot → Int) (ls : List SLot) : sumBy (fun x => g x.1) ls = sumL g (ls.map Subtype.val) := by
 induction ls with
 | nil => rfl
 | cons x r ih =>
   have := sumBy_append (fun x => g x.1) [x] r
   rw [List.singleton_append] at this
   have e : sumBy (fun x => g x.1) [x] = g x.1 := by show 0 + g x.1 = g x.1; omega
   rw [this, ih, List.map_cons, sumL_cons, e]
theorem ownB_append (a b : List Lot) (s : ByteArray) : ownB (a ++ b) s = ownB a s ++ ownB b s := by unfold ownB; rw [List.filter_append]
theorem ownB_one (x : Lot) (s : ByteArray) : ownB [x] s = if x.inst = s then [x] else [] := by unfold ownB; by_cases h : x.inst = s <;> simp [h]
theorem takenR_snoc (ls : List Lot) (ps : List Pk) (p : Pk) : takenR ls (ps ++ [p]) = takenR ls ps ++ [tknO ls p] := by unfold takenR; rw [List.map_append]; rfl
theorem take_sums (f : Lot → Int) (hf : CutSum f) {ls : List Lot} {io : Option ByteArray} (hid : (ls.map Lot.id).Nodup) (s : ByteArray) : ∀ (r pre : List Pk), ((pre ++ r).map Pk.lot).Nodup → (∀ p ∈ r, ∃ x, PkOk ls io p x) →
 sumL f (ownB (restR ls pre) s) + sumL f (ownB (takenR ls pre) s) = sumL f (ownB ls s) → sumL f (ownB (restR ls (pre ++ r)) s) + sumL f (ownB (takenR ls (pre ++ r)) s) = sumL f (ownB ls s)
 | [], pre, _, _, h => by rw [List.append_nil]; exact h
 | p :: r, pre, hd, hp, h => by
   have e : pre ++ p :: r = (pre ++ [p]) ++ r := by simp
   rw [e]
   rw [e] at hd
   obtain ⟨x, hx⟩ := hp p (List.mem_cons_self ..)
   have hn : p.lot ∉ pre.map Pk.lot := by
    intro hm
    rw [List.map_append, List.nodup_append, List.map_append, List.nodup_append] at hd
    exact hd.1.2.2 _ hm _ (by simp) rfl
   refine take_sums f hf hid s r (pre ++ [p]) hd (fun q hq => hp q (List.mem_cons_of_mem _ hq)) ?_
   obtain ⟨P, Q, e1, _, e2⟩ := restR_step hid hx.lot hn
   rw [e1] at h
   have e3 := tknO_some hx.lot
   rw [e2, takenR_snoc]
   rw [show P ++ x :: Q = P ++ [x] ++ Q from by simp] at h
   simp only [ownB_append, sumL_append] at h ⊢
   by_cases hq : x.qty = p.qty
   ·rw [if_pos hq] at e3
    rw [e3, if_pos hq]
    have n0 : sumL f (ownB ([] : List Lot) s) = 0 := rfl
    have n1 : sumL f ([] : List Lot) = 0 := rfl
    simp only [n0, n1] at *
    omega
   ·rw [if_neg hq] at e3
    rw [e3, if_neg hq]
    have hc := hf.cut x p.qty
    rw [ownB_one, ownB_one] at *
    by_cases hi : x.inst = s
    ·rw [if_pos (show (cutA x p.qty).inst = s from hi), if_pos (show (cutB x p.qty).inst = s from hi)]
     rw [if_pos hi] at h
     simp only [sumL_cons, sumL_nil] at h ⊢
     omega
    ·rw [if_neg (show ¬ (cutA x p.qty).inst = s from hi), if_neg (show ¬ (cutB x p.qty).inst = s from hi)]
     rw [if_neg hi] at h
     simp only [sumL_nil] at h ⊢
     omega
theorem take_sum (f : Lot → Int) (hf : CutSum f) {ls : List Lot} {io : Option ByteArray} (hid : (ls.map Lot.id).Nodup) {ps : List Pk} (h : PksOk ls io ps) (s : ByteArray) : sumL f (ownB (restR ls ps) s) + sumL f (ownB (takenR ls ps) s) = sumL f (ownB ls s) := by
 have := take_sums f hf hid s ps [] (by simpa using h.nd) h.ok (by rw [restR_nil]; show _ + 0 = _; omega)
 simpa using this
theorem pk_lt {ls : List Lot} {io : Option ByteArray} {p : Pk} {x : Lot} (hx : x.ok) (h : PkOk ls io p x) (hq : x.qty ≠ p.qty) : vl p.qty < vl x.qty := by
 have h1 := h.le
 have h2 : vl p.qty ≠ vl x.qty := fun e => hq (by
  have a := h.can
  have b := hx.cq
  unfold Can at a b
  rw [← a, ← b, e])
 omega
theorem taken_mid {ls : List Lot} {io : Option ByteArray} {ps : List Pk} (ha : AllOk ls) (hti : ∀ l ∈ ls, l.tiny) (h : PksOk ls io ps) (h13 : ∀ p ∈ ps, p.qty.size ≤ 13) {y : Lot} (hy : y ∈ takenR ls ps) : y.mid := by
 obtain ⟨p, hpm, rfl⟩ := List.mem_map.1 hy
 obtain ⟨x, hp⟩ := h.ok p hpm
 have hx := (lotOf_mem hp.lot).1
 rw [tknO_some hp.lot]
 split
 ·exact (hti x hx).mid
 ·rename_i hq
  have ho := lchk_zero.1 (ha.ok x hx)
  exact (cut_sizes (hti x hx) ho (h13 p hpm) hp.pos (pk_lt ho hp hq)).1
theorem leftO_inst {ps : List Pk} {x y : Lot} (h : leftO ps x = some y) : y.inst = x.inst := by
 unfold leftO at h
 split at h
 ·injection h with h; rw [h]
 ·split at h
  ·cases h
  ·injection h with h; rw [← h]; rfl
theorem pkOf_pks : ∀ (out : Am) (id : ByteArray), amt out id ≠ 0 → pkOf (pksOf out) id = some ⟨id, I (amt out id)⟩
 | [], id, h => absurd rfl h
 | a :: r, id, h => by
   rw [amt] at h
   unfold pkOf pksOf
   rw [List.map_cons]
   by_cases e : a.1 = id
   ·rw [List.find?_cons_of_pos (by simp [e]), amt, if_pos e, e]
   ·rw [if_neg e] at h
    rw [List.find?_cons_of_neg (by simp [e]), amt, if_neg e]
    exact pkOf_pks r id h
theorem every_rest {ls : List Lot} {s : ByteArray} {out : Am} (hok : ∀ x ∈ ls, x.ok) (h : ∀ x ∈ ownB ls s, amt out x.id = vl x.qty) : ownB (restR ls (pksOf out)) s = [] := by
 refine List.eq_nil_iff_forall_not_mem.2 fun y hy => ?_
 obtain ⟨hy, hs⟩ := ownB_mem.1 hy
 obtain ⟨x, hx, e⟩ := List.mem_filterMap.1 hy
 have ho := hok x hx
 have hq := h x (ownB_mem.2 ⟨hx, by rw [← leftO_inst e]; exact hs⟩)
 have hp := pkOf_pks out x.id (by rw [hq]; have := ho.pq; omega)
 rw [hq] at hp
 have hc := ho.cq
 unfold Can at hc
 rw [hc] at hp
 rw [leftO_some hp, if_pos rfl] at e
 cases e
theorem taken_inst {ls : List Lot} {s : ByteArray} {ps : List Pk} (h : PksOk ls (some s) ps) : ownB (takenR ls ps) s = takenR ls ps := by
 unfold ownB
 refine List.filter_eq_self.2 fun y hy => ?_
 obtain ⟨p, hp, rfl⟩ := List.mem_map.1 hy
 obtain ⟨x, hx⟩ := h.ok p hp
 have := hx.inst s rfl
 rw [tknO_some hx.lot]
 split
 ·simp [this]
 ·show decide (x.inst = s) = true; simp [this]
theorem PksOk.any {ls : List Lot} {io : Option ByteArray} {ps : List Pk} (h : PksOk ls io ps) : PksOk ls none ps :=
 ⟨h.nd, fun p hp => by obtain ⟨x, hx⟩ := h.ok p hp; exact ⟨x, hx.lot, (fun _ e => by cases e), hx.can, hx.pos, hx.le⟩⟩
theorem every_cost {ls : List Lot} {s : ByteArray} {out : Am} (hid : (ls.map Lot.id).Nodup) (hok : ∀ x ∈ ls, x.ok) (h : ∀ x ∈ ownB ls s, amt out x.id = vl x.qty) (hp : PksOk ls (some s) (pksOf out)) : sumL (fun l => vl l.cost) (takenR ls (pksOf out)) = sumL (fun l => vl l.cost) (ownB ls s) := by
 have h1 := take_sum (fun l => vl l.cost) cutSum_cost hid hp s
 rw [every_rest hok h, taken_inst hp, sumL_nil] at h1
 omega
structure PkAt (w : World) (p : Addr) (x : Pk) : Prop where
 c0 : w.cell? p = some (.string x.lot)
 c1 : w.cell? ⟨p.block, p.off + 1, none⟩ = some (.string x.qty)
theorem PkAt.below {w w' : World} {p : Addr} {x : Pk} {B : Nat} (h : PkAt w p x) (hb : Below B w w') (hp : p.block < B) : PkAt w' p x :=
 ⟨(hb.cell hp).trans h.c0, (hb.cell (p := ⟨p.block, p.off + 1, none⟩) hp).trans h.c1⟩
theorem PkAt.drew {w : World} {p : Addr} {x : Pk} (h : PkAt w p x) : PkAt w.drew p x := ⟨h.c0, h.c1⟩
def RdK (n₀ : Nat) (w : World) (A : Option Addr) (ps : List Pk) : Prop :=
 ps ≠ [] → ∃ ad : Addr, A = some ad ∧ ad.block < n₀ ∧ ∀ (j : Nat) (p : Pk), ps[j]? = some p → PkAt w (ad.add (j * 2)) p
theorem RdK.nil (n₀ : Nat) (w : World) (A : Option Addr) : RdK n₀ w A [] := fun h => absurd rfl h
theorem RdK.below {n₀ : Nat} {w w' : World} {A : Option Addr} {ps : List Pk} (h : RdK n₀ w A ps) (hb : Below n₀ w w') : RdK n₀ w' A ps := by
 intro hl
 obtain ⟨ad, rfl, h1, h2⟩ := h hl
 exact ⟨ad, rfl, h1, fun j l hj => (h2 j l hj).below hb (by rw [add_block]; exact h1)⟩
theorem RdK.mono {n₀ n₁ : Nat} {w : World} {A : Option Addr} {ps : List Pk} (h : RdK n₀ w A ps) (hn : n₀ ≤ n₁) : RdK n₁ w A ps := by
 intro hl
 obtain ⟨ad, rfl, h1, h2⟩ := h hl
 exact ⟨ad, rfl, Nat.lt_of_lt_of_le h1 hn, h2⟩
theorem RdK.take {n : Nat} {w : World} {A : Option Addr} {ps : List Pk} (h : RdK n w A ps) (k : Nat) : RdK n w A (ps.take k) := by
 intro hl
 obtain ⟨ad, e, h1, h2⟩ := h (by intro e; rw [e] at hl; simp at hl)
 exact ⟨ad, e, h1, fun j l hj => h2 j l (by rw [List.getElem?_take] at hj; split at hj; exact hj; cases hj)⟩
def PkBox (W : World) (B : Nat) (p : Pk) : Prop := W.heap[B]? = some (.cells p.cells 43 (0, 0))
theorem PkBox.below {W W' : World} {B : Nat} {p : Pk} (h : PkBox W B p) (hb : Below W.heap.size W W') : PkBox W' B p := (hb.block B (Array.getElem?_eq_some_iff.1 h).1).trans h
theorem PkBox.lt {W : World} {B : Nat} {p : Pk} (h : PkBox W B p) : B < W.heap.size := (Array.getElem?_eq_some_iff.1 h).1
def flatK (ps : List Pk) : List Value := ps.flatMap fun x => x.cells.toList
theorem flatK_append (a b : List Pk) : flatK (a ++ b) = flatK a ++ flatK b := by simp [flatK]
theorem flatK_cons (x : Pk) (a : List Pk) : flatK (x :: a) = x.cells.toList ++ flatK a := by simp [flatK]
theorem flatK_len (ps : List Pk) : (flatK ps).length = ps.length * 2 := by
 induction ps with
 | nil => rfl
 | cons x r ih => rw [flatK_cons, List.length_append, ih, List.length_cons]; simp; omega
theorem pkcells_one (x : Pk) : ∀ u ∈ x.cells.toList, u.oneCell' = true := by
 intro u hu
 simp [Pk.cells] at hu
 rcases hu with rfl | rfl <;> rfl
theorem positive20_any (a : ByteArray) (ha : a.size ≤ 1000000) (w : World) : Calls Tryz.prog 68 #[.string a] w fun e w' => e = .returned (.bool (decide (0 < vl a))) ∧ Below w.heap.size w w' := by
 have HC := hI (fun W => Compare_any a ⟨#[]⟩ W (by omega) (by decide))
 have HZ : Hid (vl ⟨#[]⟩ = 0) := by show vl ⟨#[]⟩ = 0; kernel_rfl
 go_enter Tryz.func68, Tryz.ntmps68
 go_wp2_with fail
 refine (HC.out _).mono ?_
 rintro e w1 ⟨rfl, b1⟩
 have HB := hI b1
 clear b1
 rw [HZ.out]
 by_cases h : 0 < vl a
 ·have t1 : decide (cmpI (vl a) 0 > 0) = true := decide_eq_true (cmpI_gt.2 h)
  have t2 : decide (0 < cmpI (vl a) 0) = true := t1
  have HD := hI (decide_eq_true h)
  clear h
  go_wp2_with fail
  go_ret
  exact ⟨by rw [HD.out]; rfl, HB.out⟩
 ·have t1 : decide (cmpI (vl a) 0 > 0) = false := decide_eq_false (fun x => h (cmpI_gt.1 x))
  have t2 : decide (0 < cmpI (vl a) 0) = false := t1
  have HD := hI (decide_eq_false h)
  clear h
  go_wp2_with fail
  go_ret
  exact ⟨by rw [HD.out]; rfl, HB.out⟩
theorem least20_any (a b : ByteArray) (ha : a.size ≤ 1000000) (hb : b.size ≤ 1000000) (w : World) : Calls Tryz.prog 74 #[.string a, .string b] w fun e w' => e = .returned (.string (if vl a < vl b then a else b)) ∧ Below w.heap.size w w' := by
 have HC := hI (fun W => Compare_any a b W (by omega) (by omega))
 obtain ⟨r, hr⟩ : ∃ r, (if vl a < vl b then a else b) = r := ⟨_, rfl⟩
 rw [hr]
 have HR := hI hr
 clear hr
 go_enter Tryz.func74, Tryz.ntmps74
 go_wp2_with fail
 refine (HC.out _).mono ?_
 rintro e w1 ⟨rfl, b1⟩
 have HB := hI b1
 clear b1
 by_cases h : vl a < vl b
 ·have t1 : decide (cmpI (vl a) (vl b) < 0) = true := decide_eq_true (cmpI_lt.2 h)
  have HD : Hid (a = r) := (if_pos h).symm.trans HR.out
  clear h
  go_wp2_with fail
  go_ret
  exact ⟨by rw [← HD.out]; rfl, HB.out⟩
 ·have t1 : decide (cmpI (vl a) (vl b) < 0) = false := decide_eq_false (fun x => h (cmpI_lt.1 x))
  have HD : Hid (b = r) := (if_neg h).symm.trans HR.out
  clear h
  go_wp2_with fail
  go_ret
  exact ⟨by rw [← HD.out]; rfl, HB.out⟩
theorem least20_I (x y : Int) (hx : (I x).size ≤ 1000000) (hy : (I y).size ≤ 1000000) (w : World) : Calls Tryz.prog 74 #[.string (I x), .string (I y)] w fun e w' => e = .returned (.string (I (min x y))) ∧ Below w.heap.size w w' := by
 refine (least20_any (I x) (I y) hx hy w).mono ?_
 rintro e w1 ⟨rfl, b1⟩
 refine ⟨?_, b1⟩
 rw [vl_I, vl_I]
 split
 ·rw [show min x y = x from by omega]
 ·rw [show min x y = y from by omega]
structure PkClo (P : Pk → Bool) (f : Nat) (bd : Array Value) (w : World) (ps : List Pk) : Prop where
 en : ∀ args w, (callFunc f args).run Tryz.prog w = .ok (.enter f args) w
 run : ∀ W, Below w.heap.size w W → ∀ p ∈ ps, Calls Tryz.prog f (#[p.enc] ++ bd) W fun e w' => e = .returned (.bool (P p)) ∧ Below W.heap.size W w'
def IdxIs (P : Pk → Bool) (ps : List Pk) (z : Int) : Prop := (∃ (k : Nat) (p : Pk), z = (k : Int) ∧ ps[k]? = some p ∧ P p = true ∧ ∀ q ∈ ps.take k, P q = false) ∨ (z = -1 ∧ ∀ q ∈ ps, P q = false)
theorem idxPicks_any (P : Pk → Bool) (f : Nat) (bd : Array Value) (n₀ : Nat) (A : Option Addr) (ps : List Pk) (c : Nat) (hlen : ps.length ≤ 1000000) (w : World) (hR : RdK n₀ w A ps) (hn : n₀ ≤ w.heap.size) (hC : PkClo P f bd w ps) :
 Calls Tryz.prog 71 #[.slice A ps.length c, .func (.func f) #[] bd] w fun e w' => (∃ z : Int, e = .returned (.int .i64 z) ∧ IdxIs P ps z) ∧ Below w.heap.size w w' := by
 have HR := hI hR
 have HC := hI hC
 have hen := hC.en
 clear hR hC
 go_enter Tryz.func71, Tryz.ntmps71
 go_wp2_with fail
 go_loopw [5, 8] (fun _ v wr => ∃ k : Nat, v = .int .i64 (k : Int) ∧ k ≤ ps.length ∧ (∀ x ∈ ps.take k, P x = false) ∧ Below w.heap.size w wr) (fun _ v _ => ps.length - (intOf v).toNat)
 case atStart => exact ⟨0, rfl, by omega, fun p hp => by simp at hp, Below.refl _ _⟩
 case round =>
  obtain ⟨k, rfl, hk, hno, hb⟩ := hrel
  have HNO := hI hno
  have HB := hI hb
  clear hno hb
  rcases Nat.lt_or_ge k ps.length with hlt | hge
  ·obtain ⟨p, hp⟩ : ∃ p, ps[k]? = some p := ⟨_, List.getElem?_eq_getElem hlt⟩
   obtain ⟨ad, rfl, had, hcell⟩ := HR.out (by intro e; rw [e] at hlt; cases hlt)
   have hcx : decide ((k : Int) < (ps.length : Int)) = true := by simp; omega
   obtain ⟨c0, c1⟩ := (hcell k p hp).below (HB.out.mono hn) (by rw [add_block]; exact had)
   have HTK := hI (take_snoc hp)
   have HP := hI hp
   have hcl := HC.out.run _ HB.out p (List.mem_of_getElem? hp)
   unfold Pk.enc Pk.cells at hcl
   have HCL := hI hcl
   clear hcell hp hcl
   go_wp2_with fail
   refine HCL.out.mono ?_
   rintro e w1 ⟨rfl, b1⟩
   have HB1 := hI (HB.out.trans (b1.mono HB.out.size))
   clear b1 HCL c0 c1
   cases hpp : P p
   case true =>
    have HF : Hid (IdxIs P ps (k : Int)) := .inl ⟨k, p, rfl, HP.out, hpp, HNO.out⟩
    clear hpp
    go_wp2_with fail
    go_ret
    exact ⟨⟨_, rfl, HF.out⟩, HB1.out⟩
   case false =>
    have HE := hI hpp
    clear hpp
    go_wp2_with fail
    go_roundw
    case rel =>
     refine ⟨k + 1, by go_num, by omega, fun x hx => ?_, HB1.out⟩
     rw [HTK.out, List.mem_append] at hx
     rcases hx with hx | hx
     ·exact HNO.out x hx
     ·rw [List.mem_singleton] at hx; subst hx; exact HE.out
    case measure => simp [intOf]; omega
  ·have hcx : decide ((k : Int) < (ps.length : Int)) = false := by simp; omega
   have HF : Hid (IdxIs P ps (-1)) := .inr ⟨rfl, fun x hx => HNO.out x (by rw [List.take_of_length_le hge]; exact hx)⟩
   go_wp2_with fail
   go_ret
   exact ⟨⟨_, rfl, HF.out⟩, HB.out⟩
theorem hasPicks_any (P : Pk → Bool) (f : Nat) (bd : Array Value) (n₀ : Nat) (A : Option Addr) (ps : List Pk) (c : Nat) (hlen : ps.length ≤ 1000000) (w : World) (hR : RdK n₀ w A ps) (hn : n₀ ≤ w.heap.size) (hC : PkClo P f bd w ps) :
 Calls Tryz.prog 61 #[.slice A ps.length c, .func (.func f) #[] bd] w fun e w' => e = .returned (.bool (ps.any P)) ∧ Below w.heap.size w w' := by
 have HI := hI (idxPicks_any P f bd n₀ A ps c hlen w hR hn hC)
 clear hR hC
 go_enter Tryz.func61, Tryz.ntmps61
 go_wp2_with fail
 refine HI.out.mono ?_
 rintro e w1 ⟨⟨z, rfl, hz⟩, b1⟩
 have HB1 := hI b1
 clear b1 HI
 rcases hz with ⟨k, p, rfl, h1, h2, _⟩ | ⟨rfl, h⟩
 ·have t1 : decide ((0 : Int) ≤ (k : Int)) = true := decide_eq_true (by omega)
  have t2 : decide ((k : Int) ≥ 0) = true := t1
  have HA : Hid (ps.any P = true) := List.any_eq_true.2 ⟨p, List.mem_of_getElem? h1, h2⟩
  clear h1 h2
  go_wp2_with fail
  go_ret
  exact ⟨by rw [HA.out]; rfl, HB1.out⟩
 ·have HA : Hid (ps.any P = false) := List.any_eq_false.2 fun q hq => by rw [h q hq]; exact Bool.false_ne_true
  clear h
  go_wp2_with fail
  go_ret
  exact ⟨by rw [HA.out]; rfl, HB1.out⟩
theorem pickClo_any (x : Lot) (Bx : Nat) (p : Pk) (w : World) (h : LotBox w Bx x) :
 Calls Tryz.prog 72 #[p.enc, .pointer (some ⟨Bx, 0, none⟩)] w fun e w' => e = .returned (.bool (decide (p.lot = x.id))) ∧ Below w.heap.size w w' := by
 obtain ⟨W0, hW0⟩ : ∃ W0, w.alloc (.cells p.cells 43) = W0 := ⟨_, rfl⟩
 have hb : Below w.heap.size w W0 := by rw [← hW0]; exact (Below.refl _ w).alloc (Nat.le_refl _) _
 have k1 : PkBox W0 w.heap.size p := by rw [← hW0]; exact heap_alloc_new w _
 have k0 : LotBox W0 Bx x := h.below hb
 have c0 := Lib.cell_of_heap k0 0
 have d0 := Lib.cell_of_heap k1 0
 simp [Lot.cells, Pk.cells] at c0 d0
 have hse := str_eq p.lot x.id
 have HB := hI hb
 clear k0 k1 h hb
 unfold Pk.cells at hW0
 unfold Pk.enc Pk.cells
 go_enter Tryz.func72, Tryz.ntmps72
 go_wp2_with fail
 go_ret
 exact ⟨rfl, HB.out⟩
theorem pickClo_is (x : Lot) (Bx : Nat) (w : World) (ps : List Pk) (h : LotBox w Bx x) : PkClo (fun p => decide (p.lot = x.id)) 72 #[.pointer (some ⟨Bx, 0, none⟩)] w ps :=
 ⟨enters_of Tryz.func72 (by kernel_rfl) rfl, fun W hW p _ => pickClo_any x Bx p W (h.below hW)⟩
theorem nanDay_any (x : Int) (w : World) : Calls Tryz.prog 200 #[.int .i64 x] w fun e w' => e = .returned (.bool false) ∧ w' = w := by
 have t : (x != x) = false := by simp
 go_enter Tryz.func200, Tryz.ntmps200
 go_wp2_with fail
 go_ret
 exact ⟨rfl, rfl⟩
theorem cmpDay_any (x y : Int) (w : World) : Calls Tryz.prog 161 #[.int .i64 x, .int .i64 y] w fun e w' => e = .returned (.int .i64 (cmpI x y)) ∧ w' = w := by
 have HN := hI (fun z W => nanDay_any z W)
 have HI : Hid (cmpI x y = if x < y then -1 else if x = y then 0 else 1) := rfl
 generalize cmpI x y = z at HI
 go_enter Tryz.func161, Tryz.ntmps161
 go_wp2_with fail
 refine (HN.out _ _).mono ?_
 rintro e w1 ⟨rfl, rfl⟩
 go_wp2_with fail
 refine (HN.out _ _).mono ?_
 rintro e w1 ⟨rfl, rfl⟩
 rcases Int.lt_trichotomy x y with h | h | h
 ·have t1 : decide (x < y) = true := decide_eq_true h
  have HZ : Hid (z = -1) := by rw [Hid, HI.out, if_pos h]
  clear h
  go_wp2_with fail
  go_ret
  exact ⟨by rw [HZ.out]; rfl, rfl⟩
 ·have t1 : decide (x < y) = false := decide_eq_false (by omega)
  have t2 : decide (x > y) = false := decide_eq_false (by omega)
  have t3 : decide (y < x) = false := t2
  have HZ : Hid (z = 0) := by rw [Hid, HI.out, if_neg (by omega), if_pos h]
  clear h
  go_wp2_with fail
  go_ret
  exact ⟨by rw [HZ.out]; rfl, rfl⟩
 ·have t1 : decide (x < y) = false := decide_eq_false (by omega)
  have t2 : decide (x > y) = true := decide_eq_true (by omega)
  have t3 : decide (y < x) = true := t2
  have HZ : Hid (z = 1) := by rw [Hid, HI.out, if_neg (by omega), if_neg (by omega)]
  clear h
  go_wp2_with fail
  go_ret
  exact ⟨by rw [HZ.out]; rfl, rfl⟩
theorem lbox2 (a b : Lot) (w : World) : ∃ W0 W1, w.alloc (.cells a.cells 49) = W0 ∧ W0.alloc (.cells b.cells 49) = W1 ∧ Below w.heap.size w W1 ∧ W0.heap.size = w.heap.size + 1 ∧ LotBox W1 w.heap.size a ∧ LotBox W1 (w.heap.size + 1) b := by
 obtain ⟨W0, hW0, hB0, hk0⟩ := lbox a w
 obtain ⟨W1, hW1, hB1, hk1⟩ := lbox b W0
 have hsz : W0.heap.size = w.heap.size + 1 := by rw [← hW0]; simp
 rw [hsz] at hk1
 exact ⟨W0, W1, hW0, hW1, hB0.trans (hB1.mono hB0.size), hsz, LotBox.below (l := a) (B := w.heap.size) hk0 hB1, hk1⟩
theorem first_any (a b : Lot) (w : World) : Calls Tryz.prog 160 #[a.enc, b.enc] w fun e w' => e = .returned (.int .i64 (cmpI a.acq b.acq)) ∧ Below w.heap.size w w' := by
 obtain ⟨W0, W1, hW0, hW1, hb, hsz, k0, k1⟩ := lbox2 a b w
 have c0 := Lib.cell_of_heap k0 2
 have c1 := Lib.cell_of_heap k1 2
 simp [Lot.cells] at c0 c1
 have HB := hI hb
 have HC := hI (fun W => cmpDay_any a.acq b.acq W)
 clear k0 k1 hb
 unfold Lot.enc Lot.cells at *
 go_enter Tryz.func160, Tryz.ntmps160
 go_wp2_with fail
 refine (HC.out _).mono ?_
 rintro e w1 ⟨rfl, rfl⟩
 go_wp2_with fail
 go_ret
 exact ⟨rfl, HB.out⟩
structure UNV (wS : World) (x y : Lot) (B0 B1 : Nat) (z : Int)  (L : Array Bool) (W : World) (s4 s5 s6 s7 s8 s9 s10 s11 s12 s13 s14 s15 : Value) : Prop where
 k0 : L.getD 0 false = true → s5 = .pointer (some ⟨B0, 5, none⟩)
 k1 : L.getD 1 false = true → s6 = .string x.cost
 k2 : L.getD 2 false = true → s7 = .pointer (some ⟨B1, 4, none⟩)
 k3 : L.getD 3 false = true → s8 = .string y.qty
 k4 : L.getD 4 false = true → s9 = .string (I (vl x.cost * vl y.qty))
 k5 : L.getD 5 false = true → s10 = .pointer (some ⟨B1, 5, none⟩)
 k6 : L.getD 6 false = true → s11 = .string y.cost
 k7 : L.getD 7 false = true → s12 = .pointer (some ⟨B0, 4, none⟩)
 k8 : L.getD 8 false = true → s13 = .string x.qty
 k9 : L.getD 9 false = true → s14 = .string (I (vl y.cost * vl x.qty))
 k10 : L.getD 10 false = true → s15 = .int .i64 z
 k11 : L.getD 11 false = true → s4 = .int .i64 z
 g : Below wS.heap.size wS W
structure UNJ (wS : World) (x y : Lot) (B0 B1 : Nat) (z : Int) (x0 x1 : Value) (L : Array Bool) (a : Act) (W : World) : Prop where
 sz : L.size = 12
 fr : ∃ s4 s5 s6 s7 s8 s9 s10 s11 s12 s13 s14 s15 : Value, a = { tmps := #[x0, x1, .pointer (some ⟨B0, 0, none⟩), .pointer (some ⟨B1, 0, none⟩), s4, s5, s6, s7, s8, s9, s10, s11, s12, s13, s14, s15], defers := [] } ∧ UNV wS x y B0 B1 z  L W s4 s5 s6 s7 s8 s9 s10 s11 s12 s13 s14 s15
theorem unit_any (a b : Lot) (ha : a.sized) (hb : b.sized) (w : World) (ht : Tabs w) : Calls Tryz.prog 164 #[a.enc, b.enc] w fun e w' => e = .returned (.int .i64 (cmpI (vl a.cost * vl b.qty) (vl b.cost * vl a.qty))) ∧ Below w.heap.size w w' := by
 obtain ⟨W0, W1, hW0, hW1, hB, hsz, k0, k1⟩ := lbox2 a b w
 obtain ⟨_, _, a3, a4, _⟩ := id ha
 obtain ⟨_, _, b3, b4, _⟩ := id hb
 have HK0 := hI k0
 have HK1 := hI k1
 have HB := hI hB
 have HT := hI (ht.below hB)
 have HM1 := hI (fun W (h : Below W1.heap.size W1 W) => Mul_any a.cost b.qty W (by omega) (by omega) (HT.out.below h))
 have HM2 := hI (fun W (h : Below W1.heap.size W1 W) => Mul_any b.cost a.qty W (by omega) (by omega) (HT.out.below h))
 obtain ⟨z, hz⟩ : ∃ z, cmpI (vl a.cost * vl b.qty) (vl b.cost * vl a.qty) = z := ⟨_, rfl⟩
 have s1 : (I (vl a.cost * vl b.qty)).size ≤ 4000000 := Nat.le_trans (I_size_le (mul_lt_pow (vl_lt a.cost) (vl_lt b.qty))) (by omega)
 have s2 : (I (vl b.cost * vl a.qty)).size ≤ 4000000 := Nat.le_trans (I_size_le (mul_lt_pow (vl_lt b.cost) (vl_lt a.qty))) (by omega)
 have hcm := fun W => Compare_any (I (vl a.cost * vl b.qty)) (I (vl b.cost * vl a.qty)) W s1 s2
 rw [vl_I, vl_I, hz] at hcm
 have HCM := hI hcm
 have HZ := hI hz
 have hgS : Below W1.heap.size W1 W1.drew := (Below.refl _ _).drew
 rw [hz]
 clear k0 k1 hB ht a3 a4 b3 b4 s1 s2 hcm hz
 unfold Lot.enc Lot.cells at *
 go_enter Tryz.func164, Tryz.ntmps164
 go_upto_region 1 with fail
 have mixed : Tryz.prog.follows .mixedOrders = true := by kernel_rfl
 refine wp_region_any mixed (wpAny_inv (UNJ W1 a b w.heap.size (w.heap.size + 1) z _ _) ?stUN ?dnUN _ _ _ _ ⟨by simp, ⟨_, _, _, _, _, _, _, _, _, _, _, _, rfl, fun h => by simp at h, fun h => by simp at h, fun h => by simp at h, fun h => by simp at h, fun h => by simp at h, fun h => by simp at h, fun h => by simp at h, fun h => by simp at h, fun h => by simp at h, fun h => by simp at h, fun h => by simp at h, fun h => by simp at h, hgS⟩⟩ (by decide))
 case dnUN =>
  intro L a w' hj hr
  have all := all_on hr hj.sz (by kernel_rfl)
  obtain ⟨s4, s5, s6, s7, s8, s9, s10, s11, s12, s13, s14, s15, rfl, hv⟩ := hj.fr
  have e11 := hv.k11 (all 11 (by omega))
  subst e11
  have HF := hI (HB.out.trans (hv.g.mono HB.out.size))
  clear all hv hj hr
  go_wp2_with fail
  go_ret
  exact ⟨rfl, HF.out⟩
 case stUN =>
  intro L a w' hj i hi
  obtain ⟨hun, o, ho, hall⟩ := mem_ready.1 hi
  have hoff := getD_off hun
  have hlt := (Array.getElem?_eq_some_iff.1 ho).1
  simp at hlt
  obtain ⟨s4, s5, s6, s7, s8, s9, s10, s11, s12, s13, s14, s15, rfl, hv⟩ := hj.fr
  have HV := hI hv
  have HJ := hI hj
  clear hv hj
  rcases (show i = 0 ∨ i = 1 ∨ i = 2 ∨ i = 3 ∨ i = 4 ∨ i = 5 ∨ i = 6 ∨ i = 7 ∨ i = 8 ∨ i = 9 ∨ i = 10 ∨ i = 11 from by omega) with rfl | rfl | rfl | rfl | rfl | rfl | rfl | rfl | rfl | rfl | rfl | rfl
  ·simp at ho
   subst ho
   clear hall hi
   refine wpOp_hid rfl fun K' HK => ?_
   go_simp
   cases HV.out
   refine HK.out _ _ ⟨by simp [HJ.out.sz], ⟨_, _, _, _, _, _, _, _, _, _, _, _, rfl, fun _ => rfl, ?_, ?_, ?_, ?_, ?_, ?_, ?_, ?_, ?_, ?_, ?_, HV.out.g⟩⟩
   all_goals exact Um (by assumption)
  ·simp at ho
   subst ho
   have H0 := Hq hall 0
   clear hall hi
   have e0 := HV.out.k0 H0.out
   subst e0
   have hk := HK0.out.below HV.out.g
   have c0 := Lib.cell_of_heap hk 0
   have c1 := Lib.cell_of_heap hk 1
   have c2 := Lib.cell_of_heap hk 2
   have c3 := Lib.cell_of_heap hk 3
   have c4 := Lib.cell_of_heap hk 4
   have c5 := Lib.cell_of_heap hk 5
   have c6 := Lib.cell_of_heap hk 6
   simp [Lot.cells] at c0 c1 c2 c3 c4 c5 c6
   refine wpOp_hid rfl fun K' HK => ?_
   go_simp
   cases HV.out
   refine HK.out _ _ ⟨by simp [HJ.out.sz], ⟨_, _, _, _, _, _, _, _, _, _, _, _, rfl, ?_, fun _ => rfl, ?_, ?_, ?_, ?_, ?_, ?_, ?_, ?_, ?_, ?_, HV.out.g⟩⟩
   all_goals exact Um (by assumption)
  ·simp at ho
   subst ho
   clear hall hi
   refine wpOp_hid rfl fun K' HK => ?_
   go_simp
   cases HV.out
   refine HK.out _ _ ⟨by simp [HJ.out.sz], ⟨_, _, _, _, _, _, _, _, _, _, _, _, rfl, ?_, ?_, fun _ => rfl, ?_, ?_, ?_, ?_, ?_, ?_, ?_, ?_, ?_, HV.out.g⟩⟩
   all_goals exact Um (by assumption)
  ·simp at ho
   subst ho
   have H2 := Hq hall 2
   clear hall hi
   have e0 := HV.out.k2 H2.out
   subst e0
   have hk := HK1.out.below HV.out.g
   have c0 := Lib.cell_of_heap hk 0
   have c1 := Lib.cell_of_heap hk 1
   have c2 := Lib.cell_of_heap hk 2
   have c3 := Lib.cell_of_heap hk 3
   have c4 := Lib.cell_of_heap hk 4
   have c5 := Lib.cell_of_heap hk 5
   have c6 := Lib.cell_of_heap hk 6
   simp [Lot.cells] at c0 c1 c2 c3 c4 c5 c6
   refine wpOp_hid rfl fun K' HK => ?_
   go_simp
   cases HV.out
   refine HK.out _ _ ⟨by simp [HJ.out.sz], ⟨_, _, _, _, _, _, _, _, _, _, _, _, rfl, ?_, ?_, ?_, fun _ => rfl, ?_, ?_, ?_, ?_, ?_, ?_, ?_, ?_, HV.out.g⟩⟩
   all_goals exact Um (by assumption)
  ·simp at ho
   subst ho
   have H1 := Hq hall 1
   have H3 := Hq hall 3
   clear hall hi
   have e0 := HV.out.k1 H1.out
   subst e0
   have e1 := HV.out.k3 H3.out
   subst e1
   refine wpOp_hid rfl fun K' HK => ?_
   go_simp
   refine (HM1.out w' HV.out.g).mono ?_
   rintro e wn ⟨rfl, bn⟩
   cases HV.out
   refine HK.out _ _ ⟨by simp [HJ.out.sz], ⟨_, _, _, _, _, _, _, _, _, _, _, _, rfl, ?_, ?_, ?_, ?_, fun _ => rfl, ?_, ?_, ?_, ?_, ?_, ?_, ?_, HV.out.g.trans (bn.mono HV.out.g.size)⟩⟩
   all_goals exact Um (by assumption)
  ·simp at ho
   subst ho
   clear hall hi
   refine wpOp_hid rfl fun K' HK => ?_
   go_simp
   cases HV.out
   refine HK.out _ _ ⟨by simp [HJ.out.sz], ⟨_, _, _, _, _, _, _, _, _, _, _, _, rfl, ?_, ?_, ?_, ?_, ?_, fun _ => rfl, ?_, ?_, ?_, ?_, ?_, ?_, HV.out.g⟩⟩
   all_goals exact Um (by assumption)
  ·simp at ho
   subst ho
   have H5 := Hq hall 5
   clear hall hi
   have e0 := HV.out.k5 H5.out
   subst e0
   have hk := HK1.out.below HV.out.g
   have c0 := Lib.cell_of_heap hk 0
   have c1 := Lib.cell_of_heap hk 1
   have c2 := Lib.cell_of_heap hk 2
   have c3 := Lib.cell_of_heap hk 3
   have c4 := Lib.cell_of_heap hk 4
   have c5 := Lib.cell_of_heap hk 5
   have c6 := Lib.cell_of_heap hk 6
   simp [Lot.cells] at c0 c1 c2 c3 c4 c5 c6
   refine wpOp_hid rfl fun K' HK => ?_
   go_simp
   cases HV.out
   refine HK.out _ _ ⟨by simp [HJ.out.sz], ⟨_, _, _, _, _, _, _, _, _, _, _, _, rfl, ?_, ?_, ?_, ?_, ?_, ?_, fun _ => rfl, ?_, ?_, ?_, ?_, ?_, HV.out.g⟩⟩
   all_goals exact Um (by assumption)
  ·simp at ho
   subst ho
   clear hall hi
   refine wpOp_hid rfl fun K' HK => ?_
   go_simp
   cases HV.out
   refine HK.out _ _ ⟨by simp [HJ.out.sz], ⟨_, _, _, _, _, _, _, _, _, _, _, _, rfl, ?_, ?_, ?_, ?_, ?_, ?_, ?_, fun _ => rfl, ?_, ?_, ?_, ?_, HV.out.g⟩⟩
   all_goals exact Um (by assumption)
  ·simp at ho
   subst ho
   have H7 := Hq hall 7
   clear hall hi
   have e0 := HV.out.k7 H7.out
   subst e0
   have hk := HK0.out.below HV.out.g
   have c0 := Lib.cell_of_heap hk 0
   have c1 := Lib.cell_of_heap hk 1
   have c2 := Lib.cell_of_heap hk 2
   have c3 := Lib.cell_of_heap hk 3
   have c4 := Lib.cell_of_heap hk 4
   have c5 := Lib.cell_of_heap hk 5
   have c6 := Lib.cell_of_heap hk 6
   simp [Lot.cells] at c0 c1 c2 c3 c4 c5 c6
   refine wpOp_hid rfl fun K' HK => ?_
   go_simp
   cases HV.out
   refine HK.out _ _ ⟨by simp [HJ.out.sz], ⟨_, _, _, _, _, _, _, _, _, _, _, _, rfl, ?_, ?_, ?_, ?_, ?_, ?_, ?_, ?_, fun _ => rfl, ?_, ?_, ?_, HV.out.g⟩⟩
   all_goals exact Um (by assumption)
  ·simp at ho
   subst ho
   have H6 := Hq hall 6
   have H8 := Hq hall 8
   clear hall hi
   have e0 := HV.out.k6 H6.out
   subst e0
   have e1 := HV.out.k8 H8.out
   subst e1
   refine wpOp_hid rfl fun K' HK => ?_
   go_simp
   refine (HM2.out w' HV.out.g).mono ?_
   rintro e wn ⟨rfl, bn⟩
   cases HV.out
   refine HK.out _ _ ⟨by simp [HJ.out.sz], ⟨_, _, _, _, _, _, _, _, _, _, _, _, rfl, ?_, ?_, ?_, ?_, ?_, ?_, ?_, ?_, ?_, fun _ => rfl, ?_, ?_, HV.out.g.trans (bn.mono HV.out.g.size)⟩⟩
   all_goals exact Um (by assumption)
  ·simp at ho
   subst ho
   have H4 := Hq hall 4
   have H9 := Hq hall 9
   clear hall hi
   have e0 := HV.out.k4 H4.out
   subst e0
   have e1 := HV.out.k9 H9.out
   subst e1
   refine wpOp_hid rfl fun K' HK => ?_
   go_simp
   refine (HCM.out w').mono ?_
   rintro e wn ⟨rfl, bn⟩
   cases HV.out
   refine HK.out _ _ ⟨by simp [HJ.out.sz], ⟨_, _, _, _, _, _, _, _, _, _, _, _, rfl, ?_, ?_, ?_, ?_, ?_, ?_, ?_, ?_, ?_, ?_, fun _ => rfl, ?_, HV.out.g.trans (bn.mono HV.out.g.size)⟩⟩
   all_goals exact Um (by assumption)
  ·simp at ho
   subst ho
   have H10 := Hq hall 10
   clear hall hi
   have e0 := HV.out.k10 H10.out
   subst e0
   refine wpOp_hid rfl fun K' HK => ?_
   go_simp
   cases HV.out
   refine HK.out _ _ ⟨by simp [HJ.out.sz], ⟨_, _, _, _, _, _, _, _, _, _, _, _, rfl, ?_, ?_, ?_, ?_, ?_, ?_, ?_, ?_, ?_, ?_, ?_, fun _ => rfl, HV.out.g⟩⟩
   all_goals exact Um (by assumption)
theorem cmpOr_any (x y : Int) (B c : Nat) (w : World) (hB : w.heap[B]? = some (.cells #[.int .i64 x, .int .i64 y] 3 (0, 0))) :
 Calls Tryz.prog 163 #[.slice (some ⟨B, 0, none⟩) 2 c] w fun e w' => e = .returned (.int .i64 (if x = 0 then y else x)) ∧ w' = w := by
 have c0 := Lib.cell_of_heap hB 0
 have c1 := Lib.cell_of_heap hB 1
 simp at c0 c1
 clear hB
 by_cases hx : x = 0
 ·subst hx
  by_cases hy : y = 0
  ·subst hy
   go_enter Tryz.func163, Tryz.ntmps163
   go_wp2_with fail
   refine wp_loop_rounds 3 ?_
   rw [rounds_succ]
   go_wp2_with fail
   rw [rounds_succ]
   go_wp2_with fail
   rw [rounds_succ]
   go_wp2_with fail
   go_ret
   exact ⟨rfl, rfl⟩
  ·have t2 : (y == 0) = false := beq_eq_false_iff_ne.2 hy
   have t3 : (y != 0) = true := by rw [bne, t2]; rfl
   go_enter Tryz.func163, Tryz.ntmps163
   go_wp2_with fail
   refine wp_loop_rounds 3 ?_
   rw [rounds_succ]
   go_wp2_with fail
   rw [rounds_succ]
   go_wp2_with fail
   go_ret
   exact ⟨rfl, rfl⟩
 ·have t2 : (x == 0) = false := beq_eq_false_iff_ne.2 hx
  have t3 : (x != 0) = true := by rw [bne, t2]; rfl
  have HX := hI hx
  clear hx
  go_enter Tryz.func163, Tryz.ntmps163
  go_wp2_with fail
  refine wp_loop_rounds 3 ?_
  rw [rounds_succ]
  go_wp2_with fail
  go_ret
  exact ⟨by first | rfl | (rw [if_neg HX.out]; rfl), rfl⟩
structure ULV (wS : World) (x y : Lot) (u v z : Int) (bf B0 B1 : Nat) (Bn : Nat) (L : Array Bool) (W : World) (s5 s6 s7 s8 s9 s10 s11 s12 s13 s14 : Value) : Prop where
 k0 : L.getD 0 false = true → s6 = .agg #[.string x.id, .string x.inst, .int .i64 x.acq, .int .i64 x.opn, .string x.qty, .string x.cost, .string x.used]
 k1 : L.getD 1 false = true → s7 = .agg #[.string y.id, .string y.inst, .int .i64 y.acq, .int .i64 y.opn, .string y.qty, .string y.cost, .string y.used]
 k2 : L.getD 2 false = true → s8 = .int .i64 u
 k3 : L.getD 3 false = true → s9 = .func (.func 160) #[] #[]
 k4 : L.getD 4 false = true → s10 = .agg #[.string x.id, .string x.inst, .int .i64 x.acq, .int .i64 x.opn, .string x.qty, .string x.cost, .string x.used]
 k5 : L.getD 5 false = true → s11 = .agg #[.string y.id, .string y.inst, .int .i64 y.acq, .int .i64 y.opn, .string y.qty, .string y.cost, .string y.used]
 k6 : L.getD 6 false = true → s12 = .int .i64 v
 k7 : L.getD 7 false = true → s13 = .slice (some ⟨Bn, 0, none⟩) 2 2
 k8 : L.getD 8 false = true → s14 = .int .i64 z
 k9 : L.getD 9 false = true → s5 = .int .i64 z
 g : Below wS.heap.size wS W
 bx : L.getD 7 false = true → W.heap[Bn]? = some (.cells #[.int .i64 u, .int .i64 v] 3 (0, 0))
structure ULJ (wS : World) (x y : Lot) (u v z : Int) (bf B0 B1 : Nat) (x0 x1 : Value) (L : Array Bool) (a : Act) (W : World) : Prop where
 sz : L.size = 10
 fr : ∃ Bn : Nat, ∃ s5 s6 s7 s8 s9 s10 s11 s12 s13 s14 : Value, a = { tmps := #[x0, x1, .pointer (some ⟨bf, 0, none⟩), .pointer (some ⟨B0, 0, none⟩), .pointer (some ⟨B1, 0, none⟩), s5, s6, s7, s8, s9, s10, s11, s12, s13, s14], defers := [] } ∧ ULV wS x y u v z bf B0 B1 Bn L W s5 s6 s7 s8 s9 s10 s11 s12 s13 s14
def lowC (a b : Lot) : Int := if cmpI (vl a.cost * vl b.qty) (vl b.cost * vl a.qty) = 0 then cmpI a.acq b.acq else cmpI (vl a.cost * vl b.qty) (vl b.cost * vl a.qty)
theorem lowC_any (a b : Lot) (ha : a.sized) (hb : b.sized) (bf : Nat) (w : World) (hbf : w.heap[bf]? = some (.cells #[.func (.func 160) #[] #[]] 75 (0, 0))) (ht : Tabs w) : Calls Tryz.prog 162 #[a.enc, b.enc, .pointer (some ⟨bf, 0, none⟩)] w fun e w' => e = .returned (.int .i64 (lowC a b)) ∧ Below w.heap.size w w' := by
 obtain ⟨W0, W1, hW0, hW1, hB, hsz, k0, k1⟩ := lbox2 a b w
 have HK0 := hI k0
 have HK1 := hI k1
 have HB := hI hB
 have hbl : bf < w.heap.size := (Array.getElem?_eq_some_iff.1 hbf).1
 have HBF : Hid (bf < W1.heap.size ∧ W1.heap[bf]? = some (.cells #[.func (.func 160) #[] #[]] 75 (0, 0))) := ⟨Nat.lt_of_lt_of_le hbl hB.size, (hB.block bf hbl).trans hbf⟩
 have HT := hI (ht.below hB)
 obtain ⟨u, hu⟩ : ∃ u, cmpI (vl a.cost * vl b.qty) (vl b.cost * vl a.qty) = u := ⟨_, rfl⟩
 obtain ⟨v, hv⟩ : ∃ v, cmpI a.acq b.acq = v := ⟨_, rfl⟩
 obtain ⟨z, hz⟩ : ∃ z, (if u = 0 then v else u) = z := ⟨_, rfl⟩
 have hU := fun W (h : Below W1.heap.size W1 W) => unit_any a b ha hb W (HT.out.below h)
 rw [hu] at hU
 have hF := fun W => first_any a b W
 rw [hv] at hF
 have hO := fun B c W h => cmpOr_any u v B c W h
 rw [hz] at hO
 have HZ : Hid (lowC a b = z) := by unfold lowC; rw [Hid, hu, hv, hz]
 have hgS : Below W1.heap.size W1 W1.drew := (Below.refl _ _).drew
 clear k0 k1 hB ht hu hv hz hbf hbl ha hb
 unfold Lot.enc Lot.cells at *
 have HU := hI hU
 have HFI := hI hF
 have HOR := hI hO
 clear hU hF hO
 go_enter Tryz.func162, Tryz.ntmps162
 go_upto_region 1 with fail
 have mixed : Tryz.prog.follows .mixedOrders = true := by kernel_rfl
 refine wp_region_any mixed (wpAny_inv (ULJ W1 a b u v z bf w.heap.size (w.heap.size + 1) _ _) ?stUL ?dnUL _ _ _ _ ⟨by simp, ⟨0, _, _, _, _, _, _, _, _, _, _, rfl, fun h => by simp at h, fun h => by simp at h, fun h => by simp at h, fun h => by simp at h, fun h => by simp at h, fun h => by simp at h, fun h => by simp at h, fun h => by simp at h, fun h => by simp at h, fun h => by simp at h, hgS, fun h => by simp at h⟩⟩ (by decide))
 case dnUL =>
  intro L a w' hj hr
  have all := all_on hr hj.sz (by kernel_rfl)
  obtain ⟨Bn, s5, s6, s7, s8, s9, s10, s11, s12, s13, s14, rfl, hv⟩ := hj.fr
  have e9 := hv.k9 (all 9 (by omega))
  subst e9
  have HF := hI (HB.out.trans (hv.g.mono HB.out.size))
  clear all hv hj hr
  go_wp2_with fail
  go_ret
  exact ⟨by rw [HZ.out]; rfl, HF.out⟩
 case stUL =>
  intro L a w' hj i hi
  obtain ⟨hun, o, ho, hall⟩ := mem_ready.1 hi
  have hoff := getD_off hun
  have hlt := (Array.getElem?_eq_some_iff.1 ho).1
  simp at hlt
  obtain ⟨Bn, s5, s6, s7, s8, s9, s10, s11, s12, s13, s14, rfl, hv⟩ := hj.fr
  have HV := hI hv
  have HJ := hI hj
  clear hv hj
  rcases (show i = 0 ∨ i = 1 ∨ i = 2 ∨ i = 3 ∨ i = 4 ∨ i = 5 ∨ i = 6 ∨ i = 7 ∨ i = 8 ∨ i = 9 from by omega) with rfl | rfl | rfl | rfl | rfl | rfl | rfl | rfl | rfl | rfl
  ·simp at ho
   subst ho
   clear hall hi
   have hk := HK0.out.below HV.out.g
   have c0 := Lib.cell_of_heap hk 0
   have c1 := Lib.cell_of_heap hk 1
   have c2 := Lib.cell_of_heap hk 2
   have c3 := Lib.cell_of_heap hk 3
   have c4 := Lib.cell_of_heap hk 4
   have c5 := Lib.cell_of_heap hk 5
   have c6 := Lib.cell_of_heap hk 6
   simp [Lot.cells] at c0 c1 c2 c3 c4 c5 c6
   refine wpOp_hid rfl fun K' HK => ?_
   go_simp
   cases HV.out
   refine HK.out _ _ ⟨by simp [HJ.out.sz], ?_⟩
   iterate 11 apply Exists.intro
   refine ⟨rfl, ?_⟩
   constructor
   case k0 => exact fun _ => rfl
   case g => exact HV.out.g
   all_goals exact Um (by assumption)
  ·simp at ho
   subst ho
   clear hall hi
   have hk := HK1.out.below HV.out.g
   have c0 := Lib.cell_of_heap hk 0
   have c1 := Lib.cell_of_heap hk 1
   have c2 := Lib.cell_of_heap hk 2
   have c3 := Lib.cell_of_heap hk 3
   have c4 := Lib.cell_of_heap hk 4
   have c5 := Lib.cell_of_heap hk 5
   have c6 := Lib.cell_of_heap hk 6
   simp [Lot.cells] at c0 c1 c2 c3 c4 c5 c6
   refine wpOp_hid rfl fun K' HK => ?_
   go_simp
   cases HV.out
   refine HK.out _ _ ⟨by simp [HJ.out.sz], ?_⟩
   iterate 11 apply Exists.intro
   refine ⟨rfl, ?_⟩
   constructor
   case k1 => exact fun _ => rfl
   case g => exact HV.out.g
   all_goals exact Um (by assumption)
  ·simp at ho
   subst ho
   have H0 := Hq hall 0
   have H1 := Hq hall 1
   clear hall hi
   have e0 := HV.out.k0 H0.out
   subst e0
   have e1 := HV.out.k1 H1.out
   subst e1
   refine wpOp_hid rfl fun K' HK => ?_
   go_simp
   refine (HU.out w' HV.out.g).mono ?_
   rintro e wn ⟨rfl, bn⟩
   exact HK.out _ _ ⟨by simp [HJ.out.sz], ⟨_, _, _, _, _, _, _, _, _, _, _, rfl, Um HV.out.k0, Um HV.out.k1, fun _ => rfl, Um HV.out.k3, Um HV.out.k4, Um HV.out.k5, Um HV.out.k6, Um HV.out.k7, Um HV.out.k8, Um HV.out.k9, HV.out.g.trans (bn.mono HV.out.g.size), fun h => (bn.block Bn (Array.getElem?_eq_some_iff.1 (HV.out.bx (Uz h))).1).trans (HV.out.bx (Uz h))⟩⟩
  ·simp at ho
   subst ho
   clear hall hi
   have c0 := Lib.cell_of_heap ((HV.out.g.block _ HBF.out.1).trans HBF.out.2) 0
   simp at c0
   refine wpOp_hid rfl fun K' HK => ?_
   go_simp
   cases HV.out
   refine HK.out _ _ ⟨by simp [HJ.out.sz], ?_⟩
   iterate 11 apply Exists.intro
   refine ⟨rfl, ?_⟩
   constructor
   case k3 => exact fun _ => rfl
   case g => exact HV.out.g
   all_goals exact Um (by assumption)
  ·simp at ho
   subst ho
   clear hall hi
   have hk := HK0.out.below HV.out.g
   have c0 := Lib.cell_of_heap hk 0
   have c1 := Lib.cell_of_heap hk 1
   have c2 := Lib.cell_of_heap hk 2
   have c3 := Lib.cell_of_heap hk 3
   have c4 := Lib.cell_of_heap hk 4
   have c5 := Lib.cell_of_heap hk 5
   have c6 := Lib.cell_of_heap hk 6
   simp [Lot.cells] at c0 c1 c2 c3 c4 c5 c6
   refine wpOp_hid rfl fun K' HK => ?_
   go_simp
   cases HV.out
   refine HK.out _ _ ⟨by simp [HJ.out.sz], ?_⟩
   iterate 11 apply Exists.intro
   refine ⟨rfl, ?_⟩
   constructor
   case k4 => exact fun _ => rfl
   case g => exact HV.out.g
   all_goals exact Um (by assumption)
  ·simp at ho
   subst ho
   clear hall hi
   have hk := HK1.out.below HV.out.g
   have c0 := Lib.cell_of_heap hk 0
   have c1 := Lib.cell_of_heap hk 1
   have c2 := Lib.cell_of_heap hk 2
   have c3 := Lib.cell_of_heap hk 3
   have c4 := Lib.cell_of_heap hk 4
   have c5 := Lib.cell_of_heap hk 5
   have c6 := Lib.cell_of_heap hk 6
   simp [Lot.cells] at c0 c1 c2 c3 c4 c5 c6
   refine wpOp_hid rfl fun K' HK => ?_
   go_simp
   cases HV.out
   refine HK.out _ _ ⟨by simp [HJ.out.sz], ?_⟩
   iterate 11 apply Exists.intro
   refine ⟨rfl, ?_⟩
   constructor
   case k5 => exact fun _ => rfl
   case g => exact HV.out.g
   all_goals exact Um (by assumption)
  ·simp at ho
   subst ho
   have H3 := Hq hall 3
   have H4 := Hq hall 4
   have H5 := Hq hall 5
   clear hall hi
   have e0 := HV.out.k3 H3.out
   subst e0
   have e1 := HV.out.k4 H4.out
   subst e1
   have e2 := HV.out.k5 H5.out
   subst e2
   refine wpOp_hid rfl fun K' HK => ?_
   go_simp
   refine (HFI.out w').mono ?_
   rintro e wn ⟨rfl, bn⟩
   exact HK.out _ _ ⟨by simp [HJ.out.sz], ⟨_, _, _, _, _, _, _, _, _, _, _, rfl, Um HV.out.k0, Um HV.out.k1, Um HV.out.k2, Um HV.out.k3, Um HV.out.k4, Um HV.out.k5, fun _ => rfl, Um HV.out.k7, Um HV.out.k8, Um HV.out.k9, HV.out.g.trans (bn.mono HV.out.g.size), fun h => (bn.block Bn (Array.getElem?_eq_some_iff.1 (HV.out.bx (Uz h))).1).trans (HV.out.bx (Uz h))⟩⟩
  ·simp at ho
   subst ho
   have H2 := Hq hall 2
   have H6 := Hq hall 6
   clear hall hi
   have e0 := HV.out.k2 H2.out
   subst e0
   have e1 := HV.out.k6 H6.out
   subst e1
   have ba : Below w'.heap.size w' (w'.alloc (.cells #[.int .i64 u, .int .i64 v] 3)) := (Below.refl _ _).alloc (Nat.le_refl _) _
   refine wpOp_hid rfl fun K' HK => ?_
   go_simp
   exact HK.out _ _ ⟨by simp [HJ.out.sz], ⟨w'.heap.size, _, _, _, _, _, _, _, _, _, _, rfl, Um HV.out.k0, Um HV.out.k1, Um HV.out.k2, Um HV.out.k3, Um HV.out.k4, Um HV.out.k5, Um HV.out.k6, fun _ => rfl, Um HV.out.k8, Um HV.out.k9, HV.out.g.trans (ba.mono HV.out.g.size), fun _ => heap_alloc_new _ _⟩⟩
  ·simp at ho
   subst ho
   have H7 := Hq hall 7
   clear hall hi
   have e0 := HV.out.k7 H7.out
   subst e0
   refine wpOp_hid rfl fun K' HK => ?_
   go_simp
   refine (HOR.out _ _ w' (HV.out.bx H7.out)).mono ?_
   rintro e wn ⟨rfl, rfl⟩
   cases HV.out
   refine HK.out _ _ ⟨by simp [HJ.out.sz], ?_⟩
   iterate 11 apply Exists.intro
   refine ⟨rfl, ?_⟩
   constructor
   case k8 => exact fun _ => rfl
   case g => exact HV.out.g
   all_goals exact Um (by assumption)
  ·simp at ho
   subst ho
   have H8 := Hq hall 8
   clear hall hi
   have e0 := HV.out.k8 H8.out
   subst e0
   refine wpOp_hid rfl fun K' HK => ?_
   go_simp
   cases HV.out
   refine HK.out _ _ ⟨by simp [HJ.out.sz], ?_⟩
   iterate 11 apply Exists.intro
   refine ⟨rfl, ?_⟩
   constructor
   case k9 => exact fun _ => rfl
   case g => exact HV.out.g
   all_goals exact Um (by assumption)
structure UHV (wS : World) (x y : Lot) (u v z : Int) (bf B0 B1 : Nat) (Bn : Nat) (L : Array Bool) (W : World) (s5 s6 s7 s8 s9 s10 s11 s12 s13 s14 : Value) : Prop where
 k0 : L.getD 0 false = true → s6 = .agg #[.string y.id, .string y.inst, .int .i64 y.acq, .int .i64 y.opn, .string y.qty, .string y.cost, .string y.used]
 k1 : L.getD 1 false = true → s7 = .agg #[.string x.id, .string x.inst, .int .i64 x.acq, .int .i64 x.opn, .string x.qty, .string x.cost, .string x.used]
 k2 : L.getD 2 false = true → s8 = .int .i64 u
 k3 : L.getD 3 false = true → s9 = .func (.func 160) #[] #[]
 k4 : L.getD 4 false = true → s10 = .agg #[.string x.id, .string x.inst, .int .i64 x.acq, .int .i64 x.opn, .string x.qty, .string x.cost, .string x.used]
 k5 : L.getD 5 false = true → s11 = .agg #[.string y.id, .string y.inst, .int .i64 y.acq, .int .i64 y.opn, .string y.qty, .string y.cost, .string y.used]
 k6 : L.getD 6 false = true → s12 = .int .i64 v
 k7 : L.getD 7 false = true → s13 = .slice (some ⟨Bn, 0, none⟩) 2 2
 k8 : L.getD 8 false = true → s14 = .int .i64 z
 k9 : L.getD 9 false = true → s5 = .int .i64 z
 g : Below wS.heap.size wS W
 bx : L.getD 7 false = true → W.heap[Bn]? = some (.cells #[.int .i64 u, .int .i64 v] 3 (0, 0))
structure UHJ (wS : World) (x y : Lot) (u v z : Int) (bf B0 B1 : Nat) (x0 x1 : Value) (L : Array Bool) (a : Act) (W : World) : Prop where
 sz : L.size = 10
 fr : ∃ Bn : Nat, ∃ s5 s6 s7 s8 s9 s10 s11 s12 s13 s14 : Value, a = { tmps := #[x0, x1, .pointer (some ⟨bf, 0, none⟩), .pointer (some ⟨B0, 0, none⟩), .pointer (some ⟨B1, 0, none⟩), s5, s6, s7, s8, s9, s10, s11, s12, s13, s14], defers := [] } ∧ UHV wS x y u v z bf B0 B1 Bn L W s5 s6 s7 s8 s9 s10 s11 s12 s13 s14
def highC (a b : Lot) : Int := if cmpI (vl b.cost * vl a.qty) (vl a.cost * vl b.qty) = 0 then cmpI a.acq b.acq else cmpI (vl b.cost * vl a.qty) (vl a.cost * vl b.qty)
theorem highC_any (a b : Lot) (ha : a.sized) (hb : b.sized) (bf : Nat) (w : World) (hbf : w.heap[bf]? = some (.cells #[.func (.func 160) #[] #[]] 75 (0, 0))) (ht : Tabs w) : Calls Tryz.prog 165 #[a.enc, b.enc, .pointer (some ⟨bf, 0, none⟩)] w fun e w' => e = .returned (.int .i64 (highC a b)) ∧ Below w.heap.size w w' := by
 obtain ⟨W0, W1, hW0, hW1, hB, hsz, k0, k1⟩ := lbox2 a b w
 have HK0 := hI k0
 have HK1 := hI k1
 have HB := hI hB
 have hbl : bf < w.heap.size := (Array.getElem?_eq_some_iff.1 hbf).1
 have HBF : Hid (bf < W1.heap.size ∧ W1.heap[bf]? = some (.cells #[.func (.func 160) #[] #[]] 75 (0, 0))) := ⟨Nat.lt_of_lt_of_le hbl hB.size, (hB.block bf hbl).trans hbf⟩
 have HT := hI (ht.below hB)
 obtain ⟨u, hu⟩ : ∃ u, cmpI (vl b.cost * vl a.qty) (vl a.cost * vl b.qty) = u := ⟨_, rfl⟩
 obtain ⟨v, hv⟩ : ∃ v, cmpI a.acq b.acq = v := ⟨_, rfl⟩
 obtain ⟨z, hz⟩ : ∃ z, (if u = 0 then v else u) = z := ⟨_, rfl⟩
 have hU := fun W (h : Below W1.heap.size W1 W) => unit_any b a hb ha W (HT.out.below h)
 rw [hu] at hU
 have hF := fun W => first_any a b W
 rw [hv] at hF
 have hO := fun B c W h => cmpOr_any u v B c W h
 rw [hz] at hO
 have HZ : Hid (highC a b = z) := by unfold highC; rw [Hid, hu, hv, hz]
 have hgS : Below W1.heap.size W1 W1.drew := (Below.refl _ _).drew
 clear k0 k1 hB ht hu hv hz hbf hbl ha hb
 unfold Lot.enc Lot.cells at *
 have HU := hI hU
 have HFI := hI hF
 have HOR := hI hO
 clear hU hF hO
 go_enter Tryz.func165, Tryz.ntmps165
 go_upto_region 1 with fail
 have mixed : Tryz.prog.follows .mixedOrders = true := by kernel_rfl
 refine wp_region_any mixed (wpAny_inv (UHJ W1 a b u v z bf w.heap.size (w.heap.size + 1) _ _) ?stUH ?dnUH _ _ _ _ ⟨by simp, ⟨0, _, _, _, _, _, _, _, _, _, _, rfl, fun h => by simp at h, fun h => by simp at h, fun h => by simp at h, fun h => by simp at h, fun h => by simp at h, fun h => by simp at h, fun h => by simp at h, fun h => by simp at h, fun h => by simp at h, fun h => by simp at h, hgS, fun h => by simp at h⟩⟩ (by decide))
 case dnUH =>
  intro L a w' hj hr
  have all := all_on hr hj.sz (by kernel_rfl)
  obtain ⟨Bn, s5, s6, s7, s8, s9, s10, s11, s12, s13, s14, rfl, hv⟩ := hj.fr
  have e9 := hv.k9 (all 9 (by omega))
  subst e9
  have HF := hI (HB.out.trans (hv.g.mono HB.out.size))
  clear all hv hj hr
  go_wp2_with fail
  go_ret
  exact ⟨by rw [HZ.out]; rfl, HF.out⟩
 case stUH =>
  intro L a w' hj i hi
  obtain ⟨hun, o, ho, hall⟩ := mem_ready.1 hi
  have hoff := getD_off hun
  have hlt := (Array.getElem?_eq_some_iff.1 ho).1
  simp at hlt
  obtain ⟨Bn, s5, s6, s7, s8, s9, s10, s11, s12, s13, s14, rfl, hv⟩ := hj.fr
  have HV := hI hv
  have HJ := hI hj
  clear hv hj
  rcases (show i = 0 ∨ i = 1 ∨ i = 2 ∨ i = 3 ∨ i = 4 ∨ i = 5 ∨ i = 6 ∨ i = 7 ∨ i = 8 ∨ i = 9 from by omega) with rfl | rfl | rfl | rfl | rfl | rfl | rfl | rfl | rfl | rfl
  ·simp at ho
   subst ho
   clear hall hi
   have hk := HK1.out.below HV.out.g
   have c0 := Lib.cell_of_heap hk 0
   have c1 := Lib.cell_of_heap hk 1
   have c2 := Lib.cell_of_heap hk 2
   have c3 := Lib.cell_of_heap hk 3
   have c4 := Lib.cell_of_heap hk 4
   have c5 := Lib.cell_of_heap hk 5
   have c6 := Lib.cell_of_heap hk 6
   simp [Lot.cells] at c0 c1 c2 c3 c4 c5 c6
   refine wpOp_hid rfl fun K' HK => ?_
   go_simp
   cases HV.out
   refine HK.out _ _ ⟨by simp [HJ.out.sz], ?_⟩
   iterate 11 apply Exists.intro
   refine ⟨rfl, ?_⟩
   constructor
   case k0 => exact fun _ => rfl
   case g => exact HV.out.g
   all_goals exact Um (by assumption)
  ·simp at ho
   subst ho
   clear hall hi
   have hk := HK0.out.below HV.out.g
   have c0 := Lib.cell_of_heap hk 0
   have c1 := Lib.cell_of_heap hk 1
   have c2 := Lib.cell_of_heap hk 2
   have c3 := Lib.cell_of_heap hk 3
   have c4 := Lib.cell_of_heap hk 4
   have c5 := Lib.cell_of_heap hk 5
   have c6 := Lib.cell_of_heap hk 6
   simp [Lot.cells] at c0 c1 c2 c3 c4 c5 c6
   refine wpOp_hid rfl fun K' HK => ?_
   go_simp
   cases HV.out
   refine HK.out _ _ ⟨by simp [HJ.out.sz], ?_⟩
   iterate 11 apply Exists.intro
   refine ⟨rfl, ?_⟩
   constructor
   case k1 => exact fun _ => rfl
   case g => exact HV.out.g
   all_goals exact Um (by assumption)
  ·simp at ho
   subst ho
   have H0 := Hq hall 0
   have H1 := Hq hall 1
   clear hall hi
   have e0 := HV.out.k0 H0.out
   subst e0
   have e1 := HV.out.k1 H1.out
   subst e1
   refine wpOp_hid rfl fun K' HK => ?_
   go_simp
   refine (HU.out w' HV.out.g).mono ?_
   rintro e wn ⟨rfl, bn⟩
   exact HK.out _ _ ⟨by simp [HJ.out.sz], ⟨_, _, _, _, _, _, _, _, _, _, _, rfl, Um HV.out.k0, Um HV.out.k1, fun _ => rfl, Um HV.out.k3, Um HV.out.k4, Um HV.out.k5, Um HV.out.k6, Um HV.out.k7, Um HV.out.k8, Um HV.out.k9, HV.out.g.trans (bn.mono HV.out.g.size), fun h => (bn.block Bn (Array.getElem?_eq_some_iff.1 (HV.out.bx (Uz h))).1).trans (HV.out.bx (Uz h))⟩⟩
  ·simp at ho
   subst ho
   clear hall hi
   have c0 := Lib.cell_of_heap ((HV.out.g.block _ HBF.out.1).trans HBF.out.2) 0
   simp at c0
   refine wpOp_hid rfl fun K' HK => ?_
   go_simp
   cases HV.out
   refine HK.out _ _ ⟨by simp [HJ.out.sz], ?_⟩
   iterate 11 apply Exists.intro
   refine ⟨rfl, ?_⟩
   constructor
   case k3 => exact fun _ => rfl
   case g => exact HV.out.g
   all_goals exact Um (by assumption)
  ·simp at ho
   subst ho
   clear hall hi
   have hk := HK0.out.below HV.out.g
   have c0 := Lib.cell_of_heap hk 0
   have c1 := Lib.cell_of_heap hk 1
   have c2 := Lib.cell_of_heap hk 2
   have c3 := Lib.cell_of_heap hk 3
   have c4 := Lib.cell_of_heap hk 4
   have c5 := Lib.cell_of_heap hk 5
   have c6 := Lib.cell_of_heap hk 6
   simp [Lot.cells] at c0 c1 c2 c3 c4 c5 c6
   refine wpOp_hid rfl fun K' HK => ?_
   go_simp
   cases HV.out
   refine HK.out _ _ ⟨by simp [HJ.out.sz], ?_⟩
   iterate 11 apply Exists.intro
   refine ⟨rfl, ?_⟩
   constructor
   case k4 => exact fun _ => rfl
   case g => exact HV.out.g
   all_goals exact Um (by assumption)
  ·simp at ho
   subst ho
   clear hall hi
   have hk := HK1.out.below HV.out.g
   have c0 := Lib.cell_of_heap hk 0
   have c1 := Lib.cell_of_heap hk 1
   have c2 := Lib.cell_of_heap hk 2
   have c3 := Lib.cell_of_heap hk 3
   have c4 := Lib.cell_of_heap hk 4
   have c5 := Lib.cell_of_heap hk 5
   have c6 := Lib.cell_of_heap hk 6
   simp [Lot.cells] at c0 c1 c2 c3 c4 c5 c6
   refine wpOp_hid rfl fun K' HK => ?_
   go_simp
   cases HV.out
   refine HK.out _ _ ⟨by simp [HJ.out.sz], ?_⟩
   iterate 11 apply Exists.intro
   refine ⟨rfl, ?_⟩
   constructor
   case k5 => exact fun _ => rfl
   case g => exact HV.out.g
   all_goals exact Um (by assumption)
  ·simp at ho
   subst ho
   have H3 := Hq hall 3
   have H4 := Hq hall 4
   have H5 := Hq hall 5
   clear hall hi
   have e0 := HV.out.k3 H3.out
   subst e0
   have e1 := HV.out.k4 H4.out
   subst e1
   have e2 := HV.out.k5 H5.out
   subst e2
   refine wpOp_hid rfl fun K' HK => ?_
   go_simp
   refine (HFI.out w').mono ?_
   rintro e wn ⟨rfl, bn⟩
   exact HK.out _ _ ⟨by simp [HJ.out.sz], ⟨_, _, _, _, _, _, _, _, _, _, _, rfl, Um HV.out.k0, Um HV.out.k1, Um HV.out.k2, Um HV.out.k3, Um HV.out.k4, Um HV.out.k5, fun _ => rfl, Um HV.out.k7, Um HV.out.k8, Um HV.out.k9, HV.out.g.trans (bn.mono HV.out.g.size), fun h => (bn.block Bn (Array.getElem?_eq_some_iff.1 (HV.out.bx (Uz h))).1).trans (HV.out.bx (Uz h))⟩⟩
  ·simp at ho
   subst ho
   have H2 := Hq hall 2
   have H6 := Hq hall 6
   clear hall hi
   have e0 := HV.out.k2 H2.out
   subst e0
   have e1 := HV.out.k6 H6.out
   subst e1
   have ba : Below w'.heap.size w' (w'.alloc (.cells #[.int .i64 u, .int .i64 v] 3)) := (Below.refl _ _).alloc (Nat.le_refl _) _
   refine wpOp_hid rfl fun K' HK => ?_
   go_simp
   exact HK.out _ _ ⟨by simp [HJ.out.sz], ⟨w'.heap.size, _, _, _, _, _, _, _, _, _, _, rfl, Um HV.out.k0, Um HV.out.k1, Um HV.out.k2, Um HV.out.k3, Um HV.out.k4, Um HV.out.k5, Um HV.out.k6, fun _ => rfl, Um HV.out.k8, Um HV.out.k9, HV.out.g.trans (ba.mono HV.out.g.size), fun _ => heap_alloc_new _ _⟩⟩
  ·simp at ho
   subst ho
   have H7 := Hq hall 7
   clear hall hi
   have e0 := HV.out.k7 H7.out
   subst e0
   refine wpOp_hid rfl fun K' HK => ?_
   go_simp
   refine (HOR.out _ _ w' (HV.out.bx H7.out)).mono ?_
   rintro e wn ⟨rfl, rfl⟩
   cases HV.out
   refine HK.out _ _ ⟨by simp [HJ.out.sz], ?_⟩
   iterate 11 apply Exists.intro
   refine ⟨rfl, ?_⟩
   constructor
   case k8 => exact fun _ => rfl
   case g => exact HV.out.g
   all_goals exact Um (by assumption)
  ·simp at ho
   subst ho
   have H8 := Hq hall 8
   clear hall hi
   have e0 := HV.out.k8 H8.out
   subst e0
   refine wpOp_hid rfl fun K' HK => ?_
   go_simp
   cases HV.out
   refine HK.out _ _ ⟨by simp [HJ.out.sz], ?_⟩
   iterate 11 apply Exists.intro
   refine ⟨rfl, ?_⟩
   constructor
   case k9 => exact fun _ => rfl
   case g => exact HV.out.g
   all_goals exact Um (by assumption)
def cfM (m : Int) : Lot → Lot → Int := if m = 3 then highC else if m = 4 then lowC else fun a b => cmpI a.acq b.acq
theorem cfM_lt (m : Int) {a b : Lot} (ha : 0 < vl a.qty) (hb : 0 < vl b.qty) : decide (cfM m a b < 0) = ltM m a b := by
 unfold cfM ltM
 have hF : ltF a b = decide (a.acq < b.acq) := rfl
 have cF : cmpI a.acq b.acq < 0 ↔ a.acq < b.acq := cmpI_lt
 by_cases h3 : m = 3
 ·rw [if_pos h3, if_pos h3]
  unfold highC ltH ltK
  rw [qpos_of ha, qpos_of hb]
  refine decide_eq_decide.2 ?_
  rw [Int.neg_mul, Int.neg_mul]
  generalize vl b.cost * vl a.qty = u
  generalize vl a.cost * vl b.qty = v
  have c1 : cmpI u v < 0 ↔ u < v := cmpI_lt
  have c3 : cmpI u v = 0 ↔ u = v := cmpI_eq
  split <;> omega
 ·rw [if_neg h3, if_neg h3]
  by_cases h4 : m = 4
  ·rw [if_pos h4, if_pos h4]
   unfold lowC ltL ltK
   rw [qpos_of ha, qpos_of hb]
   refine decide_eq_decide.2 ?_
   generalize vl b.cost * vl a.qty = u
   generalize vl a.cost * vl b.qty = v
   have c1 : cmpI v u < 0 ↔ v < u := cmpI_lt
   have c3 : cmpI v u = 0 ↔ v = u := cmpI_eq
   split <;> omega
  ·rw [if_neg h4, if_neg h4, hF]
   exact decide_eq_decide.2 cF
def fnM (m : Int) : Nat := if m = 3 then 165 else if m = 4 then 162 else 160
def bdM (m : Int) (bf : Nat) : Array Value := if m = 3 ∨ m = 4 then #[.pointer (some ⟨bf, 0, none⟩)] else #[]
def okL (l : Lot) : Prop := l.sized ∧ 0 < vl l.qty
theorem cmpS_any (m : Int) (bf : Nat) (w00 w0 : World) (g : Nat) (ht : Tabs w00) (hb : Below w00.heap.size w00 w0) (hg : w00.heap.size ≤ g) (hbf : w0.heap[bf]? = some (.cells #[.func (.func 160) #[] #[]] 75 (0, 0))) (hne : bf ≠ g) :
 CmpS okL (cfM m) (fnM m) (bdM m bf) w0 g := by
 have hT : ∀ W, w0.grownBy W (some g) → Tabs W := fun W h => ht.below (hb.grown h hb.size (fun k hk => by injection hk with hk; rw [← hk]; exact hg))
 have hF : ∀ W, w0.grownBy W (some g) → W.heap[bf]? = some (.cells #[.func (.func 160) #[] #[]] 75 (0, 0)) := fun W h => (h.block bf (Array.getElem?_eq_some_iff.1 hbf).1 (fun e => hne (by injection e))).trans hbf
 by_cases h3 : m = 3
 ·subst h3
  have e1 : cfM 3 = highC := by unfold cfM; rw [if_pos rfl]
  have e2 : fnM 3 = 165 := rfl
  have e3 : bdM 3 bf = #[.pointer (some ⟨bf, 0, none⟩)] := by unfold bdM; rw [if_pos (Or.inl rfl)]
  rw [e1, e2, e3]
  exact ⟨enters_of Tryz.func165 (by kernel_rfl) rfl, fun W hW a b ha hb => highC_any a b ha.1 hb.1 bf W (hF W hW) (hT W hW)⟩
 ·by_cases h4 : m = 4
  ·subst h4
   have e1 : cfM 4 = lowC := by unfold cfM; rw [if_neg h3, if_pos rfl]
   have e2 : fnM 4 = 162 := rfl
   have e3 : bdM 4 bf = #[.pointer (some ⟨bf, 0, none⟩)] := by unfold bdM; rw [if_pos (Or.inr rfl)]
   rw [e1, e2, e3]
   exact ⟨enters_of Tryz.func162 (by kernel_rfl) rfl, fun W hW a b ha hb => lowC_any a b ha.1 hb.1 bf W (hF W hW) (hT W hW)⟩
  ·have e1 : cfM m = fun a b => cmpI a.acq b.acq := by unfold cfM; rw [if_neg h3, if_neg h4]
   have e2 : fnM m = 160 := by unfold fnM; rw [if_neg h3, if_neg h4]
   have e3 : bdM m bf = #[] := by unfold bdM; rw [if_neg (fun h => h.elim h3 h4)]
   rw [e1, e2, e3]
   exact ⟨enters_of Tryz.func160 (by kernel_rfl) rfl, fun W hW a b ha hb => first_any a b W⟩
end Go.Proofs.YtdnmpgoigagjmaaGreatDoor
