/-
  What relief.Take takes, plainly.
  What is chosen is possible; lots as a whole; what it costs.
  The dearest and the cheapest choice, plainly.
  What is left and what is taken, plainly.
  Picks in memory.
  relief.positive, least; a pick that is looked for.
-/
import Derived.Test.YtdnmpgoigagjmaaGreatDoorL35
import Derived.Test.YtdnmpgoigagjmaaGreatDoorL27
import Derived.Test.YtdnmpgoigagjmaaGreatDoorL21
import Derived.Test.YtdnmpgoigagjmaaGreatDoorL14
import Derived.Test.YtdnmpgoigagjmaaGreatDoorL33
set_option linter.unusedVariables false
set_option linter.unusedSimpArgs false
set_option maxHeartbeats 16000000
set_option maxRecDepth 100000
namespace Go.Proofs.YtdnmpgoigagjmaaGreatDoor
open Go.RowKit Tr Go.Shelf
def lotOf (ls : List Lot) (id : ByteArray) : Option Lot := ls.find? fun x => decide (x.id = id)
theorem lotOf_none {ls : List Lot} {id : ByteArray} : lotOf ls id = none ↔ ∀ x ∈ ls, x.id ≠ id := by
 unfold lotOf; rw [List.find?_eq_none]; simp
theorem lotOf_split : ∀ {ls : List Lot} {id : ByteArray} {x : Lot}, lotOf ls id = some x → ∃ A B, ls = A ++ x :: B ∧ x.id = id ∧ ∀ y ∈ A, y.id ≠ id
 | [], _, _, h => by cases h
 | y :: r, id, x, h => by
   by_cases e : y.id = id
   ·unfold lotOf at h
    rw [List.find?_cons_of_pos (by simp [e])] at h
    injection h with h
    subst h
    exact ⟨[], r, rfl, e, fun z hz => by cases hz⟩
   ·unfold lotOf at h
    rw [List.find?_cons_of_neg (by simp [e])] at h
    obtain ⟨A, B, h1, h2, h3⟩ := lotOf_split (ls := r) h
    refine ⟨y :: A, B, by rw [h1]; rfl, h2, fun z hz => ?_⟩
    rcases List.mem_cons.1 hz with hz | hz
    ·rw [hz]; exact e
    ·exact h3 z hz
theorem lotOf_mem {ls : List Lot} {id : ByteArray} {x : Lot} (h : lotOf ls id = some x) : x ∈ ls ∧ x.id = id := by
 obtain ⟨A, B, h1, h2, _⟩ := lotOf_split h
 exact ⟨by rw [h1]; simp, h2⟩
theorem lotOf_of_mem {ls : List Lot} {x : Lot} (hid : (ls.map Lot.id).Nodup) (h : x ∈ ls) : lotOf ls x.id = some x := by
 cases hl : lotOf ls x.id with
 | none => exact absurd rfl (lotOf_none.1 hl x h)
 | some y =>
   have hy := lotOf_mem hl
   rw [nd_inj hid hy.1 h hy.2]
theorem findR_lotOf_some {ls : List Lot} {id : ByteArray} {x : Lot} (h : lotOf ls id = some x) : (findR ls id 0).2 = true ∧ ls[(findR ls id 0).1]? = some x := by
 obtain ⟨A, B, rfl, h2, h3⟩ := lotOf_split h
 rw [findR_skip A (x :: B) id 0 h3, findR, if_pos h2]
 refine ⟨rfl, ?_⟩
 show (A ++ x :: B)[0 + A.length]? = some x
 rw [Nat.zero_add, List.getElem?_append_right (Nat.le_refl _), Nat.sub_self]; rfl
theorem findR_lotOf_none {ls : List Lot} {id : ByteArray} (h : lotOf ls id = none) : findR ls id 0 = (0, false) := findR_none (lotOf_none.1 h) 0
def pkOf (ps : List Pk) (id : ByteArray) : Option Pk := ps.find? fun p => decide (p.lot = id)
theorem pkOf_none {ps : List Pk} {id : ByteArray} : pkOf ps id = none ↔ ∀ p ∈ ps, p.lot ≠ id := by
 unfold pkOf; rw [List.find?_eq_none]; simp
theorem pkOf_snoc_ne {ps : List Pk} {p : Pk} {id : ByteArray} (h : p.lot ≠ id) : pkOf (ps ++ [p]) id = pkOf ps id := by
 unfold pkOf
 rw [List.find?_append, List.find?_cons_of_neg (by simp [h])]
 cases List.find? (fun p => decide (p.lot = id)) ps <;> rfl
theorem pkOf_snoc_eq {ps : List Pk} {p : Pk} {id : ByteArray} (h : p.lot = id) (hn : pkOf ps id = none) : pkOf (ps ++ [p]) id = some p := by
 unfold pkOf at *
 rw [List.find?_append, hn, List.find?_cons_of_pos (by simp [h])]; rfl
theorem pkOf_mem {ps : List Pk} {id : ByteArray} {p : Pk} (h : pkOf ps id = some p) : p ∈ ps ∧ p.lot = id := by
 unfold pkOf at h
 exact ⟨List.mem_of_find?_eq_some h, by simpa using List.find?_some h⟩
def leftO (ps : List Pk) (x : Lot) : Option Lot :=
 match pkOf ps x.id with
 | none => some x
 | some p => if x.qty = p.qty then none else some (cutB x p.qty)
theorem leftO_none {ps : List Pk} {x : Lot} (h : pkOf ps x.id = none) : leftO ps x = some x := by unfold leftO; rw [h]
theorem leftO_some {ps : List Pk} {x : Lot} {p : Pk} (h : pkOf ps x.id = some p) : leftO ps x = if x.qty = p.qty then none else some (cutB x p.qty) := by unfold leftO; rw [h]
theorem leftO_id {ps : List Pk} {x y : Lot} (h : leftO ps x = some y) : y.id = x.id := by
 unfold leftO at h
 split at h
 ·injection h with h; rw [h]
 ·split at h
  ·cases h
  ·injection h with h; rw [← h]; rfl
def restR (ls : List Lot) (ps : List Pk) : List Lot := ls.filterMap (leftO ps)
def tknO (ls : List Lot) (p : Pk) : Lot :=
 match lotOf ls p.lot with
 | some x => if x.qty = p.qty then x else cutA x p.qty
 | none => zeroLot
theorem tknO_some {ls : List Lot} {p : Pk} {x : Lot} (h : lotOf ls p.lot = some x) : tknO ls p = if x.qty = p.qty then x else cutA x p.qty := by unfold tknO; rw [h]
def takenR (ls : List Lot) (ps : List Pk) : List Lot := ps.map (tknO ls)
theorem restR_nil (ls : List Lot) : restR ls [] = ls := by
 unfold restR
 have : leftO [] = some := funext fun x => leftO_none rfl
 rw [this, List.filterMap_some]
theorem restR_snoc_ne {ls : List Lot} {ps : List Pk} {p : Pk} (h : ∀ x ∈ ls, p.lot ≠ x.id) : restR ls (ps ++ [p]) = restR ls ps := by
 unfold restR
 induction ls with
 | nil => rfl
 | cons x r ih =>
   have e : leftO (ps ++ [p]) x = leftO ps x := by unfold leftO; rw [pkOf_snoc_ne (h x (List.mem_cons_self ..))]
   rw [List.filterMap_cons, List.filterMap_cons, e, ih (fun y hy => h y (List.mem_cons_of_mem _ hy))]
theorem restR_ids {ls : List Lot} {ps : List Pk} {y : Lot} (h : y ∈ restR ls ps) : ∃ x ∈ ls, y.id = x.id := by
 obtain ⟨x, hx, e⟩ := List.mem_filterMap.1 h
 exact ⟨x, hx, leftO_id e⟩
theorem restR_len (ls : List Lot) (ps : List Pk) : (restR ls ps).length ≤ ls.length := List.length_filterMap_le _ _
theorem nd_split {A B : List Lot} {x : Lot} (hid : ((A ++ x :: B).map Lot.id).Nodup) : (∀ y ∈ A, x.id ≠ y.id) ∧ ∀ y ∈ B, x.id ≠ y.id := by
 rw [List.map_append, List.map_cons, List.nodup_append, List.nodup_cons] at hid
 exact ⟨fun y hy e => hid.2.2 y.id (List.mem_map.2 ⟨y, hy, rfl⟩) x.id (List.mem_cons_self ..) e.symm, fun y hy e => hid.2.1.1 (by rw [e]; exact List.mem_map.2 ⟨y, hy, rfl⟩)⟩
theorem restR_step {ls : List Lot} {ps : List Pk} {p : Pk} {x : Lot} (hid : (ls.map Lot.id).Nodup) (hx : lotOf ls p.lot = some x) (hn : p.lot ∉ ps.map Pk.lot) :
 ∃ P Q, restR ls ps = P ++ x :: Q ∧ findR (restR ls ps) p.lot 0 = (P.length, true) ∧ restR ls (ps ++ [p]) = P ++ (if x.qty = p.qty then [] else [cutB x p.qty]) ++ Q := by
 obtain ⟨A, B, rfl, e, _⟩ := lotOf_split hx
 obtain ⟨hA, hB⟩ := nd_split hid
 have hA' : ∀ y ∈ A, p.lot ≠ y.id := fun y hy => by rw [← e]; exact hA y hy
 have hB' : ∀ y ∈ B, p.lot ≠ y.id := fun y hy => by rw [← e]; exact hB y hy
 have hp : pkOf ps x.id = none := pkOf_none.2 fun q hq e2 => hn (by rw [← e, ← e2]; exact List.mem_map.2 ⟨q, hq, rfl⟩)
 have e1 : restR (A ++ x :: B) ps = restR A ps ++ x :: restR B ps := by
  unfold restR; rw [List.filterMap_append, List.filterMap_cons_some (leftO_none hp)]
 refine ⟨restR A ps, restR B ps, e1, ?_, ?_⟩
 ·rw [e1, findR_skip _ _ _ _ (fun y hy => ?_), findR, if_pos e, Nat.zero_add]
  obtain ⟨z, hz, e3⟩ := restR_ids hy
  rw [e3]
  exact (hA' z hz).symm
 ·have h1 := restR_snoc_ne (ps := ps) hA'
  have h2 := restR_snoc_ne (ps := ps) hB'
  have h3 : leftO (ps ++ [p]) x = if x.qty = p.qty then none else some (cutB x p.qty) := leftO_some (pkOf_snoc_eq e.symm hp)
  unfold restR at h1 h2 ⊢
  rw [List.filterMap_append, h1]
  by_cases hq : x.qty = p.qty
  ·rw [if_pos hq] at h3 ⊢
   rw [List.filterMap_cons_none h3, h2]; simp
  ·rw [if_neg hq] at h3 ⊢
   rw [List.filterMap_cons_some h3, h2]; simp
open Classical in
noncomputable def posE (ls : List Lot) (io : Option ByteArray) : List Pk → List Pk → Int
 | _, [] => 0
 | pre, p :: r =>
   match lotOf ls p.lot with
   | none => 6
   | some x =>
     if (∃ s, io = some s ∧ x.inst ≠ s) then 9
     else if p.lot ∈ pre.map Pk.lot then 5
     else if ¬ Can p.qty then 1
     else if vl p.qty ≤ 0 then 2
     else if vl x.qty < vl p.qty then 15
     else posE ls io (pre ++ [p]) r
structure PkOk (ls : List Lot) (io : Option ByteArray) (p : Pk) (x : Lot) : Prop where
 lot : lotOf ls p.lot = some x
 inst : ∀ s, io = some s → x.inst = s
 can : Can p.qty
 pos : 0 < vl p.qty
 le : vl p.qty ≤ vl x.qty
theorem posE_none {ls : List Lot} {io : Option ByteArray} {pre r : List Pk} {p : Pk} (h : lotOf ls p.lot = none) : posE ls io pre (p :: r) = 6 := by rw [posE, h]
theorem posE_inst {ls : List Lot} {io : Option ByteArray} {pre r : List Pk} {p : Pk} {x : Lot} (h : lotOf ls p.lot = some x) {s : ByteArray} (hs : io = some s) (h1 : x.inst ≠ s) : posE ls io pre (p :: r) = 9 := by rw [posE, h]; exact if_pos ⟨s, hs, h1⟩
theorem posE_was {ls : List Lot} {io : Option ByteArray} {pre r : List Pk} {p : Pk} {x : Lot} (h : lotOf ls p.lot = some x) (h1 : ∀ s, io = some s → x.inst = s) (h2 : p.lot ∈ pre.map Pk.lot) : posE ls io pre (p :: r) = 5 := by
 rw [posE, h]; dsimp only; rw [if_neg (fun ⟨s, e, n⟩ => n (h1 s e)), if_pos h2]
theorem posE_can {ls : List Lot} {io : Option ByteArray} {pre r : List Pk} {p : Pk} {x : Lot} (h : lotOf ls p.lot = some x) (h1 : ∀ s, io = some s → x.inst = s) (h2 : p.lot ∉ pre.map Pk.lot) (h3 : ¬ Can p.qty) : posE ls io pre (p :: r) = 1 := by
 rw [posE, h]; dsimp only; rw [if_neg (fun ⟨s, e, n⟩ => n (h1 s e)), if_neg h2, if_pos h3]
theorem posE_pos {ls : List Lot} {io : Option ByteArray} {pre r : List Pk} {p : Pk} {x : Lot} (h : lotOf ls p.lot = some x) (h1 : ∀ s, io = some s → x.inst = s) (h2 : p.lot ∉ pre.map Pk.lot) (h3 : Can p.qty) (h4 : vl p.qty ≤ 0) : posE ls io pre (p :: r) = 2 := by
 rw [posE, h]; dsimp only; rw [if_neg (fun ⟨s, e, n⟩ => n (h1 s e)), if_neg h2, if_neg (fun n => n h3), if_pos h4]
theorem posE_short {ls : List Lot} {io : Option ByteArray} {pre r : List Pk} {p : Pk} {x : Lot} (h : lotOf ls p.lot = some x) (h1 : ∀ s, io = some s → x.inst = s) (h2 : p.lot ∉ pre.map Pk.lot) (h3 : Can p.qty) (h4 : 0 < vl p.qty) (h5 : vl x.qty < vl p.qty) : posE ls io pre (p :: r) = 15 := by
 rw [posE, h]; dsimp only; rw [if_neg (fun ⟨s, e, n⟩ => n (h1 s e)), if_neg h2, if_neg (fun n => n h3), if_neg (by omega), if_pos h5]
theorem posE_ok {ls : List Lot} {io : Option ByteArray} {pre r : List Pk} {p : Pk} {x : Lot} (h : PkOk ls io p x) (h2 : p.lot ∉ pre.map Pk.lot) : posE ls io pre (p :: r) = posE ls io (pre ++ [p]) r := by
 rw [posE, h.lot]; dsimp only; rw [if_neg (fun ⟨s, e, n⟩ => n (h.inst s e)), if_neg h2, if_neg (fun n => n h.can), if_neg (by have := h.pos; omega), if_neg (by have := h.le; omega)]
structure PksOk (ls : List Lot) (io : Option ByteArray) (ps : List Pk) : Prop where
 nd : (ps.map Pk.lot).Nodup
 ok : ∀ p ∈ ps, ∃ x, PkOk ls io p x
theorem posE_zero : ∀ (ls : List Lot) (io : Option ByteArray) (r pre : List Pk), posE ls io pre r = 0 ↔ (∀ p ∈ r, p.lot ∉ pre.map Pk.lot) ∧ PksOk ls io r
 | ls, io, [], pre => by rw [posE]; exact ⟨fun _ => ⟨(fun p h => by cases h), ⟨List.nodup_nil, (fun p h => by cases h)⟩⟩, fun _ => rfl⟩
 | ls, io, p :: r, pre => by
   constructor
   ·intro h
    cases hl : lotOf ls p.lot with
    | none => rw [posE_none hl] at h; exact absurd h (by decide)
    | some x =>
      have h1 : ∀ s, io = some s → x.inst = s := fun s hs => Classical.byContradiction fun n => by rw [posE_inst hl hs n] at h; exact absurd h (by decide)
      have h2 : p.lot ∉ pre.map Pk.lot := fun n => by rw [posE_was hl h1 n] at h; exact absurd h (by decide)
      have h3 : Can p.qty := Classical.byContradiction fun n => by rw [posE_can hl h1 h2 n] at h; exact absurd h (by decide)
      have h4 : 0 < vl p.qty := Int.not_le.1 fun n => by rw [posE_pos hl h1 h2 h3 n] at h; exact absurd h (by decide)
      have h5 : vl p.qty ≤ vl x.qty := Int.not_lt.1 fun n => by rw [posE_short hl h1 h2 h3 h4 n] at h; exact absurd h (by decide)
      have hk : PkOk ls io p x := ⟨hl, h1, h3, h4, h5⟩
      rw [posE_ok hk h2, posE_zero] at h
      obtain ⟨i1, i2⟩ := h
      refine ⟨fun q hq => ?_, ⟨?_, fun q hq => ?_⟩⟩
      ·rcases List.mem_cons.1 hq with rfl | hq
       ·exact h2
       ·exact fun n => i1 q hq (by rw [List.map_append, List.mem_append]; exact .inl n)
      ·rw [List.map_cons, List.nodup_cons]
       refine ⟨fun hm => ?_, i2.nd⟩
       obtain ⟨q, hq, e⟩ := List.mem_map.1 hm
       exact i1 q hq (by rw [List.map_append, List.mem_append]; right; rw [e]; simp)
      ·rcases List.mem_cons.1 hq with rfl | hq
       ·exact ⟨x, hk⟩
       ·exact i2.ok q hq
   ·rintro ⟨i1, i2⟩
    obtain ⟨x, hk⟩ := i2.ok p (List.mem_cons_self ..)
    rw [posE_ok hk (i1 p (List.mem_cons_self ..)), posE_zero]
    have hd := i2.nd
    rw [List.map_cons, List.nodup_cons] at hd
    refine ⟨fun q hq n => ?_, ⟨hd.2, fun q hq => i2.ok q (List.mem_cons_of_mem _ hq)⟩⟩
    rw [List.map_append, List.mem_append] at n
    rcases n with n | n
    ·exact i1 q (List.mem_cons_of_mem _ hq) n
    ·simp at n
     exact hd.1 (by rw [← n]; exact List.mem_map.2 ⟨q, hq, rfl⟩)
theorem pksOf_lot (out : Am) : (pksOf out).map Pk.lot = out.map Prod.fst := by unfold pksOf; rw [List.map_map]; rfl
theorem can_I (z : Int) : Can (I z) := by unfold Can; rw [vl_I]
theorem InvA.pks {ls : List Lot} {s : ByteArray} (hid : (ls.map Lot.id).Nodup) {own : List Lot} (hown : ∀ x ∈ own, x ∈ ls ∧ x.inst = s) {q0 : Int} {st : Am × Int} (h : InvA own q0 st) (io : Option ByteArray) (hio : ∀ t, io = some t → t = s) : PksOk ls io (pksOf st.1) := by
 refine ⟨by rw [pksOf_lot]; exact h.nd, fun p hp => ?_⟩
 obtain ⟨a, ha, rfl⟩ := List.mem_map.1 hp
 obtain ⟨x, hx, e⟩ := h.sub a ha
 have hl := lotOf_of_mem hid (hown x hx).1
 rw [e] at hl
 refine ⟨x, hl, fun t ht => by rw [hio t ht]; exact (hown x hx).2, can_I _, by show 0 < vl (I a.2); rw [vl_I]; exact h.pos a ha, ?_⟩
 show vl (I a.2) ≤ _
 rw [vl_I, ← amt_mem h.nd ha, ← e]
 exact h.le x hx
def ownB (ls : List Lot) (s : ByteArray) : List Lot := ls.filter fun l => decide (l.inst = s)
theorem ownB_own (ls : List SLot) (s : ByteArray) : (ownL ls s).map Subtype.val = ownB (ls.map Subtype.val) s := by unfold ownL ownB; rw [List.filter_map]; rfl
theorem ownB_mem {ls : List Lot} {s : ByteArray} {x : Lot} : x ∈ ownB ls s ↔ x ∈ ls ∧ x.inst = s := by unfold ownB; rw [List.mem_filter]; simp
theorem ownB_nd {ls : List Lot} (s : ByteArray) (h : (ls.map Lot.id).Nodup) : ((ownB ls s).map Lot.id).Nodup := List.Nodup.sublist (List.Sublist.map _ List.filter_sublist) h
theorem totQ_own (ls : List SLot) : totQ (ls.map Subtype.val) = sumBy qtyOf ls := by
 induction ls with
 | nil => rfl
 | cons x r ih =>
   unfold totQ sumBy at *
   rw [List.map_cons, List.map_cons, List.sum_cons, ih, List.foldl_cons]
   have := sumBy_append qtyOf [x] r
   unfold sumBy at this
   rw [List.singleton_append, List.foldl_cons, List.foldl_cons, List.foldl_nil] at this
   rw [this]
   show vl x.1.qty + _ = 0 + vl x.1.qty + _
   omega
def un (n : Lot → Int) (x : Lot) : Rat := (n x : Rat) / (vl x.qty : Rat)
def wSum (f : Lot → Rat) (S : List Lot) : Rat := S.foldr (fun x r => f x + r) 0
theorem wSum_cons (f : Lot → Rat) (x : Lot) (S : List Lot) : wSum f (x :: S) = f x + wSum f S := rfl
def uId (own : List Lot) (n : Lot → Int) (id : ByteArray) : Rat := match lotOf own id with | some x => un n x | none => 0
def wA (f : ByteArray → Rat) : Am → Rat
 | [] => 0
 | a :: r => f a.1 * (a.2 : Rat) + wA f r
theorem wA_own (f : ByteArray → Rat) : ∀ (out : Am) (own : List Lot), (own.map Lot.id).Nodup → (out.map Prod.fst).Nodup → (∀ a ∈ out, ∃ x ∈ own, x.id = a.1) → wSum (fun x => f x.id * (amt out x.id : Rat)) own = wA f out
 | [], own, h1, h2, h3 => by
   clear h1 h2 h3
   show wSum _ own = 0
   induction own with
   | nil => rfl
   | cons x r ih =>
     rw [wSum_cons, ih]
     show f x.id * ((0 : Int) : Rat) + 0 = 0
     have : ((0 : Int) : Rat) = 0 := rfl
     rw [this]; grind
 | a :: r, own, hid, hd, ho => by
   rw [List.map_cons, List.nodup_cons] at hd
   have ih := wA_own f r own hid hd.2 (fun b hb => ho b (List.mem_cons_of_mem _ hb))
   rw [wA, ← ih]
   obtain ⟨x, hx, hxa⟩ := ho a (List.mem_cons_self ..)
   have h0 : amt r a.1 = 0 := amt_none r a.1 (fun b hb e => hd.1 (List.mem_map.2 ⟨b, hb, e⟩))
   clear ih ho hd
   induction own with
   | nil => cases hx
   | cons y ys ih2 =>
     rw [List.map_cons, List.nodup_cons] at hid
     rw [wSum_cons, wSum_cons]
     rcases List.mem_cons.1 hx with e | hx
     ·subst e
      have e2 : ∀ zs : List Lot, (∀ z ∈ zs, a.1 ≠ z.id) → wSum (fun z => f z.id * (amt (a :: r) z.id : Rat)) zs = wSum (fun z => f z.id * (amt r z.id : Rat)) zs := by
       intro zs
       induction zs with
       | nil => intro _; rfl
       | cons z zs ih => intro h; rw [wSum_cons, wSum_cons, ih (fun t ht => h t (List.mem_cons_of_mem _ ht)), amt, if_neg (h z (List.mem_cons_self ..))]
      rw [e2 ys (fun z hz e => hid.1 (by rw [hxa, e]; exact List.mem_map.2 ⟨z, hz, rfl⟩)), amt, if_pos hxa.symm, hxa, h0]
      have : ((0 : Int) : Rat) = 0 := rfl
      rw [this]; grind
     ·rw [ih2 hid.2 hx, amt, if_neg (fun e => hid.1 (by rw [← e, ← hxa]; exact List.mem_map.2 ⟨x, hx, rfl⟩))]
      grind
theorem uId_mem {own : List Lot} (n : Lot → Int) (hid : (own.map Lot.id).Nodup) {x : Lot} (hx : x ∈ own) : uId own n x.id = un n x := by unfold uId; rw [lotOf_of_mem hid hx]
theorem wSum_congr {f g : Lot → Rat} : ∀ {S : List Lot}, (∀ x ∈ S, f x = g x) → wSum f S = wSum g S
 | [], _ => rfl
 | x :: S, h => by rw [wSum_cons, wSum_cons, h x (List.mem_cons_self ..), wSum_congr (S := S) (fun y hy => h y (List.mem_cons_of_mem _ hy))]
theorem InvA.cost {own : List Lot} {q0 : Int} {st : Am × Int} (n : Lot → Int) (hid : (own.map Lot.id).Nodup) (h : InvA own q0 st) : wA (uId own n) st.1 = wSum (fun x => un n x * (amt st.1 x.id : Rat)) own := by
 rw [← wA_own (uId own n) st.1 own hid h.nd h.sub]
 exact wSum_congr fun x hx => by rw [uId_mem n hid hx]
theorem cutU_size (l : Lot) {x : ByteArray} {k : Nat} (hx : x.size ≤ k) : (cutU l x).size ≤ k := by
 unfold cutU
 split
 ·exact Nat.zero_le _
 ·exact hx
theorem cutU_can (l : Lot) {x : ByteArray} (hx : Can x) : Can (cutU l x) := by
 unfold cutU
 split
 ·rfl
 ·exact hx
theorem cutU_or (l : Lot) (x : ByteArray) : cutU l x = ⟨#[]⟩ ∨ cutU l x = x := by
 unfold cutU
 split
 ·exact .inl rfl
 ·exact .inr rfl
theorem cutZ_bounds {l : Lot} {q : ByteArray} (h : l.ok) (q0 : 0 < vl q) (q2 : vl q < vl l.qty) : 0 ≤ cutZ l q ∧ cutZ l q ≤ vl l.cost :=
 share_bounds (t := vl l.cost) (p := vl q) (a := vl l.qty) h.pc (by omega) h.pq (by omega)
theorem cutB_ok {l : Lot} {q : ByteArray} (h : l.ok) (q0 : 0 < vl q) (q2 : vl q < vl l.qty) : (cutB l q).ok :=
 { id := h.id, inst := h.inst, acq := h.acq, opn := h.opn, ord := h.ord, cq := can_I _, cc := can_I _, cu := cutU_can l (can_I _), pq := by show 0 < vl (I _); rw [vl_I]; omega, pc := by show 0 ≤ vl (I _); rw [vl_I]; have := (cutZ_bounds h q0 q2).2; omega, us := cutU_or l _ }
def Lot.mid (l : Lot) : Prop := l.qty.size ≤ 14 ∧ l.cost.size ≤ 14 ∧ l.used.size ≤ 14 ∧ l.id.size ≤ 40 ∧ l.inst.size ≤ 40
theorem Lot.mid.sized {l : Lot} (h : l.mid) : l.sized := by
 obtain ⟨h1, h2, h3, h4, h5⟩ := h
 exact ⟨by omega, by omega, by omega, by omega, by omega⟩
theorem Lot.tiny.mid {l : Lot} (h : l.tiny) : l.mid := by
 obtain ⟨h1, h2, h3, h4, h5⟩ := h
 exact ⟨by omega, by omega, by omega, by omega, by omega⟩
theorem cut_sizes {l : Lot} {q : ByteArray} (hti : l.tiny) (h : l.ok) (q1 : q.size ≤ 13) (q0 : 0 < vl q) (q2 : vl q < vl l.qty) : (cutA l q).mid ∧ (cutB l q).mid := by
 obtain ⟨z1, z2⟩ := cutZ_bounds h q0 q2
 have hbc : (vl l.cost).natAbs < 10 ^ 13 := Nat.lt_of_lt_of_le (vl_lt l.cost) (pow_mono hti.2.1)
 have hbq : (vl l.qty).natAbs < 10 ^ 13 := Nat.lt_of_lt_of_le (vl_lt l.qty) (pow_mono hti.1)
 have s1 : (I (cutZ l q)).size ≤ 14 := I_size_le (k := 13) (by omega)
 have s2 : (I (vl l.qty - vl q)).size ≤ 14 := I_size_le (k := 13) (by omega)
 have s3 : (I (vl l.cost - cutZ l q)).size ≤ 14 := I_size_le (k := 13) (by omega)
 obtain ⟨t1, t2, t3, t4, t5⟩ := hti
 exact ⟨⟨by show q.size ≤ _; omega, s1, cutU_size l (by omega), t4, t5⟩, ⟨s2, s3, cutU_size l s2, t4, t5⟩⟩
structure CutSum (f : Lot → Int) : Prop where
 cut : ∀ l q, f (cutA l q) + f (cutB l q) = f l
theorem cutSum_qty : CutSum (fun l => vl l.qty) := ⟨fun l q => by show vl q + vl (I _) = _; rw [vl_I]; omega⟩
theorem cutSum_cost : CutSum (fun l => vl l.cost) := ⟨fun l q => by show vl (I _) + vl (I _) = _; rw [vl_I, vl_I]; omega⟩
def sumL (f : Lot → Int) (ls : List Lot) : Int := (ls.map f).sum
theorem sumL_append (f : Lot → Int) (a b : List Lot) : sumL f (a ++ b) = sumL f a + sumL f b := by unfold sumL; rw [List.map_append, List.sum_append]
theorem sumL_cons (f : Lot → Int) (x : Lot) (b : List Lot) : sumL f (x :: b) = f x + sumL f b := by unfold sumL; rw [List.map_cons, List.sum_cons]
theorem sumL_nil (f : Lot → Int) : sumL f [] = 0 := rfl
theorem sumL_own (g : Lot → Int) (ls : List SLot) : sumBy (fun x => g x.1) ls = sumL g (ls.map Subtype.val) := by
 induction ls with
 | nil => rfl
 | cons x r ih =>
   have := sumBy_append (fun x => g x.1) [x] r
   rw [List.singleton_append] at this
   have e : sumBy (fun x => g x.1) [x] = g x.1 := by show 0 + g x.1 = g x.1; omega
   rw [this, ih, List.map_cons, sumL_cons, e]
theorem ownB_append (a b : List Lot) (s : ByteArray) : ownB (a ++ b) s = ownB a s ++ ownB b s := by unfold ownB; rw [List.filter_append]
theorem ownB_one (x : Lot) (s : ByteArray) : ownB [x] s = if x.inst = s then [x] else [] := by unfold ownB; by_cases h : x.inst = s <;> simp [h]
theorem takenR_snoc (ls : List Lot) (ps : List Pk) (p : Pk) : takenR ls (ps ++ [p]) = takenR ls ps ++ [tknO ls p] := by unfold takenR; rw [List.map_append]; rfl
theorem take_sums (f : Lot → Int) (hf : CutSum f) {ls : List Lot} {io : Option ByteArray} (hid : (ls.map Lot.id).Nodup) (s : ByteArray) : ∀ (r pre : List Pk), ((pre ++ r).map Pk.lot).Nodup → (∀ p ∈ r, ∃ x, PkOk ls io p x) →
 sumL f (ownB (restR ls pre) s) + sumL f (ownB (takenR ls pre) s) = sumL f (ownB ls s) → sumL f (ownB (restR ls (pre ++ r)) s) + sumL f (ownB (takenR ls (pre ++ r)) s) = sumL f (ownB ls s)
 | [], pre, _, _, h => by rw [List.append_nil]; exact h
 | p :: r, pre, hd, hp, h => by
   have e : pre ++ p :: r = (pre ++ [p]) ++ r := by simp
   rw [e]
   rw [e] at hd
   obtain ⟨x, hx⟩ := hp p (List.mem_cons_self ..)
   have hn : p.lot ∉ pre.map Pk.lot := by
    intro hm
    rw [List.map_append, List.nodup_append, List.map_append, List.nodup_append] at hd
    exact hd.1.2.2 _ hm _ (by simp) rfl
   refine take_sums f hf hid s r (pre ++ [p]) hd (fun q hq => hp q (List.mem_cons_of_mem _ hq)) ?_
   obtain ⟨P, Q, e1, _, e2⟩ := restR_step hid hx.lot hn
   rw [e1] at h
   have e3 := tknO_some hx.lot
   rw [e2, takenR_snoc]
   rw [show P ++ x :: Q = P ++ [x] ++ Q from by simp] at h
   simp only [ownB_append, sumL_append] at h ⊢
   by_cases hq : x.qty = p.qty
   ·rw [if_pos hq] at e3
    rw [e3, if_pos hq]
    have n0 : sumL f (ownB ([] : List Lot) s) = 0 := rfl
    have n1 : sumL f ([] : List Lot) = 0 := rfl
    simp only [n0, n1] at *
    omega
   ·rw [if_neg hq] at e3
    rw [e3, if_neg hq]
    have hc := hf.cut x p.qty
    rw [ownB_one, ownB_one] at *
    by_cases hi : x.inst = s
    ·rw [if_pos (show (cutA x p.qty).inst = s from hi), if_pos (show (cutB x p.qty).inst = s from hi)]
     rw [if_pos hi] at h
     simp only [sumL_cons, sumL_nil] at h ⊢
     omega
    ·rw [if_neg (show ¬ (cutA x p.qty).inst = s from hi), if_neg (show ¬ (cutB x p.qty).inst = s from hi)]
     rw [if_neg hi] at h
     simp only [sumL_nil] at h ⊢
     omega
theorem take_sum (f : Lot → Int) (hf : CutSum f) {ls : List Lot} {io : Option ByteArray} (hid : (ls.map Lot.id).Nodup) {ps : List Pk} (h : PksOk ls io ps) (s : ByteArray) : sumL f (ownB (restR ls ps) s) + sumL f (ownB (takenR ls ps) s) = sumL f (ownB ls s) := by
 have := take_sums f hf hid s ps [] (by simpa using h.nd) h.ok (by rw [restR_nil]; show _ + 0 = _; omega)
 simpa using this
theorem restR_mem {ls : List Lot} {io : Option ByteArray} {ps : List Pk} (hid : (ls.map Lot.id).Nodup) (h : PksOk ls io ps) {y : Lot} (hy : y ∈ restR ls ps) : ∃ x ∈ ls, y.id = x.id ∧ y.inst = x.inst ∧ (y = x ∨ ∃ p ∈ ps, PkOk ls io p x ∧ x.qty ≠ p.qty ∧ y = cutB x p.qty) := by
 obtain ⟨x, hx, e⟩ := List.mem_filterMap.1 hy
 refine ⟨x, hx, leftO_id e, ?_⟩
 cases hp : pkOf ps x.id with
 | none => rw [leftO_none hp] at e; injection e with e; exact ⟨by rw [e], .inl e.symm⟩
 | some p =>
   rw [leftO_some hp] at e
   split at e
   ·cases e
   ·rename_i hq
    injection e with e
    obtain ⟨hpm, hpl⟩ := pkOf_mem hp
    obtain ⟨x', hx'⟩ := h.ok p hpm
    obtain rfl : x' = x := nd_inj hid (lotOf_mem hx'.lot).1 hx (by rw [(lotOf_mem hx'.lot).2, hpl])
    exact ⟨by rw [← e]; rfl, .inr ⟨p, hpm, hx', hq, e.symm⟩⟩
theorem restR_sub (ls : List Lot) (ps : List Pk) : List.Sublist ((restR ls ps).map Lot.id) (ls.map Lot.id) := by
 unfold restR
 induction ls with
 | nil => exact List.Sublist.slnil
 | cons x r ih =>
   cases h : leftO ps x with
   | none => rw [List.filterMap_cons_none h, List.map_cons]; exact List.Sublist.cons _ ih
   | some y => rw [List.filterMap_cons_some h, List.map_cons, List.map_cons, leftO_id h]; exact List.Sublist.cons_cons _ ih
theorem pk_lt {ls : List Lot} {io : Option ByteArray} {p : Pk} {x : Lot} (hx : x.ok) (h : PkOk ls io p x) (hq : x.qty ≠ p.qty) : vl p.qty < vl x.qty := by
 have h1 := h.le
 have h2 : vl p.qty ≠ vl x.qty := fun e => hq (by
  have a := h.can
  have b := hx.cq
  unfold Can at a b
  rw [← a, ← b, e])
 omega
theorem rest_ok {ls : List Lot} {io : Option ByteArray} {ps : List Pk} (ha : AllOk ls) (h : PksOk ls io ps) : AllOk (restR ls ps) := by
 refine ⟨Nat.le_trans (restR_len ls ps) ha.len, fun y hy => ?_, List.Nodup.sublist (restR_sub ls ps) ha.nd⟩
 obtain ⟨x, hx, _, _, e | ⟨p, _, hp, hq, e⟩⟩ := restR_mem ha.nd h hy
 ·rw [e]; exact ha.ok x hx
 ·have ho := lchk_zero.1 (ha.ok x hx)
  rw [e]
  exact lchk_zero.2 (cutB_ok ho hp.pos (pk_lt ho hp hq))
theorem taken_mid {ls : List Lot} {io : Option ByteArray} {ps : List Pk} (ha : AllOk ls) (hti : ∀ l ∈ ls, l.tiny) (h : PksOk ls io ps) (h13 : ∀ p ∈ ps, p.qty.size ≤ 13) {y : Lot} (hy : y ∈ takenR ls ps) : y.mid := by
 obtain ⟨p, hpm, rfl⟩ := List.mem_map.1 hy
 obtain ⟨x, hp⟩ := h.ok p hpm
 have hx := (lotOf_mem hp.lot).1
 rw [tknO_some hp.lot]
 split
 ·exact (hti x hx).mid
 ·rename_i hq
  have ho := lchk_zero.1 (ha.ok x hx)
  exact (cut_sizes (hti x hx) ho (h13 p hpm) hp.pos (pk_lt ho hp hq)).1
theorem taken_is {ls : List Lot} {io : Option ByteArray} {p : Pk} {x : Lot} (h : PkOk ls io p x) : (tknO ls p).id = p.lot ∧ (tknO ls p).qty = p.qty := by
 rw [tknO_some h.lot]
 have := (lotOf_mem h.lot).2
 split
 ·rename_i e; exact ⟨this, e⟩
 ·exact ⟨this, rfl⟩
theorem unpicked {ls : List Lot} {ps : List Pk} : (restR ls ps).filter (fun x => !(ps.any fun p => decide (p.lot = x.id))) = ls.filter (fun x => !(ps.any fun p => decide (p.lot = x.id))) := by
 have hk : ∀ x : Lot, (ps.any fun p => decide (p.lot = x.id)) = true ↔ pkOf ps x.id ≠ none := by
  intro x
  rw [List.any_eq_true, ne_eq, pkOf_none]
  constructor
  ·rintro ⟨p, hp, e⟩ hn; exact hn p hp (by simpa using e)
  ·intro hn
   refine Classical.byContradiction fun h => hn fun p hp e => h ⟨p, hp, by simpa using e⟩
 unfold restR
 induction ls with
 | nil => rfl
 | cons x r ih =>
   by_cases h : (ps.any fun p => decide (p.lot = x.id)) = true
   ·rw [List.filter_cons_of_neg (by rw [h]; decide)]
    cases hl : leftO ps x with
    | none => rw [List.filterMap_cons_none hl, ih]
    | some y => rw [List.filterMap_cons_some hl, List.filter_cons_of_neg (by rw [leftO_id hl, h]; decide), ih]
   ·have hn : pkOf ps x.id = none := Classical.byContradiction fun e => h ((hk x).2 e)
    have hf : (ps.any fun p => decide (p.lot = x.id)) = false := by simpa using h
    rw [List.filterMap_cons_some (leftO_none hn), List.filter_cons_of_pos (by rw [hf]; rfl), List.filter_cons_of_pos (by rw [hf]; rfl), ih]
theorem PksOk.any {ls : List Lot} {io : Option ByteArray} {ps : List Pk} (h : PksOk ls io ps) : PksOk ls none ps :=
 ⟨h.nd, fun p hp => by obtain ⟨x, hx⟩ := h.ok p hp; exact ⟨x, hx.lot, (fun _ e => by cases e), hx.can, hx.pos, hx.le⟩⟩
structure PkAt (w : World) (p : Addr) (x : Pk) : Prop where
 c0 : w.cell? p = some (.string x.lot)
 c1 : w.cell? ⟨p.block, p.off + 1, none⟩ = some (.string x.qty)
theorem PkAt.below {w w' : World} {p : Addr} {x : Pk} {B : Nat} (h : PkAt w p x) (hb : Below B w w') (hp : p.block < B) : PkAt w' p x :=
 ⟨(hb.cell hp).trans h.c0, (hb.cell (p := ⟨p.block, p.off + 1, none⟩) hp).trans h.c1⟩
theorem PkAt.drew {w : World} {p : Addr} {x : Pk} (h : PkAt w p x) : PkAt w.drew p x := ⟨h.c0, h.c1⟩
def RdK (n₀ : Nat) (w : World) (A : Option Addr) (ps : List Pk) : Prop :=
 ps ≠ [] → ∃ ad : Addr, A = some ad ∧ ad.block < n₀ ∧ ∀ (j : Nat) (p : Pk), ps[j]? = some p → PkAt w (ad.add (j * 2)) p
theorem RdK.nil (n₀ : Nat) (w : World) (A : Option Addr) : RdK n₀ w A [] := fun h => absurd rfl h
theorem RdK.below {n₀ : Nat} {w w' : World} {A : Option Addr} {ps : List Pk} (h : RdK n₀ w A ps) (hb : Below n₀ w w') : RdK n₀ w' A ps := by
 intro hl
 obtain ⟨ad, rfl, h1, h2⟩ := h hl
 exact ⟨ad, rfl, h1, fun j l hj => (h2 j l hj).below hb (by rw [add_block]; exact h1)⟩
theorem RdK.mono {n₀ n₁ : Nat} {w : World} {A : Option Addr} {ps : List Pk} (h : RdK n₀ w A ps) (hn : n₀ ≤ n₁) : RdK n₁ w A ps := by
 intro hl
 obtain ⟨ad, rfl, h1, h2⟩ := h hl
 exact ⟨ad, rfl, Nat.lt_of_lt_of_le h1 hn, h2⟩
theorem RdK.take {n : Nat} {w : World} {A : Option Addr} {ps : List Pk} (h : RdK n w A ps) (k : Nat) : RdK n w A (ps.take k) := by
 intro hl
 obtain ⟨ad, e, h1, h2⟩ := h (by intro e; rw [e] at hl; simp at hl)
 exact ⟨ad, e, h1, fun j l hj => h2 j l (by rw [List.getElem?_take] at hj; split at hj; exact hj; cases hj)⟩
def PkBox (W : World) (B : Nat) (p : Pk) : Prop := W.heap[B]? = some (.cells p.cells 43 (0, 0))
theorem PkBox.below {W W' : World} {B : Nat} {p : Pk} (h : PkBox W B p) (hb : Below W.heap.size W W') : PkBox W' B p := (hb.block B (Array.getElem?_eq_some_iff.1 h).1).trans h
theorem PkBox.lt {W : World} {B : Nat} {p : Pk} (h : PkBox W B p) : B < W.heap.size := (Array.getElem?_eq_some_iff.1 h).1
def flatK (ps : List Pk) : List Value := ps.flatMap fun x => x.cells.toList
theorem flatK_append (a b : List Pk) : flatK (a ++ b) = flatK a ++ flatK b := by simp [flatK]
theorem flatK_cons (x : Pk) (a : List Pk) : flatK (x :: a) = x.cells.toList ++ flatK a := by simp [flatK]
theorem flatK_len (ps : List Pk) : (flatK ps).length = ps.length * 2 := by
 induction ps with
 | nil => rfl
 | cons x r ih => rw [flatK_cons, List.length_append, ih, List.length_cons]; simp; omega
theorem pkcells_one (x : Pk) : ∀ u ∈ x.cells.toList, u.oneCell' = true := by
 intro u hu
 simp [Pk.cells] at hu
 rcases hu with rfl | rfl <;> rfl
theorem positive20_any (a : ByteArray) (ha : a.size ≤ 1000000) (w : World) : Calls Tryz.prog 68 #[.string a] w fun e w' => e = .returned (.bool (decide (0 < vl a))) ∧ Below w.heap.size w w' := by
 have HC := hI (fun W => Compare_any a ⟨#[]⟩ W (by omega) (by decide))
 have HZ : Hid (vl ⟨#[]⟩ = 0) := by show vl ⟨#[]⟩ = 0; kernel_rfl
 go_enter Tryz.func68, Tryz.ntmps68
 go_wp2_with fail
 refine (HC.out _).mono ?_
 rintro e w1 ⟨rfl, b1⟩
 have HB := hI b1
 clear b1
 rw [HZ.out]
 by_cases h : 0 < vl a
 ·have t1 : decide (cmpI (vl a) 0 > 0) = true := decide_eq_true (cmpI_gt.2 h)
  have t2 : decide (0 < cmpI (vl a) 0) = true := t1
  have HD := hI (decide_eq_true h)
  clear h
  go_wp2_with fail
  go_ret
  exact ⟨by rw [HD.out]; rfl, HB.out⟩
 ·have t1 : decide (cmpI (vl a) 0 > 0) = false := decide_eq_false (fun x => h (cmpI_gt.1 x))
  have t2 : decide (0 < cmpI (vl a) 0) = false := t1
  have HD := hI (decide_eq_false h)
  clear h
  go_wp2_with fail
  go_ret
  exact ⟨by rw [HD.out]; rfl, HB.out⟩
theorem least20_any (a b : ByteArray) (ha : a.size ≤ 1000000) (hb : b.size ≤ 1000000) (w : World) : Calls Tryz.prog 74 #[.string a, .string b] w fun e w' => e = .returned (.string (if vl a < vl b then a else b)) ∧ Below w.heap.size w w' := by
 have HC := hI (fun W => Compare_any a b W (by omega) (by omega))
 obtain ⟨r, hr⟩ : ∃ r, (if vl a < vl b then a else b) = r := ⟨_, rfl⟩
 rw [hr]
 have HR := hI hr
 clear hr
 go_enter Tryz.func74, Tryz.ntmps74
 go_wp2_with fail
 refine (HC.out _).mono ?_
 rintro e w1 ⟨rfl, b1⟩
 have HB := hI b1
 clear b1
 by_cases h : vl a < vl b
 ·have t1 : decide (cmpI (vl a) (vl b) < 0) = true := decide_eq_true (cmpI_lt.2 h)
  have HD : Hid (a = r) := (if_pos h).symm.trans HR.out
  clear h
  go_wp2_with fail
  go_ret
  exact ⟨by rw [← HD.out]; rfl, HB.out⟩
 ·have t1 : decide (cmpI (vl a) (vl b) < 0) = false := decide_eq_false (fun x => h (cmpI_lt.1 x))
  have HD : Hid (b = r) := (if_neg h).symm.trans HR.out
  clear h
  go_wp2_with fail
  go_ret
  exact ⟨by rw [← HD.out]; rfl, HB.out⟩
theorem least20_I (x y : Int) (hx : (I x).size ≤ 1000000) (hy : (I y).size ≤ 1000000) (w : World) : Calls Tryz.prog 74 #[.string (I x), .string (I y)] w fun e w' => e = .returned (.string (I (min x y))) ∧ Below w.heap.size w w' := by
 refine (least20_any (I x) (I y) hx hy w).mono ?_
 rintro e w1 ⟨rfl, b1⟩
 refine ⟨?_, b1⟩
 rw [vl_I, vl_I]
 split
 ·rw [show min x y = x from by omega]
 ·rw [show min x y = y from by omega]
structure PkClo (P : Pk → Bool) (f : Nat) (bd : Array Value) (w : World) (ps : List Pk) : Prop where
 en : ∀ args w, (callFunc f args).run Tryz.prog w = .ok (.enter f args) w
 run : ∀ W, Below w.heap.size w W → ∀ p ∈ ps, Calls Tryz.prog f (#[p.enc] ++ bd) W fun e w' => e = .returned (.bool (P p)) ∧ Below W.heap.size W w'
def IdxIs (P : Pk → Bool) (ps : List Pk) (z : Int) : Prop := (∃ (k : Nat) (p : Pk), z = (k : Int) ∧ ps[k]? = some p ∧ P p = true ∧ ∀ q ∈ ps.take k, P q = false) ∨ (z = -1 ∧ ∀ q ∈ ps, P q = false)
theorem idxPicks_any (P : Pk → Bool) (f : Nat) (bd : Array Value) (n₀ : Nat) (A : Option Addr) (ps : List Pk) (c : Nat) (hlen : ps.length ≤ 1000000) (w : World) (hR : RdK n₀ w A ps) (hn : n₀ ≤ w.heap.size) (hC : PkClo P f bd w ps) :
 Calls Tryz.prog 71 #[.slice A ps.length c, .func (.func f) #[] bd] w fun e w' => (∃ z : Int, e = .returned (.int .i64 z) ∧ IdxIs P ps z) ∧ Below w.heap.size w w' := by
 have HR := hI hR
 have HC := hI hC
 have hen := hC.en
 clear hR hC
 go_enter Tryz.func71, Tryz.ntmps71
 go_wp2_with fail
 go_loopw [5, 8] (fun _ v wr => ∃ k : Nat, v = .int .i64 (k : Int) ∧ k ≤ ps.length ∧ (∀ x ∈ ps.take k, P x = false) ∧ Below w.heap.size w wr) (fun _ v _ => ps.length - (intOf v).toNat)
 case atStart => exact ⟨0, rfl, by omega, fun p hp => by simp at hp, Below.refl _ _⟩
 case round =>
  obtain ⟨k, rfl, hk, hno, hb⟩ := hrel
  have HNO := hI hno
  have HB := hI hb
  clear hno hb
  rcases Nat.lt_or_ge k ps.length with hlt | hge
  ·obtain ⟨p, hp⟩ : ∃ p, ps[k]? = some p := ⟨_, List.getElem?_eq_getElem hlt⟩
   obtain ⟨ad, rfl, had, hcell⟩ := HR.out (by intro e; rw [e] at hlt; cases hlt)
   have hcx : decide ((k : Int) < (ps.length : Int)) = true := by simp; omega
   obtain ⟨c0, c1⟩ := (hcell k p hp).below (HB.out.mono hn) (by rw [add_block]; exact had)
   have HTK := hI (take_snoc hp)
   have HP := hI hp
   have hcl := HC.out.run _ HB.out p (List.mem_of_getElem? hp)
   unfold Pk.enc Pk.cells at hcl
   have HCL := hI hcl
   clear hcell hp hcl
   go_wp2_with fail
   refine HCL.out.mono ?_
   rintro e w1 ⟨rfl, b1⟩
   have HB1 := hI (HB.out.trans (b1.mono HB.out.size))
   clear b1 HCL c0 c1
   cases hpp : P p
   case true =>
    have HF : Hid (IdxIs P ps (k : Int)) := .inl ⟨k, p, rfl, HP.out, hpp, HNO.out⟩
    clear hpp
    go_wp2_with fail
    go_ret
    exact ⟨⟨_, rfl, HF.out⟩, HB1.out⟩
   case false =>
    have HE := hI hpp
    clear hpp
    go_wp2_with fail
    go_roundw
    case rel =>
     refine ⟨k + 1, by go_num, by omega, fun x hx => ?_, HB1.out⟩
     rw [HTK.out, List.mem_append] at hx
     rcases hx with hx | hx
     ·exact HNO.out x hx
     ·rw [List.mem_singleton] at hx; subst hx; exact HE.out
    case measure => simp [intOf]; omega
  ·have hcx : decide ((k : Int) < (ps.length : Int)) = false := by simp; omega
   have HF : Hid (IdxIs P ps (-1)) := .inr ⟨rfl, fun x hx => HNO.out x (by rw [List.take_of_length_le hge]; exact hx)⟩
   go_wp2_with fail
   go_ret
   exact ⟨⟨_, rfl, HF.out⟩, HB.out⟩
theorem hasPicks_any (P : Pk → Bool) (f : Nat) (bd : Array Value) (n₀ : Nat) (A : Option Addr) (ps : List Pk) (c : Nat) (hlen : ps.length ≤ 1000000) (w : World) (hR : RdK n₀ w A ps) (hn : n₀ ≤ w.heap.size) (hC : PkClo P f bd w ps) :
 Calls Tryz.prog 61 #[.slice A ps.length c, .func (.func f) #[] bd] w fun e w' => e = .returned (.bool (ps.any P)) ∧ Below w.heap.size w w' := by
 have HI := hI (idxPicks_any P f bd n₀ A ps c hlen w hR hn hC)
 clear hR hC
 go_enter Tryz.func61, Tryz.ntmps61
 go_wp2_with fail
 refine HI.out.mono ?_
 rintro e w1 ⟨⟨z, rfl, hz⟩, b1⟩
 have HB1 := hI b1
 clear b1 HI
 rcases hz with ⟨k, p, rfl, h1, h2, _⟩ | ⟨rfl, h⟩
 ·have t1 : decide ((0 : Int) ≤ (k : Int)) = true := decide_eq_true (by omega)
  have t2 : decide ((k : Int) ≥ 0) = true := t1
  have HA : Hid (ps.any P = true) := List.any_eq_true.2 ⟨p, List.mem_of_getElem? h1, h2⟩
  clear h1 h2
  go_wp2_with fail
  go_ret
  exact ⟨by rw [HA.out]; rfl, HB1.out⟩
 ·have HA : Hid (ps.any P = false) := List.any_eq_false.2 fun q hq => by rw [h q hq]; exact Bool.false_ne_true
  clear h
  go_wp2_with fail
  go_ret
  exact ⟨by rw [HA.out]; rfl, HB1.out⟩
theorem pickClo_any (x : Lot) (Bx : Nat) (p : Pk) (w : World) (h : LotBox w Bx x) :
 Calls Tryz.prog 72 #[p.enc, .pointer (some ⟨Bx, 0, none⟩)] w fun e w' => e = .returned (.bool (decide (p.lot = x.id))) ∧ Below w.heap.size w w' := by
 obtain ⟨W0, hW0⟩ : ∃ W0, w.alloc (.cells p.cells 43) = W0 := ⟨_, rfl⟩
 have hb : Below w.heap.size w W0 := by rw [← hW0]; exact (Below.refl _ w).alloc (Nat.le_refl _) _
 have k1 : PkBox W0 w.heap.size p := by rw [← hW0]; exact heap_alloc_new w _
 have k0 : LotBox W0 Bx x := h.below hb
 have c0 := Lib.cell_of_heap k0 0
 have d0 := Lib.cell_of_heap k1 0
 simp [Lot.cells, Pk.cells] at c0 d0
 have hse := str_eq p.lot x.id
 have HB := hI hb
 clear k0 k1 h hb
 unfold Pk.cells at hW0
 unfold Pk.enc Pk.cells
 go_enter Tryz.func72, Tryz.ntmps72
 go_wp2_with fail
 go_ret
 exact ⟨rfl, HB.out⟩
theorem pickClo_is (x : Lot) (Bx : Nat) (w : World) (ps : List Pk) (h : LotBox w Bx x) : PkClo (fun p => decide (p.lot = x.id)) 72 #[.pointer (some ⟨Bx, 0, none⟩)] w ps :=
 ⟨enters_of Tryz.func72 (by kernel_rfl) rfl, fun W hW p _ => pickClo_any x Bx p W (h.below hW)⟩
end Go.Proofs.YtdnmpgoigagjmaaGreatDoor
