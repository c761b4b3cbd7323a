/-
  The plain side of tranchelaw39.AccrualSums; what its walk keeps.
-/
import Derived.Test.YtpgjmdggblnfkaaGreatDoorP41
import Derived.Test.YtpgjmdggblnfkaaGreatDoorS45
set_option linter.unusedVariables false
set_option linter.unusedSimpArgs false
namespace Go.Proofs.YtpgjmdggblnfkaaGreatDoor
open Go.RowKit Tr Go.Shelf

theorem foldl_rsum : ∀ (l : List Rat) (a : Rat), l.foldl (fun a b => a + b) a = a + rsum l
  | [], a => by simp only [List.foldl_nil, rsum, Rat.add_zero]
  | q :: l, a => by rw [List.foldl_cons, foldl_rsum l, rsum, Rat.add_assoc]
theorem qsum_rsum (l : List Rat) : qsum l = rsum l := by unfold qsum; rw [foldl_rsum, Rat.zero_add]
theorem isum_snoc : ∀ (l : List Int) (z : Int), isum (l ++ [z]) = isum l + z
  | [], z => by simp [isum]
  | q :: l, z => by rw [List.cons_append, isum, isum, isum_snoc l z, Int.add_assoc]
theorem foldl_sumBy (f : SLot → Int) : ∀ (l : List SLot) (a : Int), l.foldl (fun n x => n + f x) a = a + sumBy f l
  | [], a => by simp [sumBy]
  | x :: l, a => by
    have h := foldl_sumBy f l
    unfold sumBy at *
    rw [List.foldl_cons, List.foldl_cons, h, h (0 + f x)]
    omega
theorem sumBy_cons (f : SLot → Int) (x : SLot) (l : List SLot) : sumBy f (x :: l) = f x + sumBy f l := by
  have := foldl_sumBy f l (0 + f x)
  unfold sumBy at *
  rw [List.foldl_cons, this]
  omega
theorem face_sum {i : Inst} {d : Int} (hk : i.kind = 2) (hm : i.matures ≤ d) : ∀ (ls : List SLot), (∀ x ∈ ls, x.1.opn ≤ d) → rsum (ls.map fun l => exactQ i l.1 d) = fv i.fn i.fd * ((sumBy qtyOf ls : Int) : Rat) - ((sumBy costOf ls : Int) : Rat)
  | [], _ => by
    simp only [List.map_nil, rsum]
    rw [show sumBy qtyOf [] = 0 from rfl, show sumBy costOf [] = 0 from rfl]
    grind
  | x :: ls, h => by
    have ih := face_sum hk hm ls (fun y hy => h y (List.mem_cons_of_mem _ hy))
    have hx := h x (List.mem_cons_self ..)
    rw [List.map_cons, rsum, ih, sumBy_cons, sumBy_cons]
    have e : exactQ i x.1 d = fv i.fn i.fd * ((qtyOf x : Int) : Rat) - ((costOf x : Int) : Rat) := by
      unfold exactQ; rw [if_neg (by omega), if_pos hm]; rfl
    rw [e]
    push_cast
    grind
/-- the sum over the first k lots -/
def sumTo (i : Inst) (own : List SLot) (d : Int) (k : Nat) : Int := isum ((own.take k).map fun l => rnd (exactQ i l.1 d))
theorem sumTo_succ {i : Inst} {own : List SLot} {d : Int} {k : Nat} {x : SLot} (h : own[k]? = some x) : sumTo i own d (k + 1) = sumTo i own d k + rnd (exactQ i x.1 d) := by
  obtain ⟨hlt, he⟩ := List.getElem?_eq_some_iff.1 h
  unfold sumTo
  rw [List.take_succ_eq_append_getElem hlt, he, List.map_append, List.map_cons, List.map_nil, isum_snoc]
theorem sums_lots (i : Inst) (own : List SLot) (d : Int) : (own ≠ [] → (sumTo i own d own.length - rnd (qsum (own.map fun l => exactQ i l.1 d))).natAbs < own.length) ∧ (own = [] → sumTo i own d own.length - rnd (qsum (own.map fun l => exactQ i l.1 d)) = 0) := by
  constructor
  · intro h
    have := sums_close (own.map fun l => exactQ i l.1 d) (fun e => h (List.map_eq_nil_iff.1 e))
    rw [List.map_map, List.length_map] at this
    unfold sumTo
    rw [List.take_of_length_le (Nat.le_refl _), qsum_rsum]
    exact this
  · rintro rfl
    have e : rnd (qsum (([] : List SLot).map fun l => exactQ i l.1 d)) = 0 := by kernel_rfl
    rw [e]
    rfl
theorem sums_one (i : Inst) (own : List SLot) (d : Int) (h1 : own.length = 1) {k : Nat} {x : SLot} (h : own[k]? = some x) : rnd (exactQ i x.1 d) = rnd (qsum (own.map fun l => exactQ i l.1 d)) := by
  match own, h1 with
  | [y], _ =>
    have hk : k = 0 := by have := (List.getElem?_eq_some_iff.1 h).1; simp at this; omega
    subst hk
    simp at h
    subst h
    rw [qsum_rsum, List.map_cons, List.map_nil, rsum, rsum, Rat.add_zero]
theorem isum_bd {K : Nat} : ∀ (l : List Int), (∀ z ∈ l, z.natAbs < K) → (isum l).natAbs ≤ l.length * K
  | [], _ => by simp [isum]
  | z :: l, h => by
    have h1 := h z (List.mem_cons_self ..)
    have h2 := isum_bd l (fun y hy => h y (List.mem_cons_of_mem _ hy))
    rw [isum, List.length_cons, Nat.add_mul]
    omega
theorem AOk.own {i : Inst} {ls : List SLot} {d : Int} (h : AOk i ls d) (s : ByteArray) : AOk i (ownL ls s) d := by
  have hsub : (ownL ls s).Sublist ls := List.filter_sublist
  refine ⟨h.small, h.ok, ⟨?_, ?_, ?_⟩, ?_, h.dy⟩
  · have := h.lots.len
    have := (hsub.map Subtype.val).length_le
    omega
  · intro l hl
    exact h.lots.ok l ((hsub.map Subtype.val).subset hl)
  · exact ((hsub.map Subtype.val).map Lot.id).nodup h.lots.ids
  · have := h.len
    have := hsub.length_le
    omega
theorem ownL_own (ls : List SLot) (s : ByteArray) : ownL (ownL ls s) s = ownL ls s := by unfold ownL; rw [List.filter_filter]; simp
theorem AOk.one {i : Inst} {ls : List SLot} {d : Int} (h : AOk i ls d) {k : Nat} {x : SLot} (hx : (ownL ls i.id)[k]? = some x) : BOk i x.1 := by
  have hm := List.mem_of_getElem? hx
  have h2 := List.mem_filter.1 hm
  exact ⟨h.small, h.ok, x.2, (h.lots.ok x.1 (List.mem_map.2 ⟨x, h2.1, rfl⟩)).2, by simpa using h2.2⟩
theorem exists_slots (ls : List Lot) (h : ∀ l ∈ ls, l.sized) : ∃ sls : List SLot, sls.map Subtype.val = ls :=
  ⟨ls.attach.map fun x => ⟨x.1, h x.1 x.2⟩, by rw [List.map_map]; exact List.attach_map_subtype_val ls⟩
theorem RdL.rdb {w : World} {A : Option Addr} {ls : List SLot} (h : RdL w A (ls.map Subtype.val)) : RdB w.heap.size w A ls := by
  intro hl
  obtain ⟨ad, rfl, h1, h2⟩ := h (fun e => hl (List.map_eq_nil_iff.1 e))
  exact ⟨ad, rfl, h1, fun j l hj => h2 j l.1 (by rw [List.getElem?_map, hj]; rfl)⟩
theorem AOk.tot_bd {i : Inst} {ls : List SLot} {d : Int} (h : AOk i ls d) : BdQ (qsum ((ownL ls i.id).map fun l => exactQ i l.1 d)) (100 * (qB + 1) + 1) := by
  have e : ((ownL ls i.id).map fun l => exactQ i l.1 d) = ((ownL ls i.id).attach.map (fun l => (⟨exactQ i l.1.1 d, exact_bd i l.1.1 d h.ex l.1.2 (h.opn _ (List.mem_filter.1 l.2).1)⟩ : SQ))).map Subtype.val := by
    rw [List.map_map]
    conv => lhs; rw [← List.attach_map_subtype_val (ownL ls i.id), List.map_map]
    rfl
  rw [e]
  refine (qsum_bd _).mono ?_
  rw [List.length_map, List.length_attach]
  have : (ownL ls i.id).length ≤ 99 := Nat.le_trans (List.length_filter_le _ _) h.len
  have := Nat.mul_le_mul_right (qB + 1) (show (ownL ls i.id).length ≤ 100 by omega)
  omega
theorem AOk.tot_size {i : Inst} {ls : List SLot} {d : Int} (h : AOk i ls d) : (I (rnd (qsum ((ownL ls i.id).map fun l => exactQ i l.1 d)))).size ≤ 1000000 := by
  have := rnd_size h.tot_bd
  unfold qB at this; omega
theorem AOk.sum_size {i : Inst} {ls : List SLot} {d : Int} (h : AOk i ls d) (k : Nat) : (I (sumTo i (ownL ls i.id) d k)).size ≤ 1000000 := by
  obtain ⟨K, hK⟩ : ∃ K, K = qB + 1 := ⟨_, rfl⟩
  have hz : ∀ z ∈ ((ownL ls i.id).take k).map (fun l => rnd (exactQ i l.1 d)), z.natAbs < 10 ^ K := by
    intro z hz
    obtain ⟨x, hx, rfl⟩ := List.mem_map.1 hz
    have hx2 := (List.mem_filter.1 (List.mem_of_mem_take hx)).1
    have h1 := (exact_bd i x.1 d h.ex x.2 (h.opn _ hx2)).1
    have h2 := rnd_abs (exactQ i x.1 d)
    rw [hK, Nat.pow_succ]
    have : 0 < 10 ^ qB := Nat.pow_pos (by omega)
    omega
  have h1 := isum_bd _ hz
  have h2 : (ownL ls i.id).length ≤ 99 := Nat.le_trans (List.length_filter_le _ _) h.len
  rw [List.length_map, List.length_take] at h1
  have h3 : (sumTo i (ownL ls i.id) d k).natAbs < 10 ^ (K + 2) := by
    unfold sumTo
    rw [Nat.pow_add]
    have := Nat.mul_le_mul_right (10 ^ K) (show min k (ownL ls i.id).length ≤ 99 by omega)
    have : 0 < 10 ^ K := Nat.pow_pos (by omega)
    omega
  have h4 := I_size_le h3
  unfold qB at hK
  omega
theorem AOk.exact_size {i : Inst} {ls : List SLot} {d : Int} (h : AOk i ls d) {x : SLot} (hx : x ∈ ownL ls i.id) : (I (rnd (exactQ i x.1 d))).size ≤ 1000000 := by
  have := rnd_size (exact_bd i x.1 d h.ex x.2 (h.opn _ (List.mem_filter.1 hx).1))
  unfold qB at this; omega
theorem small_size {z : Int} (h : z.natAbs < 100) : (I z).size ≤ 3 := I_size_le (k := 2) h

/-- the box of the instrument, and the world behind -/
structure SG (w : World) (i : Inst) (W : World) : Prop where
  ib : InstBox W w.heap.size i
  bel : Below w.heap.size w W
theorem SG.below {w : World} {i : Inst} {W W' : World} (h : SG w i W) (hb : Below W.heap.size W W') : SG w i W' := ⟨h.ib.below hb, h.bel.trans (hb.mono h.bel.size)⟩
theorem SG.calls {w : World} {i : Inst} {f : Nat} {args : Array Value} {v : Value} (ht : Tabs w) (h : ∀ W, Tabs W → Calls Tryz.prog f args W fun e w' => e = .returned v ∧ Below W.heap.size W w') :
    ∀ W, SG w i W → Calls Tryz.prog f args W fun e wn => e = .returned v ∧ SG w i wn ∧ wn.cell? ⟨w.heap.size, 6, none⟩ = some (.string i.fn) ∧ wn.cell? ⟨w.heap.size, 7, none⟩ = some (.string i.fd) := by
  intro W hG
  refine (h W (ht.below hG.bel)).mono ?_
  rintro e wn ⟨rfl, bn⟩
  exact ⟨rfl, hG.below bn, Lib.cell_of_heap (hG.below bn).ib 6, Lib.cell_of_heap (hG.below bn).ib 7⟩
/-- .. and a slice of lots of one's own -/
structure SI (w : World) (i : Inst) (n1 : Nat) (A' : Option Addr) (own : List SLot) (W : World) : Prop where
  sg : SG w i W
  rd : RdB n1 W A' own
  n1 : n1 ≤ W.heap.size
theorem SI.below {w : World} {i : Inst} {n1 : Nat} {A' : Option Addr} {own : List SLot} {W W' : World} (h : SI w i n1 A' own W) (hb : Below W.heap.size W W') : SI w i n1 A' own W' :=
  ⟨h.sg.below hb, h.rd.below (hb.mono h.n1), Nat.le_trans h.n1 hb.size⟩
/-- .. and the box of the round's lot -/
structure SX (w : World) (i : Inst) (n1 : Nat) (A' : Option Addr) (own : List SLot) (x : SLot) (B : Nat) (W : World) : Prop where
  si : SI w i n1 A' own W
  xb : LotBox W B x.1
theorem SX.below {w : World} {i : Inst} {n1 : Nat} {A' : Option Addr} {own : List SLot} {x : SLot} {B : Nat} {W W' : World} (h : SX w i n1 A' own x B W) (hb : Below W.heap.size W W') : SX w i n1 A' own x B W' :=
  ⟨h.si.below hb, h.xb.below hb⟩
end Go.Proofs.YtpgjmdggblnfkaaGreatDoor
