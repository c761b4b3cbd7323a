/-
  A lot put into a list behind the last one whose instrument is not greater: plainly.
  The walk of lot.Find.
-/
import Derived.Test.YtdnmpgoigagjmaaGreatDoorA44
import Derived.Test.YtdnmpgoigagjmaaGreatDoorA33
import Derived.Test.YtdnmpgoigagjmaaGreatDoorA38
import Derived.Sort.Walk0
import Derived.Test.YtdnmpgoigagjmaaGreatDoorA39
set_option linter.unusedVariables false
set_option linter.unusedSimpArgs false
namespace Go.Proofs.YtdnmpgoigagjmaaGreatDoor
open Go.RowKit Tr Go.Shelf
def bl (a b : ByteArray) : Bool := Op.bytesLess a.toList b.toList
theorem bl_iff (a b : ByteArray) : bl a b = true ↔ a.toList < b.toList := by unfold bl; rw [bytesLess_eq]; exact decide_eq_true_iff
theorem bl_irr (a : ByteArray) : bl a a = false := by
 cases h : bl a a
 ·rfl
 ·exact absurd ((bl_iff a a).1 h) (List.lt_irrefl _)
theorem bl_asymm {a b : ByteArray} (h : bl a b = true) : bl b a = false := by
 cases h2 : bl b a
 ·rfl
 ·exact absurd (List.lt_trans ((bl_iff a b).1 h) ((bl_iff b a).1 h2)) (List.lt_irrefl _)
structure IsPl (ls : List Lot) (s : ByteArray) (k : Nat) : Prop where
 le : k ≤ ls.length
 hi : ∀ i y, k ≤ i → ls[i]? = some y → bl s y.inst = true
 lo : ∀ y, 0 < k → ls[k - 1]? = some y → bl s y.inst = false
theorem IsPl.not_lt {ls : List Lot} {s : ByteArray} {a b : Nat} (ha : IsPl ls s a) (hb : IsPl ls s b) : ¬ a < b := by
 intro h
 have hk : b - 1 < ls.length := by have := hb.le; omega
 have h1 := ha.hi (b - 1) _ (by omega) (List.getElem?_eq_getElem hk)
 have h2 := hb.lo _ (by omega) (List.getElem?_eq_getElem hk)
 rw [h1] at h2; cases h2
theorem IsPl.uniq {ls : List Lot} {s : ByteArray} {a b : Nat} (ha : IsPl ls s a) (hb : IsPl ls s b) : a = b := by
 have h1 := ha.not_lt hb
 have h2 := hb.not_lt ha
 omega
structure UpPl (ls : List Lot) (s : ByteArray) (n k : Nat) : Prop where
 le : k ≤ n
 hi : ∀ i y, k ≤ i → i < n → ls[i]? = some y → bl s y.inst = true
 lo : ∀ y, 0 < k → ls[k - 1]? = some y → bl s y.inst = false
theorem UpPl.start (ls : List Lot) (s : ByteArray) : UpPl ls s 0 0 := ⟨Nat.le_refl _, fun i y _ h => by omega, fun y h => by omega⟩
theorem UpPl.yes {ls : List Lot} {s : ByteArray} {n : Nat} {y : Lot} (hy : ls[n]? = some y) (h : bl s y.inst = false) : UpPl ls s (n + 1) (n + 1) :=
 ⟨Nat.le_refl _, fun i z h1 h2 => by omega, fun z _ hz => by rw [Nat.add_sub_cancel, hy] at hz; injection hz with hz; rw [← hz]; exact h⟩
theorem UpPl.no {ls : List Lot} {s : ByteArray} {n k : Nat} {y : Lot} (hu : UpPl ls s n k) (hy : ls[n]? = some y) (h : bl s y.inst = true) : UpPl ls s (n + 1) k :=
 ⟨Nat.le_succ_of_le hu.le, fun i z h1 h2 hz => by
   rcases Nat.lt_or_ge i n with h3 | h3
   ·exact hu.hi i z h1 h3 hz
   ·obtain rfl : i = n := by omega
    rw [hy] at hz; injection hz with hz; rw [← hz]; exact h, hu.lo⟩
theorem UpPl.done {ls : List Lot} {s : ByteArray} {n k : Nat} (hu : UpPl ls s n k) (hn : n = ls.length) : IsPl ls s k :=
 ⟨by have := hu.le; omega, fun i y h1 hy => hu.hi i y h1 (by rw [hn]; exact (List.getElem?_eq_some_iff.1 hy).1) hy, hu.lo⟩
def insAt {α : Type} (ls : List α) (k : Nat) (x : α) : List α := ls.take k ++ x :: ls.drop k
theorem insAt_len {α : Type} {ls : List α} {k : Nat} (x : α) (hk : k ≤ ls.length) : (insAt ls k x).length = ls.length + 1 := by unfold insAt; simp; omega
theorem insAt_take {α : Type} {ls : List α} {k : Nat} (x : α) (hk : k ≤ ls.length) : (insAt ls k x).take k = ls.take k := by
 unfold insAt; rw [List.take_append_of_le_length (by rw [List.length_take]; omega), List.take_of_length_le (by rw [List.length_take]; omega)]
theorem insAt_drop {α : Type} {ls : List α} {k : Nat} (x : α) (hk : k ≤ ls.length) : (insAt ls k x).drop (k + 1) = ls.drop k := by
 unfold insAt
 rw [List.drop_append, List.drop_eq_nil_of_le (by rw [List.length_take]; omega), List.length_take, Nat.min_eq_left hk, List.nil_append, show k + 1 - k = 1 from by omega]
 rfl
theorem insAt_rest {α : Type} {ls : List α} {k : Nat} (x : α) (hk : k ≤ ls.length) : (insAt ls k x).take k ++ (insAt ls k x).drop (k + 1) = ls := by
 rw [insAt_take x hk, insAt_drop x hk, List.take_append_drop]
theorem insAt_at {α : Type} {ls : List α} {k : Nat} (x : α) (hk : k ≤ ls.length) : (insAt ls k x)[k]? = some x := by
 unfold insAt; rw [List.getElem?_append_right (by rw [List.length_take]; omega), List.length_take, Nat.min_eq_left hk, Nat.sub_self]; rfl
theorem insAt_lo {α : Type} {ls : List α} {k i : Nat} (x : α) (hk : k ≤ ls.length) (hi : i < k) : (insAt ls k x)[i]? = ls[i]? := by
 unfold insAt; rw [List.getElem?_append_left (by rw [List.length_take]; omega), List.getElem?_take, if_pos hi]
theorem insAt_hi {α : Type} {ls : List α} {k i : Nat} (x : α) (hk : k ≤ ls.length) (hi : k ≤ i) : (insAt ls k x)[i + 1]? = ls[i]? := by
 unfold insAt
 rw [List.getElem?_append_right (by rw [List.length_take]; omega), List.length_take, Nat.min_eq_left hk, show i + 1 - k = (i - k) + 1 from by omega, List.getElem?_cons_succ, List.getElem?_drop]
 congr 1; omega
theorem insAt_mem {α : Type} {ls : List α} {k : Nat} {x y : α} : y ∈ insAt ls k x ↔ y = x ∨ y ∈ ls := by
 unfold insAt
 rw [List.mem_append, List.mem_cons]
 constructor
 ·rintro (h | h | h)
  ·exact .inr (List.mem_of_mem_take h)
  ·exact .inl h
  ·exact .inr (List.mem_of_mem_drop h)
 ·rintro (h | h)
  ·exact .inr (.inl h)
  ·rw [← List.take_append_drop k ls, List.mem_append] at h
   rcases h with h | h
   ·exact .inl h
   ·exact .inr (.inr h)
theorem insAt_map {α β : Type} (f : α → β) (ls : List α) (k : Nat) (x : α) : (insAt ls k x).map f = insAt (ls.map f) k (f x) := by unfold insAt; simp
theorem flatL_take (ls : List SLot) (k : Nat) (hk : k ≤ ls.length) : (flatL ls).take (k * 7) = flatL (ls.take k) := by
 have h := flatL_append (ls.take k) (ls.drop k)
 rw [List.take_append_drop] at h
 have hl : (flatL (ls.take k)).length = k * 7 := by rw [flatL_len, List.length_take, Nat.min_eq_left hk]
 rw [h, List.take_append_of_le_length (by omega), List.take_of_length_le (by omega)]
theorem flatL_drop (ls : List SLot) (k : Nat) (hk : k ≤ ls.length) : (flatL ls).drop (k * 7) = flatL (ls.drop k) := by
 have h := flatL_append (ls.take k) (ls.drop k)
 rw [List.take_append_drop] at h
 have hl : (flatL (ls.take k)).length = k * 7 := by rw [flatL_len, List.length_take, Nat.min_eq_left hk]
 rw [h, ← hl, List.drop_left]
theorem insAt_flat (ls : List SLot) (k : Nat) (x : SLot) (hk : k ≤ ls.length) : (flatL ls).take (k * 7) ++ (x.1.cells.toList ++ (flatL ls).drop (k * 7)) = flatL (insAt ls k x) := by
 rw [flatL_take ls k hk, flatL_drop ls k hk]; unfold insAt; rw [flatL_append]; rfl
structure AllOk (ls : List Lot) : Prop where
 len : ls.length ≤ 1000
 ok : ∀ l ∈ ls, lchk l = 0
 nd : (ls.map Lot.id).Nodup
theorem lallF_zero : ∀ (r pre : List Lot), lallF pre r = 0 ↔ (∀ l ∈ r, lchk l = 0) ∧ (r.map Lot.id).Nodup ∧ ∀ l ∈ r, l.id ∉ pre.map Lot.id
 | [], pre => by unfold lallF; simp
 | l :: r, pre => by
   unfold lallF
   by_cases h1 : lchk l = 0
   ·rw [if_neg (fun x => x h1)]
    by_cases h2 : l.id ∈ pre.map Lot.id
    ·rw [if_pos h2]
     exact ⟨fun h => absurd h (by decide), fun h => absurd h2 (h.2.2 l (List.mem_cons_self ..))⟩
    ·rw [if_neg h2, lallF_zero r (pre ++ [l])]
     constructor
     ·rintro ⟨a, b, c⟩
      refine ⟨fun x hx => ?_, ?_, fun x hx => ?_⟩
      ·rcases List.mem_cons.1 hx with rfl | hx
       ·exact h1
       ·exact a x hx
      ·rw [List.map_cons, List.nodup_cons]
       refine ⟨fun hm => ?_, b⟩
       obtain ⟨y, hy, e⟩ := List.mem_map.1 hm
       exact c y hy (by rw [List.map_append, List.mem_append]; exact .inr (by rw [e]; simp))
      ·rcases List.mem_cons.1 hx with rfl | hx
       ·exact h2
       ·exact fun hm => c x hx (by rw [List.map_append, List.mem_append]; exact .inl hm)
     ·rintro ⟨a, b, c⟩
      rw [List.map_cons, List.nodup_cons] at b
      refine ⟨fun x hx => a x (List.mem_cons_of_mem _ hx), b.2, fun x hx hm => ?_⟩
      rw [List.map_append, List.mem_append] at hm
      rcases hm with hm | hm
      ·exact c x (List.mem_cons_of_mem _ hx) hm
      ·simp at hm
       exact b.1 (List.mem_map.2 ⟨x, hx, hm⟩)
   ·rw [if_pos h1]
    exact ⟨fun h => absurd h h1, fun h => absurd (h.1 l (List.mem_cons_self ..)) h1⟩
theorem lall_zero (ls : List Lot) : lall ls = 0 ↔ AllOk ls := by
 unfold lall
 by_cases h : 1000 < ls.length
 ·rw [if_pos h]; exact ⟨fun x => absurd x (by decide), fun x => absurd x.len (by omega)⟩
 ·rw [if_neg h, lallF_zero]
  exact ⟨fun x => ⟨by omega, x.1, x.2.1⟩, fun x => ⟨x.ok, x.nd, by simp⟩⟩
theorem insAt_perm {α : Type} (ls : List α) (k : Nat) (x : α) : (insAt ls k x).Perm (x :: ls) := by
 unfold insAt
 refine List.perm_middle.trans ?_
 rw [List.take_append_drop]
theorem insAt_ok {ls : List Lot} {x : Lot} {k : Nat} (h : AllOk ls) (hx : lchk x = 0) (hid : ∀ y ∈ ls, y.id ≠ x.id) (hl : ls.length < 1000) : AllOk (insAt ls k x) := by
 have hp := insAt_perm ls k x
 refine ⟨by rw [hp.length_eq, List.length_cons]; omega, fun l hl => ?_, ?_⟩
 ·rcases insAt_mem.1 hl with rfl | h2
  ·exact hx
  ·exact h.ok l h2
 ·rw [(hp.map Lot.id).nodup_iff, List.map_cons, List.nodup_cons]
  exact ⟨fun hm => by obtain ⟨y, hy, e⟩ := List.mem_map.1 hm; exact hid y hy e, h.nd⟩
theorem insAt_find {ls : List Lot} {x : Lot} {k : Nat} (hk : k ≤ ls.length) (hid : ∀ y ∈ ls, y.id ≠ x.id) : findR (insAt ls k x) x.id 0 = (k, true) := by
 unfold insAt
 rw [findR_skip _ _ _ _ (fun y hy => hid y (List.mem_of_mem_take hy)), findR, if_pos rfl, List.length_take, Nat.min_eq_left hk, Nat.zero_add]
def SortedL (ls : List Lot) : Prop := ∀ i a b, ls[i]? = some a → ls[i + 1]? = some b → bl b.inst a.inst = false
theorem insAt_sorted {ls : List Lot} {x : Lot} {k : Nat} (hp : IsPl ls x.inst k) (h : SortedL ls) : SortedL (insAt ls k x) := by
 intro i a b ha hb
 have hk := hp.le
 rcases Nat.lt_or_ge (i + 1) k with h1 | h1
 ·rw [insAt_lo x hk (by omega)] at ha
  rw [insAt_lo x hk h1] at hb
  exact h i a b ha hb
 rcases Nat.eq_or_lt_of_le h1 with h2 | h2
 ·rw [insAt_lo x hk (by omega)] at ha
  rw [← h2, insAt_at x hk] at hb
  injection hb with hb
  subst hb
  exact hp.lo a (by omega) (by rw [show k - 1 = i from by omega]; exact ha)
 ·rw [insAt_hi x hk (by omega)] at hb
  rcases Nat.eq_or_lt_of_le (show k ≤ i by omega) with h3 | h3
  ·rw [← h3, insAt_at x hk] at ha
   injection ha with ha
   subst ha
   exact bl_asymm (hp.hi i b (by omega) hb)
  ·obtain ⟨j, rfl⟩ : ∃ j, i = j + 1 := ⟨i - 1, by omega⟩
   rw [insAt_hi x hk (by omega)] at ha
   exact h j a b ha hb
open Classical in
noncomputable def opnE (ls : List Lot) (x : Lot) : Int :=
 if lall ls ≠ 0 then 1 else if lchk x ≠ 0 then lchk x else if (findR ls x.id 0).2 = true then 5 else if 1000 ≤ ls.length then 4 else 0
theorem opnE_all {ls : List Lot} {x : Lot} (h : lall ls ≠ 0) : opnE ls x = 1 := by unfold opnE; rw [if_pos h]
theorem opnE_chk {ls : List Lot} {x : Lot} (h : lall ls = 0) (h2 : lchk x ≠ 0) : opnE ls x = lchk x := by unfold opnE; rw [if_neg (fun y => y h), if_pos h2]
theorem opnE_was {ls : List Lot} {x : Lot} (h : lall ls = 0) (h2 : lchk x = 0) (h3 : (findR ls x.id 0).2 = true) : opnE ls x = 5 := by unfold opnE; rw [if_neg (fun y => y h), if_neg (fun y => y h2), if_pos h3]
theorem opnE_lim {ls : List Lot} {x : Lot} (h : lall ls = 0) (h2 : lchk x = 0) (h3 : (findR ls x.id 0).2 = false) (h4 : 1000 ≤ ls.length) : opnE ls x = 4 := by
 unfold opnE; rw [if_neg (fun y => y h), if_neg (fun y => y h2), if_neg (by rw [h3]; exact Bool.false_ne_true), if_pos h4]
theorem opnE_ok {ls : List Lot} {x : Lot} (h : lall ls = 0) (h2 : lchk x = 0) (h3 : (findR ls x.id 0).2 = false) (h4 : ls.length < 1000) : opnE ls x = 0 := by
 unfold opnE; rw [if_neg (fun y => y h), if_neg (fun y => y h2), if_neg (by rw [h3]; exact Bool.false_ne_true), if_neg (by omega)]
end Go.Proofs.YtdnmpgoigagjmaaGreatDoor
namespace Go.Proofs.YtdnmpgoigagjmaaGreatDoor
open Go.RowKit Tr Go.Shelf
theorem Uz {L : Array Bool} {i j : Nat} (h : (L.setIfInBounds i true).getD j false = true) (e : i ≠ j := by decide) : L.getD j false = true := getD_dn e h
theorem Um {L : Array Bool} {i j : Nat} {X : Prop} (f : L.getD j false = true → X) (e : i ≠ j := by decide) : (L.setIfInBounds i true).getD j false = true → X := fun h => f (getD_dn e h)
theorem Dz {L : Array Bool} {i j : Nat} (h : (L.setIfInBounds i true).getD j false = false) (e : i ≠ j := by decide) : L.getD j false = false := getD_df e h
theorem RdB'.below {n₀ : Nat} {w w' : World} {A : Option Addr} {ls : List Lot} (h : RdB' n₀ w A ls) (hb : Below n₀ w w') : RdB' n₀ w' A ls := by
 intro hl
 obtain ⟨ad, rfl, h1, h2⟩ := h hl
 exact ⟨ad, rfl, h1, fun j l hj => (h2 j l hj).below hb (by rw [add_block]; exact h1)⟩
theorem RdB'.rdl {n₀ : Nat} {w : World} {A : Option Addr} {ls : List Lot} (h : RdB' n₀ w A ls) (hn : n₀ ≤ w.heap.size) : RdL w A ls := by
 intro hl
 obtain ⟨ad, rfl, h1, h2⟩ := h hl
 exact ⟨ad, rfl, Nat.lt_of_lt_of_le h1 hn, h2⟩
theorem findClo_any (id : ByteArray) (B : Nat) (l : Lot) (w : World) (h : w.heap[B]? = some (.cells #[.string id] 9 (0, 0))) :
 Calls Tryz.prog 86 #[l.enc, .pointer (some ⟨B, 0, none⟩)] w fun e w' => e = .returned (.bool (decide (l.id = id))) ∧ Below w.heap.size w w' := by
 have hBl := (Array.getElem?_eq_some_iff.1 h).1
 obtain ⟨W0, hW0⟩ : ∃ W0, w.alloc (.cells l.cells 49) = W0 := ⟨_, rfl⟩
 have hb : Below w.heap.size w W0 := by rw [← hW0]; exact (Below.refl _ w).alloc (Nat.le_refl _) _
 have k1 : LotBox W0 w.heap.size l := by rw [← hW0]; exact heap_alloc_new w _
 have k0 : W0.heap[B]? = some (.cells #[.string id] 9 (0, 0)) := (hb.block B hBl).trans h
 have c0 := Lib.cell_of_heap k0 0
 have d0 := Lib.cell_of_heap k1 0
 simp [Lot.cells] at c0 d0
 have hse := str_eq l.id id
 have HB := Lib.hid hb
 clear k0 k1 h hb hBl
 unfold Lot.cells at hW0
 unfold Lot.enc Lot.cells
 go_enter Tryz.func86, Tryz.ntmps86
 go_wp2_with fail
 go_ret
 exact ⟨rfl, HB.out⟩
set_option maxHeartbeats 2000000 in
set_option maxRecDepth 100000 in
theorem idxLots_any (n₀ : Nat) (A : Option Addr) (ls : List Lot) (c B : Nat) (id : ByteArray) (hlen : ls.length ≤ 1000000) (w : World) (hR : RdB' n₀ w A ls) (hn : n₀ ≤ w.heap.size) (hx : w.heap[B]? = some (.cells #[.string id] 9 (0, 0))) :
 Calls Tryz.prog 85 #[.slice A ls.length c, .func (.func 86) #[] #[.pointer (some ⟨B, 0, none⟩)]] w fun e w' => (∃ z : Int, e = .returned (.int .i64 z) ∧ ((findR ls id 0).2 = true → z = ((findR ls id 0).1 : Int)) ∧ ((findR ls id 0).2 = false → z = -1)) ∧ Below w.heap.size w w' := by
 have hBl := (Array.getElem?_eq_some_iff.1 hx).1
 have HR := Lib.hid hR
 have HX := Lib.hid (And.intro hBl hx)
 clear hR hx hBl
 go_enter Tryz.func85, Tryz.ntmps85
 go_wp2_with fail
 go_loopw [5, 8] (fun _ v wr => ∃ k : Nat, v = .int .i64 (k : Int) ∧ k ≤ ls.length ∧ (∀ x ∈ ls.take k, x.id ≠ id) ∧ Below w.heap.size w wr) (fun _ v _ => ls.length - (intOf v).toNat)
 case atStart => exact ⟨0, rfl, by omega, fun p hp => by simp at hp, Below.refl _ _⟩
 case round =>
  obtain ⟨k, rfl, hk, hno, hb⟩ := hrel
  have HNO := Lib.hid hno
  have HB := Lib.hid hb
  clear hno hb
  rcases Nat.lt_or_ge k ls.length with hlt | hge
  ·obtain ⟨l, hl⟩ : ∃ l, ls[k]? = some l := ⟨_, List.getElem?_eq_getElem hlt⟩
   obtain ⟨ad, rfl, had, hcell⟩ := HR.out (by intro e; rw [e] at hlt; cases hlt)
   have hcx : decide ((k : Int) < (ls.length : Int)) = true := by simp; omega
   obtain ⟨c0, c1, c2, c3, c4, c5, c6⟩ := (hcell k l hl).below (HB.out.mono hn) (by rw [add_block]; exact had)
   have HTK := Lib.hid (take_snoc hl)
   have hcl := fun W (hW : Below w.heap.size w W) => findClo_any id B l W ((hW.block B HX.out.1).trans HX.out.2)
   unfold Lot.enc Lot.cells at hcl
   have HCL := Lib.hid hcl
   clear hcell hcl
   have HL := Lib.hid hl
   clear hl
   go_wp2_with fail
   refine (HCL.out _ HB.out).mono ?_
   rintro e w1 ⟨rfl, b1⟩
   have HB1 := Lib.hid (HB.out.trans (b1.mono HB.out.size))
   clear b1 HCL c0 c1 c2 c3 c4 c5 c6
   by_cases he : l.id = id
   ·rw [decide_eq_true he]
    have HF : Hid (findR ls id 0 = (k, true)) := by
     have h := findR_hit (ls := ls) (m := ls.length) hlt (Nat.le_refl _) HTK.out HNO.out he
     rwa [List.take_of_length_le (Nat.le_refl _)] at h
    clear he
    go_wp2_with fail
    go_ret
    exact ⟨⟨_, rfl, (fun _ => by rw [HF.out]), (fun h => by rw [HF.out] at h; cases h)⟩, HB1.out⟩
   ·rw [decide_eq_false he]
    have HE := Lib.hid he
    clear he
    go_wp2_with fail
    go_roundw
    case rel =>
     refine ⟨k + 1, by go_num, by omega, fun x hx => ?_, HB1.out⟩
     rw [HTK.out, List.mem_append] at hx
     rcases hx with hx | hx
     ·exact HNO.out x hx
     ·rw [List.mem_singleton] at hx; subst hx; exact HE.out
    case measure => simp [intOf]; omega
  ·have hcx : decide ((k : Int) < (ls.length : Int)) = false := by simp; omega
   have HF : Hid (findR ls id 0 = (0, false)) := findR_none (fun x hx => HNO.out x (by rw [List.take_of_length_le hge]; exact hx)) 0
   go_wp2_with fail
   go_ret
   exact ⟨⟨_, rfl, (fun h => by rw [HF.out] at h; cases h), (fun _ => rfl)⟩, HB.out⟩
theorem lFind_any (n₀ : Nat) (A : Option Addr) (ls : List Lot) (c : Nat) (id : ByteArray) (hlen : ls.length ≤ 1000000) (w : World) (hR : RdB' n₀ w A ls) (hn : n₀ ≤ w.heap.size) :
 Calls Tryz.prog 24 #[.slice A ls.length c, .string id] w fun e w' => e = .returned (.tuple #[.int .i64 ((findR ls id 0).1 : Int), .bool (findR ls id 0).2]) ∧ Below w.heap.size w w' := by
 obtain ⟨W0, hW0⟩ : ∃ W0, w.alloc (.cells #[.string id] 9) = W0 := ⟨_, rfl⟩
 have hb : Below w.heap.size w W0 := by rw [← hW0]; exact (Below.refl _ w).alloc (Nat.le_refl _) _
 have k1 : W0.heap[w.heap.size]? = some (.cells #[.string id] 9 (0, 0)) := by rw [← hW0]; exact heap_alloc_new w _
 have HI := Lib.hid (idxLots_any n₀ A ls c w.heap.size id hlen W0 (hR.below (hb.mono hn)) (Nat.le_trans hn hb.size) k1)
 have HB := Lib.hid hb
 have HZ : Hid ((findR ls id 0).2 = false → (findR ls id 0).1 = 0) := fun h => by rw [findR_none (findR_false ls id 0 h)]
 clear hR k1 hb
 go_enter Tryz.func24, Tryz.ntmps24
 go_wp2_with fail
 refine HI.out.mono ?_
 rintro e w1 ⟨⟨z, rfl, hz1, hz2⟩, b1⟩
 have HB1 := Lib.hid (HB.out.trans (b1.mono HB.out.size))
 clear b1
 generalize hf : findR ls id 0 = fr at hz1 hz2 HZ
 obtain ⟨k, b⟩ := fr
 have HFR := Lib.hid hf
 clear hf
 cases b
 ·obtain rfl := hz2 rfl
  obtain rfl : k = 0 := HZ.out rfl
  go_wp2_with fail
  go_ret2
  exact ⟨by rw [HFR.out]; rfl, HB1.out⟩
 ·obtain rfl := hz1 rfl
  have t1 : decide ((0 : Int) ≤ (k : Int)) = true := decide_eq_true (by omega)
  have t2 : decide ((k : Int) ≥ 0) = true := t1
  go_wp2_with fail
  go_ret2
  exact ⟨by rw [HFR.out]; rfl, HB1.out⟩
end Go.Proofs.YtdnmpgoigagjmaaGreatDoor
