/-
  Orders of lots, plainly; a copy that is reversed.
-/
import Derived.Test.YtdnmpgoigagjmaaGreatDoorU41
import Derived.Test.YtdnmpgoigagjmaaGreatDoorU36
import Derived.Test.YtdnmpgoigagjmaaGreatDoorU42
set_option linter.unusedVariables false
set_option linter.unusedSimpArgs false
set_option maxHeartbeats 16000000
set_option maxRecDepth 100000
namespace Go.Proofs.YtdnmpgoigagjmaaGreatDoor
open Go.RowKit Tr Go.Shelf
theorem pw_adj {α : Type} {R : α → α → Prop} {X : List α} (h : X.Pairwise R) {k : Nat} {b a : α} (hb : X[k]? = some b) (ha : X[k + 1]? = some a) : R b a := by
 obtain ⟨h1, e1⟩ := List.getElem?_eq_some_iff.1 hb
 obtain ⟨h2, e2⟩ := List.getElem?_eq_some_iff.1 ha
 rw [← e1, ← e2]
 exact List.pairwise_iff_getElem.1 h k (k + 1) h1 h2 (Nat.lt_succ_self k)
theorem nd_take {α : Type} {X : List α} (h : X.Nodup) {k : Nat} {a : α} (ha : X[k]? = some a) : a ∉ X.take k := by
 intro hm
 obtain ⟨j, hj⟩ := List.mem_iff_getElem?.1 hm
 rw [List.getElem?_take] at hj
 split at hj
 ·rename_i hjk
  obtain ⟨h1, e1⟩ := List.getElem?_eq_some_iff.1 hj
  obtain ⟨h2, e2⟩ := List.getElem?_eq_some_iff.1 ha
  exact List.pairwise_iff_getElem.1 h j k h1 h2 hjk (by rw [e1, e2])
 ·cases hj
theorem ordP_nodup {lz : List Lot} (h : lall lz = 0) (m : Int) : (ordP m lz).Nodup := by
 refine (ordP_perm m lz).nodup_iff.2 ?_
 have h1 := List.pairwise_map.1 ((lall_zero lz).1 h).nd
 exact List.Pairwise.imp (fun h e => h (by rw [e])) h1
theorem ltK_le (n : Lot → Int) {x y : Lot} (hx : 0 < vl x.qty) (hy : 0 < vl y.qty) (h : ltK n y x = false) : n x * vl y.qty ≤ n y * vl x.qty := by
 unfold ltK at h
 rw [qpos_of hx, qpos_of hy] at h
 have h := of_decide_eq_false h
 generalize n x * vl y.qty = u at *
 generalize n y * vl x.qty = v at *
 omega
section
variable {lz : List Lot} {k : Nat} {b a : Lot}
theorem ord_in (h : lall lz = 0) (m : Int) (ha : (ordP m lz)[k]? = some a) : a ∈ lz ∧ 0 < vl a.qty := by
 have h1 := (ordP_perm m lz).mem_iff.1 (List.mem_of_getElem? ha)
 exact ⟨h1, allOk_q h a h1⟩
theorem ord_hi (h : lall lz = 0) (hb : (ordP 3 lz)[k]? = some b) (ha : (ordP 3 lz)[k + 1]? = some a) : vl a.cost * vl b.qty ≤ vl b.cost * vl a.qty := by
 have qa := (ord_in h 3 ha).2
 have qb := (ord_in h 3 hb).2
 have e : ordP 3 lz = ssort ltH lz := rfl
 rw [e] at ha hb
 have hs := ssort_asc ltH (ltK_weak _) lz
 unfold AscS at hs
 have h1 := ltK_le (fun a => - vl a.cost) qb qa (pw_adj hs hb ha)
 simp only [Int.neg_mul] at h1
 omega
theorem ord_lo (h : lall lz = 0) (hb : (ordP 4 lz)[k]? = some b) (ha : (ordP 4 lz)[k + 1]? = some a) : vl b.cost * vl a.qty ≤ vl a.cost * vl b.qty := by
 have qa := (ord_in h 4 ha).2
 have qb := (ord_in h 4 hb).2
 have e : ordP 4 lz = ssort ltL lz := rfl
 rw [e] at ha hb
 have hs := ssort_asc ltL (ltK_weak _) lz
 unfold AscS at hs
 exact ltK_le (fun a => vl a.cost) qb qa (pw_adj hs hb ha)
theorem ord_li (hb : (ordP 2 lz)[k]? = some b) (ha : (ordP 2 lz)[k + 1]? = some a) : a.acq ≤ b.acq := by
 have e : ordP 2 lz = (ssort ltF lz).reverse := rfl
 rw [e] at ha hb
 have hs := ssort_asc ltF ltF_weak lz
 unfold AscS at hs
 have h1 := pw_adj (List.pairwise_reverse.2 hs) hb ha
 unfold ltF at h1
 have := of_decide_eq_false h1
 omega
theorem ord_fi {m : Int} (h2 : m ≠ 2) (h3 : m ≠ 3) (h4 : m ≠ 4) (hb : (ordP m lz)[k]? = some b) (ha : (ordP m lz)[k + 1]? = some a) : b.acq ≤ a.acq := by
 have e : ordP m lz = ssort ltF lz := by unfold ordP ltM; rw [if_neg h2, if_neg h3, if_neg h4]
 rw [e] at ha hb
 have hs := ssort_asc ltF ltF_weak lz
 unfold AscS at hs
 have h1 := pw_adj hs hb ha
 unfold ltF at h1
 have := of_decide_eq_false h1
 omega
theorem ord_rev (lz : List Lot) : (ordP 2 lz).reverse = ordP 1 lz := by
 have e : ordP 2 lz = (ssort ltF lz).reverse := rfl
 rw [e, List.reverse_reverse]
 rfl
end
theorem revOwn_any (n : Nat) (sl : List SLot) (v : Value) (N : Nat) (hN : sl.length = N) (hl : N ≤ 100000) (w W : World) (how : W.ownsRow n 49 7 v N (flatL sl)) (hb : Below w.heap.size w W) (hn : w.heap.size ≤ n) :
 ∃ (A : Option Addr) (c : Nat), v = .slice A N c ∧ Calls Tryz.prog 37 #[.slice A N c] W fun e w' => e = .returned (.tuple #[]) ∧ RdB' w'.heap.size w' A (sl.map Subtype.val).reverse ∧ Below w.heap.size w w' := by
 rcases Nat.eq_zero_or_pos N with h0 | hpos
 ·subst h0
  have hnil : sl = [] := List.eq_nil_of_length_eq_zero hN
  obtain ⟨A', c', rfl, _⟩ : ∃ A' c', v = .slice A' 0 c' ∧ True := by
   rcases how.2 with ⟨rfl, _⟩ | ⟨g, cap, cur, rfl, _⟩
   ·exact ⟨_, _, rfl, trivial⟩
   ·exact ⟨_, _, rfl, trivial⟩
  refine ⟨A', c', rfl, (revLots_none A' c' W).mono ?_⟩
  rintro e w' ⟨rfl, rfl⟩
  refine ⟨rfl, ?_, hb⟩
  rw [hnil]
  intro h
  exact absurd rfl h
 ·obtain ⟨g, cap, rfl, hbg, hgl⟩ := how.form hpos
  obtain ⟨sp, hrow⟩ : ∃ sp, W.heap[g]? = some (.cells (flatV (sl.map Subtype.val) ++ sp).toArray 49 (0, 0)) := by
   rcases how.2 with ⟨h, _⟩ | ⟨g', cap', cur, h, _, hg, _, _, _, ht⟩
   ·simp at h
   ·simp at h
    obtain ⟨rfl, _⟩ := h
    refine ⟨cur.toList.drop (N * 7), ?_⟩
    rw [flatV_val, ← ht, List.take_append_drop]
    exact hg
  have hs : SRow (fun l => l.sized) W g sp (sl.map Subtype.val) W := ⟨hrow, fun x hx => by
   obtain ⟨y, hy, rfl⟩ := List.mem_map.1 hx
   exact y.2, ⟨rfl, rfl, rfl, Nat.le_refl _, fun _ _ _ => rfl⟩, hgl⟩
  refine ⟨_, _, rfl, (revLots_any _ W g N cap sp _ (by rw [List.length_map, hN]) (by omega) W hs).mono ?_⟩
  rintro e w' ⟨rfl, hr⟩
  exact ⟨rfl, hr.rdb, hb.grown hr.gr hb.size fun k e => by injection e with e; rw [← e]; exact Nat.le_trans hn hbg⟩
end Go.Proofs.YtdnmpgoigagjmaaGreatDoor
