/-
  Positions, plainly: their names in ascending order, their sums, and the map that sums them.
-/
import Derived.Test.YtdnmpgoigagjmaaGreatDoorL20
import Derived.Test.YtdnmpgoigagjmaaGreatDoorL19
import Derived.Sort.KeysCollected
set_option linter.unusedVariables false
set_option linter.unusedSimpArgs false
set_option maxHeartbeats 16000000
set_option maxRecDepth 100000
namespace Go.Proofs.YtdnmpgoigagjmaaGreatDoor
open Go.RowKit Tr Go.Shelf Go.Maps
structure Pos where
 inst : ByteArray
 qty : ByteArray
 cost : ByteArray
def Pos.cells (p : Pos) : Array Value := #[.string p.inst, .string p.qty, .string p.cost]
def Pos.enc (p : Pos) : Value := .agg p.cells
def zeroPos : Pos := ⟨⟨#[]⟩, ⟨#[]⟩, ⟨#[]⟩⟩
def posOf (ls : List SLot) (s : ByteArray) : Pos := ⟨s, I (sumBy qtyOf (ownL ls s)), I (sumBy costOf (ownL ls s))⟩
def hasI (ls : List SLot) (s : ByteArray) : Prop := ∃ x ∈ ls, x.1.inst = s
def posR (v : Value) : Option (DataW Pos × List MemPlace) :=
 match v with
 | .agg cs => (match cs.toList with
   | [.string a, .string b, .string c] => some (.held ⟨a, b, c⟩, [])
   | _ => none)
 | _ => none
theorem posR_enc (p : Pos) : posR p.enc = some (.held p, []) := rfl
theorem posR_inv {v : Value} {z : DataW Pos × List MemPlace} (h : posR v = some z) : ∃ p : Pos, v = p.enc ∧ z = (.held p, []) := by
 cases v with
 | agg cs =>
   obtain ⟨l⟩ := cs
   simp only [posR] at h
   split at h
   ·rename_i a b c
    exact ⟨⟨a, b, c⟩, rfl, (Option.some.inj h).symm⟩
   ·cases h
 | _ => simp [posR] at h
abbrev keyS (s : ByteArray) : Lit := .string s.data.toList
theorem keyS_inj {s t : ByteArray} (h : keyS s = keyS t) : s = t := by
 injection h with h
 have := congrArg List.toArray h
 simp at this
 cases s; cases t; simp_all
structure PosD (ls : List SLot) (D : DataW Pos) : Prop where
 mp : IsMap D
 yes : ∀ s, hasI ls s → ∀ z, D.atKey (keyS s) z = .held (posOf ls s)
 no : ∀ s, ¬ hasI ls s → ∀ z, D.atKey (keyS s) z = z
theorem PosD.nil : PosD [] (.map []) := ⟨⟨_, rfl⟩, (fun s h => by obtain ⟨x, hx, _⟩ := h; cases hx), fun s _ z => rfl⟩
theorem ownL_none {ls : List SLot} {s : ByteArray} (h : ¬ hasI ls s) : ownL ls s = [] := by
 unfold ownL
 rw [List.filter_eq_nil_iff]
 intro x hx
 simp only [decide_eq_true_eq]
 exact fun e => h ⟨x, hx, e⟩
theorem PosD.look {ls : List SLot} {D : DataW Pos} (h : PosD ls D) (s : ByteArray) : ∃ n, D.atKey (keyS s) (.held zeroPos) = .held ⟨n, I (sumBy qtyOf (ownL ls s)), I (sumBy costOf (ownL ls s))⟩ := by
 by_cases hs : hasI ls s
 ·exact ⟨s, h.yes s hs _⟩
 ·refine ⟨⟨#[]⟩, ?_⟩
  rw [h.no s hs, ownL_none hs]
  show (DataW.held (⟨⟨#[]⟩, ⟨#[]⟩, ⟨#[]⟩⟩ : Pos) : DataW Pos) = .held ⟨⟨#[]⟩, I 0, I 0⟩
  rw [zero_eq]
theorem ownL_snoc (ls : List SLot) (x : SLot) (s : ByteArray) : ownL (ls ++ [x]) s = if x.1.inst = s then ownL ls s ++ [x] else ownL ls s := by
 unfold ownL
 rw [List.filter_append]
 by_cases h : x.1.inst = s <;> simp [h]
theorem PosD.step {ls : List SLot} {D : DataW Pos} (h : PosD ls D) (x : SLot) :
 PosD (ls ++ [x]) (D.put (keyS x.1.inst) (.held ⟨x.1.inst, I (sumBy qtyOf (ownL ls x.1.inst) + qtyOf x), I (sumBy costOf (ownL ls x.1.inst) + costOf x)⟩)) := by
 refine ⟨h.mp.put _ _, fun s hs z => ?_, fun s hs z => ?_⟩
 ·by_cases e : x.1.inst = s
  ·subst e
   rw [atKey_put_same (k := keyS x.1.inst) h.mp trivial]
   unfold posOf
   rw [ownL_snoc, if_pos rfl, sumBy_snoc, sumBy_snoc]
  ·rw [atKey_put_other (fun k => e (keyS_inj k).symm)]
   have h2 : hasI ls s := by
    obtain ⟨y, hy, hys⟩ := hs
    rcases List.mem_append.1 hy with hy | hy
    ·exact ⟨y, hy, hys⟩
    ·rw [List.mem_singleton] at hy; subst hy; exact absurd hys e
   rw [h.yes s h2]
   unfold posOf
   rw [ownL_snoc, if_neg e]
 ·have e : x.1.inst ≠ s := fun e => hs ⟨x, by simp, e⟩
  rw [atKey_put_other (fun k => e (keyS_inj k).symm)]
  exact h.no s (fun ⟨y, hy, hys⟩ => hs ⟨y, by simp [hy], hys⟩) z
def insts : List SLot → List (List UInt8)
 | [] => []
 | x :: r => if x.1.inst.data.toList ∈ insts r then insts r else x.1.inst.data.toList :: insts r
theorem insts_nodup : ∀ ls : List SLot, (insts ls).Nodup
 | [] => List.nodup_nil
 | x :: r => by
   unfold insts
   split
   ·exact insts_nodup r
   ·rename_i h
    exact List.nodup_cons.2 ⟨h, insts_nodup r⟩
theorem mem_insts (b : List UInt8) : ∀ ls : List SLot, b ∈ insts ls ↔ ∃ x ∈ ls, x.1.inst.data.toList = b
 | [] => by simp [insts]
 | x :: r => by
   unfold insts
   have ih := mem_insts b r
   split
   ·rename_i h
    rw [ih]
    constructor
    ·rintro ⟨y, hy, e⟩; exact ⟨y, by simp [hy], e⟩
    ·rintro ⟨y, hy, e⟩
     rcases List.mem_cons.1 hy with rfl | hy
     ·rw [← ih, ← e]; exact h
     ·exact ⟨y, hy, e⟩
   ·rw [List.mem_cons, ih]
    constructor
    ·rintro (rfl | ⟨y, hy, e⟩)
     ·exact ⟨x, by simp, rfl⟩
     ·exact ⟨y, by simp [hy], e⟩
    ·rintro ⟨y, hy, e⟩
     rcases List.mem_cons.1 hy with rfl | hy
     ·exact .inl e.symm
     ·exact .inr ⟨y, hy, e⟩
theorem mem_insts' (s : ByteArray) (ls : List SLot) : s.data.toList ∈ insts ls ↔ hasI ls s := by
 rw [mem_insts]
 constructor
 ·rintro ⟨x, hx, e⟩; exact ⟨x, hx, by rw [← bs_of x.1.inst, e, bs_of]⟩
 ·rintro ⟨x, hx, e⟩; exact ⟨x, hx, by rw [e]⟩
def names (ls : List SLot) : List (List UInt8) := (insts ls).mergeSort leB
def posL (ls : List SLot) : List Pos := (names ls).map fun b => posOf ls (bs b)
theorem mem_names (b : List UInt8) (ls : List SLot) : b ∈ names ls ↔ hasI ls (bs b) := by
 unfold names
 rw [List.mem_mergeSort, ← mem_insts', bs_data]
theorem PosD.names {ls : List SLot} {D : DataW Pos} (h : PosD ls D) {w : World} {b n : Nat} (hown : w.ownsMap Tryz.prog 9 posR b n D) {ss : List (List UInt8)} (hp : ss.Perm (strKeys D)) : ss.mergeSort leB = names ls := by
 have hc : Collected D (fun _ => false) (insts ls) := by
  refine ⟨insts_nodup ls, fun x => ?_⟩
  have e : x = (bs x).data.toList := (bs_data x).symm
  rw [e, mem_insts']
  constructor
  ·intro hx; exact ⟨has_true_of_atKey (h.yes _ hx), rfl⟩
  ·rintro ⟨hx, _⟩
   refine Classical.byContradiction fun hn => ?_
   rw [has_false_of_atKey (h.no _ hn)] at hx
   cases hx
 exact mergeSort_of_perm (hp.trans (hc.perm hown strKeyed Tryz.underlying9 (fun _ => rfl)).symm)
theorem names_len (ls : List SLot) : (names ls).length ≤ ls.length := by
 unfold names
 rw [List.length_mergeSort]
 induction ls with
 | nil => exact Nat.le_refl _
 | cons x r ih => unfold insts; split <;> simp <;> omega
end Go.Proofs.YtdnmpgoigagjmaaGreatDoor
