/-
  slices.Grow of nil, slices.Concat of two slices of lots.
  Positions, plainly: their names in ascending order, their sums, and the map that sums them.
  What LotTotals leans on: parts of a slice of lots, sums of turned and cut lists.
  lot.Cut of a valid lot into a quantity and the rest. (Printed by gen_cut3.py.)
  The walk of lot.Positions. (Printed by gen_pos2.py.)
  Lots and positions compared as the machine does it; slices.Equal, lot.Same, trancheref19.Same, SamePositions. (Printed by gen_eq1.py.)
  tranchelaw19.awake returns true.
  slices.Clone and slices.Insert of lots.
  A lot put into a list behind the last one whose instrument is not greater: plainly.
  What relief.Choose chooses, plainly.
  Plain: facts; the fields of their kinds; when a fact is valid.
  Lots that are sorted in place, in memory; slices.swapRangeCmpFunc and slices.insertionSortCmpFunc over lots. (Printed by gen_srt2.py.)
  Relief's comparisons of lots. (Printed by gen_rel1.py.)
-/
import Derived.Test.YtbkmhmaldljgmaaGreatDoorC16
import Derived.Test.YtbkmhmaldljgmaaGreatDoorC08
import Derived.Test.YtbkmhmaldljgmaaGreatDoorC19
import Derived.Laws.StructEq
import Derived.BigQuiet
import Derived.Lib.AppendZeros
import Derived.Test.YtbkmhmaldljgmaaGreatDoorC17
import Derived.Sort.KeysCollected
import Derived.Test.YtbkmhmaldljgmaaGreatDoorC20
import Derived.Test.YtbkmhmaldljgmaaGreatDoorC13
import Derived.Laws.NewBlocks
import Derived.Test.YtbkmhmaldljgmaaGreatDoorProg
import Derived.Lib.Overlaps
import Derived.Lib.AppendZerosOnto
import Derived.Laws.CopyOwn
import Derived.Sort.Walk0
import Derived.Test.YtbkmhmaldljgmaaGreatDoorC02
import Derived.Test.YtbkmhmaldljgmaaGreatDoorC14
import Derived.Test.YtbkmhmaldljgmaaGreatDoorC15
set_option linter.unusedVariables false
set_option linter.unusedSimpArgs false
set_option maxHeartbeats 16000000
set_option maxRecDepth 100000
namespace Go.Proofs.YtbkmhmaldljgmaaGreatDoor
open Go.RowKit Tr Go.Shelf
theorem add_noneL (p : Addr) (hp : p.spot = none) (n : Nat) : p.add n = ⟨p.block, p.off + n, none⟩ := by
 unfold Addr.add
 split
 ·next h => subst h; cases p; simp_all
 ·cases p; simp_all
theorem none_of_cell {w : World} {p : Addr} {v : Value} (h : w.cell? p = some v) : p.spot = none := by
 unfold World.cell? at h
 split at h
 ·split at h
  ·cases h
  ·next hs => simpa using hs
 ·cases h
end Go.Proofs.YtbkmhmaldljgmaaGreatDoor
namespace Go.Proofs.YtbkmhmaldljgmaaGreatDoor
open Go.RowKit Tr Go.Shelf Go.Maps
structure Pos where
 inst : ByteArray
 qty : ByteArray
 cost : ByteArray
def Pos.cells (p : Pos) : Array Value := #[.string p.inst, .string p.qty, .string p.cost]
def Pos.enc (p : Pos) : Value := .agg p.cells
def posOf (ls : List SLot) (s : ByteArray) : Pos := ⟨s, I (sumBy qtyOf (ownL ls s)), I (sumBy costOf (ownL ls s))⟩
def hasI (ls : List SLot) (s : ByteArray) : Prop := ∃ x ∈ ls, x.1.inst = s
def posR (v : Value) : Option (DataW Pos × List MemPlace) :=
 match v with
 | .agg cs => (match cs.toList with
   | [.string a, .string b, .string c] => some (.held ⟨a, b, c⟩, [])
   | _ => none)
 | _ => none
abbrev keyS (s : ByteArray) : Lit := .string s.data.toList
structure PosD (ls : List SLot) (D : DataW Pos) : Prop where
 mp : IsMap D
 yes : ∀ s, hasI ls s → ∀ z, D.atKey (keyS s) z = .held (posOf ls s)
 no : ∀ s, ¬ hasI ls s → ∀ z, D.atKey (keyS s) z = z
theorem PosD.nil : PosD [] (.map []) := ⟨⟨_, rfl⟩, (fun s h => by obtain ⟨x, hx, _⟩ := h; cases hx), fun s _ z => rfl⟩
def insts : List SLot → List (List UInt8)
 | [] => []
 | x :: r => if x.1.inst.data.toList ∈ insts r then insts r else x.1.inst.data.toList :: insts r
theorem insts_nodup : ∀ ls : List SLot, (insts ls).Nodup
 | [] => List.nodup_nil
 | x :: r => by
   unfold insts
   split
   ·exact insts_nodup r
   ·rename_i h
    exact List.nodup_cons.2 ⟨h, insts_nodup r⟩
theorem mem_insts (b : List UInt8) : ∀ ls : List SLot, b ∈ insts ls ↔ ∃ x ∈ ls, x.1.inst.data.toList = b
 | [] => by simp [insts]
 | x :: r => by
   unfold insts
   have ih := mem_insts b r
   split
   ·rename_i h
    rw [ih]
    constructor
    ·rintro ⟨y, hy, e⟩; exact ⟨y, by simp [hy], e⟩
    ·rintro ⟨y, hy, e⟩
     rcases List.mem_cons.1 hy with rfl | hy
     ·rw [← ih, ← e]; exact h
     ·exact ⟨y, hy, e⟩
   ·rw [List.mem_cons, ih]
    constructor
    ·rintro (rfl | ⟨y, hy, e⟩)
     ·exact ⟨x, by simp, rfl⟩
     ·exact ⟨y, by simp [hy], e⟩
    ·rintro ⟨y, hy, e⟩
     rcases List.mem_cons.1 hy with rfl | hy
     ·exact .inl e.symm
     ·exact .inr ⟨y, hy, e⟩
theorem mem_insts' (s : ByteArray) (ls : List SLot) : s.data.toList ∈ insts ls ↔ hasI ls s := by
 rw [mem_insts]
 constructor
 ·rintro ⟨x, hx, e⟩; exact ⟨x, hx, by rw [← bs_of x.1.inst, e, bs_of]⟩
 ·rintro ⟨x, hx, e⟩; exact ⟨x, hx, by rw [e]⟩
def names (ls : List SLot) : List (List UInt8) := (insts ls).mergeSort leB
theorem PosD.names {ls : List SLot} {D : DataW Pos} (h : PosD ls D) {w : World} {b n : Nat} (hown : w.ownsMap Tryz.prog 9 posR b n D) {ss : List (List UInt8)} (hp : ss.Perm (strKeys D)) : ss.mergeSort leB = names ls := by
 have hc : Collected D (fun _ => false) (insts ls) := by
  refine ⟨insts_nodup ls, fun x => ?_⟩
  have e : x = (bs x).data.toList := (bs_data x).symm
  rw [e, mem_insts']
  constructor
  ·intro hx; exact ⟨has_true_of_atKey (h.yes _ hx), rfl⟩
  ·rintro ⟨hx, _⟩
   refine Classical.byContradiction fun hn => ?_
   rw [has_false_of_atKey (h.no _ hn)] at hx
   cases hx
 exact mergeSort_of_perm (hp.trans (hc.perm hown strKeyed Tryz.underlying9 (fun _ => rfl)).symm)
end Go.Proofs.YtbkmhmaldljgmaaGreatDoor
namespace Go.Proofs.YtbkmhmaldljgmaaGreatDoor
open Go.RowKit Tr Go.Shelf
theorem RdB.take {n : Nat} {w : World} {A : Option Addr} {ls : List SLot} (h : RdB n w A ls) (k : Nat) : RdB n w A (ls.take k) := by
 intro hl
 obtain ⟨ad, e, h1, h2⟩ := h (by intro e; rw [e] at hl; simp at hl)
 exact ⟨ad, e, h1, fun j l hj => h2 j l (by rw [List.getElem?_take] at hj; split at hj; exact hj; cases hj)⟩
theorem RdB.drop {n : Nat} {w : World} {ad : Addr} {ls : List SLot} {c : Nat} (h : RdB n w (some ad) ls) (k : Nat) (hk : k ≤ ls.length) (hc : ls.length ≤ c) : RdB n w (some (if c = k then ad else ad.add (k * 7))) (ls.drop k) := by
 intro hl
 have hkl : k < ls.length := by
  rcases Nat.lt_or_ge k ls.length with h1 | h1
  ·exact h1
  ·exact absurd (List.drop_eq_nil_of_le h1) hl
 obtain ⟨a, e, h1, h2⟩ := h (by intro e; rw [e] at hkl; cases hkl)
 injection e with e
 subst e
 rw [if_neg (by omega)]
 have hs : ad.spot = none := by
  obtain ⟨y, hy⟩ : ∃ y, ls[0]? = some y := ⟨_, List.getElem?_eq_getElem (by omega)⟩
  have h0 := (h2 0 y hy).c0
  rw [show ad.add (0 * 7) = ad from by unfold Addr.add; simp] at h0
  exact none_of_cell h0
 refine ⟨_, rfl, by rw [add_block]; exact h1, fun j l hj => ?_⟩
 rw [List.getElem?_drop] at hj
 have h3 := h2 (k + j) l hj
 rw [add_noneL ad hs] at h3
 rw [add_noneL _ (by rw [add_noneL ad hs]), add_noneL ad hs]
 rw [Nat.add_mul, ← Nat.add_assoc] at h3
 exact h3
def zeroLot : Lot := ⟨⟨#[]⟩, ⟨#[]⟩, 0, 0, ⟨#[]⟩, ⟨#[]⟩, ⟨#[]⟩⟩
structure CutW (w : World) (l : Lot) (W : World) : Prop where
 ib : LotBox W w.heap.size l
 za : LotBox W (w.heap.size + 1) zeroLot
 zb : LotBox W (w.heap.size + 2) zeroLot
 be : Below w.heap.size w W
theorem CutW.lt {w : World} {l : Lot} {W : World} (h : CutW w l W) : w.heap.size + 3 ≤ W.heap.size := by have := h.zb.lt; omega
end Go.Proofs.YtbkmhmaldljgmaaGreatDoor
namespace Go.Proofs.YtbkmhmaldljgmaaGreatDoor
open Go.RowKit Tr Go.Shelf Go.Maps Go.Sort Go.WideMaps
def RdNm (n₀ : Nat) (w : World) (A : Option Addr) (ns : List (List UInt8)) : Prop := ∀ k b, ns[k]? = some b → ∃ ad : Addr, A = some ad ∧ ad.block < n₀ ∧ w.cell? (ad.add k) = some (.string (bs b))
theorem RdNm.of_own {w : World} {base : Nat} {v : Value} {ns : List (List UInt8)} (h : w.ownsRow base 9 1 v ns.length (ns.map encStr)) : ∃ A c, v = .slice A ns.length c ∧ RdNm w.heap.size w A ns := by
 rcases h.2 with ⟨rfl, h0⟩ | ⟨g, cap, cur, rfl, hb, hg, hnc, hcm, _⟩
 ·have : ns = [] := List.eq_nil_of_length_eq_zero h0
  subst this
  exact ⟨none, 0, rfl, fun k b e => by simp at e⟩
 ·refine ⟨_, _, rfl, fun k b e => ⟨_, rfl, (Array.getElem?_eq_some_iff.1 hg).1, ?_⟩⟩
  exact h.cells (g := g) rfl k _ (by rw [List.getElem?_map, e]; rfl)
end Go.Proofs.YtbkmhmaldljgmaaGreatDoor
namespace Go.Proofs.YtbkmhmaldljgmaaGreatDoor
open Go.RowKit Tr Go.Shelf
theorem eqGuard_lot (op : BinOp) (x y : Operand) (xs ys : Array Value) (w : World) : (eqGuard op 55 x y (.agg xs) (.agg ys)).run Tryz.prog w = .ok () w := run_eqGuard_agg w op _ x y xs ys (by kernel_rfl)
attribute [local go_sem] eqGuard_lot
end Go.Proofs.YtbkmhmaldljgmaaGreatDoor
namespace Go.Proofs.YtbkmhmaldljgmaaGreatDoor
open Go.RowKit Tr Go.Shelf
def q5 : ByteArray := ⟨#[53]⟩
theorem w10 : vl ⟨#[49, 48]⟩ = 10 := by decide
theorem w5 : vl ⟨#[53]⟩ = 5 := by decide
theorem w12 : vl ⟨#[49, 50]⟩ = 12 := by decide
def p0 : Pos := ⟨⟨#[97, 98, 99]⟩, ⟨#[49, 48]⟩, ⟨#[50, 53]⟩⟩
theorem lotcells_one (x : Lot) : ∀ u ∈ x.cells.toList, u.oneCell' = true := by
 intro u hu
 simp at hu
 rcases hu with rfl | rfl | rfl | rfl | rfl | rfl | rfl <;> rfl
def bl (a b : ByteArray) : Bool := Op.bytesLess a.toList b.toList
structure UpPl (ls : List Lot) (s : ByteArray) (n k : Nat) : Prop where
 le : k ≤ n
 hi : ∀ i y, k ≤ i → i < n → ls[i]? = some y → bl s y.inst = true
 lo : ∀ y, 0 < k → ls[k - 1]? = some y → bl s y.inst = false
theorem UpPl.yes {ls : List Lot} {s : ByteArray} {n : Nat} {y : Lot} (hy : ls[n]? = some y) (h : bl s y.inst = false) : UpPl ls s (n + 1) (n + 1) :=
 ⟨Nat.le_refl _, fun i z h1 h2 => by omega, fun z _ hz => by rw [Nat.add_sub_cancel, hy] at hz; injection hz with hz; rw [← hz]; exact h⟩
theorem UpPl.no {ls : List Lot} {s : ByteArray} {n k : Nat} {y : Lot} (hu : UpPl ls s n k) (hy : ls[n]? = some y) (h : bl s y.inst = true) : UpPl ls s (n + 1) k :=
 ⟨Nat.le_succ_of_le hu.le, fun i z h1 h2 hz => by
   rcases Nat.lt_or_ge i n with h3 | h3
   ·exact hu.hi i z h1 h3 hz
   ·obtain rfl : i = n := by omega
    rw [hy] at hz; injection hz with hz; rw [← hz]; exact h, hu.lo⟩
structure AllOk (ls : List Lot) : Prop where
 len : ls.length ≤ 1000
 ok : ∀ l ∈ ls, lchk l = 0
 nd : (ls.map Lot.id).Nodup
theorem lallF_zero : ∀ (r pre : List Lot), lallF pre r = 0 ↔ (∀ l ∈ r, lchk l = 0) ∧ (r.map Lot.id).Nodup ∧ ∀ l ∈ r, l.id ∉ pre.map Lot.id
 | [], pre => by unfold lallF; simp
 | l :: r, pre => by
   unfold lallF
   by_cases h1 : lchk l = 0
   ·rw [if_neg (fun x => x h1)]
    by_cases h2 : l.id ∈ pre.map Lot.id
    ·rw [if_pos h2]
     exact ⟨fun h => absurd h (by decide), fun h => absurd h2 (h.2.2 l (List.mem_cons_self ..))⟩
    ·rw [if_neg h2, lallF_zero r (pre ++ [l])]
     constructor
     ·rintro ⟨a, b, c⟩
      refine ⟨fun x hx => ?_, ?_, fun x hx => ?_⟩
      ·rcases List.mem_cons.1 hx with rfl | hx
       ·exact h1
       ·exact a x hx
      ·rw [List.map_cons, List.nodup_cons]
       refine ⟨fun hm => ?_, b⟩
       obtain ⟨y, hy, e⟩ := List.mem_map.1 hm
       exact c y hy (by rw [List.map_append, List.mem_append]; exact .inr (by rw [e]; simp))
      ·rcases List.mem_cons.1 hx with rfl | hx
       ·exact h2
       ·exact fun hm => c x hx (by rw [List.map_append, List.mem_append]; exact .inl hm)
     ·rintro ⟨a, b, c⟩
      rw [List.map_cons, List.nodup_cons] at b
      refine ⟨fun x hx => a x (List.mem_cons_of_mem _ hx), b.2, fun x hx hm => ?_⟩
      rw [List.map_append, List.mem_append] at hm
      rcases hm with hm | hm
      ·exact c x (List.mem_cons_of_mem _ hx) hm
      ·simp at hm
       exact b.1 (List.mem_map.2 ⟨x, hx, hm⟩)
   ·rw [if_pos h1]
    exact ⟨fun h => absurd h h1, fun h => absurd (h.1 l (List.mem_cons_self ..)) h1⟩
theorem lall_zero (ls : List Lot) : lall ls = 0 ↔ AllOk ls := by
 unfold lall
 by_cases h : 1000 < ls.length
 ·rw [if_pos h]; exact ⟨fun x => absurd x (by decide), fun x => absurd x.len (by omega)⟩
 ·rw [if_neg h, lallF_zero]
  exact ⟨fun x => ⟨by omega, x.1, x.2.1⟩, fun x => ⟨x.ok, x.nd, by simp⟩⟩
structure Pk where
 lot : ByteArray
 qty : ByteArray
abbrev Pk.cells (p : Pk) : Array Value := #[.string p.lot, .string p.qty]
abbrev Pk.enc (p : Pk) : Value := .agg p.cells
structure Opt where
 other : ByteArray
 rn : ByteArray
 rd : ByteArray
 pn : ByteArray
 pd : ByteArray
 vn : ByteArray
 vd : ByteArray
structure Fact where
 key : ByteArray
 stamp : Int
 canc : Bool
 day : Int
 kind : Int
 inst : ByteArray
 other : ByteArray
 cur : ByteArray
 target : ByteArray
 qty : ByteArray
 amt : ByteArray
 fee : ByteArray
 pn : ByteArray
 pd : ByteArray
 rn : ByteArray
 rd : ByteArray
 sn : ByteArray
 sd : ByteArray
 picks : List Pk
 opts : List Opt
 choice : Int
def kfs : Nat → List Nat
 | 1 => [2, 5]
 | 2 => [2, 5]
 | 3 => [0, 4, 5, 6]
 | 4 => [0, 4, 5, 6, 10]
 | 5 => [0, 7]
 | 6 => [2, 5]
 | 7 => [1, 2, 4, 5]
 | 8 => [0, 7, 8]
 | 9 => [0, 1, 7, 8, 9]
 | 10 => [0, 11]
 | 11 => [0, 3, 12]
 | 12 => [0, 1, 4, 7, 8]
 | 13 => [0, 7]
 | 14 => [0, 7]
 | 15 => [0, 7]
 | 16 => [1, 2, 8]
 | 17 => [2, 5]
 | 18 => [2, 5]
 | _ => []
def kpos (k f : Nat) : Bool := f == 4 || f == 8 || (f == 5 && !(k == 3 || k == 4)) || (f == 7 && (k == 5 || k == 13))
def kcode (k : Nat) : Bool := k == 7 || k == 16
def Fact.num (x : Fact) : Nat → ByteArray × ByteArray
 | 4 => (x.qty, ⟨#[]⟩)
 | 5 => (x.amt, ⟨#[]⟩)
 | 6 => (x.fee, ⟨#[]⟩)
 | 7 => (x.pn, x.pd)
 | 8 => (x.rn, x.rd)
 | 9 => (x.sn, x.sd)
 | _ => (⟨#[]⟩, ⟨#[]⟩)
def numOk (n d : ByteArray) (pos part : Bool) : Prop := CanQ n d ∧ ndig n ≤ 40 ∧ ndig d ≤ 40 ∧ 0 ≤ fv n d ∧ (pos = true → 0 < fv n d) ∧ (part = true → fv n d ≤ 1)
def picksOk (x : Fact) : Prop := x.picks.length ≤ 64 ∧ (∀ p ∈ x.picks, idB p.lot = true ∧ numOk p.qty ⟨#[]⟩ true false) ∧ (x.picks.map Pk.lot).Nodup ∧ (x.picks.map fun p => vl p.qty).sum ≤ vl x.qty
def optOk (inst : ByteArray) (o : Opt) : Prop :=
 (o.other = ⟨#[]⟩ ∨ nameOk o.other = true) ∧ o.other ≠ inst ∧ numOk o.rn o.rd false false ∧ numOk o.pn o.pd false false ∧ numOk o.vn o.vd false false ∧
 (o.other = ⟨#[]⟩ ↔ (o.rn = ⟨#[]⟩ ∧ o.rd = ⟨#[]⟩)) ∧ (o.other = ⟨#[]⟩ → o.vn = ⟨#[]⟩ ∧ o.vd = ⟨#[]⟩)
def optsOk (x : Fact) : Prop := x.opts ≠ [] ∧ x.opts.length ≤ 8 ∧ ∀ o ∈ x.opts, optOk x.inst o
def fieldOk (x : Fact) (k : Nat) : Nat → Prop
 | 0 => nameOk x.inst = true
 | 1 => if kcode k = true then codeOk x.other = true ∧ x.other ≠ x.cur else nameOk x.other = true ∧ x.other ≠ x.inst
 | 2 => codeOk x.cur = true
 | 3 => nameOk x.target = true
 | 10 => picksOk x
 | 11 => optsOk x
 | 12 => 0 ≤ x.choice
 | f => numOk (x.num f).1 (x.num f).2 (kpos k f) (f == 9)
def emptyF (x : Fact) : Nat → Prop
 | 0 => x.inst = ⟨#[]⟩
 | 1 => x.other = ⟨#[]⟩
 | 2 => x.cur = ⟨#[]⟩
 | 3 => x.target = ⟨#[]⟩
 | 10 => x.picks = []
 | 11 => x.opts = []
 | 12 => x.choice = 0
 | f => x.num f = (⟨#[]⟩, ⟨#[]⟩)
def FOk (x : Fact) : Prop :=
 nameOk x.key = true ∧ 0 ≤ x.stamp ∧
 if x.canc = true then x.day = 0 ∧ x.kind = 0 ∧ ∀ f, f < 13 → emptyF x f
 else okDay x.day ∧ (1 ≤ x.kind ∧ x.kind ≤ 18) ∧ ∀ f, f < 13 → if f ∈ kfs x.kind.toNat then fieldOk x x.kind.toNat f else emptyF x f
def Fact.cells (x : Fact) (P O : Value) : Array Value := #[.string x.key, .int .i64 x.stamp, .bool x.canc, .int .i64 x.day, .int .i64 x.kind, .string x.inst, .string x.other, .string x.cur, .string x.target, .string x.qty, .string x.amt, .string x.fee, .string x.pn, .string x.pd, .string x.rn, .string x.rd, .string x.sn, .string x.sd, P, O, .int .i64 x.choice]
structure Fact.tiny (x : Fact) : Prop where
 key : x.key.size ≤ 24
 inst : x.inst.size ≤ 24
 other : x.other.size ≤ 24
 cur : x.cur.size ≤ 24
 target : x.target.size ≤ 24
 qty : x.qty.size ≤ 13
 amt : x.amt.size ≤ 13
 fee : x.fee.size ≤ 13
 pn : x.pn.size ≤ 13
 pd : x.pd.size ≤ 13
 rn : x.rn.size ≤ 13
 rd : x.rd.size ≤ 13
 sn : x.sn.size ≤ 13
 sd : x.sd.size ≤ 13
 np : x.picks.length ≤ 4 ∨ (64 < x.picks.length ∧ x.picks.length ≤ 66)
 no : x.opts.length ≤ 3 ∨ (8 < x.opts.length ∧ x.opts.length ≤ 10)
 picks : ∀ p ∈ x.picks, p.lot.size ≤ 30 ∧ p.qty.size ≤ 13
 opts : ∀ o ∈ x.opts, o.other.size ≤ 24 ∧ o.rn.size ≤ 13 ∧ o.rd.size ≤ 13 ∧ o.pn.size ≤ 13 ∧ o.pd.size ≤ 13 ∧ o.vn.size ≤ 13 ∧ o.vd.size ≤ 13
theorem Fact.tiny.num {x : Fact} (h : x.tiny) : ∀ f, (x.num f).1.size ≤ 13 ∧ (x.num f).2.size ≤ 13
 | 0 | 1 | 2 | 3 => ⟨Nat.zero_le _, Nat.zero_le _⟩
 | 4 => ⟨h.qty, Nat.zero_le _⟩
 | 5 => ⟨h.amt, Nat.zero_le _⟩
 | 6 => ⟨h.fee, Nat.zero_le _⟩
 | 7 => ⟨h.pn, h.pd⟩
 | 8 => ⟨h.rn, h.rd⟩
 | 9 => ⟨h.sn, h.sd⟩
 | _ + 10 => ⟨Nat.zero_le _, Nat.zero_le _⟩
def flatV (ls : List Lot) : List Value := ls.flatMap fun x => x.cells.toList
theorem flatV_append (a b : List Lot) : flatV (a ++ b) = flatV a ++ flatV b := by simp [flatV]
theorem flatV_cons (x : Lot) (a : List Lot) : flatV (x :: a) = x.cells.toList ++ flatV a := by simp [flatV]
theorem flatV_len (ls : List Lot) : (flatV ls).length = ls.length * 7 := by
 induction ls with
 | nil => rfl
 | cons x r ih => rw [flatV_cons, List.length_append, ih, List.length_cons]; simp; omega
theorem splitL {α : Type} {D : List α} {k : Nat} {x : α} (h : D[k]? = some x) : ∃ P Q, D = P ++ x :: Q ∧ P.length = k := by
 obtain ⟨hk, he⟩ := List.getElem?_eq_some_iff.1 h
 refine ⟨D.take k, D.drop (k + 1), ?_, by rw [List.length_take]; omega⟩
 rw [← he, ← List.drop_eq_getElem_cons hk, List.take_append_drop]
structure SRow (V : Lot → Prop) (w0 : World) (g : Nat) (sp : List Value) (D : List Lot) (W : World) : Prop where
 row : W.heap[g]? = some (.cells (flatV D ++ sp).toArray 55 (0, 0))
 ok : ∀ x ∈ D, V x
 gr : w0.grownBy W (some g)
 lt : g < w0.heap.size
section
variable {V : Lot → Prop} {w0 W W' : World} {g k : Nat} {sp : List Value} {D : List Lot} {x : Lot}
theorem SRow.ltW (h : SRow V w0 g sp D W) : g < W.heap.size := Nat.lt_of_lt_of_le h.lt h.gr.size
theorem SRow.at (h : SRow V w0 g sp D W) (hk : D[k]? = some x) : LotAt W ⟨g, k * 7, none⟩ x := by
 obtain ⟨P, Q, rfl, hP⟩ := splitL hk
 have hl : (flatV P).length = k * 7 := by rw [flatV_len, hP]
 have hc : ∀ f u, f < 7 → x.cells.toList[f]? = some u → W.cell? ⟨g, k * 7 + f, none⟩ = some u := fun f u hf hu => by
  rw [Lib.cell_of_heap h.row (k * 7 + f), List.getElem?_toArray, flatV_append, flatV_cons, List.append_assoc, List.getElem?_append_right (by omega), hl, Nat.add_sub_cancel_left, List.append_assoc, List.getElem?_append_left (by exact hf)]
  exact hu
 exact ⟨hc 0 _ (by omega) rfl, hc 1 _ (by omega) rfl, hc 2 _ (by omega) rfl, hc 3 _ (by omega) rfl, hc 4 _ (by omega) rfl, hc 5 _ (by omega) rfl, hc 6 _ (by omega) rfl⟩
theorem SRow.put (h : SRow V w0 g sp D W) (hk : D[k]? = some x) {y : Lot} (hy : V y) : SRow V w0 g sp (D.set k y) (W.setRow g (flatV (D.set k y) ++ sp).toArray) := by
 refine ⟨setRow_heap _ g _ _ _ _ h.row, fun z hz => ?_, ⟨h.gr.os, h.gr.tape, h.gr.output, by simp [World.setRow]; exact h.gr.size, fun j hj hne => ?_⟩, h.lt⟩
 ·rcases List.mem_or_eq_of_mem_set hz with hz | rfl
  ·exact h.ok z hz
  ·exact hy
 ·rw [setRow_other _ g j _ (fun e => hne (by rw [e]))]
  exact h.gr.block j hj hne
end
structure CmpS (V : Lot → Prop) (cf : Lot → Lot → Int) (f : Nat) (bd : Array Value) (w0 : World) (g : Nat) : Prop where
 en : ∀ args w, (callFunc f args).run Tryz.prog w = .ok (.enter f args) w
 run : ∀ W, w0.grownBy W (some g) → ∀ a b, V a → V b → Calls Tryz.prog f (#[a.enc, b.enc] ++ bd) W fun e w' => e = .returned (.int .i64 (cf a b)) ∧ Below W.heap.size W w'
theorem CmpS.at {V : Lot → Prop} {cf : Lot → Lot → Int} {f : Nat} {bd : Array Value} {w0 : World} {g : Nat} (h : CmpS V cf f bd w0 g) {sp : List Value} {D : List Lot} {x y : Lot} (hx : V x) (hy : V y) : ∀ W, SRow V w0 g sp D W →
 Calls Tryz.prog f (#[.agg #[.string x.id, .string x.inst, .int .i64 x.acq, .int .i64 x.opn, .string x.qty, .string x.cost, .string x.used], .agg #[.string y.id, .string y.inst, .int .i64 y.acq, .int .i64 y.opn, .string y.qty, .string y.cost, .string y.used]] ++ bd) W fun e w' => e = .returned (.int .i64 (cf x y)) ∧ Below W.heap.size W w' :=
 fun W hW => h.run W hW.gr x y hx hy
end Go.Proofs.YtbkmhmaldljgmaaGreatDoor
namespace Go.Proofs.YtbkmhmaldljgmaaGreatDoor
open Go.RowKit Tr Go.Shelf
def okL (l : Lot) : Prop := l.sized ∧ 0 < vl l.qty
end Go.Proofs.YtbkmhmaldljgmaaGreatDoor
