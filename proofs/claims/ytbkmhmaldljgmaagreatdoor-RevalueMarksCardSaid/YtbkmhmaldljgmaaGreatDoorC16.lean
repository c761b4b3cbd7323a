/-
  The walk of lot.CheckAll on valid lots with different ids.
  The iterator of lot.of: it gives the lots of an instrument, in their order.
  The walks of slices.AppendSeq, slices.Collect at lots, of lot.Of.
  The walks of slices.Collect at lots and of lot.Of.
  Slices of numbers as they are given (layer 40): slices.ContainsFunc whatever the function; revalue.Effects' check of a number, tranchelaw40.small, trancheref40.three.
  A region that draws its order, inside a fence, by an invariant over what has come up.
  A region that draws its order, outside of a fence, by an invariant over what has come up.
  A region that draws its order, taken by a table of its operations: laws at one operation, whatever the frame.
  A region that draws its order: one law for all of them. Each operation has a mark (what its slot holds, and what lies in memory once it has come up) that no other one breaks.
  Fractions by their values; the walks of accrual.round, days, valid.
  The walk of accrual.exact.
-/
import Derived.Test.YtbkmhmaldljgmaaGreatDoorC15
import Derived.Maps.Own
import Derived.Maps.Views
import Derived.Test.YtbkmhmaldljgmaaGreatDoorC10
import Derived.Test.YtbkmhmaldljgmaaGreatDoorC04
import Derived.Deep.DeepCutAuto
import Derived.Deep.RegionHeld3
set_option linter.unusedVariables false
set_option linter.unusedSimpArgs false
set_option maxHeartbeats 16000000
set_option maxRecDepth 100000
namespace Go.Proofs.YtbkmhmaldljgmaaGreatDoor
open Go.RowKit Tr Go.Shelf Go.Maps Go.WideMaps
structure LotAt (w : World) (p : Addr) (l : Lot) : Prop where
 c0 : w.cell? p = some (.string l.id)
 c1 : w.cell? ⟨p.block, p.off + 1, none⟩ = some (.string l.inst)
 c2 : w.cell? ⟨p.block, p.off + 2, none⟩ = some (.int .i64 l.acq)
 c3 : w.cell? ⟨p.block, p.off + 3, none⟩ = some (.int .i64 l.opn)
 c4 : w.cell? ⟨p.block, p.off + 4, none⟩ = some (.string l.qty)
 c5 : w.cell? ⟨p.block, p.off + 5, none⟩ = some (.string l.cost)
 c6 : w.cell? ⟨p.block, p.off + 6, none⟩ = some (.string l.used)
theorem LotAt.below {w w' : World} {p : Addr} {l : Lot} {B : Nat} (h : LotAt w p l) (hb : Below B w w') (hp : p.block < B) : LotAt w' p l :=
 ⟨(hb.cell hp).trans h.c0, (hb.cell (p := ⟨p.block, p.off + 1, none⟩) hp).trans h.c1, (hb.cell (p := ⟨p.block, p.off + 2, none⟩) hp).trans h.c2, (hb.cell (p := ⟨p.block, p.off + 3, none⟩) hp).trans h.c3, (hb.cell (p := ⟨p.block, p.off + 4, none⟩) hp).trans h.c4, (hb.cell (p := ⟨p.block, p.off + 5, none⟩) hp).trans h.c5, (hb.cell (p := ⟨p.block, p.off + 6, none⟩) hp).trans h.c6⟩
def RdL (w : World) (A : Option Addr) (ls : List Lot) : Prop :=
 ls ≠ [] → ∃ ad : Addr, A = some ad ∧ ad.block < w.heap.size ∧ ∀ (j : Nat) (l : Lot), ls[j]? = some l → LotAt w (ad.add (j * 7)) l
theorem RdL.nil (w : World) (A : Option Addr) : RdL w A [] := fun h => absurd rfl h
structure LotsOk (ls : List Lot) : Prop where
 len : ls.length ≤ 1000
 ok : ∀ l, l ∈ ls → l.sized ∧ l.ok
 ids : (ls.map Lot.id).Nodup
theorem strKeyed : Keyed Tryz.prog 9 := string_keyed Tryz.underlying9
def idKey (l : Lot) : Lit := .string l.id.data.toList
def seenD (ls : List Lot) : DataW Unit := setOf (.lit (.bool true)) (ls.map idKey)
theorem seenD_snoc (ls : List Lot) (l : Lot) : seenD (ls ++ [l]) = (seenD ls).put (idKey l) (.lit (.bool true)) := by
 unfold seenD; rw [List.map_append]; exact setOf_snoc _ _ _
theorem zeroBool (w : World) : (zeroValue 4).run Tryz.prog w = .ok (.bool false) w := by kernel_rfl
theorem plainElem_bool_inv {P : Program} {e : TypeId} (he : P.underlying e = some .bool) {v : Value} {z : DataW Unit × List MemPlace} (h : plainElem P e v = some z) : ∃ a, v = .bool a ∧ z = (.lit (.bool a), []) := by
 unfold plainElem at h
 rw [he] at h
 cases v <;> simp at h
 exact ⟨_, rfl, h.symm⟩
theorem seen_false {w : World} {b n : Nat} {ls : List Lot} {l : Lot} (h : w.ownsMap Tryz.prog 9 (plainElem Tryz.prog 4) b n (seenD ls)) (hs : l.id.size ≤ maxLen) (hn : ∀ x ∈ ls, x.id ≠ l.id) :
 (Instr.lookup 200 (.map (some b)) (.string l.id) false).run Tryz.prog w = .ok (.bool false) w := by
 obtain ⟨v, ps, hrun, hv⟩ := h.lookup strKeyed Tryz.underlying200 (zeroBool w) (plainElem_bool Tryz.underlying4 false) (keyOf_string_mk Tryz.underlying9 hs)
 have hh : has (seenD ls) (.string l.id.data.toList) = false := by
  unfold seenD
  rw [has_setOf _ _ _ (by intro x hx; obtain ⟨y, _, rfl⟩ := List.mem_map.1 hx; exact trivial)]
  rw [List.any_eq_false]
  intro x hx
  obtain ⟨y, hy, rfl⟩ := List.mem_map.1 hx
  rw [sameKey_ne]
  ·simp
  ·intro e
   injection e with e
   exact hn y hy (by rw [← bs_of y.id, ← bs_of l.id, e])
 rw [atKey_of_not_has hh] at hv
 obtain ⟨a, rfl, ha⟩ := plainElem_bool_inv Tryz.underlying4 hv
 simp at ha
 rw [hrun, ← ha.1]
theorem ownsMap_below {w w' : World} {P : Program} {k : TypeId} {R : Value → Option (DataW Unit × List MemPlace)} {b n : Nat} {D : DataW Unit} (h : w.ownsMap P k R b n D) (hb : Below w.heap.size w w') : w'.ownsMap P k R b n D := by
 have hlt := h.lt
 obtain ⟨es, clock, e, F, hs, hD⟩ := h
 exact ⟨es, clock, (hb.block b hlt).trans e, F, hs, hD⟩
theorem nodup_take {ls : List Lot} (h : (ls.map Lot.id).Nodup) {k : Nat} {l : Lot} (hl : ls[k]? = some l) : ∀ x ∈ ls.take k, x.id ≠ l.id := by
 intro x hx e
 obtain ⟨i, hi, rfl⟩ := List.getElem_of_mem hx
 have hk : k < ls.length := (List.getElem?_eq_some_iff.1 hl).1
 rw [List.length_take] at hi
 rw [List.getElem_take] at e
 have hl' : ls[k] = l := by rw [List.getElem?_eq_getElem hk] at hl; exact Option.some.inj hl
 rw [List.nodup_iff_pairwise_ne, List.pairwise_iff_getElem] at h
 have := h i k (by simp; omega) (by simpa using hk) (by omega)
 rw [List.getElem_map, List.getElem_map, hl'] at this
 exact this e
theorem lCheckAll_ok (A : Option Addr) (c : Nat) (ls : List Lot) (hc : ls.length ≤ c) (w : World) (hr : RdL w A ls) (h : LotsOk ls) (ht : Tabs w) :
 Calls Tryz.prog 111 #[.slice A ls.length c] w fun e w' => e = .returned (.int .i64 0) ∧ Below w.heap.size w w' := by
 have HR := Lib.hid hr
 have HT := Lib.hid ht
 have H := Lib.hid h
 have hlen := h.len
 have hgt : decide ((1000 : Int) < (ls.length : Int)) = false := by simp; omega
 clear hr ht h
 have hmm := @run_makeMap Tryz.prog
 go_enter Tryz.func111, Tryz.ntmps111
 go_wp2_with fail
 go_loopw [13] (fun v wr => ∃ k : Nat, v = .int .i64 (k : Int) ∧ k ≤ ls.length ∧ wr.ownsMap Tryz.prog 9 (plainElem Tryz.prog 4) w.heap.size k (seenD (ls.take k)) ∧ Below w.heap.size w wr) (fun v _ => ls.length - (intOf v).toNat)
 case atStart => exact ⟨0, rfl, by omega, World.ownsMap_made _ _ _ _, (Below.refl _ _).alloc (Nat.le_refl _) _⟩
 case round =>
  obtain ⟨k, rfl, hk, hown, hb⟩ := hrel
  have HO := Lib.hid hown
  have HB := Lib.hid hb
  clear hown hb
  rcases Nat.lt_or_ge k ls.length with hlt | hge
  ·obtain ⟨l, hl⟩ : ∃ l, ls[k]? = some l := ⟨_, List.getElem?_eq_getElem hlt⟩
   obtain ⟨ad, rfl, had, hcell⟩ := HR.out (by intro e; rw [e] at hlt; cases hlt)
   have hcx : decide ((k : Int) < (ls.length : Int)) = true := by simp; omega
   obtain ⟨c0, c1, c2, c3, c4, c5, c6⟩ := (hcell k l hl).below HB.out (by rw [add_block]; exact had)
   have hmem : l ∈ ls := List.mem_of_getElem? hl
   obtain ⟨hs, hok⟩ := H.out.ok l hmem
   have hids : ∀ x ∈ ls.take k, x.id ≠ l.id := nodup_take H.out.ids hl
   have hzid : l.id.size ≤ maxLen := by unfold maxLen; have := hs.1; omega
   have HSN : Hid (ls.take (k + 1) = ls.take k ++ [l]) := by
    rw [Hid, List.take_succ_eq_append_getElem hlt]
    congr 2
    rw [List.getElem?_eq_getElem hlt] at hl
    exact Option.some.inj hl
   have HC := Lib.hid (fun W hW => lCheck_ok l hs hok W hW)
   have HID := Lib.hid hids
   clear hcell hl hmem hs hok hids
   obtain ⟨W5, hW5⟩ : ∃ W5, wr.alloc (.cells l.cells 55) = W5 := ⟨_, rfl⟩
   have k5 : LotBox W5 wr.heap.size l := by rw [← hW5]; exact heap_alloc_new wr _
   have b5 : Below wr.heap.size wr W5 := by rw [← hW5]; exact (Below.refl _ wr).alloc (Nat.le_refl _) _
   have HK5 := Lib.hid k5
   have HB5 := Lib.hid (HB.out.trans (b5.mono HB.out.size))
   have HO5 := Lib.hid (ownsMap_below HO.out b5)
   obtain ⟨m0, m1, m2, m3, m4, m5, m6⟩ := cells7 k5
   clear k5 b5 HO
   unfold Lot.cells at hW5
   go_wp2_with fail
   refine (HC.out _ (HT.out.below HB5.out)).mono ?_
   rintro e w6 ⟨rfl, b6⟩
   have k6 := HK5.out.below b6
   have HB6 := Lib.hid (HB5.out.trans (b6.mono HB5.out.size))
   have hO6 := ownsMap_below HO5.out b6
   have hlk := seen_false hO6 hzid HID.out
   obtain ⟨w7, hup, hO7, hg7⟩ := hO6.update strKeyed Tryz.underlying200 (by unfold maxLen; omega) (keyOf_string_mk Tryz.underlying9 hzid) (plainElem_bool Tryz.underlying4 true)
   clear m0 m1 m2 m3 m4 m5 m6
   obtain ⟨m0, m1, m2, m3, m4, m5, m6⟩ := cells7 k6
   have HO7 : Hid (w7.ownsMap Tryz.prog 9 (plainElem Tryz.prog 4) w.heap.size (k + 1) (seenD (ls.take (k + 1)))) := by
    rw [HSN.out, seenD_snoc]; exact hO7
   have HB7 := Lib.hid (HB6.out.grown hg7 HB6.out.size (fun j hj => by cases hj; exact Nat.le_refl _))
   clear hO6 hO7 hg7 b6 k6 HO5 HB5 HK5
   go_wp2_with fail
   go_roundw
   case rel => exact ⟨k + 1, by go_num, by omega, HO7.out, HB7.out⟩
   case measure => simp [intOf]; omega
  ·have hcx : decide ((k : Int) < (ls.length : Int)) = false := by simp; omega
   go_wp2_with fail
   go_ret
   exact ⟨rfl, HB.out⟩
end Go.Proofs.YtbkmhmaldljgmaaGreatDoor
namespace Go.Proofs.YtbkmhmaldljgmaaGreatDoor
open Go.RowKit Tr Go.Shelf
attribute [local go_sem] Oper.semAt_some
abbrev SLot := { l : Lot // l.sized }
def encL (x : SLot) : Array Value := #[x.1.enc]
def ownL (ls : List SLot) (s : ByteArray) : List SLot := ls.filter fun l => decide (l.1.inst = s)
theorem ownL_succ {ls : List SLot} {s : ByteArray} {k : Nat} {l : SLot} (hl : ls[k]? = some l) : ownL (ls.take (k + 1)) s = ownL (ls.take k) s ++ (if l.1.inst = s then [l] else []) := by
 have hk : k < ls.length := (List.getElem?_eq_some_iff.1 hl).1
 have e : ls[k] = l := by rw [List.getElem?_eq_getElem hk] at hl; exact Option.some.inj hl
 unfold ownL
 rw [List.take_succ_eq_append_getElem hk, List.filter_append, e]
 by_cases h : l.1.inst = s <;> simp [h]
theorem ownL_len (ls : List SLot) (s : ByteArray) (k : Nat) : (ownL (ls.take k) s).length ≤ k := Nat.le_trans (List.length_filter_le _ _) (List.length_take_le _ _)
def KpB (n₀ b : Nat) (W W' : World) : Prop := Below n₀ W W' ∧ (b < W.heap.size → W'.heap[b]? = W.heap[b]?)
theorem KpB.trans {n₀ b : Nat} {A B C : World} (h : KpB n₀ b A B) (k : KpB n₀ b B C) : KpB n₀ b A C :=
 ⟨h.1.trans k.1, fun hb => (k.2 (Nat.lt_of_lt_of_le hb h.1.size)).trans (h.2 hb)⟩
theorem KpB.put {n₀ b N : Nat} (hn : n₀ ≤ N) (hb : b < N) (W : World) (l : Nat) (o o' : Obj) (hl : N ≤ l) (h : W.heap[l]? = some o) : KpB n₀ b W (W.putObj l o') :=
 ⟨(Below.refl n₀ W).grown (grownBy_putObj' W l o') (by have := (Array.getElem?_eq_some_iff.1 h).1; omega) (fun k e => by cases e; omega), fun _ => World.putObj_heap_other (by omega)⟩
theorem KpB.below {n₀ b : Nat} {A B : World} (h : Below A.heap.size A B) (hn : n₀ ≤ A.heap.size) : KpB n₀ b A B := ⟨h.mono hn, fun hb => h.block b hb⟩
def RdB (n₀ : Nat) (w : World) (A : Option Addr) (ls : List SLot) : Prop :=
 ls ≠ [] → ∃ ad : Addr, A = some ad ∧ ad.block < n₀ ∧ ∀ (j : Nat) (l : SLot), ls[j]? = some l → LotAt w (ad.add (j * 7)) l.1
theorem RdB.below {n₀ : Nat} {w w' : World} {A : Option Addr} {ls : List SLot} (h : RdB n₀ w A ls) (hb : Below n₀ w w') : RdB n₀ w' A ls := by
 intro hl
 obtain ⟨ad, rfl, h1, h2⟩ := h hl
 exact ⟨ad, rfl, h1, fun j l hj => (h2 j l hj).below hb (by rw [add_block]; exact h1)⟩
theorem str_eq (a b : ByteArray) : (a.toList == b.toList) = decide (a = b) := by
 by_cases h : a = b
 ·subst h; simp
 ·rw [neq_toList h]; simp [h]
theorem of1_seq (n n₀ bl bi : Nat) (A : Option Addr) (ls : List SLot) (c : Nat) (s : ByteArray) (w : World) (hn : 1 ≤ n) (hlen : ls.length ≤ 1000000)
 (hbl : Boxed w bl 56 (.slice A ls.length c)) (hbi : Boxed w bi 9 (.string s)) (hR : RdB n₀ w A ls) (hnw : n₀ ≤ w.heap.size) :
 SeqStopsK Fence.wide n Tryz.prog 119 #[.pointer (some ⟨bl, 0, none⟩), .pointer (some ⟨bi, 0, none⟩)] encL (KpB n₀ bi) (fun xs => xs = ownL ls s) (fun _ => True) (ls.length + 1) w := by
 intro l J Jx W hW hJ hJx hY hJ0
 have HJ := Lib.hid hJ
 have HY := Lib.hid hY
 have hbl' : Boxed W bl 56 (.slice A ls.length c) := (hW.block bl hbl.lt).trans hbl
 have hbi' : Boxed W bi 9 (.string s) := (hW.block bi hbi.lt).trans hbi
 have HBI := Lib.hid hbi'
 have HR := Lib.hid (hR.below (hW.mono hnw))
 have cl := hbl'.cell
 have hWs : w.heap.size ≤ W.heap.size := hW.size
 clear hJ hJx hY hbl hbi hbl' hbi' hR hW
 refine callsIn_of_wp Tryz.func119 rfl trivial ?_ rfl
 simp only [Tryz.ntmps119, List.size_toArray, List.length_cons, List.length_nil, Nat.reduceAdd, Nat.reduceSub, Array.replicate_succ, Array.replicate_zero, List.push_toArray, List.append_toArray, List.nil_append, List.cons_append]
 gi_wp2
 gi_loopw [8] (fun v wr => ∃ k : Nat, v = .int .i64 (k : Int) ∧ k ≤ ls.length ∧ Boxed wr bi 9 (.string s) ∧ RdB n₀ wr A ls ∧ n₀ ≤ wr.heap.size ∧ J (ownL (ls.take k) s) wr) (fun v _ => ls.length - (intOf v).toNat)
 case atStart => exact ⟨0, rfl, by omega, HBI.out, HR.out, Nat.le_trans hnw hWs, hJ0⟩
 case round =>
  obtain ⟨k, rfl, hk, hb, hr, hnr, hj⟩ := hrel
  clear HBI HR cl hJ0
  rcases Nat.lt_or_ge k ls.length with hlt | hge
  ·obtain ⟨x, hl⟩ : ∃ x, ls[k]? = some x := ⟨_, List.getElem?_eq_getElem hlt⟩
   obtain ⟨ad, rfl, had, hcell⟩ := hr (by intro e; rw [e] at hlt; cases hlt)
   have hcx : decide ((k : Int) < (ls.length : Int)) = true := by simp; omega
   obtain ⟨c0, c1, c2, c3, c4, c5, c6⟩ := hcell k x hl
   have HOS := Lib.hid (ownL_succ (s := s) hl)
   have HOL := Lib.hid (ownL_len ls s k)
   obtain ⟨W5, hW5⟩ : ∃ W5, wr.alloc (.cells x.1.cells 55) = W5 := ⟨_, rfl⟩
   have k5 : LotBox W5 wr.heap.size x.1 := by rw [← hW5]; exact heap_alloc_new wr _
   have b5 : Below wr.heap.size wr W5 := by rw [← hW5]; exact (Below.refl _ wr).alloc (Nat.le_refl _) _
   have hj5 : J (ownL (ls.take k) s) W5 := by rw [← hW5]; exact HJ.out _ _ _ none hj (World.grownBy_alloc wr _ none) (fun r e => by cases e)
   have hb5 : Boxed W5 bi 9 (.string s) := (b5.block bi hb.lt).trans hb
   have hr5 : RdB n₀ W5 (some ad) ls := hr.below (b5.mono hnr)
   have hn5 : n₀ ≤ W5.heap.size := Nat.le_trans hnr b5.size
   obtain ⟨m0, m1, m2, m3, m4, m5, m6⟩ := cells7 k5
   have cb := hb5.cell
   have hse := str_eq x.1.inst s
   have HBB := Lib.hid hb5
   have HRR := Lib.hid hr5
   have HJJ := Lib.hid hj5
   clear hb hr hj k5 b5 hb5 hr5 hj5 hcell hl
   unfold Lot.cells at hW5
   by_cases he : x.1.inst = s
   ·rw [decide_eq_true he] at hse
    obtain ⟨fn, tmps, assign, body, hy, hR⟩ := HY.out _ x W5 HJJ.out (by have := HOL.out; omega)
    dsimp only [encL, Lot.enc, Lot.cells] at hy
    have HE := Lib.hid he
    have HRD := Lib.hid hR
    clear he hR
    gi_wp2
    refine HRD.out.mono ?_
    rintro e W6 (⟨rfl, hj6, hk6⟩ | ⟨rfl, hjx⟩)
    ·have HB6 : Hid (Boxed W6 bi 9 (.string s)) := (hk6.2 HBB.out.lt).trans HBB.out
     have HR6 := Lib.hid (HRR.out.below hk6.1)
     have hn6 : n₀ ≤ W6.heap.size := Nat.le_trans hn5 hk6.1.size
     have HJ6 : Hid (J (ownL (ls.take (k + 1)) s) W6) := by rw [Hid, HOS.out, if_pos HE.out]; exact hj6
     clear hj6 hk6
     gi_wp2
     go_roundw
     case rel => exact ⟨k + 1, by go_num, by omega, HB6.out, HR6.out, hn6, HJ6.out⟩
     case measure => simp [intOf]; omega
    ·gi_wp2
     refine bodyPost_ret (results_none rfl _ _ _) rfl ?_
     exact ⟨⟨_, rfl⟩, .inr ⟨_, trivial, hjx⟩⟩
   ·rw [decide_eq_false he] at hse
    have HE := Lib.hid he
    clear he
    gi_wp2
    refine ⟨fun _ h => (by cases h), ?_⟩
    gi_wp2
    go_roundw
    case rel => exact ⟨k + 1, by go_num, by omega, HBB.out, HRR.out, hn5, by rw [HOS.out, if_neg HE.out, List.append_nil]; exact HJJ.out⟩
    case measure => simp [intOf]; omega
  ·have hcx : decide ((k : Int) < (ls.length : Int)) = false := by simp; omega
   gi_wp2
   go_end0
   refine ⟨⟨_, rfl⟩, .inl ⟨_, rfl, ?_⟩⟩
   rw [List.take_of_length_le (by omega)] at hj
   exact hj
theorem lof_any (A : Option Addr) (k c : Nat) (s : ByteArray) (w : World) :
 Calls Tryz.prog 71 #[.slice A k c, .string s] w fun e w' => e = .returned (.func (.func 119) #[] #[.pointer (some ⟨w.heap.size, 0, none⟩), .pointer (some ⟨w.heap.size + 1, 0, none⟩)]) ∧ w' = (w.alloc (.cells #[.slice A k c] 56)).alloc (.cells #[.string s] 9) := by
 go_enter Tryz.func71, Tryz.ntmps71
 go_wp2_with fail
 go_ret
 exact ⟨rfl, rfl⟩
end Go.Proofs.YtbkmhmaldljgmaaGreatDoor
namespace Go.Proofs.YtbkmhmaldljgmaaGreatDoor
open Go.RowKit Tr Go.Shelf
attribute [local go_sem] Oper.semAt_some
theorem Tryz.infoLot : (Tryz.prog.info? 55).map (fun i => (i.zero, i.size, i.bytes)) = some (some (.agg #[.string ⟨#[]⟩, .string ⟨#[]⟩, .int .i64 0, .int .i64 0, .string ⟨#[]⟩, .string ⟨#[]⟩, .string ⟨#[]⟩]), 7, 96) := by kernel_rfl
def flatL (ls : List SLot) : List Value := ls.flatMap fun x => x.1.cells.toList
theorem flatL_snoc (ls : List SLot) (x : SLot) : flatL (ls ++ [x]) = flatL ls ++ x.1.cells.toList := by simp [flatL]
theorem cells_new (w : World) (cs : Array Value) (t : TypeId) : ∀ j u, cs.toList[j]? = some u → (w.alloc (.cells cs t)).cell? ((⟨w.heap.size, 0, none⟩ : Addr).add j) = some u := by
 intro j u hj
 have h := heap_alloc_new w (.cells cs t)
 have e : (⟨w.heap.size, 0, none⟩ : Addr).add j = ⟨w.heap.size, j, none⟩ := by unfold Addr.add; split <;> simp_all
 rw [e, Lib.cell_of_heap h j]
 simpa using hj
theorem appendSeq_of (n bl bi n₀ : Nat) (A : Option Addr) (ls : List SLot) (c : Nat) (s : ByteArray) (w : World) (hn : 3 ≤ n) (hlen : ls.length ≤ 1000000)
 (hbl : Boxed w bl 56 (.slice A ls.length c)) (hbi : Boxed w bi 9 (.string s)) (hR : RdB n₀ w A ls) (hnw : n₀ ≤ w.heap.size) :
 CallsIn Fence.wide n Tryz.prog 118 #[.slice none 0 0, .func (.func 119) #[] #[.pointer (some ⟨bl, 0, none⟩), .pointer (some ⟨bi, 0, none⟩)]] w
  fun e w' => ∃ v, e = .returned v ∧ w'.ownsRow w.heap.size 55 7 v (ownL ls s).length (flatL (ownL ls s)) ∧ Below w.heap.size w w' := by
 have h1 : 1 ≤ n := by omega
 obtain ⟨i0, hi, hz0, hz1, hz2⟩ := info_parts Tryz.infoLot
 refine callsIn_of_wp_marks Tryz.func118 rfl trivial ?_ rfl
 simp only [Tryz.ntmps118, List.size_toArray, List.length_cons, List.length_nil, Nat.reduceAdd, Nat.reduceSub, Array.replicate_succ, Array.replicate_zero, List.push_toArray, List.append_toArray, List.nil_append, List.cons_append]
 gi_wp2
 obtain ⟨W0, hW0⟩ : ∃ W0, w.alloc (.cells #[.slice none 0 0] 56) = W0 := ⟨_, rfl⟩
 have hb0 : Below w.heap.size w W0 := by rw [← hW0]; exact (Below.refl _ w).alloc (Nat.le_refl _) _
 have hbo : Boxed W0 w.heap.size 56 (.slice none 0 0) := by rw [← hW0]; exact Boxed.new w _ _
 have hsz : W0.heap.size = w.heap.size + 1 := by rw [← hW0]; simp
 rw [hW0]
 have hbl0 : Boxed W0 bl 56 (.slice A ls.length c) := (hb0.block bl hbl.lt).trans hbl
 have hbi0 : Boxed W0 bi 9 (.string s) := (hb0.block bi hbi.lt).trans hbi
 have hlbi := hbi.lt
 refine wpIn_rangeFunc_ownH rfl h1 (gf := 119) (lb := #[.pointer (some ⟨bl, 0, none⟩), .pointer (some ⟨bi, 0, none⟩)]) rfl trivial (enters_of Tryz.func119 (by kernel_rfl) rfl)
  (of1_seq (n - 1) n₀ bl bi A ls c s W0 (by omega) hlen hbl0 hbi0 (hR.below (hb0.mono hnw)) (by omega)) KpB.trans (fun W l o o' hl h _ _ => KpB.put (N := W0.heap.size) (by omega) (by omega) W l o o' hl h) (Below.refl _ _) (fun _ => rfl)
  (fun pre W => (∃ v, Boxed W w.heap.size 56 v ∧ W.ownsRow w.heap.size 55 7 v pre.length (flatL pre) ∧ (∃ A' k' c', v = .slice A' k' c')) ∧ Below w.heap.size w W) (fun _ _ _ => False)
  (OwnFrom.and ((holdsRow_own w.heap.size w.heap.size 56 55 7 (fun pre => pre.length) (fun pre => flatL pre) (fun _ v => ∃ A' k' c', v = .slice A' k' c')).from _) (ownFrom_below (Nat.le_refl _) (by omega)))
  (fun _ => ownFrom_pure _ _) ⟨⟨_, hbo, World.ownsRow_nil _ _ _ _, ⟨_, _, _, rfl⟩⟩, hb0⟩
  (fun x a' W => ∃ Bx, w.heap.size < Bx ∧ LotBox W Bx x.1 ∧ a' = { tmps := #[Value.slice none 0 0, Value.func (Fn.func 119) #[] #[Value.pointer (some { block := bl, off := 0 }), Value.pointer (some { block := bi, off := 0 })], Value.pointer (some { block := w.heap.size, off := 0 }), undef, Value.slice none 0 0, Value.pointer (some { block := Bx, off := 0 }), Value.func (Fn.func 119) #[] #[Value.pointer (some { block := bl, off := 0 }), Value.pointer (some { block := bi, off := 0 })], x.1.enc, undef, undef, undef, undef, undef], defers := [] })
  (fun x a' => ?hAx) ?assign ?body ?done ?stop
 case hAx =>
  rintro _ X Y row ⟨Bx, hB, hx, rfl⟩ hg hr
  refine ⟨Bx, hB, (hg.block Bx hx.lt (fun e => ?_)).trans hx, rfl⟩
  obtain ⟨_, o, ho, hc⟩ := hr Bx e.symm
  rw [show X.heap[Bx]? = _ from hx] at ho; cases ho; cases hc
 case assign =>
  rintro l pre x W K ⟨⟨v, hv, hrow, hvs⟩, hB⟩ hK
  have hlt := hv.lt
  obtain ⟨W5, hW5⟩ : ∃ W5, W.alloc (.cells x.1.cells 55) = W5 := ⟨_, rfl⟩
  have b5 : Below W.heap.size W W5 := by rw [← hW5]; exact (Below.refl _ W).alloc (Nat.le_refl _) _
  have HF : Hid (LotBox W5 W.heap.size x.1 ∧ KeepsFrom W0.heap.size W W5 ∧ KpB n₀ bi W W5 ∧ Boxed W5 w.heap.size 56 v ∧ W5.ownsRow w.heap.size 55 7 v pre.length (flatL pre) ∧ Below w.heap.size w W5) := by
   refine ⟨by rw [← hW5]; exact heap_alloc_new W _, by rw [← hW5]; exact (KeepsOthers.alloc _ _).from _, KpB.below b5 (by have := hB.size; omega), (b5.block _ hlt).trans hv, by rw [← hW5]; exact hrow.alloc _, hB.trans (b5.mono hB.size)⟩
  clear b5
  dsimp only [encL, Lot.enc, Lot.cells] at hW5 ⊢
  gi_wp2
  obtain ⟨f1, f2, f3, f4, f5, f6⟩ := HF.out
  exact hK _ _ f2 f3 ⟨⟨v, f4, f5, hvs⟩, f6⟩ ⟨W.heap.size, hlt, f1, rfl⟩
 case body =>
  rintro l pre x a' W hl ⟨r, hr⟩ ⟨⟨v, hv, hrow, ⟨A', k', c', rfl⟩⟩, hB⟩ ⟨Bx, hBx, bX, rfl⟩ hlt
  have hc := hv.cell
  obtain ⟨m0, m1, m2, m3, m4, m5, m6⟩ := cells7 bX
  dsimp only [Lot.enc, Lot.cells]
  gi_wp2_with (gi_at_builtin; refine wpListIn_append_own _ rfl _ _ 56 rfl w.heap.size 55 i0 (.agg #[.string ⟨#[]⟩, .string ⟨#[]⟩, .int .i64 0, .int .i64 0, .string ⟨#[]⟩, .string ⟨#[]⟩, .string ⟨#[]⟩]) 7 96 Tryz.underlying56 hi hz0 hz1 hz2 rfl (by decide) _ _ _ rfl (hrow.alloc _) ⟨W.heap.size, 0, none⟩ 1 1 x.1.cells.toList rfl rfl (cells_new _ _ _) (by simp [Value.oneCell']) (by unfold maxLen; omega) (by omega) (by have := hB.size; simp; omega) ?_; intro v' w1 hown' hgrow _; obtain ⟨g', cap', rfl⟩ := ownsRow_succ hown'; obtain ⟨hv1, hv2, hr2, hk2, hb2⟩ := hv.appended (by decide) hrow hB.size (Nat.le_refl _) hown' hgrow; have hc1 := hv1.cell; have hf1 := hv1.frozen)
  exact ⟨hk2.from _, ⟨hb2.mono hnw, fun _ => hb2.block bi hlbi⟩, ⟨_, hv2, by rw [flatL_snoc, List.length_append]; exact hr2, ⟨_, _, _, rfl⟩⟩, hB.trans hb2⟩
 case done =>
  rintro D xs W hD rfl ⟨⟨v, hv, hrow, hvs⟩, hB⟩ hK
  have hc := hv.cell
  obtain ⟨A', k', c', rfl⟩ := hvs
  gi_wp2
  refine ⟨by simp, .inl ⟨_, _, rfl, run_takeDeferred hK, ?_⟩⟩
  exact ⟨_, results_tmp rfl _ _ _, _, rfl, ownsRow_putObj hrow _ hK rfl, hB.trans (belowK_b (w := w) (Nat.le_refl _) W D _ _ (by omega) hK rfl rfl)⟩
 case stop =>
  rintro D c pre W _ _ h _
  exact h.elim
end Go.Proofs.YtbkmhmaldljgmaaGreatDoor
namespace Go.Proofs.YtbkmhmaldljgmaaGreatDoor
open Go.RowKit Tr Go.Shelf
attribute [local go_sem] Oper.semAt_some
theorem flatL_get : ∀ (ls : List SLot) (j : Nat) (l : SLot), ls[j]? = some l → ∀ f, f < 7 → (flatL ls)[j * 7 + f]? = l.1.cells[f]?
 | [], j, l, h, f, hf => by simp at h
 | x :: r, 0, l, h, f, hf => by
   simp at h
   subst h
   simp only [flatL, List.flatMap_cons]
   rw [List.getElem?_append_left (by simp; omega)]
   simp
 | x :: r, j + 1, l, h, f, hf => by
   simp at h
   have := flatL_get r j l h f hf
   simp only [flatL, List.flatMap_cons] at this ⊢
   rw [List.getElem?_append_right (by simp; omega)]
   rw [← this]
   congr 1
   simp; omega
theorem addr_add0 (g m : Nat) : (⟨g, 0, none⟩ : Addr).add m = ⟨g, m, none⟩ := by unfold Addr.add; split <;> simp_all
theorem RdB.of_own {w : World} {base : Nat} {v : Value} {ls : List SLot} (h : w.ownsRow base 55 7 v ls.length (flatL ls)) :
 ∃ A c, v = .slice A ls.length c ∧ ls.length ≤ c ∧ (∀ ad, A = some ad → base ≤ ad.block) ∧ RdB w.heap.size w A ls := by
 rcases h.2 with ⟨rfl, h0⟩ | ⟨g, cap, cur, rfl, hb, hg, hnc, hcm, _⟩
 ·have : ls = [] := List.eq_nil_of_length_eq_zero h0
  subst this
  exact ⟨none, 0, rfl, Nat.le_refl _, (fun _ e => by cases e), fun e => absurd rfl e⟩
 ·refine ⟨_, _, rfl, hnc, fun ad e => by cases e; exact hb, fun _ => ⟨_, rfl, (Array.getElem?_eq_some_iff.1 hg).1, fun j l hj => ?_⟩⟩
  have hc := h.cells (g := g) rfl
  have q : ∀ f, f < 7 → ∀ u, l.1.cells[f]? = some u → w.cell? ⟨g, j * 7 + f, none⟩ = some u := by
   intro f hf u hu
   have := hc (j * 7 + f) u (by rw [flatL_get ls j l hj f hf]; exact hu)
   rwa [addr_add0] at this
  rw [addr_add0]
  exact ⟨q 0 (by omega) _ rfl, q 1 (by omega) _ rfl, q 2 (by omega) _ rfl, q 3 (by omega) _ rfl, q 4 (by omega) _ rfl, q 5 (by omega) _ rfl, q 6 (by omega) _ rfl⟩
def LotsPost (w : World) (ls : List SLot) (e : Ending) (w' : World) : Prop := ∃ A c, e = .returned (.slice A ls.length c) ∧ ls.length ≤ c ∧ (∀ ad, A = some ad → w.heap.size ≤ ad.block) ∧ RdB w'.heap.size w' A ls ∧ Below w.heap.size w w'
theorem lOf_any (n₀ : Nat) (A : Option Addr) (ls : List SLot) (c : Nat) (s : ByteArray) (w : World) (hlen : ls.length ≤ 1000000) (hR : RdB n₀ w A ls) (hnw : n₀ ≤ w.heap.size) :
 Calls Tryz.prog 40 #[.slice A ls.length c, .string s] w (LotsPost w (ownL ls s)) := by
 have hC : ∀ (W : World) (bl bi : Nat), Boxed W bl 56 (.slice A ls.length c) → Boxed W bi 9 (.string s) → RdB n₀ W A ls → n₀ ≤ W.heap.size →
  Calls Tryz.prog 70 #[.func (.func 119) #[] #[.pointer (some ⟨bl, 0, none⟩), .pointer (some ⟨bi, 0, none⟩)]] W (LotsPost W (ownL ls s)) := by
  intro W bl bi k0 k1 k2 k3
  have HA := Lib.hid ((callsIn_wide (n := 6)).1 (appendSeq_of 6 bl bi n₀ A ls c s W (by omega) hlen k0 k1 k2 k3))
  clear k0 k1 k2 k3 hR hnw
  go_enter Tryz.func70, Tryz.ntmps70
  go_wp2_with fail
  refine HA.out.mono ?_
  rintro e w1 ⟨v, rfl, hrow, hb⟩
  obtain ⟨A', c', rfl, h1, h2, h3⟩ := RdB.of_own hrow
  have HF : Hid (LotsPost W (ownL ls s) (.returned (.slice A' (ownL ls s).length c')) w1) := ⟨A', c', rfl, h1, h2, h3, hb⟩
  clear hrow h1 h2 h3 hb
  go_wp2_with fail
  go_ret
  exact HF.out
 have HC := Lib.hid hC
 have HR := Lib.hid hR
 clear hC hR
 go_enter Tryz.func40, Tryz.ntmps40
 go_wp2_with fail
 refine (lof_any A ls.length c s w).mono ?_
 rintro e w1 ⟨rfl, hw1⟩
 have b1 : Below w.heap.size w w1 := by rw [hw1]; exact ((Below.refl _ w).alloc (Nat.le_refl _) _).alloc (by simp) _
 have k0 : Boxed w1 w.heap.size 56 (.slice A ls.length c) := by rw [hw1]; exact (Boxed.new w _ _).alloc _
 have k1 : Boxed w1 (w.heap.size + 1) 9 (.string s) := by
  rw [hw1]
  have := Boxed.new (w.alloc (.cells #[.slice A ls.length c] 56)) 9 (.string s)
  rwa [World.size_alloc] at this
 have HX := Lib.hid (HC.out w1 _ _ k0 k1 (HR.out.below (b1.mono hnw)) (Nat.le_trans hnw b1.size))
 have HB1 := Lib.hid b1
 clear hw1 k0 k1 b1
 go_wp2_with fail
 refine HX.out.mono ?_
 rintro e w2 ⟨A', c', rfl, h1, h2, h3, h4⟩
 have HF : Hid (LotsPost w (ownL ls s) (.returned (.slice A' (ownL ls s).length c')) w2) := ⟨A', c', rfl, h1, fun ad e => Nat.le_trans HB1.out.size (h2 ad e), h3, HB1.out.trans (h4.mono HB1.out.size)⟩
 clear h1 h2 h3 h4
 go_wp2_with fail
 go_ret
 exact HF.out
end Go.Proofs.YtbkmhmaldljgmaaGreatDoor
namespace Go.Proofs.YtbkmhmaldljgmaaGreatDoor
open Go.RowKit Tr Go.Shelf
def RdS (W : World) (A : Option Addr) (l : List ByteArray) : Prop := l ≠ [] → ∃ ad : Addr, A = some ad ∧ ad.block < W.heap.size ∧ ∀ k b, l[k]? = some b → W.cell? (ad.add k) = some (.string b)
theorem RdS.below {W W' : World} {A : Option Addr} {l : List ByteArray} (h : RdS W A l) (hb : Below W.heap.size W W') : RdS W' A l := by
 intro hl
 obtain ⟨ad, rfl, h1, h2⟩ := h hl
 exact ⟨ad, rfl, Nat.lt_of_lt_of_le h1 hb.size, fun k b hk => (hb.cell (by rw [add_block]; exact h1)).trans (h2 k b hk)⟩
theorem idxS_any (pf : ByteArray → Bool) (f : Nat) (A : Option Addr) (l : List ByteArray) (c : Nat) (hl : l.length ≤ 1000) (w : World) (hs : RdS w A l) (hen : ∀ args w, (callFunc f args).run Tryz.prog w = .ok (.enter f args) w)
 (hf : ∀ W, Below w.heap.size w W → ∀ b ∈ l, Calls Tryz.prog f #[.string b] W fun e w' => e = .returned (.bool (pf b)) ∧ Below W.heap.size W w') :
 Calls Tryz.prog 38 #[.slice A l.length c, .func (.func f) #[] #[]] w fun e w' => ∃ k : Int, e = .returned (.int .i64 k) ∧ decide (0 ≤ k) = l.any pf ∧ Below w.heap.size w w' := by
 have HS := Lib.hid hs
 have HF := Lib.hid hf
 obtain ⟨n, hn⟩ : ∃ n, l.length = n := ⟨_, rfl⟩
 have HN := Lib.hid hn
 rw [hn] at hl ⊢
 clear hs hf hn
 go_enter Tryz.func38, Tryz.ntmps38
 go_wp2_with fail
 go_loopw [8] (fun v8 wr => ∃ k : Nat, v8 = .int .i64 (k : Int) ∧ k ≤ n ∧ (∀ b ∈ l.take k, pf b = false) ∧ Below w.heap.size w wr) (fun v _ => n - (intOf v).toNat)
 case atStart => exact ⟨0, rfl, by omega, fun b hb => by simp at hb, Below.refl _ _⟩
 case round =>
  obtain ⟨k, rfl, hk, hno, hb⟩ := hrel
  have HBw := Lib.hid hb
  have HNO := Lib.hid hno
  clear hb hno
  rcases Nat.lt_or_ge k n with hlt | hge
  ·have hcx : decide ((k : Int) < (n : Int)) = true := by simp; omega
   have hbk : (k : Int) < (n : Int) := by omega
   obtain ⟨b, hz⟩ : ∃ b, l[k]? = some b := ⟨_, List.getElem?_eq_getElem (by rw [HN.out]; exact hlt)⟩
   obtain ⟨ad, rfl, had, hrd⟩ := (HS.out.below HBw.out) (fun e => by rw [e] at hz; simp at hz)
   have hc := hrd k b hz
   have HA := Lib.hid (HF.out wr HBw.out b (List.mem_of_getElem? hz))
   have HT : Hid (l.take (k + 1) = l.take k ++ [b]) := by rw [Hid, List.take_add_one, hz]; rfl
   have HM : Hid (b ∈ l) := List.mem_of_getElem? hz
   obtain ⟨p, hp⟩ : ∃ p, pf b = p := ⟨_, rfl⟩
   rw [hp] at HA
   have HP := Lib.hid hp
   clear hz had hrd hp
   go_wp2_with fail
   refine HA.out.mono ?_
   rintro e w1 ⟨rfl, b1⟩
   cases p with
   | true =>
     go_wp2_with fail
     go_ret
     exact ⟨(k : Int), rfl, by rw [List.any_eq_true.2 ⟨b, HM.out, HP.out⟩]; exact decide_eq_true (by omega), HBw.out.trans (b1.mono HBw.out.size)⟩
   | false =>
     go_wp2_with fail
     go_roundw
     case rel => exact ⟨k + 1, by go_num, by omega, fun x hx => by
      rw [HT.out] at hx
      rcases List.mem_append.1 hx with h | h
      ·exact HNO.out x h
      ·rw [List.mem_singleton.1 h]; exact HP.out, HBw.out.trans (b1.mono HBw.out.size)⟩
     case measure => simp [intOf]; omega
  ·have hcx : decide ((k : Int) < (n : Int)) = false := by simp; omega
   have hkn : k = n := by omega
   have HNA : Hid (l.any pf = false) := by
    rw [Hid, List.any_eq_false]
    intro b hb
    rw [HNO.out b (by rw [hkn, List.take_of_length_le (by rw [HN.out]; omega)]; exact hb)]
    exact Bool.false_ne_true
   go_wp2_with fail
   go_ret
   exact ⟨-1, rfl, by rw [HNA.out]; rfl, HBw.out⟩
theorem hasS_any (pf : ByteArray → Bool) (f : Nat) (A : Option Addr) (l : List ByteArray) (c : Nat) (hl : l.length ≤ 1000) (w : World) (hs : RdS w A l) (hen : ∀ args w, (callFunc f args).run Tryz.prog w = .ok (.enter f args) w)
 (hf : ∀ W, Below w.heap.size w W → ∀ b ∈ l, Calls Tryz.prog f #[.string b] W fun e w' => e = .returned (.bool (pf b)) ∧ Below W.heap.size W w') :
 Calls Tryz.prog 18 #[.slice A l.length c, .func (.func f) #[] #[]] w fun e w' => e = .returned (.bool (l.any pf)) ∧ Below w.heap.size w w' := by
 have HI := Lib.hid (idxS_any pf f A l c hl w hs hen hf)
 obtain ⟨g, hg⟩ : ∃ g, l.any pf = g := ⟨_, rfl⟩
 rw [hg] at HI ⊢
 clear hs hf hg
 go_enter Tryz.func18, Tryz.ntmps18
 go_wp2_with fail
 refine HI.out.mono ?_
 rintro e w1 ⟨k, rfl, hk, b1⟩
 go_wp2_with fail
 go_ret
 exact ⟨by rw [← hk]; rfl, b1⟩
def oddS (a : ByteArray) : Bool := !decide (I (vl a) = a)
theorem rvOdd_any (a : ByteArray) (ha : a.size ≤ 1000000) (w : World) : Calls Tryz.prog 22 #[.string a] w fun e w' => e = .returned (.bool (oddS a)) ∧ Below w.heap.size w w' := by
 by_cases h : Can a
 ·have HC := Lib.hid (Check_yes a w (by omega) h)
  have ho : oddS a = false := by unfold oddS; rw [decide_eq_true (show I (vl a) = a from h)]; rfl
  rw [ho]
  clear h
  go_enter Tryz.func22, Tryz.ntmps22
  go_wp2_with fail
  refine HC.out.mono ?_
  rintro e w1 ⟨rfl, b1⟩
  go_wp2_with fail
  go_ret
  exact ⟨rfl, b1⟩
 ·have HC := Lib.hid (Check_no a w (by omega) h)
  have ho : oddS a = true := by unfold oddS; rw [decide_eq_false (show ¬ I (vl a) = a from h)]; rfl
  rw [ho]
  clear h
  go_enter Tryz.func22, Tryz.ntmps22
  go_wp2_with fail
  refine HC.out.mono ?_
  rintro e w1 ⟨rfl, b1⟩
  go_wp2_with fail
  go_ret
  exact ⟨rfl, b1⟩
def longS (a : ByteArray) : Bool := decide (13 < a.size)
theorem small40a_any (a : ByteArray) (w : World) : Calls Tryz.prog 19 #[.string a] w fun e w' => e = .returned (.bool (longS a)) ∧ Below w.heap.size w w' := by
 have h : longS a = decide ((13 : Int) < (a.size : Int)) := by unfold longS; rw [decide_eq_decide]; omega
 have h2 : longS a = decide ((a.size : Int) > 13) := h
 go_enter Tryz.func19, Tryz.ntmps19
 go_wp2_with fail
 go_ret
 exact ⟨by first | rfl | (rw [h]; rfl) | simp [longS], Below.refl _ _⟩
def smallS (l : List ByteArray) : Bool := decide (l.length ≤ 4) && !l.any longS
theorem small40_any (A : Option Addr) (l : List ByteArray) (c : Nat) (w : World) (hs : RdS w A l) :
 Calls Tryz.prog 7 #[.slice A l.length c] w fun e w' => e = .returned (.bool (smallS l)) ∧ Below w.heap.size w w' := by
 by_cases h4 : l.length ≤ 4
 ·have hen : ∀ args w, (callFunc 19 args).run Tryz.prog w = .ok (.enter 19 args) w := fun args w => by kernel_rfl
  have HH := Lib.hid (hasS_any longS 19 A l c (by omega) w hs hen (fun W _ b _ => small40a_any b W))
  have hsm : smallS l = !l.any longS := by unfold smallS; rw [decide_eq_true h4]; simp
  rw [hsm]
  obtain ⟨g, hg⟩ : ∃ g, l.any longS = g := ⟨_, rfl⟩
  rw [hg] at HH ⊢
  have c1 : decide ((l.length : Int) ≤ 4) = true := decide_eq_true (by omega)
  have c2 : (l.length : Int) ≤ 4 := by omega
  clear hs hg hsm hen
  go_enter Tryz.func7, Tryz.ntmps7
  go_wp2_with fail
  refine HH.out.mono ?_
  rintro e w1 ⟨rfl, b1⟩
  go_wp2_with fail
  go_ret
  exact ⟨rfl, b1⟩
 ·have hsm : smallS l = false := by unfold smallS; rw [decide_eq_false h4]; rfl
  rw [hsm]
  have c1 : decide ((l.length : Int) ≤ 4) = false := decide_eq_false (by omega)
  have c2 : ¬ (l.length : Int) ≤ 4 := by omega
  clear hs hsm
  go_enter Tryz.func7, Tryz.ntmps7
  go_wp2_with fail
  go_ret
  exact ⟨rfl, Below.refl _ _⟩
def waits (L : List Bool) : Nat := (L.filter fun b => !b).length
theorem waits_set : ∀ (L : List Bool) (i : Nat), L[i]? = some false → waits (L.set i true) < waits L
 | [], i, h => by simp at h
 | b :: r, 0, h => by simp at h; subst h; simp [waits]
 | b :: r, i + 1, h => by
   simp at h
   have := waits_set r i h
   unfold waits at *
   cases b <;> simp at * <;> omega
theorem waits_zero : ∀ (L : List Bool) (i : Nat), waits L = 0 → L[i]? ≠ some false
 | [], i, _ => by simp
 | b :: r, 0, h => by cases b <;> simp [waits] at h ⊢
 | b :: r, i + 1, h => by
   simp
   refine waits_zero r i ?_
   unfold waits at *
   cases b <;> simp at h ⊢ <;> exact h
theorem getD_false {L : Array Bool} {i : Nat} (h : L.getD i true = false) : L.toList[i]? = some false := by
 rw [Array.getD_eq_getD_getElem?] at h
 rw [Array.getElem?_toList]
 cases hh : L[i]? with
 | none => rw [hh] at h; cases h
 | some b => rw [hh] at h; simp at h; rw [h]
variable {F : Fence} {n : Nat} {P : Program} {md : Region.Mode} {ops : Array Oper} {Q : Exit → Act → World → Prop}
theorem wpAnyIn_inv (J : Array Bool → Act → World → Prop)
 (hstep : ∀ L a w, J L a w → ∀ i ∈ Region.ready md ops L, wpOpIn F n P ops Q i (J (L.setIfInBounds i true)) a w)
 (hdone : ∀ L a w, J L a w → Region.ready md ops L = [] → Q .normal a w) :
 ∀ (fuel : Nat) (L : Array Bool) (a : Act) (w : World), J L a w → waits L.toList ≤ fuel → wpAnyIn F n P md ops Q fuel L a w := by
 intro fuel
 induction fuel with
 | zero =>
   intro L a w hj hw
   have hr : Region.ready md ops L = [] := by
    refine List.eq_nil_iff_forall_not_mem.2 fun i hi => ?_
    exact waits_zero L.toList i (by omega) (getD_false (mem_ready.1 hi).1)
   exact ⟨hr, hdone L a w hj hr⟩
 | succ fuel ih =>
   intro L a w hj hw
   refine ⟨fun hr => hdone L a w hj hr, fun i hi => wpOpIn_mono (fun a' w' h' => ih _ a' w' h' ?_) (hstep L a w hj i hi)⟩
   have := waits_set L.toList i (getD_false (mem_ready.1 hi).1)
   rw [Array.toList_setIfInBounds]
   omega
theorem getD_set_same {L : Array Bool} {i : Nat} (h : L.getD i true = false) : (L.setIfInBounds i true).getD i false = true := by
 have := getD_false h
 rw [Array.getElem?_toList] at this
 have hi := (Array.getElem?_eq_some_iff.1 this).1
 simp [Array.getD_eq_getD_getElem?, hi]
theorem getD_set_other {L : Array Bool} {i j : Nat} (h : i ≠ j) : (L.setIfInBounds i true).getD j false = L.getD j false := by
 simp [Array.getD_eq_getD_getElem?, Array.getElem?_setIfInBounds, h]
theorem getD_off {L : Array Bool} {i : Nat} (h : L.getD i true = false) : L.getD i false = false := by
 have := getD_false h
 rw [Array.getElem?_toList] at this
 simp [Array.getD_eq_getD_getElem?, this]
theorem getD_up {L : Array Bool} {i j : Nat} (hun : L.getD i true = false) (h : L.getD j false = true) : (L.setIfInBounds i true).getD j false = true := by
 by_cases e : i = j
 ·subst e; exact getD_set_same hun
 ·rw [getD_set_other e]; exact h
theorem getD_dn {L : Array Bool} {i j : Nat} (e : i ≠ j) (h : (L.setIfInBounds i true).getD j false = true) : L.getD j false = true := by rwa [getD_set_other e] at h
theorem getD_df {L : Array Bool} {i j : Nat} (e : i ≠ j) (h : (L.setIfInBounds i true).getD j false = false) : L.getD j false = false := by rwa [getD_set_other e] at h
theorem not_on {L : Array Bool} {i : Nat} (h : L.getD i false = false) (k : L.getD i false = true) : False := by rw [h] at k; cases k
theorem off_or_on (L : Array Bool) (i : Nat) : L.getD i false = false ∨ L.getD i false = true := by cases L.getD i false <;> simp
theorem ready_of {L : Array Bool} {i : Nat} {o : Oper} (hsz : i < L.size) (hoff : L.getD i false = false) (ho : ops[i]? = some o) (ha : ∀ e ∈ o.after, Region.binds md e = true → L.getD e.on false = true) : i ∈ Region.ready md ops L :=
 mem_ready.2 ⟨by rw [Array.getD_eq_getD_getElem?] at *; rw [Array.getElem?_eq_getElem hsz] at *; simpa using hoff, o, ho, ha⟩
theorem Um {L : Array Bool} {i j : Nat} {X : Prop} (f : L.getD j false = true → X) (e : i ≠ j := by decide) : (L.setIfInBounds i true).getD j false = true → X := fun h => f (getD_dn e h)
theorem hI {p : Prop} (h : p) : Hid p := h
theorem Hq {m : Region.Mode} {o : Oper} {L : Array Bool} (hall : ∀ e ∈ o.after, Region.binds m e = true → L.getD e.on false = true) (j : Nat) (h : (o.after.toList.any fun e => Nat.beq e.on j && Region.binds m e) = true := by decide) : Hid (L.getD j false = true) := by
 rw [List.any_eq_true] at h
 obtain ⟨e, he, h2⟩ := h
 rw [Bool.and_eq_true] at h2
 rw [← Nat.eq_of_beq_eq_true h2.1]
 exact hall e (Array.mem_toList_iff.1 he) h2.2
theorem wpOp_hid {P : Program} {ops : Array Oper} {Q : Exit → Act → World → Prop} {i : Nat} {o : Oper} {K : Act → World → Prop} {a : Act} {w : World} (ho : ops[i]? = some o) (h : ∀ K' : Act → World → Prop, Hid (∀ a w, K a w → K' a w) → if Region.wanted o (yielded ops a.tmps) = true then Oper.wp P o a w K' Q else K' (a.put o.dst undef) w) : wpOp P ops Q i K a w := wpOp_step ho fun K' hK => h K' hK
theorem Un {L : Array Bool} {i j k : Nat} {X : Prop} (f : L.getD j false = true → L.getD k false = false → X) (e : i ≠ j := by decide) (d : i ≠ k := by decide) : (L.setIfInBounds i true).getD j false = true → (L.setIfInBounds i true).getD k false = false → X := fun h g => f (getD_dn e h) (getD_df d g)
theorem Uf {L : Array Bool} {i k : Nat} {X : Prop} (f : L.getD k false = false → X) (d : i ≠ k := by decide) : (L.setIfInBounds i true).getD k false = false → X := fun g => f (getD_df d g)
def leansBack (md : Region.Mode) (ops : Array Oper) (n : Nat) : Bool :=
 (List.range n).all fun i => match ops[i]? with
   | none => false
   | some o => o.after.all fun e => !Region.binds md e || Nat.blt e.on i
theorem all_on {md : Region.Mode} {ops : Array Oper} {L : Array Bool} {n : Nat} (hr : Region.ready md ops L = []) (hsz : L.size = n) (hc : leansBack md ops n = true) : ∀ i, i < n → L.getD i false = true := by
 intro i
 induction i using Nat.strongRecOn with
 | ind i ih =>
   intro hi
   have hh := List.all_eq_true.1 hc i (List.mem_range.2 hi)
   cases ho : ops[i]? with
   | none => rw [ho] at hh; cases hh
   | some o =>
     rw [ho] at hh
     simp only [Array.all_eq_true_iff_forall_mem, Bool.or_eq_true, Bool.not_eq_true'] at hh
     refine (off_or_on L i).resolve_left fun h => ?_
     refine List.eq_nil_iff_forall_not_mem.1 hr i (ready_of (by rw [hsz]; exact hi) h ho (fun e he hbd => ?_))
     rcases hh e he with hb | hb
     ·rw [hb] at hbd; cases hbd
     ·rw [Nat.blt_eq] at hb
      exact ih e.on hb (Nat.lt_trans hb hi)
end Go.Proofs.YtbkmhmaldljgmaaGreatDoor
namespace Go.Proofs.YtbkmhmaldljgmaaGreatDoor
open Go.RowKit Tr Go.Shelf
variable {P : Program} {md : Region.Mode} {ops : Array Oper} {Q : Exit → Act → World → Prop}
theorem wpAny_inv (J : Array Bool → Act → World → Prop)
 (hstep : ∀ L a w, J L a w → ∀ i ∈ Region.ready md ops L, wpOp P ops Q i (J (L.setIfInBounds i true)) a w)
 (hdone : ∀ L a w, J L a w → Region.ready md ops L = [] → Q .normal a w) :
 ∀ (fuel : Nat) (L : Array Bool) (a : Act) (w : World), J L a w → waits L.toList ≤ fuel → wpAny P md ops Q fuel L a w := by
 intro fuel
 induction fuel with
 | zero =>
   intro L a w hj hw
   have hr : Region.ready md ops L = [] := by
    refine List.eq_nil_iff_forall_not_mem.2 fun i hi => ?_
    exact waits_zero L.toList i (by omega) (getD_false (mem_ready.1 hi).1)
   exact ⟨hr, hdone L a w hj hr⟩
 | succ fuel ih =>
   intro L a w hj hw
   refine ⟨fun hr => hdone L a w hj hr, fun i hi => wpOp_mono (fun a' w' h' => ih _ a' w' h' ?_) (hstep L a w hj i hi)⟩
   have := waits_set L.toList i (getD_false (mem_ready.1 hi).1)
   rw [Array.toList_setIfInBounds]
   omega
end Go.Proofs.YtbkmhmaldljgmaaGreatDoor
namespace Go.Proofs.YtbkmhmaldljgmaaGreatDoor
open Go.RowKit Tr Go.Shelf
def regionOf (n : Nat) : Code → Option (Array Oper)
 | .region id ops _ => if id = n then some ops else none
 | .seq a b => match regionOf n a with | some r => some r | none => regionOf n b
 | .cond _ a b => match regionOf n a with | some r => some r | none => regionOf n b
 | .block _ a => regionOf n a
 | .loop a => regionOf n a
 | .scope a => regionOf n a
 | .rangeFunc _ _ a b => match regionOf n a with | some r => some r | none => regionOf n b
 | _ => none
def opsOf (n : Nat) (f : Func) : Array Oper := ((f.body.bind (regionOf n))).getD #[]
section
variable {P : Program} {ops : Array Oper} {Q : Exit → Act → World → Prop} {K : Act → World → Prop} {a : Act} {w w' : World} {i : Nat} {o : Oper}
theorem eval_put_same {d : Nat} {v : Value} (h : d < a.tmps.size) : (a.put (some d) v).eval (.tmp d) = v := by
 simp [Act.put, Act.eval, Array.getD_eq_getD_getElem?, h]
theorem eval_put_other {d t : Nat} {v : Value} (h : d ≠ t) : (a.put (some d) v).eval (.tmp t) = a.eval (.tmp t) := by
 simp [Act.put, Act.eval, Array.getD_eq_getD_getElem?, Array.getElem?_setIfInBounds, h]
theorem put_size (d : Option Tmp) (v : Value) : (a.put d v).tmps.size = a.tmps.size := by
 cases d <;> simp [Act.put]
theorem put_defers (d : Option Tmp) (v : Value) : (a.put d v).defers = a.defers := by
 cases d <;> simp [Act.put]
theorem wpOp_value {v : Value} (ho : ops[i]? = some o) (hg : o.guard = none) (hr : (execOp a.eval o).run P w = .ok (.value v) w') (hK : K (a.put o.dst v) w') : wpOp P ops Q i K a w := by
 unfold wpOp
 rw [ho]
 simp only [Region.wanted, hg, if_true]
 left
 unfold Oper.wp
 rw [hr]
 exact hK
theorem wpOp_skip (ho : ops[i]? = some o) (hg : o.guard = none) (hr : (execOp a.eval o).run P w = .ok .skip w') (hK : K (a.put o.dst undef) w') : wpOp P ops Q i K a w := by
 unfold wpOp
 rw [ho]
 simp only [Region.wanted, hg, if_true]
 left
 unfold Oper.wp
 rw [hr]
 exact hK
theorem wpOp_enter {f : FuncId} {args : Array Value} (ho : ops[i]? = some o) (hg : o.guard = none) (hr : (execOp a.eval o).run P w = .ok (.enter f args) w') (hc : Calls P f args w' fun e w'' => ∃ v, e = .returned v ∧ K (a.put o.dst v) w'') : wpOp P ops Q i K a w := by
 unfold wpOp
 rw [ho]
 simp only [Region.wanted, hg, if_true]
 left
 unfold Oper.wp
 rw [hr, Oper.upon_enter]
 refine hc.mono ?_
 rintro e w2 ⟨v, rfl, hk⟩
 exact hk
theorem exec_call_val {f : Tmp} {F : FuncId} {xs : Array Operand} {ats : Array TypeId} {cap : Array Value} (ho : o.op = .call { callee := .value (.tmp f), args := xs, argTypes := ats }) (hf : a.eval (.tmp f) = .func (.func F) #[] cap) :
 (execOp a.eval o).run P w = (callFunc F (xs.toList.map a.eval ++ cap.toList).toArray).run P w := by
 have e : (xs.toList.map a.eval ++ cap.toList).toArray = xs.map a.eval ++ cap := by cases xs; cases cap; simp
 rw [e]
 unfold execOp
 simp [ho, resolve, hf, Deferred.ofValue, invoke]
theorem exec_call_fn {F : FuncId} {xs : Array Operand} {ats : Array TypeId} (ho : o.op = .call { callee := .value (.func F), args := xs, argTypes := ats }) :
 (execOp a.eval o).run P w = (callFunc F (xs.toList.map a.eval).toArray).run P w := by
 have e : (xs.toList.map a.eval).toArray = xs.map a.eval := by cases xs; simp
 rw [e]
 unfold execOp
 simp [ho, resolve, Act.eval, Deferred.ofValue, invoke]
theorem exec_move {x : Operand} (ho : o.op = .move x) : (execOp a.eval o).run P w = .ok (.value (a.eval x)) w := by
 unfold execOp; simp [ho]
theorem exec_assign {x : Operand} (ho : o.op = .assign x) : (execOp a.eval o).run P w = .ok (.value (a.eval x)) w := by
 unfold execOp; simp [ho]
theorem exec_insert {t : TypeId} {m k x : Operand} {vm vk vx : Value} (ho : o.op = .insert t m k x) (hm : a.eval m = vm) (hk : a.eval k = vk) (hx : a.eval x = vx) (hr : (Instr.mapUpdate t vm vk vx).run P w = .ok () w') :
 (execOp a.eval o).run P w = .ok .skip w' := by
 unfold execOp; simp [ho, hm, hk, hx, hr, Result.andThen]
theorem exec_makeMap {t : TypeId} (ho : o.op = .makeMap t none) : (execOp a.eval o).run P w = .ok (.value (.map (some w.heap.size))) (w.alloc (.map #[] 0)) := by
 unfold execOp; simp [ho, run_makeMap, Result.andThen]
theorem exec_load {t : TypeId} {x : Operand} {pv v : Value} (ho : o.op = .load t x) (hx : a.eval x = pv) (hr : (Instr.loadAt t pv).run P w = .ok v w) : (execOp a.eval o).run P w = .ok (.value v) w := by
 unfold execOp; simp [ho, hx, hr, Result.andThen]
theorem exec_buildSlice {t : TypeId} {n : Nat} {ps : Array (Nat × Operand)} {v : Value} (ho : o.op = .buildSlice t n ps) (hr : (Instr.buildSlice t n (ps.toList.map fun p => (p.1, a.eval p.2)).toArray).run P w = .ok v w') : (execOp a.eval o).run P w = .ok (.value v) w' := by
 have e : (ps.toList.map fun p => (p.1, a.eval p.2)).toArray = ps.map fun (i, x) => (i, a.eval x) := by cases ps; simp
 rw [e] at hr
 unfold execOp; simp [ho, hr, Result.andThen]
end
theorem waits_set' {L : Array Bool} {i : Nat} (h : L.getD i true = false) : waits (L.setIfInBounds i true).toList < waits L.toList := by
 rw [Array.toList_setIfInBounds]
 exact waits_set L.toList i (getD_false h)
theorem waits_le (L : List Bool) : waits L ≤ L.length := by unfold waits; exact List.length_filter_le _ _
structure Stp (b : Option Nat) (W W' : World) : Prop where
 size : W.heap.size ≤ W'.heap.size
 keep : ∀ j, j < W.heap.size → some j ≠ b → W'.heap[j]? = W.heap[j]?
 map : ∀ j, b = some j → ∃ es c, W.heap[j]? = some (.map es c)
theorem Stp.of_below {W W' : World} (h : Below W.heap.size W W') : Stp none W W' := ⟨h.size, fun j hj _ => h.block j hj, fun j e => by cases e⟩
theorem Stp.cells {b : Option Nat} {W W' : World} (h : Stp b W W') {j : Nat} {cs : Array Value} {t : TypeId} {fz : Nat × Nat} (hj : W.heap[j]? = some (.cells cs t fz)) : W'.heap[j]? = some (.cells cs t fz) := by
 refine (h.keep j (Array.getElem?_eq_some_iff.1 hj).1 fun e => ?_).trans hj
 obtain ⟨es, c, hm⟩ := h.map j e.symm
 rw [hm] at hj; cases hj
end Go.Proofs.YtbkmhmaldljgmaaGreatDoor
namespace Go.Proofs.YtbkmhmaldljgmaaGreatDoor
open Go.RowKit Tr Go.Shelf
def putAll : List Oper → Nat → (Nat → Value) → Act → Act
 | [], _, _, a => a
 | o :: r, k, s, a => putAll r (k + 1) s (a.put o.dst (s k))
def updS (s : Nat → Value) (i : Nat) (v : Value) : Nat → Value := fun j => if j = i then v else s j
def ownSlots : List Oper → Bool
 | [] => true
 | o :: r => (o.dst.isNone || r.all fun p => p.dst != o.dst) && ownSlots r
theorem put_swap {d e : Option Tmp} (h : d = none ∨ e ≠ d) (a : Act) (v u : Value) : (a.put d v).put e u = (a.put e u).put d v := by
 cases d with
 | none => rfl
 | some d =>
   cases e with
   | none => rfl
   | some e =>
     have h' : d ≠ e := fun he => (h.resolve_left (fun h => by cases h)) (by rw [he])
     simp only [Act.put]
     rw [Array.setIfInBounds_comm _ _ h']
theorem put_again (d : Option Tmp) (a : Act) (v u : Value) : (a.put d v).put d u = a.put d u := by
 cases d with
 | none => rfl
 | some d => simp [Act.put]
theorem putAll_put : ∀ (l : List Oper) (k : Nat) (s : Nat → Value) (a : Act) (d : Option Tmp) (v : Value), (d = none ∨ ∀ p ∈ l, p.dst ≠ d) → (putAll l k s a).put d v = putAll l k s (a.put d v)
 | [], _, _, _, _, _, _ => rfl
 | o :: r, k, s, a, d, v, h => by
   rw [putAll, putAll, putAll_put r (k + 1) s _ d v (h.imp id fun h p hp => h p (List.mem_cons_of_mem _ hp))]
   rw [put_swap (d := d) (e := o.dst) (h.imp id fun h => h o (List.mem_cons_self ..))]
theorem putAll_congr : ∀ (l : List Oper) (k : Nat) (s s' : Nat → Value) (a : Act), (∀ j, k ≤ j → s j = s' j) → putAll l k s a = putAll l k s' a
 | [], _, _, _, _, _ => rfl
 | o :: r, k, s, s', a, h => by rw [putAll, putAll, h k (Nat.le_refl _), putAll_congr r (k + 1) s s' _ (fun j hj => h j (by omega))]
theorem putAll_upd : ∀ (l : List Oper) (k i : Nat) (s : Nat → Value) (a : Act) (o : Oper) (v : Value), ownSlots l = true → l[i]? = some o → (putAll l k s a).put o.dst v = putAll l k (updS s (k + i) v) a
 | [], _, _, _, _, _, _, _, h => by simp at h
 | p :: r, k, 0, s, a, o, v, hs, h => by
   simp at h; subst h
   simp only [ownSlots, Bool.and_eq_true, Bool.or_eq_true, List.all_eq_true, bne_iff_ne, Option.isNone_iff_eq_none] at hs
   rw [putAll, putAll, putAll_put r (k + 1) s _ _ v hs.1, put_again, putAll_congr r (k + 1) s (updS s (k + 0) v) _ (fun j hj => by unfold updS; rw [if_neg (by omega)])]
   congr 2
   unfold updS; rw [if_pos (by omega)]
 | p :: r, k, i + 1, s, a, o, v, hs, h => by
   simp at h
   simp only [ownSlots, Bool.and_eq_true] at hs
   rw [putAll, putAll, putAll_upd r (k + 1) i s _ o v hs.2 h]
   have e1 : k + 1 + i = k + (i + 1) := by omega
   have e2 : updS s (k + (i + 1)) v k = s k := by unfold updS; rw [if_neg (by omega)]
   rw [e1, e2]
theorem putAll_same : ∀ (l : List Oper) (k : Nat) (s : Nat → Value) (a : Act), (∀ i o d, l[i]? = some o → o.dst = some d → s (k + i) = a.tmps.getD d undef) → putAll l k s a = a
 | [], _, _, _, _ => rfl
 | o :: r, k, s, a, h => by
   have e : a.put o.dst (s k) = a := by
    cases hd : o.dst with
    | none => rfl
    | some d =>
      have h1 := h 0 o d rfl hd
      rw [Nat.add_zero] at h1
      rw [h1]
      simp only [Act.put]
      have : a.tmps.setIfInBounds d (a.tmps.getD d undef) = a.tmps := by
       apply Array.ext
       ·simp
       ·intro j h1 h2
        rw [Array.getElem_setIfInBounds]
        split
        ·rename_i hj; subst hj; simp [Array.getD_eq_getD_getElem?, Array.getElem?_eq_getElem h2]
        ·rfl
      rw [this]
   rw [putAll, e]
   exact putAll_same r (k + 1) s a (fun i o' d hi hd => by have := h (i + 1) o' d (by simpa using hi) hd; rwa [show k + (i + 1) = k + 1 + i from by omega] at this)
def blkOf : Value → Option Nat
 | .slice (some ad) _ _ => some ad.block
 | .pointer (some ad) => some ad.block
 | .map (some g) => some g
 | _ => none
def mkV : List (Value → Prop) → Nat → Value → Prop
 | [], _, _ => True
 | p :: _, 0, v => p v
 | _ :: r, i + 1, v => mkV r i v
def mkN : List (Nat × (Value → World → Prop)) → Nat → Value → World → Prop
 | [], _, _, _ => True
 | (j, p) :: r, i, v, W => if j = i then p v W else mkN r i v W
def mkKeep : List (Nat × (Value → World → Prop)) → Nat → World → World → Prop
 | [], _, _, _ => True
 | (j, p) :: r, i, W, W' => (if j = i then True else ∀ v, p v W → p v W') ∧ mkKeep r i W W'
theorem mkKeep_refl : ∀ (N : List (Nat × (Value → World → Prop))) (i : Nat) (W : World), mkKeep N i W W
 | [], _, _ => True.intro
 | (_, _) :: r, i, W => ⟨by split <;> first | exact True.intro | exact fun _ h => h, mkKeep_refl r i W⟩
theorem mkKeep_at : ∀ {N : List (Nat × (Value → World → Prop))} {k : Nat} {W W' : World}, mkKeep N k W W' → ∀ i v, i ≠ k → mkN N i v W → mkN N i v W'
 | [], _, _, _, _, _, _, _, _ => True.intro
 | (j, p) :: r, k, W, W', h, i, v, hik, hv => by
   unfold mkN at hv ⊢
   split at hv
   ·rename_i hj
    rw [if_pos hj]
    have := h.1
    rw [if_neg (by rw [hj]; exact hik)] at this
    exact this v hv
   ·rename_i hj; rw [if_neg hj]; exact mkKeep_at h.2 i v hik hv
def reach (ops : Array Oper) : Nat → Nat → Nat → Bool
 | 0, _, _ => false
 | n + 1, j, i =>
   match ops[j]? with
   | none => false
   | some o => o.after.any fun e => Region.binds .any e && (e.on == i || reach ops n e.on i)
theorem reach_lt {md : Region.Mode} {ops : Array Oper} {m : Nat} (hl : leansBack md ops m = true) (hm : md = .any) (hsz : ops.size ≤ m) : ∀ (n j i : Nat), reach ops n j i = true → i < j
 | 0, _, _, h => by cases h
 | n + 1, j, i, h => by
   unfold reach at h
   split at h
   ·cases h
   ·rename_i o ho
    rw [Array.any_eq_true'] at h
    obtain ⟨x, hx, hxb⟩ := h
    rw [Bool.and_eq_true, Bool.or_eq_true, beq_iff_eq] at hxb
    have hjm : j < m := Nat.lt_of_lt_of_le (Array.getElem?_eq_some_iff.1 ho).1 hsz
    have hh := List.all_eq_true.1 hl j (List.mem_range.2 hjm)
    rw [ho] at hh
    simp only [Array.all_eq_true_iff_forall_mem, Bool.or_eq_true, Bool.not_eq_true'] at hh
    have hlt : x.on < j := by
     rcases hh x hx with hb | hb
     ·subst hm; rw [hb] at hxb; cases hxb.1
     ·rwa [Nat.blt_eq] at hb
    rcases hxb.2 with e | e
    ·omega
    ·have := reach_lt hl hm hsz n x.on i e
     omega
theorem reach_self {l : List Oper} (hl : leansBack .any l.toArray l.length = true) {n i : Nat} : reach l.toArray n i i = false := by
 cases h : reach l.toArray n i i with
 | false => rfl
 | true => exact absurd (reach_lt hl rfl (by simp) n i i h) (by omega)
theorem reach_on {ops : Array Oper} {L : Array Bool} (hb : ∀ j o, ops[j]? = some o → L.getD j false = true → ∀ e ∈ o.after, Region.binds .any e = true → L.getD e.on false = true) : ∀ (n j i : Nat), reach ops n j i = true → L.getD j false = true → L.getD i false = true
 | 0, _, _, h, _ => by cases h
 | n + 1, j, i, h, hj => by
   unfold reach at h
   split at h
   ·cases h
   ·rename_i o ho
    rw [Array.any_eq_true'] at h
    obtain ⟨x, hx, hxb⟩ := h
    rw [Bool.and_eq_true, Bool.or_eq_true, beq_iff_eq] at hxb
    have h1 := hb j o ho hj x hx hxb.1
    rcases hxb.2 with e | e
    ·rw [← e]; exact h1
    ·exact reach_on hb n x.on i e h1
def zKeep : List (Nat × (World → Prop)) → Nat → World → World → Prop
 | [], _, _, _ => True
 | (j, p) :: r, i, W, W' => (if j = i then True else (p W → p W')) ∧ zKeep r i W W'
def zNow (ops : Array Oper) : List (Nat × (World → Prop)) → Nat → World → Prop
 | [], _, _ => True
 | (j, p) :: r, i, W => (reach ops 4 j i = true → p W) ∧ zNow ops r i W
def zAll : List (Nat × (World → Prop)) → World → Prop
 | [], _ => True
 | (_, p) :: r, W => p W ∧ zAll r W
theorem zKeep_refl : ∀ (Z : List (Nat × (World → Prop))) (i : Nat) (W : World), zKeep Z i W W
 | [], _, _ => True.intro
 | (j, p) :: r, i, W => ⟨by split <;> first | exact True.intro | exact fun h => h, zKeep_refl r i W⟩
theorem zKeep_at : ∀ {Z : List (Nat × (World → Prop))} {i : Nat} {W W' : World}, zKeep Z i W W' → ∀ e ∈ Z, e.1 ≠ i → e.2 W → e.2 W'
 | [], _, _, _, _, _, he, _, _ => by cases he
 | (j, p) :: r, i, W, W', h, e, he, hne, hW => by
   rcases List.mem_cons.1 he with rfl | he
   ·have := h.1
    rw [if_neg hne] at this
    exact this hW
   ·exact zKeep_at h.2 e he hne hW
theorem zNow_of {ops : Array Oper} : ∀ {Z : List (Nat × (World → Prop))} {i : Nat} {W : World}, (∀ e ∈ Z, reach ops 4 e.1 i = true → e.2 W) → zNow ops Z i W
 | [], _, _, _ => True.intro
 | e :: r, i, W, h => ⟨h e (List.mem_cons_self ..), zNow_of (fun e' he => h e' (List.mem_cons_of_mem _ he))⟩
theorem zAll_at : ∀ {Z : List (Nat × (World → Prop))} {W : World}, zAll Z W → ∀ e ∈ Z, e.2 W
 | [], _, _, _, he => by cases he
 | (j, p) :: r, W, h, e, he => by
   rcases List.mem_cons.1 he with rfl | he
   ·exact h.1
   ·exact zAll_at h.2 e he
abbrev Rels := List (Nat × List Nat × (List Value → Value → Prop))
def eNow : Rels → Nat → (Nat → Value) → Value → Prop
 | [], _, _, _ => True
 | (j, js, R) :: r, i, s, v => if j = i then R (js.map s) v ∧ eNow r i s v else eNow r i s v
def eAll : Rels → (Nat → Value) → Prop
 | [], _ => True
 | (j, js, R) :: r, s => R (js.map s) (s j) ∧ eAll r s
def eDeps (ops : Array Oper) (E : Rels) : Bool := E.all fun e => e.2.1.all fun k => reach ops 4 e.1 k
theorem eNow_at : ∀ {E : Rels} {i : Nat} {s : Nat → Value} {v : Value}, eNow E i s v → ∀ e ∈ E, e.1 = i → e.2.2 (e.2.1.map s) v
 | [], _, _, _, _, _, he, _ => by cases he
 | (j, js, R) :: r, i, s, v, h, e, he, hi => by
   unfold eNow at h
   rcases List.mem_cons.1 he with rfl | he
   ·rw [if_pos hi] at h; exact h.1
   ·split at h
    ·exact eNow_at h.2 e he hi
    ·exact eNow_at h e he hi
theorem eAll_of : ∀ {E : Rels} {s : Nat → Value}, (∀ e ∈ E, e.2.2 (e.2.1.map s) (s e.1)) → eAll E s
 | [], _, _ => True.intro
 | e :: r, s, h => ⟨h e (List.mem_cons_self ..), eAll_of (fun e' he => h e' (List.mem_cons_of_mem _ he))⟩
structure Mk where
 C : World → Prop
 V : List (Value → Prop)
 N : List (Nat × (Value → World → Prop)) := []
 Z : List (Nat × (World → Prop)) := []
 E : Rels := []
 F : List Nat := []
def Mk.ok (m : Mk) (i : Nat) (v : Value) (W : World) : Prop := mkV m.V i v ∧ mkN m.N i v W
def depsOk (m : Mk) (s : Nat → Value) (W : World) : List Edge → Prop
 | [] => True
 | e :: r => (Region.binds .any e = true → m.ok e.on (s e.on) W) ∧ depsOk m s W r
def allOk (m : Mk) (s : Nat → Value) (W : World) : Nat → Prop
 | 0 => True
 | n + 1 => allOk m s W n ∧ m.ok n (s n) W
structure Nx (m : Mk) (s : Nat → Value) (i : Nat) (v : Value) (W W' : World) : Prop where
 c : m.C W'
 k : mkKeep m.N i W W'
 q : zKeep m.Z i W W'
 z : W.heap.size ≤ W'.heap.size
 o : m.ok i v W'
 f : i ∈ m.F → ∃ g, blkOf v = some g ∧ W.heap.size ≤ g ∧ g < W'.heap.size
 e : eNow m.E i s v := by exact True.intro
theorem nx_pure {m : Mk} {s : Nat → Value} {i : Nat} {v : Value} {W : World} (hC : m.C W) (ho : m.ok i v W) (hf : m.F.contains i = false) (he : eNow m.E i s v := by exact True.intro) : Nx m s i v W W :=
 ⟨hC, mkKeep_refl _ _ _, zKeep_refl _ _ _, Nat.le_refl _, ho, (fun h => by rw [List.contains_iff_mem.2 h] at hf; cases hf), he⟩
section
variable {P : Program} {Q : Exit → Act → World → Prop}
def mStep (P : Program) (Q : Exit → Act → World → Prop) (ops : Array Oper) (m : Mk) (F : (Nat → Value) → Act) (i : Nat) (o : Oper) : Prop :=
 ∀ (s : Nat → Value) (W : World), m.C W → depsOk m s W o.after.toList → zNow ops m.Z i W → ∀ K : Act → World → Prop, (∀ v W', Nx m s i v W W' → ∀ a, a = (F s).put o.dst v → K a W') →
  if Region.wanted o (yielded ops (F s).tmps) = true then Oper.wp P o (F s) W K Q else K ((F s).put o.dst undef) W
def mSteps (P : Program) (Q : Exit → Act → World → Prop) (ops : Array Oper) (m : Mk) (F : (Nat → Value) → Act) : Nat → List Oper → Prop
 | _, [] => True
 | i, o :: r => mStep P Q ops m F i o ∧ mSteps P Q ops m F (i + 1) r
theorem mSteps_nil {ops : Array Oper} {m : Mk} {F : (Nat → Value) → Act} {k : Nat} : mSteps P Q ops m F k [] := True.intro
theorem mSteps_cons {ops : Array Oper} {m : Mk} {F : (Nat → Value) → Act} {k : Nat} {o : Oper} {r : List Oper} (h : mStep P Q ops m F k o) (h2 : mSteps P Q ops m F (k + 1) r) : mSteps P Q ops m F k (o :: r) := ⟨h, h2⟩
theorem mSteps_at {ops : Array Oper} {m : Mk} {F : (Nat → Value) → Act} : ∀ {l : List Oper} {k i : Nat} {o : Oper}, mSteps P Q ops m F k l → l[i]? = some o → mStep P Q ops m F (k + i) o
 | [], _, _, _, _, h => by simp at h
 | p :: r, k, 0, o, hs, h => by simp at h; subst h; exact hs.1
 | p :: r, k, i + 1, o, hs, h => by
   have := mSteps_at (i := i) hs.2 (by simpa using h)
   rwa [show k + 1 + i = k + (i + 1) from by omega] at this
theorem depsOk_of {m : Mk} {s : Nat → Value} {W : World} : ∀ {es : List Edge}, (∀ e ∈ es, Region.binds .any e = true → m.ok e.on (s e.on) W) → depsOk m s W es
 | [], _ => True.intro
 | e :: r, h => ⟨h e (List.mem_cons_self ..), depsOk_of (fun e' he => h e' (List.mem_cons_of_mem _ he))⟩
theorem allOk_of {m : Mk} {s : Nat → Value} {W : World} : ∀ {n : Nat}, (∀ i, i < n → m.ok i (s i) W) → allOk m s W n
 | 0, _ => True.intro
 | n + 1, h => ⟨allOk_of (fun i hi => h i (by omega)), h n (by omega)⟩
structure MJ (l : List Oper) (m : Mk) (F : (Nat → Value) → Act) (L : Array Bool) (a : Act) (W : World) : Prop where
 sz : L.size = l.length
 cl : m.C W
 be : ∀ j o, l[j]? = some o → L.getD j false = true → ∀ e ∈ o.after, Region.binds .any e = true → L.getD e.on false = true
 zz : ∀ e ∈ m.Z, L.getD e.1 false = false → e.2 W
 fr : ∃ s : Nat → Value, a = F s ∧ (∀ i, L.getD i false = true → m.ok i (s i) W) ∧ (∀ i ∈ m.F, L.getD i false = true → ∃ g, blkOf (s i) = some g ∧ g < W.heap.size) ∧
  (∀ i ∈ m.F, ∀ j ∈ m.F, i ≠ j → L.getD i false = true → L.getD j false = true → blkOf (s i) ≠ blkOf (s j)) ∧
  (∀ e ∈ m.E, L.getD e.1 false = true → e.2.2 (e.2.1.map s) (s e.1))
theorem region_marks {id : Nat} {a0 : Act} {w : World} {l : List Oper} (m : Mk) (F : (Nat → Value) → Act) (hm : P.follows .mixedOrders = true) (hl : leansBack .any l.toArray l.length = true) (hown : ownSlots l = true) (hFl : (m.F.all (fun i => Nat.blt i l.length) && eDeps l.toArray m.E && m.E.all fun e => Nat.blt e.1 l.length) = true) (hF : ∀ s, putAll l 0 s a0 = F s) (hC : m.C w.drew) (hZ : zAll m.Z w.drew)
 (hs : mSteps P Q l.toArray m F 0 l)
 (he : ∀ (s : Nat → Value) (W : World), m.C W → allOk m s W l.length → (∀ i ∈ m.F, ∀ j ∈ m.F, i ≠ j → blkOf (s i) ≠ blkOf (s j)) ∧ eAll m.E s → Q .normal (F s) W) :
 (Code.region id l.toArray true).wp P Q a0 w := by
 rw [Bool.and_eq_true, Bool.and_eq_true] at hFl
 obtain ⟨⟨hFl, hEd⟩, hEl⟩ := hFl
 refine wp_region_any hm (wpAny_inv (MJ l m F) (fun L a W hj i hi => ?_) (fun L a W hj hr => ?_) _ _ _ _ ⟨by simp, hC, ?_, fun e he _ => zAll_at hZ e he, ?_⟩ (by have := waits_le (Array.replicate l.toArray.size false).toList; simpa using this))
 ·obtain ⟨hun, o, ho, hdep⟩ := mem_ready.1 hi
  obtain ⟨s, rfl, h1, h2, h3, h4⟩ := hj.fr
  have ho' : l[i]? = some o := by simpa using ho
  have hst := mSteps_at hs ho'
  rw [Nat.zero_add] at hst
  refine wpOp_step ho (fun K' hK' => hst s W hj.cl (depsOk_of (fun e he hb => h1 _ (hdep e (by simpa using he) hb))) (zNow_of fun e he hed => hj.zz e he ?_) K' ?_)
  ·cases hon : L.getD e.1 false with
   | false => rfl
   | true =>
     have h := reach_on (ops := l.toArray) (L := L) (fun j o hoj hon e he hb => hj.be j o (by simpa using hoj) hon e he hb) 4 e.1 i hed hon
     exact absurd h (by rw [Array.getD_eq_getD_getElem?] at hun ⊢; cases hh : L[i]? <;> rw [hh] at hun <;> simp_all)
  rintro v W' nx a rfl
  refine hK' _ _ ⟨by simp [hj.sz], nx.c, ?_, ?_, updS s i v, ?_, ?_, ?_, ?_, ?_⟩
  ·intro j oj hoj hon e he hb
   by_cases ej : j = i
   ·subst ej
    rw [ho'] at hoj; cases hoj
    exact getD_up hun (hdep e he hb)
   ·exact getD_up hun (hj.be j oj hoj (getD_dn (Ne.symm ej) hon) e he hb)
  ·intro e he hoff
   by_cases ej : e.1 = i
   ·rw [ej, getD_set_same hun] at hoff; cases hoff
   ·exact zKeep_at nx.q e he ej (hj.zz e he (getD_df (Ne.symm ej) hoff))
  ·rw [← hF, ← hF, putAll_upd l 0 i s a0 o v hown ho', Nat.zero_add]
  ·intro k hk
   unfold updS
   by_cases e : k = i
   ·rw [if_pos e, e]; exact nx.o
   ·rw [if_neg e]
    have h := h1 k (getD_dn (Ne.symm e) hk)
    exact ⟨h.1, mkKeep_at nx.k _ _ e h.2⟩
  ·intro k hkF hk
   unfold updS
   by_cases e : k = i
   ·subst e
    rw [if_pos rfl]
    obtain ⟨g, hg, _, hl⟩ := nx.f hkF
    exact ⟨g, hg, hl⟩
   ·rw [if_neg e]
    obtain ⟨g, hg, hl⟩ := h2 k hkF (getD_dn (Ne.symm e) hk)
    exact ⟨g, hg, Nat.lt_of_lt_of_le hl nx.z⟩
  ·intro k hkF j hjF hkj hk hjl
   unfold updS
   by_cases e : k = i
   ·subst e
    rw [if_pos rfl, if_neg (Ne.symm hkj)]
    obtain ⟨g, hg, hge, _⟩ := nx.f hkF
    obtain ⟨g', hg', hlt⟩ := h2 j hjF (getD_dn hkj hjl)
    rw [hg, hg']
    intro h; cases h; omega
   ·rw [if_neg e]
    by_cases e2 : j = i
    ·subst e2
     rw [if_pos rfl]
     obtain ⟨g, hg, hge, _⟩ := nx.f hjF
     obtain ⟨g', hg', hlt⟩ := h2 k hkF (getD_dn (Ne.symm e) hk)
     rw [hg, hg']
     intro h; cases h; omega
    ·rw [if_neg e2]
     exact h3 k hkF j hjF hkj (getD_dn (Ne.symm e) hk) (getD_dn (Ne.symm e2) hjl)
  ·intro e he hon
   have hd := List.all_eq_true.1 (List.all_eq_true.1 hEd e he)
   by_cases ee : e.1 = i
   ·have h := eNow_at nx.e e he ee
    have hsm : e.2.1.map (updS s i v) = e.2.1.map s := List.map_congr_left (fun k hk => by
     unfold updS
     rw [if_neg]
     intro hki
     have hrk := hd k hk
     rw [ee, hki] at hrk
     have h0 : leansBack .any l.toArray l.length = true := hl
     exact absurd hrk (by rw [reach_self h0]; simp))
    rw [hsm, ee]
    unfold updS
    rw [if_pos rfl]; exact h
   ·have hon' := getD_dn (Ne.symm ee) hon
    have h := h4 e he hon'
    have hsm : e.2.1.map (updS s i v) = e.2.1.map s := List.map_congr_left (fun k hk => by
     unfold updS
     rw [if_neg]
     intro hki
     have h5 := reach_on (ops := l.toArray) (L := L) (fun j o hoj hon e he hb => hj.be j o (by simpa using hoj) hon e he hb) 4 e.1 k (hd k hk) hon'
     rw [hki] at h5
     exact absurd h5 (by rw [Array.getD_eq_getD_getElem?] at hun ⊢; cases hh : L[i]? <;> rw [hh] at hun <;> simp_all))
    rw [hsm]
    unfold updS
    rw [if_neg ee]; exact h
 ·have all := all_on hr hj.sz hl
  obtain ⟨s, rfl, h1, h2, h3, h4⟩ := hj.fr
  have hb : ∀ i ∈ m.F, i < l.length := fun i hi => by simpa using List.all_eq_true.1 hFl i hi
  refine he s W hj.cl (allOk_of (fun i hi => h1 i (all i hi))) ?_
  exact ⟨fun i hi j hjF hij => h3 i hi j hjF hij (all i (hb i hi)) (all j (hb j hjF)), eAll_of (fun e he => h4 e he (all _ (by simpa using List.all_eq_true.1 hEl e he)))⟩
 ·intro j o _ h
  simp [Array.getD_eq_getD_getElem?, Array.getElem?_replicate] at h
  try (split at h <;> simp at h)
 ·refine ⟨fun i => match l[i]? with | some o => (match o.dst with | some d => a0.tmps.getD d undef | none => undef) | none => undef, ?_, fun i h => ?_, fun i _ h => ?_, fun i _ j _ _ h => ?_, fun e _ h => ?_⟩
  ·rw [← hF]
   exact (putAll_same l 0 _ a0 (fun i o d hi hd => by rw [Nat.zero_add, hi]; simp only; rw [hd])).symm
  all_goals (simp [Array.getD_eq_getD_getElem?, Array.getElem?_replicate] at h; try (split at h <;> simp at h))
end
end Go.Proofs.YtbkmhmaldljgmaaGreatDoor
namespace Go.Proofs.YtbkmhmaldljgmaaGreatDoor
open Go.RowKit Tr Go.Shelf
theorem q_divInt (q : Rat) : q = Rat.divInt q.num q.den := (Rat.num_divInt_den q).symm
theorem BdQ.mul {p q : Rat} {a b : Nat} (hp : BdQ p a) (hq : BdQ q b) : BdQ (p * q) (a + b) := by
 rw [q_divInt p, q_divInt q, Rat.divInt_mul_divInt]
 refine BdQ.div (mul_lt_pow hp.1 hq.1) (mul_lt_pow (by simpa using hp.2) (by simpa using hq.2)) ?_
 have h1 := p.den_pos
 have h2 := q.den_pos
 exact Int.mul_ne_zero (by omega) (by omega)
theorem BdQ.add {p q : Rat} {a b : Nat} (hp : BdQ p a) (hq : BdQ q b) : BdQ (p + q) (a + b + 1) := by
 have h1 := p.den_pos
 have h2 := q.den_pos
 rw [q_divInt p, q_divInt q, Rat.divInt_add_divInt _ _ (by omega) (by omega)]
 refine BdQ.div ?_ ?_ (Int.mul_ne_zero (by omega) (by omega))
 ·have e1 := mul_lt_pow (x := p.num) (y := (q.den : Int)) hp.1 (by simpa using hq.2)
  have e2 := mul_lt_pow (x := q.num) (y := (p.den : Int)) hq.1 (by simpa using hp.2)
  rw [Nat.add_comm b a] at e2
  exact add_lt_pow e1 e2 (by omega) (by omega)
 ·exact Nat.lt_of_lt_of_le (mul_lt_pow (x := (p.den : Int)) (y := (q.den : Int)) (by simpa using hp.2) (by simpa using hq.2)) (pow_mono (by omega))
theorem BdQ.neg {q : Rat} {a : Nat} (hq : BdQ q a) : BdQ (-q) a := ⟨by rw [Rat.neg_num, Int.natAbs_neg]; exact hq.1, by rw [Rat.neg_den]; exact hq.2⟩
theorem BdQ.sub {p q : Rat} {a b : Nat} (hp : BdQ p a) (hq : BdQ q b) : BdQ (p - q) (a + b + 1) := by
 rw [Rat.sub_eq_add_neg]; exact hp.add hq.neg
theorem BdQ.int {z : Int} {k : Nat} (h : z.natAbs < 10 ^ k) (hk : 1 ≤ k) : BdQ (z : Rat) k := ⟨h, Nat.lt_of_lt_of_le (show 1 < 10 ^ 1 by omega) (pow_mono hk)⟩
theorem BdQ.zero {k : Nat} (hk : 1 ≤ k) : BdQ 0 k := BdQ.int (z := 0) (Nat.pow_pos (by omega)) hk
theorem BdQ.div' {p : Rat} {a b : Int} {k m : Nat} (ha : a.natAbs < 10 ^ m) (hb : b.natAbs < 10 ^ m) (h0 : b ≠ 0) (hp : BdQ p k) : BdQ (p * ((a : Rat) / (b : Rat))) (k + m) := by
 refine hp.mul ?_
 rw [← Rat.divInt_eq_div]
 exact BdQ.div ha hb h0
theorem fAddQ {p q : Rat} {a b : Nat} (hp : BdQ p a) (hq : BdQ q b) (ha : a ≤ 800000) (hb : b ≤ 800000) (w : World) (ht : Tabs w) :
 Calls Tryz.prog 129 #[fenc p, fenc q] w fun e w' => e = .returned (fenc (p + q)) ∧ Below w.heap.size w w' := by
 have := fAdd_any (I p.num) (dn p) (I q.num) (dn q) w (by have := hp.num; omega) (by have := hp.dn; omega) (by have := hq.num; omega) (by have := hq.dn; omega) ht
 rw [fv_enc, fv_enc] at this
 exact this
theorem fSubQ {p q : Rat} {a b : Nat} (hp : BdQ p a) (hq : BdQ q b) (ha : a ≤ 800000) (hb : b ≤ 800000) (w : World) (ht : Tabs w) :
 Calls Tryz.prog 226 #[fenc p, fenc q] w fun e w' => e = .returned (fenc (p - q)) ∧ Below w.heap.size w w' := by
 have := fSub_any (I p.num) (dn p) (I q.num) (dn q) w (by have := hp.num; omega) (by have := hp.dn; omega) (by have := hq.num; omega) (by have := hq.dn; omega) ht
 rw [fv_enc, fv_enc] at this
 exact this
theorem fMulQ {p q : Rat} {a b : Nat} (hp : BdQ p a) (hq : BdQ q b) (ha : a ≤ 800000) (hb : b ≤ 800000) (w : World) (ht : Tabs w) :
 Calls Tryz.prog 116 #[fenc p, fenc q] w fun e w' => e = .returned (fenc (p * q)) ∧ Below w.heap.size w w' := by
 have := fMul_any (I p.num) (dn p) (I q.num) (dn q) w (by have := hp.num; omega) (by have := hp.dn; omega) (by have := hq.num; omega) (by have := hq.dn; omega) ht
 rw [fv_enc, fv_enc] at this
 exact this
theorem roundQ {p : Rat} {a : Nat} (hp : BdQ p a) (ha : a ≤ 800000) (w : World) (ht : Tabs w) :
 Calls Tryz.prog 126 #[fenc p] w fun e w' => e = .returned (.string (I (rnd p))) ∧ Below w.heap.size w w' := by
 have hR := fun W hW => Round_any (I p.num) (dn p) W (by have := hp.num; omega) (by have := hp.dn; omega) hW
 rw [fv_enc] at hR
 have HR := Lib.hid hR
 have HT := Lib.hid ht
 have HB := Lib.hid ((Below.refl _ w).alloc (Nat.le_refl _) (Obj.cells #[.string (I p.num), .string (dn p)] 25))
 generalize rnd p = z at HR ⊢
 clear hR ht
 unfold fenc
 go_enter Tryz.func126, Tryz.ntmps126
 go_wp2_with fail
 refine (HR.out _ (HT.out.below HB.out)).mono ?_
 rintro e w1 ⟨rfl, b1⟩
 have B1 := HB.out.trans (b1.mono HB.out.size)
 clear b1 HB
 go_wp2_with fail
 go_ret
 exact ⟨rfl, B1⟩
theorem avalid_any (d : Int) (w : World) :
 Calls Tryz.prog 172 #[.int .i64 d] w fun e w' => e = .returned (.bool (decide (okDay d))) ∧ w' = w := by
 go_enter Tryz.func172, Tryz.ntmps172
 go_wp2_with fail
 all_goals (go_ret; refine ⟨?_, rfl⟩; first | (rw [decide_eq_true (p := okDay d) (by unfold okDay; omega)]; rfl) | (rw [decide_eq_false (p := okDay d) (by unfold okDay; omega)]; rfl) | (simp [okDay, *]; done))
theorem days_any (n : Int) (h0 : -9000000000000000000 ≤ n) (h1 : n ≤ 9000000000000000000) (w : World) (ht : Tabs w) :
 Calls Tryz.prog 228 #[.int .i64 n] w fun e w' => e = .returned (fenc (n : Rat)) ∧ Below w.heap.size w w' := by
 have HT := Lib.hid ht
 clear ht
 obtain ⟨W0, hW0⟩ : ∃ W0, w.alloc (.cells #[.string ⟨#[]⟩, .string ⟨#[]⟩] 25) = W0 := ⟨_, rfl⟩
 have HB : Hid (Below w.heap.size w W0) := by rw [← hW0]; exact (Below.refl _ w).alloc (Nat.le_refl _) _
 have HK : Hid (W0.heap[w.heap.size]? = some (.cells #[.string ⟨#[]⟩, .string ⟨#[]⟩] 25 (0, 0))) := by rw [Hid, ← hW0]; exact heap_alloc_new w _
 have HO := Lib.hid (fun W hW => Of_any n (by omega) (by omega) W hW)
 have hz : (I n).size ≤ 100 := Nat.le_trans (I_size_le (z := n) (k := 20) (by omega)) (by omega)
 have HF := Lib.hid (fun W hW => fOf_any (I n) W (by omega) hW)
 rw [vl_I] at HF
 generalize (n : Rat) = q at HF ⊢
 go_enter Tryz.func228, Tryz.ntmps228
 go_wp2_with fail
 refine (HO.out _ (HT.out.below HB.out)).mono ?_
 rintro e w1 ⟨rfl, b1⟩
 have HB1 := Lib.hid (HB.out.trans (b1.mono HB.out.size))
 have HK1 := Lib.hid ((b1.block w.heap.size (Array.getElem?_eq_some_iff.1 HK.out).1).trans HK.out)
 clear b1 HB HK
 go_wp2_with fail
 refine (HF.out _ (HT.out.below HB1.out)).mono ?_
 rintro e w2 ⟨rfl, b2⟩
 have hk2 := (b2.block w.heap.size (Array.getElem?_eq_some_iff.1 HK1.out).1).trans HK1.out
 have HB2 := Lib.hid (HB1.out.trans (b2.mono HB1.out.size))
 have g0 := Lib.cell_of_heap hk2 0
 have g1 := Lib.cell_of_heap hk2 1
 have f0 := Lib.frozen_of_heap hk2 0
 have f1 := Lib.frozen_of_heap hk2 1
 simp at g0 g1 f0 f1
 have HK2 := Lib.hid hk2
 clear b2 HB1 HK1 hk2
 unfold fenc
 go_wp2_with fail
 have k6 := set2 HK2.out (.string (I q.num)) (.string (dn q))
 have m0 := Lib.cell_of_heap k6 0
 have m1 := Lib.cell_of_heap k6 1
 simp at m0 m1
 refine bodyPost_ret (v := .agg #[.string (I q.num), .string (dn q)]) (by simp [results, Tryz.results228, go_sem, m0, m1]) rfl ?_
 exact ⟨rfl, (HB2.out.setCell (p := ⟨w.heap.size, 0, none⟩) (by simp) _).setCell (p := ⟨w.heap.size, 1, none⟩) (by simp) _⟩
def allQ (i : Inst) (l : Lot) : Rat := fv i.fn i.fd * (vl l.qty : Rat) - (vl l.cost : Rat)
def exactQ (i : Inst) (l : Lot) (d : Int) : Rat :=
 if i.kind ≠ 2 ∨ d < l.opn then 0 else if i.matures ≤ d then allQ i l else allQ i l * (((d - l.opn : Int) : Rat) / ((i.matures - l.opn : Int) : Rat))
structure EG (w : World) (i : Inst) (l : Lot) (W : World) : Prop where
 ib : InstBox W w.heap.size i
 lb : LotBox W (w.heap.size + 1) l
 rb : W.heap[w.heap.size + 1 + 1]? = some (.cells #[.string ⟨#[]⟩, .string ⟨#[]⟩] 25 (0, 0))
 be : Below w.heap.size w W
theorem EG.below {w : World} {i : Inst} {l : Lot} {W W' : World} (h : EG w i l W) (hb : Below W.heap.size W W') : EG w i l W' :=
 ⟨h.ib.below hb, h.lb.below hb, (hb.block _ (Array.getElem?_eq_some_iff.1 h.rb).1).trans h.rb, h.be.trans (hb.mono h.be.size)⟩
theorem EG.start (w : World) (i : Inst) (l : Lot) : EG w i l (((w.alloc (.cells i.cells 27)).alloc (.cells l.cells 55)).alloc (.cells #[.string ⟨#[]⟩, .string ⟨#[]⟩] 25)) := by
 obtain ⟨W0, hW0, hB, hz, k0, k1, k2⟩ := box3 w (.cells i.cells 27) (.cells l.cells 55) (.cells #[.string ⟨#[]⟩, .string ⟨#[]⟩] 25)
 rw [← hW0]
 exact ⟨k0, k1, k2, hB⟩
theorem EG.done {w : World} {i : Inst} {l : Lot} {W : World} (h : EG w i l W) (q : Rat) :
 ((W.setCell ⟨w.heap.size + 1 + 1, 0, none⟩ (.string (I q.num))).setCell ⟨w.heap.size + 1 + 1, 1, none⟩ (.string (dn q))).heap[w.heap.size + 1 + 1]? = some (.cells #[.string (I q.num), .string (dn q)] 25 (0, 0)) ∧
   Below w.heap.size w ((W.setCell ⟨w.heap.size + 1 + 1, 0, none⟩ (.string (I q.num))).setCell ⟨w.heap.size + 1 + 1, 1, none⟩ (.string (dn q))) :=
 ⟨set2 h.rb _ _, (h.be.setCell (p := ⟨w.heap.size + 1 + 1, 0, none⟩) (by simp; omega) _).setCell (p := ⟨w.heap.size + 1 + 1, 1, none⟩) (by simp; omega) _⟩
theorem exact_zero (i : Inst) (l : Lot) (d : Int) (h : i.kind ≠ 2 ∨ d < l.opn) (w : World) :
 Calls Tryz.prog 174 #[i.enc, l.enc, .int .i64 d] w fun e w' => e = .returned (fenc (exactQ i l d)) ∧ Below w.heap.size w w' := by
 have HQ : Hid (exactQ i l d = 0) := by unfold exactQ; rw [Hid, if_pos h]
 rw [HQ.out]
 have hG := EG.start w i l
 obtain ⟨W0, hW0⟩ : ∃ W0, ((w.alloc (.cells i.cells 27)).alloc (.cells l.cells 55)).alloc (.cells #[.string ⟨#[]⟩, .string ⟨#[]⟩] 25) = W0 := ⟨_, rfl⟩
 rw [hW0] at hG
 have c1 := Lib.cell_of_heap hG.ib 1
 have o3 := Lib.cell_of_heap hG.lb 3
 have r0 := Lib.cell_of_heap hG.rb 0
 have r1 := Lib.cell_of_heap hG.rb 1
 have f0 := Lib.frozen_of_heap hG.rb 0
 have f1 := Lib.frozen_of_heap hG.rb 1
 simp at c1 o3 r0 r1 f0 f1
 have HG := Lib.hid hG
 clear hG
 unfold Inst.enc Inst.cells Lot.enc Lot.cells at *
 by_cases hk : i.kind = 2
 ·have t1 : (i.kind != 2) = false := by simp [hk]
  have t2 : decide (d < l.opn) = true := decide_eq_true (h.resolve_left (fun x => x hk))
  clear h hk
  go_enter Tryz.func174, Tryz.ntmps174
  go_wp2_with fail
  have hd := HG.out.done 0
  rw [show I (0 : Rat).num = ⟨#[]⟩ from rfl, show dn 0 = ⟨#[]⟩ from rfl] at hd
  generalize (W0.setCell ⟨w.heap.size + 1 + 1, 0, none⟩ (.string ⟨#[]⟩)).setCell ⟨w.heap.size + 1 + 1, 1, none⟩ (.string ⟨#[]⟩) = W9 at hd ⊢
  have m0 := Lib.cell_of_heap hd.1 0
  have m1 := Lib.cell_of_heap hd.1 1
  simp at m0 m1
  exact bodyPost_ret (v := .agg #[.string ⟨#[]⟩, .string ⟨#[]⟩]) (by simp [results, Tryz.results174, go_sem, m0, m1]) rfl ⟨rfl, hd.2⟩
 ·have t1 : (i.kind != 2) = true := by simp [hk]
  clear h hk
  go_enter Tryz.func174, Tryz.ntmps174
  go_wp2_with fail
  have hd := HG.out.done 0
  rw [show I (0 : Rat).num = ⟨#[]⟩ from rfl, show dn 0 = ⟨#[]⟩ from rfl] at hd
  generalize (W0.setCell ⟨w.heap.size + 1 + 1, 0, none⟩ (.string ⟨#[]⟩)).setCell ⟨w.heap.size + 1 + 1, 1, none⟩ (.string ⟨#[]⟩) = W9 at hd ⊢
  have m0 := Lib.cell_of_heap hd.1 0
  have m1 := Lib.cell_of_heap hd.1 1
  simp at m0 m1
  exact bodyPost_ret (v := .agg #[.string ⟨#[]⟩, .string ⟨#[]⟩]) (by simp [results, Tryz.results174, go_sem, m0, m1]) rfl ⟨rfl, hd.2⟩
end Go.Proofs.YtbkmhmaldljgmaaGreatDoor
