/-
  The walk of lot.CheckAll on valid lots with different ids.
  The iterator of lot.of: it gives the lots of an instrument, in their order.
  The walks of slices.AppendSeq, slices.Collect at lots, of lot.Of.
  The walks of slices.Collect at lots and of lot.Of.
  Fractions by their values; the walks of accrual.round, days, valid.
  The walk of accrual.exact.
  The walk of accrual.exact, the rest.
-/
import Derived.Test.YtpgjmdggblnfkaaGreatDoorM22
import Derived.Maps.Own
import Derived.Maps.Views
import Derived.Deep.DeepCutAuto
import Derived.Deep.RegionHeld3
set_option linter.unusedVariables false
set_option linter.unusedSimpArgs false
set_option maxHeartbeats 16000000
set_option maxRecDepth 100000
namespace Go.Proofs.YtpgjmdggblnfkaaGreatDoor
open Go.RowKit Tr Go.Shelf Go.Maps Go.WideMaps
structure LotAt (w : World) (p : Addr) (l : Lot) : Prop where
 c0 : w.cell? p = some (.string l.id)
 c1 : w.cell? ⟨p.block, p.off + 1, none⟩ = some (.string l.inst)
 c2 : w.cell? ⟨p.block, p.off + 2, none⟩ = some (.int .i64 l.acq)
 c3 : w.cell? ⟨p.block, p.off + 3, none⟩ = some (.int .i64 l.opn)
 c4 : w.cell? ⟨p.block, p.off + 4, none⟩ = some (.string l.qty)
 c5 : w.cell? ⟨p.block, p.off + 5, none⟩ = some (.string l.cost)
 c6 : w.cell? ⟨p.block, p.off + 6, none⟩ = some (.string l.used)
theorem LotAt.below {w w' : World} {p : Addr} {l : Lot} {B : Nat} (h : LotAt w p l) (hb : Below B w w') (hp : p.block < B) : LotAt w' p l :=
 ⟨(hb.cell hp).trans h.c0, (hb.cell (p := ⟨p.block, p.off + 1, none⟩) hp).trans h.c1, (hb.cell (p := ⟨p.block, p.off + 2, none⟩) hp).trans h.c2, (hb.cell (p := ⟨p.block, p.off + 3, none⟩) hp).trans h.c3, (hb.cell (p := ⟨p.block, p.off + 4, none⟩) hp).trans h.c4, (hb.cell (p := ⟨p.block, p.off + 5, none⟩) hp).trans h.c5, (hb.cell (p := ⟨p.block, p.off + 6, none⟩) hp).trans h.c6⟩
def RdL (w : World) (A : Option Addr) (ls : List Lot) : Prop :=
 ls ≠ [] → ∃ ad : Addr, A = some ad ∧ ad.block < w.heap.size ∧ ∀ (j : Nat) (l : Lot), ls[j]? = some l → LotAt w (ad.add (j * 7)) l
theorem RdL.nil (w : World) (A : Option Addr) : RdL w A [] := fun h => absurd rfl h
theorem RdL.below {w w' : World} {A : Option Addr} {ls : List Lot} (h : RdL w A ls) (hb : Below w.heap.size w w') : RdL w' A ls := by
 intro hl
 obtain ⟨ad, rfl, h1, h2⟩ := h hl
 exact ⟨ad, rfl, Nat.lt_of_lt_of_le h1 hb.size, fun j l hj => (h2 j l hj).below hb (by rw [add_block]; exact h1)⟩
structure LotsOk (ls : List Lot) : Prop where
 len : ls.length ≤ 1000
 ok : ∀ l, l ∈ ls → l.sized ∧ l.ok
 ids : (ls.map Lot.id).Nodup
theorem strKeyed : Keyed Tryz.prog 9 := string_keyed Tryz.underlying9
def idKey (l : Lot) : Lit := .string l.id.data.toList
def seenD (ls : List Lot) : DataW Unit := setOf (.lit (.bool true)) (ls.map idKey)
theorem seenD_snoc (ls : List Lot) (l : Lot) : seenD (ls ++ [l]) = (seenD ls).put (idKey l) (.lit (.bool true)) := by
 unfold seenD; rw [List.map_append]; exact setOf_snoc _ _ _
theorem zeroBool (w : World) : (zeroValue 4).run Tryz.prog w = .ok (.bool false) w := by kernel_rfl
theorem plainElem_bool_inv {P : Program} {e : TypeId} (he : P.underlying e = some .bool) {v : Value} {z : DataW Unit × List MemPlace} (h : plainElem P e v = some z) : ∃ a, v = .bool a ∧ z = (.lit (.bool a), []) := by
 unfold plainElem at h
 rw [he] at h
 cases v <;> simp at h
 exact ⟨_, rfl, h.symm⟩
theorem seen_false {w : World} {b n : Nat} {ls : List Lot} {l : Lot} (h : w.ownsMap Tryz.prog 9 (plainElem Tryz.prog 4) b n (seenD ls)) (hs : l.id.size ≤ maxLen) (hn : ∀ x ∈ ls, x.id ≠ l.id) :
 (Instr.lookup 169 (.map (some b)) (.string l.id) false).run Tryz.prog w = .ok (.bool false) w := by
 obtain ⟨v, ps, hrun, hv⟩ := h.lookup strKeyed Tryz.underlying169 (zeroBool w) (plainElem_bool Tryz.underlying4 false) (keyOf_string_mk Tryz.underlying9 hs)
 have hh : has (seenD ls) (.string l.id.data.toList) = false := by
  unfold seenD
  rw [has_setOf _ _ _ (by intro x hx; obtain ⟨y, _, rfl⟩ := List.mem_map.1 hx; exact trivial)]
  rw [List.any_eq_false]
  intro x hx
  obtain ⟨y, hy, rfl⟩ := List.mem_map.1 hx
  rw [sameKey_ne]
  ·simp
  ·intro e
   injection e with e
   exact hn y hy (by rw [← bs_of y.id, ← bs_of l.id, e])
 rw [atKey_of_not_has hh] at hv
 obtain ⟨a, rfl, ha⟩ := plainElem_bool_inv Tryz.underlying4 hv
 simp at ha
 rw [hrun, ← ha.1]
theorem ownsMap_below {w w' : World} {P : Program} {k : TypeId} {R : Value → Option (DataW Unit × List MemPlace)} {b n : Nat} {D : DataW Unit} (h : w.ownsMap P k R b n D) (hb : Below w.heap.size w w') : w'.ownsMap P k R b n D := by
 have hlt := h.lt
 obtain ⟨es, clock, e, F, hs, hD⟩ := h
 exact ⟨es, clock, (hb.block b hlt).trans e, F, hs, hD⟩
theorem nodup_take {ls : List Lot} (h : (ls.map Lot.id).Nodup) {k : Nat} {l : Lot} (hl : ls[k]? = some l) : ∀ x ∈ ls.take k, x.id ≠ l.id := by
 intro x hx e
 obtain ⟨i, hi, rfl⟩ := List.getElem_of_mem hx
 have hk : k < ls.length := (List.getElem?_eq_some_iff.1 hl).1
 rw [List.length_take] at hi
 rw [List.getElem_take] at e
 have hl' : ls[k] = l := by rw [List.getElem?_eq_getElem hk] at hl; exact Option.some.inj hl
 rw [List.nodup_iff_pairwise_ne, List.pairwise_iff_getElem] at h
 have := h i k (by simp; omega) (by simpa using hk) (by omega)
 rw [List.getElem_map, List.getElem_map, hl'] at this
 exact this e
theorem lCheckAll_ok (A : Option Addr) (c : Nat) (ls : List Lot) (hc : ls.length ≤ c) (w : World) (hr : RdL w A ls) (h : LotsOk ls) (ht : Tabs w) :
 Calls Tryz.prog 85 #[.slice A ls.length c] w fun e w' => e = .returned (.int .i64 0) ∧ Below w.heap.size w w' := by
 have HR := Lib.hid hr
 have HT := Lib.hid ht
 have H := Lib.hid h
 have hlen := h.len
 have hgt : decide ((1000 : Int) < (ls.length : Int)) = false := by simp; omega
 clear hr ht h
 have hmm := @run_makeMap Tryz.prog
 go_enter Tryz.func85, Tryz.ntmps85
 go_wp2_with fail
 go_loopw [13] (fun v wr => ∃ k : Nat, v = .int .i64 (k : Int) ∧ k ≤ ls.length ∧ wr.ownsMap Tryz.prog 9 (plainElem Tryz.prog 4) w.heap.size k (seenD (ls.take k)) ∧ Below w.heap.size w wr) (fun v _ => ls.length - (intOf v).toNat)
 case atStart => exact ⟨0, rfl, by omega, World.ownsMap_made _ _ _ _, (Below.refl _ _).alloc (Nat.le_refl _) _⟩
 case round =>
  obtain ⟨k, rfl, hk, hown, hb⟩ := hrel
  have HO := Lib.hid hown
  have HB := Lib.hid hb
  clear hown hb
  rcases Nat.lt_or_ge k ls.length with hlt | hge
  ·obtain ⟨l, hl⟩ : ∃ l, ls[k]? = some l := ⟨_, List.getElem?_eq_getElem hlt⟩
   obtain ⟨ad, rfl, had, hcell⟩ := HR.out (by intro e; rw [e] at hlt; cases hlt)
   have hcx : decide ((k : Int) < (ls.length : Int)) = true := by simp; omega
   obtain ⟨c0, c1, c2, c3, c4, c5, c6⟩ := (hcell k l hl).below HB.out (by rw [add_block]; exact had)
   have hmem : l ∈ ls := List.mem_of_getElem? hl
   obtain ⟨hs, hok⟩ := H.out.ok l hmem
   have hids : ∀ x ∈ ls.take k, x.id ≠ l.id := nodup_take H.out.ids hl
   have hzid : l.id.size ≤ maxLen := by unfold maxLen; have := hs.1; omega
   have HSN : Hid (ls.take (k + 1) = ls.take k ++ [l]) := by
    rw [Hid, List.take_succ_eq_append_getElem hlt]
    congr 2
    rw [List.getElem?_eq_getElem hlt] at hl
    exact Option.some.inj hl
   have HC := Lib.hid (fun W hW => lCheck_ok l hs hok W hW)
   have HID := Lib.hid hids
   clear hcell hl hmem hs hok hids
   obtain ⟨W5, hW5⟩ : ∃ W5, wr.alloc (.cells l.cells 39) = W5 := ⟨_, rfl⟩
   have k5 : LotBox W5 wr.heap.size l := by rw [← hW5]; exact heap_alloc_new wr _
   have b5 : Below wr.heap.size wr W5 := by rw [← hW5]; exact (Below.refl _ wr).alloc (Nat.le_refl _) _
   have HK5 := Lib.hid k5
   have HB5 := Lib.hid (HB.out.trans (b5.mono HB.out.size))
   have HO5 := Lib.hid (ownsMap_below HO.out b5)
   obtain ⟨m0, m1, m2, m3, m4, m5, m6⟩ := cells7 k5
   clear k5 b5 HO
   unfold Lot.cells at hW5
   go_wp2_with fail
   refine (HC.out _ (HT.out.below HB5.out)).mono ?_
   rintro e w6 ⟨rfl, b6⟩
   have k6 := HK5.out.below b6
   have HB6 := Lib.hid (HB5.out.trans (b6.mono HB5.out.size))
   have hO6 := ownsMap_below HO5.out b6
   have hlk := seen_false hO6 hzid HID.out
   obtain ⟨w7, hup, hO7, hg7⟩ := hO6.update strKeyed Tryz.underlying169 (by unfold maxLen; omega) (keyOf_string_mk Tryz.underlying9 hzid) (plainElem_bool Tryz.underlying4 true)
   clear m0 m1 m2 m3 m4 m5 m6
   obtain ⟨m0, m1, m2, m3, m4, m5, m6⟩ := cells7 k6
   have HO7 : Hid (w7.ownsMap Tryz.prog 9 (plainElem Tryz.prog 4) w.heap.size (k + 1) (seenD (ls.take (k + 1)))) := by
    rw [HSN.out, seenD_snoc]; exact hO7
   have HB7 := Lib.hid (HB6.out.grown hg7 HB6.out.size (fun j hj => by cases hj; exact Nat.le_refl _))
   clear hO6 hO7 hg7 b6 k6 HO5 HB5 HK5
   go_wp2_with fail
   go_roundw
   case rel => exact ⟨k + 1, by go_num, by omega, HO7.out, HB7.out⟩
   case measure => simp [intOf]; omega
  ·have hcx : decide ((k : Int) < (ls.length : Int)) = false := by simp; omega
   go_wp2_with fail
   go_ret
   exact ⟨rfl, HB.out⟩
end Go.Proofs.YtpgjmdggblnfkaaGreatDoor
namespace Go.Proofs.YtpgjmdggblnfkaaGreatDoor
open Go.RowKit Tr Go.Shelf
attribute [local go_sem] Oper.semAt_some
abbrev SLot := { l : Lot // l.sized }
def encL (x : SLot) : Array Value := #[x.1.enc]
def ownL (ls : List SLot) (s : ByteArray) : List SLot := ls.filter fun l => decide (l.1.inst = s)
theorem ownL_succ {ls : List SLot} {s : ByteArray} {k : Nat} {l : SLot} (hl : ls[k]? = some l) : ownL (ls.take (k + 1)) s = ownL (ls.take k) s ++ (if l.1.inst = s then [l] else []) := by
 have hk : k < ls.length := (List.getElem?_eq_some_iff.1 hl).1
 have e : ls[k] = l := by rw [List.getElem?_eq_getElem hk] at hl; exact Option.some.inj hl
 unfold ownL
 rw [List.take_succ_eq_append_getElem hk, List.filter_append, e]
 by_cases h : l.1.inst = s <;> simp [h]
theorem ownL_len (ls : List SLot) (s : ByteArray) (k : Nat) : (ownL (ls.take k) s).length ≤ k := Nat.le_trans (List.length_filter_le _ _) (List.length_take_le _ _)
def KpB (n₀ b : Nat) (W W' : World) : Prop := Below n₀ W W' ∧ (b < W.heap.size → W'.heap[b]? = W.heap[b]?)
theorem KpB.trans {n₀ b : Nat} {A B C : World} (h : KpB n₀ b A B) (k : KpB n₀ b B C) : KpB n₀ b A C :=
 ⟨h.1.trans k.1, fun hb => (k.2 (Nat.lt_of_lt_of_le hb h.1.size)).trans (h.2 hb)⟩
theorem KpB.put {n₀ b N : Nat} (hn : n₀ ≤ N) (hb : b < N) (W : World) (l : Nat) (o o' : Obj) (hl : N ≤ l) (h : W.heap[l]? = some o) : KpB n₀ b W (W.putObj l o') :=
 ⟨(Below.refl n₀ W).grown (grownBy_putObj' W l o') (by have := (Array.getElem?_eq_some_iff.1 h).1; omega) (fun k e => by cases e; omega), fun _ => World.putObj_heap_other (by omega)⟩
theorem KpB.below {n₀ b : Nat} {A B : World} (h : Below A.heap.size A B) (hn : n₀ ≤ A.heap.size) : KpB n₀ b A B := ⟨h.mono hn, fun hb => h.block b hb⟩
def RdB (n₀ : Nat) (w : World) (A : Option Addr) (ls : List SLot) : Prop :=
 ls ≠ [] → ∃ ad : Addr, A = some ad ∧ ad.block < n₀ ∧ ∀ (j : Nat) (l : SLot), ls[j]? = some l → LotAt w (ad.add (j * 7)) l.1
theorem RdB.below {n₀ : Nat} {w w' : World} {A : Option Addr} {ls : List SLot} (h : RdB n₀ w A ls) (hb : Below n₀ w w') : RdB n₀ w' A ls := by
 intro hl
 obtain ⟨ad, rfl, h1, h2⟩ := h hl
 exact ⟨ad, rfl, h1, fun j l hj => (h2 j l hj).below hb (by rw [add_block]; exact h1)⟩
theorem str_eq (a b : ByteArray) : (a.toList == b.toList) = decide (a = b) := by
 by_cases h : a = b
 ·subst h; simp
 ·rw [neq_toList h]; simp [h]
theorem of1_seq (n n₀ bl bi : Nat) (A : Option Addr) (ls : List SLot) (c : Nat) (s : ByteArray) (w : World) (hn : 1 ≤ n) (hlen : ls.length ≤ 1000000)
 (hbl : Boxed w bl 28 (.slice A ls.length c)) (hbi : Boxed w bi 9 (.string s)) (hR : RdB n₀ w A ls) (hnw : n₀ ≤ w.heap.size) :
 SeqStopsK Fence.wide n Tryz.prog 84 #[.pointer (some ⟨bl, 0, none⟩), .pointer (some ⟨bi, 0, none⟩)] encL (KpB n₀ bi) (fun xs => xs = ownL ls s) (fun _ => True) (ls.length + 1) w := by
 intro l J Jx W hW hJ hJx hY hJ0
 have HJ := Lib.hid hJ
 have HY := Lib.hid hY
 have hbl' : Boxed W bl 28 (.slice A ls.length c) := (hW.block bl hbl.lt).trans hbl
 have hbi' : Boxed W bi 9 (.string s) := (hW.block bi hbi.lt).trans hbi
 have HBI := Lib.hid hbi'
 have HR := Lib.hid (hR.below (hW.mono hnw))
 have cl := hbl'.cell
 have hWs : w.heap.size ≤ W.heap.size := hW.size
 clear hJ hJx hY hbl hbi hbl' hbi' hR hW
 refine callsIn_of_wp Tryz.func84 rfl trivial ?_ rfl
 simp only [Tryz.ntmps84, List.size_toArray, List.length_cons, List.length_nil, Nat.reduceAdd, Nat.reduceSub, Array.replicate_succ, Array.replicate_zero, List.push_toArray, List.append_toArray, List.nil_append, List.cons_append]
 gi_wp2
 gi_loopw [8] (fun v wr => ∃ k : Nat, v = .int .i64 (k : Int) ∧ k ≤ ls.length ∧ Boxed wr bi 9 (.string s) ∧ RdB n₀ wr A ls ∧ n₀ ≤ wr.heap.size ∧ J (ownL (ls.take k) s) wr) (fun v _ => ls.length - (intOf v).toNat)
 case atStart => exact ⟨0, rfl, by omega, HBI.out, HR.out, Nat.le_trans hnw hWs, hJ0⟩
 case round =>
  obtain ⟨k, rfl, hk, hb, hr, hnr, hj⟩ := hrel
  clear HBI HR cl hJ0
  rcases Nat.lt_or_ge k ls.length with hlt | hge
  ·obtain ⟨x, hl⟩ : ∃ x, ls[k]? = some x := ⟨_, List.getElem?_eq_getElem hlt⟩
   obtain ⟨ad, rfl, had, hcell⟩ := hr (by intro e; rw [e] at hlt; cases hlt)
   have hcx : decide ((k : Int) < (ls.length : Int)) = true := by simp; omega
   obtain ⟨c0, c1, c2, c3, c4, c5, c6⟩ := hcell k x hl
   have HOS := Lib.hid (ownL_succ (s := s) hl)
   have HOL := Lib.hid (ownL_len ls s k)
   obtain ⟨W5, hW5⟩ : ∃ W5, wr.alloc (.cells x.1.cells 39) = W5 := ⟨_, rfl⟩
   have k5 : LotBox W5 wr.heap.size x.1 := by rw [← hW5]; exact heap_alloc_new wr _
   have b5 : Below wr.heap.size wr W5 := by rw [← hW5]; exact (Below.refl _ wr).alloc (Nat.le_refl _) _
   have hj5 : J (ownL (ls.take k) s) W5 := by rw [← hW5]; exact HJ.out _ _ _ none hj (World.grownBy_alloc wr _ none) (fun r e => by cases e)
   have hb5 : Boxed W5 bi 9 (.string s) := (b5.block bi hb.lt).trans hb
   have hr5 : RdB n₀ W5 (some ad) ls := hr.below (b5.mono hnr)
   have hn5 : n₀ ≤ W5.heap.size := Nat.le_trans hnr b5.size
   obtain ⟨m0, m1, m2, m3, m4, m5, m6⟩ := cells7 k5
   have cb := hb5.cell
   have hse := str_eq x.1.inst s
   have HBB := Lib.hid hb5
   have HRR := Lib.hid hr5
   have HJJ := Lib.hid hj5
   clear hb hr hj k5 b5 hb5 hr5 hj5 hcell hl
   unfold Lot.cells at hW5
   by_cases he : x.1.inst = s
   ·rw [decide_eq_true he] at hse
    obtain ⟨fn, tmps, assign, body, hy, hR⟩ := HY.out _ x W5 HJJ.out (by have := HOL.out; omega)
    dsimp only [encL, Lot.enc, Lot.cells] at hy
    have HE := Lib.hid he
    have HRD := Lib.hid hR
    clear he hR
    gi_wp2
    refine HRD.out.mono ?_
    rintro e W6 (⟨rfl, hj6, hk6⟩ | ⟨rfl, hjx⟩)
    ·have HB6 : Hid (Boxed W6 bi 9 (.string s)) := (hk6.2 HBB.out.lt).trans HBB.out
     have HR6 := Lib.hid (HRR.out.below hk6.1)
     have hn6 : n₀ ≤ W6.heap.size := Nat.le_trans hn5 hk6.1.size
     have HJ6 : Hid (J (ownL (ls.take (k + 1)) s) W6) := by rw [Hid, HOS.out, if_pos HE.out]; exact hj6
     clear hj6 hk6
     gi_wp2
     go_roundw
     case rel => exact ⟨k + 1, by go_num, by omega, HB6.out, HR6.out, hn6, HJ6.out⟩
     case measure => simp [intOf]; omega
    ·gi_wp2
     refine bodyPost_ret (results_none rfl _ _ _) rfl ?_
     exact ⟨⟨_, rfl⟩, .inr ⟨_, trivial, hjx⟩⟩
   ·rw [decide_eq_false he] at hse
    have HE := Lib.hid he
    clear he
    gi_wp2
    refine ⟨fun _ h => (by cases h), ?_⟩
    gi_wp2
    go_roundw
    case rel => exact ⟨k + 1, by go_num, by omega, HBB.out, HRR.out, hn5, by rw [HOS.out, if_neg HE.out, List.append_nil]; exact HJJ.out⟩
    case measure => simp [intOf]; omega
  ·have hcx : decide ((k : Int) < (ls.length : Int)) = false := by simp; omega
   gi_wp2
   go_end0
   refine ⟨⟨_, rfl⟩, .inl ⟨_, rfl, ?_⟩⟩
   rw [List.take_of_length_le (by omega)] at hj
   exact hj
theorem lof_any (A : Option Addr) (k c : Nat) (s : ByteArray) (w : World) :
 Calls Tryz.prog 41 #[.slice A k c, .string s] w fun e w' => e = .returned (.func (.func 84) #[] #[.pointer (some ⟨w.heap.size, 0, none⟩), .pointer (some ⟨w.heap.size + 1, 0, none⟩)]) ∧ w' = (w.alloc (.cells #[.slice A k c] 28)).alloc (.cells #[.string s] 9) := by
 go_enter Tryz.func41, Tryz.ntmps41
 go_wp2_with fail
 go_ret
 exact ⟨rfl, rfl⟩
end Go.Proofs.YtpgjmdggblnfkaaGreatDoor
namespace Go.Proofs.YtpgjmdggblnfkaaGreatDoor
open Go.RowKit Tr Go.Shelf
attribute [local go_sem] Oper.semAt_some
theorem Tryz.infoLot : (Tryz.prog.info? 39).map (fun i => (i.zero, i.size, i.bytes)) = some (some (.agg #[.string ⟨#[]⟩, .string ⟨#[]⟩, .int .i64 0, .int .i64 0, .string ⟨#[]⟩, .string ⟨#[]⟩, .string ⟨#[]⟩]), 7, 96) := by kernel_rfl
def flatL (ls : List SLot) : List Value := ls.flatMap fun x => x.1.cells.toList
theorem flatL_snoc (ls : List SLot) (x : SLot) : flatL (ls ++ [x]) = flatL ls ++ x.1.cells.toList := by simp [flatL]
theorem cells_new (w : World) (cs : Array Value) (t : TypeId) : ∀ j u, cs.toList[j]? = some u → (w.alloc (.cells cs t)).cell? ((⟨w.heap.size, 0, none⟩ : Addr).add j) = some u := by
 intro j u hj
 have h := heap_alloc_new w (.cells cs t)
 have e : (⟨w.heap.size, 0, none⟩ : Addr).add j = ⟨w.heap.size, j, none⟩ := by unfold Addr.add; split <;> simp_all
 rw [e, Lib.cell_of_heap h j]
 simpa using hj
theorem appendSeq_of (n bl bi n₀ : Nat) (A : Option Addr) (ls : List SLot) (c : Nat) (s : ByteArray) (w : World) (hn : 3 ≤ n) (hlen : ls.length ≤ 1000000)
 (hbl : Boxed w bl 28 (.slice A ls.length c)) (hbi : Boxed w bi 9 (.string s)) (hR : RdB n₀ w A ls) (hnw : n₀ ≤ w.heap.size) :
 CallsIn Fence.wide n Tryz.prog 83 #[.slice none 0 0, .func (.func 84) #[] #[.pointer (some ⟨bl, 0, none⟩), .pointer (some ⟨bi, 0, none⟩)]] w
  fun e w' => ∃ v, e = .returned v ∧ w'.ownsRow w.heap.size 39 7 v (ownL ls s).length (flatL (ownL ls s)) ∧ Below w.heap.size w w' := by
 have h1 : 1 ≤ n := by omega
 obtain ⟨i0, hi, hz0, hz1, hz2⟩ := info_parts Tryz.infoLot
 refine callsIn_of_wp_marks Tryz.func83 rfl trivial ?_ rfl
 simp only [Tryz.ntmps83, List.size_toArray, List.length_cons, List.length_nil, Nat.reduceAdd, Nat.reduceSub, Array.replicate_succ, Array.replicate_zero, List.push_toArray, List.append_toArray, List.nil_append, List.cons_append]
 gi_wp2
 obtain ⟨W0, hW0⟩ : ∃ W0, w.alloc (.cells #[.slice none 0 0] 28) = W0 := ⟨_, rfl⟩
 have hb0 : Below w.heap.size w W0 := by rw [← hW0]; exact (Below.refl _ w).alloc (Nat.le_refl _) _
 have hbo : Boxed W0 w.heap.size 28 (.slice none 0 0) := by rw [← hW0]; exact Boxed.new w _ _
 have hsz : W0.heap.size = w.heap.size + 1 := by rw [← hW0]; simp
 rw [hW0]
 have hbl0 : Boxed W0 bl 28 (.slice A ls.length c) := (hb0.block bl hbl.lt).trans hbl
 have hbi0 : Boxed W0 bi 9 (.string s) := (hb0.block bi hbi.lt).trans hbi
 have hlbi := hbi.lt
 refine wpIn_rangeFunc_ownH rfl h1 (gf := 84) (lb := #[.pointer (some ⟨bl, 0, none⟩), .pointer (some ⟨bi, 0, none⟩)]) rfl trivial (enters_of Tryz.func84 (by kernel_rfl) rfl)
  (of1_seq (n - 1) n₀ bl bi A ls c s W0 (by omega) hlen hbl0 hbi0 (hR.below (hb0.mono hnw)) (by omega)) KpB.trans (fun W l o o' hl h _ _ => KpB.put (N := W0.heap.size) (by omega) (by omega) W l o o' hl h) (Below.refl _ _) (fun _ => rfl)
  (fun pre W => (∃ v, Boxed W w.heap.size 28 v ∧ W.ownsRow w.heap.size 39 7 v pre.length (flatL pre) ∧ (∃ A' k' c', v = .slice A' k' c')) ∧ Below w.heap.size w W) (fun _ _ _ => False)
  (OwnFrom.and ((holdsRow_own w.heap.size w.heap.size 28 39 7 (fun pre => pre.length) (fun pre => flatL pre) (fun _ v => ∃ A' k' c', v = .slice A' k' c')).from _) (ownFrom_below (Nat.le_refl _) (by omega)))
  (fun _ => ownFrom_pure _ _) ⟨⟨_, hbo, World.ownsRow_nil _ _ _ _, ⟨_, _, _, rfl⟩⟩, hb0⟩
  (fun x a' W => ∃ Bx, w.heap.size < Bx ∧ LotBox W Bx x.1 ∧ a' = { tmps := #[Value.slice none 0 0, Value.func (Fn.func 84) #[] #[Value.pointer (some { block := bl, off := 0 }), Value.pointer (some { block := bi, off := 0 })], Value.pointer (some { block := w.heap.size, off := 0 }), undef, Value.slice none 0 0, Value.pointer (some { block := Bx, off := 0 }), Value.func (Fn.func 84) #[] #[Value.pointer (some { block := bl, off := 0 }), Value.pointer (some { block := bi, off := 0 })], x.1.enc, undef, undef, undef, undef, undef], defers := [] })
  (fun x a' => ?hAx) ?assign ?body ?done ?stop
 case hAx =>
  rintro _ X Y row ⟨Bx, hB, hx, rfl⟩ hg hr
  refine ⟨Bx, hB, (hg.block Bx hx.lt (fun e => ?_)).trans hx, rfl⟩
  obtain ⟨_, o, ho, hc⟩ := hr Bx e.symm
  rw [show X.heap[Bx]? = _ from hx] at ho; cases ho; cases hc
 case assign =>
  rintro l pre x W K ⟨⟨v, hv, hrow, hvs⟩, hB⟩ hK
  have hlt := hv.lt
  obtain ⟨W5, hW5⟩ : ∃ W5, W.alloc (.cells x.1.cells 39) = W5 := ⟨_, rfl⟩
  have b5 : Below W.heap.size W W5 := by rw [← hW5]; exact (Below.refl _ W).alloc (Nat.le_refl _) _
  have HF : Hid (LotBox W5 W.heap.size x.1 ∧ KeepsFrom W0.heap.size W W5 ∧ KpB n₀ bi W W5 ∧ Boxed W5 w.heap.size 28 v ∧ W5.ownsRow w.heap.size 39 7 v pre.length (flatL pre) ∧ Below w.heap.size w W5) := by
   refine ⟨by rw [← hW5]; exact heap_alloc_new W _, by rw [← hW5]; exact (KeepsOthers.alloc _ _).from _, KpB.below b5 (by have := hB.size; omega), (b5.block _ hlt).trans hv, by rw [← hW5]; exact hrow.alloc _, hB.trans (b5.mono hB.size)⟩
  clear b5
  dsimp only [encL, Lot.enc, Lot.cells] at hW5 ⊢
  gi_wp2
  obtain ⟨f1, f2, f3, f4, f5, f6⟩ := HF.out
  exact hK _ _ f2 f3 ⟨⟨v, f4, f5, hvs⟩, f6⟩ ⟨W.heap.size, hlt, f1, rfl⟩
 case body =>
  rintro l pre x a' W hl ⟨r, hr⟩ ⟨⟨v, hv, hrow, ⟨A', k', c', rfl⟩⟩, hB⟩ ⟨Bx, hBx, bX, rfl⟩ hlt
  have hc := hv.cell
  obtain ⟨m0, m1, m2, m3, m4, m5, m6⟩ := cells7 bX
  dsimp only [Lot.enc, Lot.cells]
  gi_wp2_with (gi_at_builtin; refine wpListIn_append_own _ rfl _ _ 28 rfl w.heap.size 39 i0 (.agg #[.string ⟨#[]⟩, .string ⟨#[]⟩, .int .i64 0, .int .i64 0, .string ⟨#[]⟩, .string ⟨#[]⟩, .string ⟨#[]⟩]) 7 96 Tryz.underlying28 hi hz0 hz1 hz2 rfl (by decide) _ _ _ rfl (hrow.alloc _) ⟨W.heap.size, 0, none⟩ 1 1 x.1.cells.toList rfl rfl (cells_new _ _ _) (by simp [Value.oneCell']) (by unfold maxLen; omega) (by omega) (by have := hB.size; simp; omega) ?_; intro v' w1 hown' hgrow _; obtain ⟨g', cap', rfl⟩ := ownsRow_succ hown'; obtain ⟨hv1, hv2, hr2, hk2, hb2⟩ := hv.appended (by decide) hrow hB.size (Nat.le_refl _) hown' hgrow; have hc1 := hv1.cell; have hf1 := hv1.frozen)
  exact ⟨hk2.from _, ⟨hb2.mono hnw, fun _ => hb2.block bi hlbi⟩, ⟨_, hv2, by rw [flatL_snoc, List.length_append]; exact hr2, ⟨_, _, _, rfl⟩⟩, hB.trans hb2⟩
 case done =>
  rintro D xs W hD rfl ⟨⟨v, hv, hrow, hvs⟩, hB⟩ hK
  have hc := hv.cell
  obtain ⟨A', k', c', rfl⟩ := hvs
  gi_wp2
  refine ⟨by simp, .inl ⟨_, _, rfl, run_takeDeferred hK, ?_⟩⟩
  exact ⟨_, results_tmp rfl _ _ _, _, rfl, ownsRow_putObj hrow _ hK rfl, hB.trans (belowK_b (w := w) (Nat.le_refl _) W D _ _ (by omega) hK rfl rfl)⟩
 case stop =>
  rintro D c pre W _ _ h _
  exact h.elim
end Go.Proofs.YtpgjmdggblnfkaaGreatDoor
namespace Go.Proofs.YtpgjmdggblnfkaaGreatDoor
open Go.RowKit Tr Go.Shelf
attribute [local go_sem] Oper.semAt_some
theorem flatL_get : ∀ (ls : List SLot) (j : Nat) (l : SLot), ls[j]? = some l → ∀ f, f < 7 → (flatL ls)[j * 7 + f]? = l.1.cells[f]?
 | [], j, l, h, f, hf => by simp at h
 | x :: r, 0, l, h, f, hf => by
   simp at h
   subst h
   simp only [flatL, List.flatMap_cons]
   rw [List.getElem?_append_left (by simp; omega)]
   simp
 | x :: r, j + 1, l, h, f, hf => by
   simp at h
   have := flatL_get r j l h f hf
   simp only [flatL, List.flatMap_cons] at this ⊢
   rw [List.getElem?_append_right (by simp; omega)]
   rw [← this]
   congr 1
   simp; omega
theorem addr_add0 (g m : Nat) : (⟨g, 0, none⟩ : Addr).add m = ⟨g, m, none⟩ := by unfold Addr.add; split <;> simp_all
theorem RdB.of_own {w : World} {base : Nat} {v : Value} {ls : List SLot} (h : w.ownsRow base 39 7 v ls.length (flatL ls)) :
 ∃ A c, v = .slice A ls.length c ∧ ls.length ≤ c ∧ (∀ ad, A = some ad → base ≤ ad.block) ∧ RdB w.heap.size w A ls := by
 rcases h.2 with ⟨rfl, h0⟩ | ⟨g, cap, cur, rfl, hb, hg, hnc, hcm, _⟩
 ·have : ls = [] := List.eq_nil_of_length_eq_zero h0
  subst this
  exact ⟨none, 0, rfl, Nat.le_refl _, (fun _ e => by cases e), fun e => absurd rfl e⟩
 ·refine ⟨_, _, rfl, hnc, fun ad e => by cases e; exact hb, fun _ => ⟨_, rfl, (Array.getElem?_eq_some_iff.1 hg).1, fun j l hj => ?_⟩⟩
  have hc := h.cells (g := g) rfl
  have q : ∀ f, f < 7 → ∀ u, l.1.cells[f]? = some u → w.cell? ⟨g, j * 7 + f, none⟩ = some u := by
   intro f hf u hu
   have := hc (j * 7 + f) u (by rw [flatL_get ls j l hj f hf]; exact hu)
   rwa [addr_add0] at this
  rw [addr_add0]
  exact ⟨q 0 (by omega) _ rfl, q 1 (by omega) _ rfl, q 2 (by omega) _ rfl, q 3 (by omega) _ rfl, q 4 (by omega) _ rfl, q 5 (by omega) _ rfl, q 6 (by omega) _ rfl⟩
def LotsPost (w : World) (ls : List SLot) (e : Ending) (w' : World) : Prop := ∃ A c, e = .returned (.slice A ls.length c) ∧ ls.length ≤ c ∧ (∀ ad, A = some ad → w.heap.size ≤ ad.block) ∧ RdB w'.heap.size w' A ls ∧ Below w.heap.size w w'
theorem lOf_any (n₀ : Nat) (A : Option Addr) (ls : List SLot) (c : Nat) (s : ByteArray) (w : World) (hlen : ls.length ≤ 1000000) (hR : RdB n₀ w A ls) (hnw : n₀ ≤ w.heap.size) :
 Calls Tryz.prog 9 #[.slice A ls.length c, .string s] w (LotsPost w (ownL ls s)) := by
 have hC : ∀ (W : World) (bl bi : Nat), Boxed W bl 28 (.slice A ls.length c) → Boxed W bi 9 (.string s) → RdB n₀ W A ls → n₀ ≤ W.heap.size →
  Calls Tryz.prog 40 #[.func (.func 84) #[] #[.pointer (some ⟨bl, 0, none⟩), .pointer (some ⟨bi, 0, none⟩)]] W (LotsPost W (ownL ls s)) := by
  intro W bl bi k0 k1 k2 k3
  have HA := Lib.hid ((callsIn_wide (n := 6)).1 (appendSeq_of 6 bl bi n₀ A ls c s W (by omega) hlen k0 k1 k2 k3))
  clear k0 k1 k2 k3 hR hnw
  go_enter Tryz.func40, Tryz.ntmps40
  go_wp2_with fail
  refine HA.out.mono ?_
  rintro e w1 ⟨v, rfl, hrow, hb⟩
  obtain ⟨A', c', rfl, h1, h2, h3⟩ := RdB.of_own hrow
  have HF : Hid (LotsPost W (ownL ls s) (.returned (.slice A' (ownL ls s).length c')) w1) := ⟨A', c', rfl, h1, h2, h3, hb⟩
  clear hrow h1 h2 h3 hb
  go_wp2_with fail
  go_ret
  exact HF.out
 have HC := Lib.hid hC
 have HR := Lib.hid hR
 clear hC hR
 go_enter Tryz.func9, Tryz.ntmps9
 go_wp2_with fail
 refine (lof_any A ls.length c s w).mono ?_
 rintro e w1 ⟨rfl, hw1⟩
 have b1 : Below w.heap.size w w1 := by rw [hw1]; exact ((Below.refl _ w).alloc (Nat.le_refl _) _).alloc (by simp) _
 have k0 : Boxed w1 w.heap.size 28 (.slice A ls.length c) := by rw [hw1]; exact (Boxed.new w _ _).alloc _
 have k1 : Boxed w1 (w.heap.size + 1) 9 (.string s) := by
  rw [hw1]
  have := Boxed.new (w.alloc (.cells #[.slice A ls.length c] 28)) 9 (.string s)
  rwa [World.size_alloc] at this
 have HX := Lib.hid (HC.out w1 _ _ k0 k1 (HR.out.below (b1.mono hnw)) (Nat.le_trans hnw b1.size))
 have HB1 := Lib.hid b1
 clear hw1 k0 k1 b1
 go_wp2_with fail
 refine HX.out.mono ?_
 rintro e w2 ⟨A', c', rfl, h1, h2, h3, h4⟩
 have HF : Hid (LotsPost w (ownL ls s) (.returned (.slice A' (ownL ls s).length c')) w2) := ⟨A', c', rfl, h1, fun ad e => Nat.le_trans HB1.out.size (h2 ad e), h3, HB1.out.trans (h4.mono HB1.out.size)⟩
 clear h1 h2 h3 h4
 go_wp2_with fail
 go_ret
 exact HF.out
end Go.Proofs.YtpgjmdggblnfkaaGreatDoor
namespace Go.Proofs.YtpgjmdggblnfkaaGreatDoor
open Go.RowKit Tr Go.Shelf
theorem BdQ.divInt {a b : Int} {k : Nat} (ha : a.natAbs < 10 ^ k) (hb : b.natAbs < 10 ^ k) (h0 : b ≠ 0) : BdQ (Rat.divInt a b) k := BdQ.div ha hb h0
theorem q_divInt (q : Rat) : q = Rat.divInt q.num q.den := (Rat.num_divInt_den q).symm
theorem BdQ.mul {p q : Rat} {a b : Nat} (hp : BdQ p a) (hq : BdQ q b) : BdQ (p * q) (a + b) := by
 rw [q_divInt p, q_divInt q, Rat.divInt_mul_divInt]
 refine BdQ.div (mul_lt_pow hp.1 hq.1) (mul_lt_pow (by simpa using hp.2) (by simpa using hq.2)) ?_
 have h1 := p.den_pos
 have h2 := q.den_pos
 exact Int.mul_ne_zero (by omega) (by omega)
theorem BdQ.add {p q : Rat} {a b : Nat} (hp : BdQ p a) (hq : BdQ q b) : BdQ (p + q) (a + b + 1) := by
 have h1 := p.den_pos
 have h2 := q.den_pos
 rw [q_divInt p, q_divInt q, Rat.divInt_add_divInt _ _ (by omega) (by omega)]
 refine BdQ.div ?_ ?_ (Int.mul_ne_zero (by omega) (by omega))
 ·have e1 := mul_lt_pow (x := p.num) (y := (q.den : Int)) hp.1 (by simpa using hq.2)
  have e2 := mul_lt_pow (x := q.num) (y := (p.den : Int)) hq.1 (by simpa using hp.2)
  rw [Nat.add_comm b a] at e2
  exact add_lt_pow e1 e2 (by omega) (by omega)
 ·exact Nat.lt_of_lt_of_le (mul_lt_pow (x := (p.den : Int)) (y := (q.den : Int)) (by simpa using hp.2) (by simpa using hq.2)) (pow_mono (by omega))
theorem BdQ.neg {q : Rat} {a : Nat} (hq : BdQ q a) : BdQ (-q) a := ⟨by rw [Rat.neg_num, Int.natAbs_neg]; exact hq.1, by rw [Rat.neg_den]; exact hq.2⟩
theorem BdQ.sub {p q : Rat} {a b : Nat} (hp : BdQ p a) (hq : BdQ q b) : BdQ (p - q) (a + b + 1) := by
 rw [Rat.sub_eq_add_neg]; exact hp.add hq.neg
theorem BdQ.int {z : Int} {k : Nat} (h : z.natAbs < 10 ^ k) (hk : 1 ≤ k) : BdQ (z : Rat) k := ⟨h, Nat.lt_of_lt_of_le (show 1 < 10 ^ 1 by omega) (pow_mono hk)⟩
theorem BdQ.zero {k : Nat} (hk : 1 ≤ k) : BdQ 0 k := BdQ.int (z := 0) (Nat.pow_pos (by omega)) hk
theorem BdQ.div' {p : Rat} {a b : Int} {k m : Nat} (ha : a.natAbs < 10 ^ m) (hb : b.natAbs < 10 ^ m) (h0 : b ≠ 0) (hp : BdQ p k) : BdQ (p * ((a : Rat) / (b : Rat))) (k + m) := by
 refine hp.mul ?_
 rw [← Rat.divInt_eq_div]
 exact BdQ.div ha hb h0
theorem fAddQ {p q : Rat} {a b : Nat} (hp : BdQ p a) (hq : BdQ q b) (ha : a ≤ 800000) (hb : b ≤ 800000) (w : World) (ht : Tabs w) :
 Calls Tryz.prog 46 #[fenc p, fenc q] w fun e w' => e = .returned (fenc (p + q)) ∧ Below w.heap.size w w' := by
 have := fAdd_any (I p.num) (dn p) (I q.num) (dn q) w (by have := hp.num; omega) (by have := hp.dn; omega) (by have := hq.num; omega) (by have := hq.dn; omega) ht
 rw [fv_enc, fv_enc] at this
 exact this
theorem fSubQ {p q : Rat} {a b : Nat} (hp : BdQ p a) (hq : BdQ q b) (ha : a ≤ 800000) (hb : b ≤ 800000) (w : World) (ht : Tabs w) :
 Calls Tryz.prog 20 #[fenc p, fenc q] w fun e w' => e = .returned (fenc (p - q)) ∧ Below w.heap.size w w' := by
 have := fSub_any (I p.num) (dn p) (I q.num) (dn q) w (by have := hp.num; omega) (by have := hp.dn; omega) (by have := hq.num; omega) (by have := hq.dn; omega) ht
 rw [fv_enc, fv_enc] at this
 exact this
theorem fMulQ {p q : Rat} {a b : Nat} (hp : BdQ p a) (hq : BdQ q b) (ha : a ≤ 800000) (hb : b ≤ 800000) (w : World) (ht : Tabs w) :
 Calls Tryz.prog 21 #[fenc p, fenc q] w fun e w' => e = .returned (fenc (p * q)) ∧ Below w.heap.size w w' := by
 have := fMul_any (I p.num) (dn p) (I q.num) (dn q) w (by have := hp.num; omega) (by have := hp.dn; omega) (by have := hq.num; omega) (by have := hq.dn; omega) ht
 rw [fv_enc, fv_enc] at this
 exact this
theorem roundQ {p : Rat} {a : Nat} (hp : BdQ p a) (ha : a ≤ 800000) (w : World) (ht : Tabs w) :
 Calls Tryz.prog 43 #[fenc p] w fun e w' => e = .returned (.string (I (rnd p))) ∧ Below w.heap.size w w' := by
 have hR := fun W hW => Round_any (I p.num) (dn p) W (by have := hp.num; omega) (by have := hp.dn; omega) hW
 rw [fv_enc] at hR
 have HR := Lib.hid hR
 have HT := Lib.hid ht
 have HB := Lib.hid ((Below.refl _ w).alloc (Nat.le_refl _) (Obj.cells #[.string (I p.num), .string (dn p)] 25))
 generalize rnd p = z at HR ⊢
 clear hR ht
 unfold fenc
 go_enter Tryz.func43, Tryz.ntmps43
 go_wp2_with fail
 refine (HR.out _ (HT.out.below HB.out)).mono ?_
 rintro e w1 ⟨rfl, b1⟩
 have B1 := HB.out.trans (b1.mono HB.out.size)
 clear b1 HB
 go_wp2_with fail
 go_ret
 exact ⟨rfl, B1⟩
theorem avalid_any (d : Int) (w : World) :
 Calls Tryz.prog 86 #[.int .i64 d] w fun e w' => e = .returned (.bool (decide (okDay d))) ∧ w' = w := by
 go_enter Tryz.func86, Tryz.ntmps86
 go_wp2_with fail
 all_goals (go_ret; refine ⟨?_, rfl⟩; first | (rw [decide_eq_true (p := okDay d) (by unfold okDay; omega)]; rfl) | (rw [decide_eq_false (p := okDay d) (by unfold okDay; omega)]; rfl) | (simp [okDay, *]; done))
theorem days_any (n : Int) (h0 : -9000000000000000000 ≤ n) (h1 : n ≤ 9000000000000000000) (w : World) (ht : Tabs w) :
 Calls Tryz.prog 99 #[.int .i64 n] w fun e w' => e = .returned (fenc (n : Rat)) ∧ Below w.heap.size w w' := by
 have HT := Lib.hid ht
 clear ht
 obtain ⟨W0, hW0⟩ : ∃ W0, w.alloc (.cells #[.string ⟨#[]⟩, .string ⟨#[]⟩] 25) = W0 := ⟨_, rfl⟩
 have HB : Hid (Below w.heap.size w W0) := by rw [← hW0]; exact (Below.refl _ w).alloc (Nat.le_refl _) _
 have HK : Hid (W0.heap[w.heap.size]? = some (.cells #[.string ⟨#[]⟩, .string ⟨#[]⟩] 25 (0, 0))) := by rw [Hid, ← hW0]; exact heap_alloc_new w _
 have HO := Lib.hid (fun W hW => Of_any n (by omega) (by omega) W hW)
 have hz : (I n).size ≤ 100 := Nat.le_trans (I_size_le (z := n) (k := 20) (by omega)) (by omega)
 have HF := Lib.hid (fun W hW => fOf_any (I n) W (by omega) hW)
 rw [vl_I] at HF
 generalize (n : Rat) = q at HF ⊢
 go_enter Tryz.func99, Tryz.ntmps99
 go_wp2_with fail
 refine (HO.out _ (HT.out.below HB.out)).mono ?_
 rintro e w1 ⟨rfl, b1⟩
 have HB1 := Lib.hid (HB.out.trans (b1.mono HB.out.size))
 have HK1 := Lib.hid ((b1.block w.heap.size (Array.getElem?_eq_some_iff.1 HK.out).1).trans HK.out)
 clear b1 HB HK
 go_wp2_with fail
 refine (HF.out _ (HT.out.below HB1.out)).mono ?_
 rintro e w2 ⟨rfl, b2⟩
 have hk2 := (b2.block w.heap.size (Array.getElem?_eq_some_iff.1 HK1.out).1).trans HK1.out
 have HB2 := Lib.hid (HB1.out.trans (b2.mono HB1.out.size))
 have g0 := Lib.cell_of_heap hk2 0
 have g1 := Lib.cell_of_heap hk2 1
 have f0 := Lib.frozen_of_heap hk2 0
 have f1 := Lib.frozen_of_heap hk2 1
 simp at g0 g1 f0 f1
 have HK2 := Lib.hid hk2
 clear b2 HB1 HK1 hk2
 unfold fenc
 go_wp2_with fail
 have k6 := set2 HK2.out (.string (I q.num)) (.string (dn q))
 have m0 := Lib.cell_of_heap k6 0
 have m1 := Lib.cell_of_heap k6 1
 simp at m0 m1
 refine bodyPost_ret (v := .agg #[.string (I q.num), .string (dn q)]) (by simp [results, Tryz.results99, go_sem, m0, m1]) rfl ?_
 exact ⟨rfl, (HB2.out.setCell (p := ⟨w.heap.size, 0, none⟩) (by simp) _).setCell (p := ⟨w.heap.size, 1, none⟩) (by simp) _⟩
def allQ (i : Inst) (l : Lot) : Rat := fv i.fn i.fd * (vl l.qty : Rat) - (vl l.cost : Rat)
def exactQ (i : Inst) (l : Lot) (d : Int) : Rat :=
 if i.kind ≠ 2 ∨ d < l.opn then 0 else if i.matures ≤ d then allQ i l else allQ i l * (((d - l.opn : Int) : Rat) / ((i.matures - l.opn : Int) : Rat))
structure EG (w : World) (i : Inst) (l : Lot) (W : World) : Prop where
 ib : InstBox W w.heap.size i
 lb : LotBox W (w.heap.size + 1) l
 rb : W.heap[w.heap.size + 1 + 1]? = some (.cells #[.string ⟨#[]⟩, .string ⟨#[]⟩] 25 (0, 0))
 be : Below w.heap.size w W
theorem EG.below {w : World} {i : Inst} {l : Lot} {W W' : World} (h : EG w i l W) (hb : Below W.heap.size W W') : EG w i l W' :=
 ⟨h.ib.below hb, h.lb.below hb, (hb.block _ (Array.getElem?_eq_some_iff.1 h.rb).1).trans h.rb, h.be.trans (hb.mono h.be.size)⟩
theorem EG.start (w : World) (i : Inst) (l : Lot) : EG w i l (((w.alloc (.cells i.cells 27)).alloc (.cells l.cells 39)).alloc (.cells #[.string ⟨#[]⟩, .string ⟨#[]⟩] 25)) := by
 obtain ⟨W0, hW0, hB, hz, k0, k1, k2⟩ := box3 w (.cells i.cells 27) (.cells l.cells 39) (.cells #[.string ⟨#[]⟩, .string ⟨#[]⟩] 25)
 rw [← hW0]
 exact ⟨k0, k1, k2, hB⟩
theorem EG.done {w : World} {i : Inst} {l : Lot} {W : World} (h : EG w i l W) (q : Rat) :
 ((W.setCell ⟨w.heap.size + 1 + 1, 0, none⟩ (.string (I q.num))).setCell ⟨w.heap.size + 1 + 1, 1, none⟩ (.string (dn q))).heap[w.heap.size + 1 + 1]? = some (.cells #[.string (I q.num), .string (dn q)] 25 (0, 0)) ∧
   Below w.heap.size w ((W.setCell ⟨w.heap.size + 1 + 1, 0, none⟩ (.string (I q.num))).setCell ⟨w.heap.size + 1 + 1, 1, none⟩ (.string (dn q))) :=
 ⟨set2 h.rb _ _, (h.be.setCell (p := ⟨w.heap.size + 1 + 1, 0, none⟩) (by simp; omega) _).setCell (p := ⟨w.heap.size + 1 + 1, 1, none⟩) (by simp; omega) _⟩
theorem exact_zero (i : Inst) (l : Lot) (d : Int) (h : i.kind ≠ 2 ∨ d < l.opn) (w : World) :
 Calls Tryz.prog 51 #[i.enc, l.enc, .int .i64 d] w fun e w' => e = .returned (fenc (exactQ i l d)) ∧ Below w.heap.size w w' := by
 have HQ : Hid (exactQ i l d = 0) := by unfold exactQ; rw [Hid, if_pos h]
 rw [HQ.out]
 have hG := EG.start w i l
 obtain ⟨W0, hW0⟩ : ∃ W0, ((w.alloc (.cells i.cells 27)).alloc (.cells l.cells 39)).alloc (.cells #[.string ⟨#[]⟩, .string ⟨#[]⟩] 25) = W0 := ⟨_, rfl⟩
 rw [hW0] at hG
 have c1 := Lib.cell_of_heap hG.ib 1
 have o3 := Lib.cell_of_heap hG.lb 3
 have r0 := Lib.cell_of_heap hG.rb 0
 have r1 := Lib.cell_of_heap hG.rb 1
 have f0 := Lib.frozen_of_heap hG.rb 0
 have f1 := Lib.frozen_of_heap hG.rb 1
 simp at c1 o3 r0 r1 f0 f1
 have HG := Lib.hid hG
 clear hG
 unfold Inst.enc Inst.cells Lot.enc Lot.cells at *
 by_cases hk : i.kind = 2
 ·have t1 : (i.kind != 2) = false := by simp [hk]
  have t2 : decide (d < l.opn) = true := decide_eq_true (h.resolve_left (fun x => x hk))
  clear h hk
  go_enter Tryz.func51, Tryz.ntmps51
  go_wp2_with fail
  have hd := HG.out.done 0
  rw [show I (0 : Rat).num = ⟨#[]⟩ from rfl, show dn 0 = ⟨#[]⟩ from rfl] at hd
  generalize (W0.setCell ⟨w.heap.size + 1 + 1, 0, none⟩ (.string ⟨#[]⟩)).setCell ⟨w.heap.size + 1 + 1, 1, none⟩ (.string ⟨#[]⟩) = W9 at hd ⊢
  have m0 := Lib.cell_of_heap hd.1 0
  have m1 := Lib.cell_of_heap hd.1 1
  simp at m0 m1
  exact bodyPost_ret (v := .agg #[.string ⟨#[]⟩, .string ⟨#[]⟩]) (by simp [results, Tryz.results51, go_sem, m0, m1]) rfl ⟨rfl, hd.2⟩
 ·have t1 : (i.kind != 2) = true := by simp [hk]
  clear h hk
  go_enter Tryz.func51, Tryz.ntmps51
  go_wp2_with fail
  have hd := HG.out.done 0
  rw [show I (0 : Rat).num = ⟨#[]⟩ from rfl, show dn 0 = ⟨#[]⟩ from rfl] at hd
  generalize (W0.setCell ⟨w.heap.size + 1 + 1, 0, none⟩ (.string ⟨#[]⟩)).setCell ⟨w.heap.size + 1 + 1, 1, none⟩ (.string ⟨#[]⟩) = W9 at hd ⊢
  have m0 := Lib.cell_of_heap hd.1 0
  have m1 := Lib.cell_of_heap hd.1 1
  simp at m0 m1
  exact bodyPost_ret (v := .agg #[.string ⟨#[]⟩, .string ⟨#[]⟩]) (by simp [results, Tryz.results51, go_sem, m0, m1]) rfl ⟨rfl, hd.2⟩
def FBox (W : World) (B : Nat) (q : Rat) : Prop := W.heap[B]? = some (.cells #[.string (I q.num), .string (dn q)] 25 (0, 0))
theorem FBox.below {W W' : World} {B : Nat} {q : Rat} (h : FBox W B q) (hb : Below W.heap.size W W') : FBox W' B q := (hb.block B (Array.getElem?_eq_some_iff.1 h).1).trans h
theorem FBox.lt {W : World} {B : Nat} {q : Rat} (h : FBox W B q) : B < W.heap.size := (Array.getElem?_eq_some_iff.1 h).1
def E4 (w : World) (i : Inst) (l : Lot) (wn : World) : Prop := wn.cell? ⟨w.heap.size, 6, none⟩ = some (.string i.fn) ∧ wn.cell? ⟨w.heap.size, 7, none⟩ = some (.string i.fd) ∧ wn.cell? ⟨w.heap.size + 1, 4, none⟩ = some (.string l.qty) ∧ wn.cell? ⟨w.heap.size + 1, 5, none⟩ = some (.string l.cost)
theorem EG.four {w : World} {i : Inst} {l : Lot} {W : World} (h : EG w i l W) : E4 w i l W :=
 ⟨Lib.cell_of_heap h.ib 6, Lib.cell_of_heap h.ib 7, Lib.cell_of_heap h.lb 4, Lib.cell_of_heap h.lb 5⟩
theorem EG.lt {w : World} {i : Inst} {l : Lot} {W : World} (h : EG w i l W) : w.heap.size + 1 + 1 < W.heap.size := (Array.getElem?_eq_some_iff.1 h.rb).1
theorem EG.ne1 {w : World} {i : Inst} {l : Lot} {W : World} (h : EG w i l W) : W.heap.size ≠ w.heap.size := by have := h.lt; omega
theorem EG.ne2 {w : World} {i : Inst} {l : Lot} {W : World} (h : EG w i l W) : W.heap.size ≠ w.heap.size + 1 := by have := h.lt; omega
theorem EG.set2 {w : World} {i : Inst} {l : Lot} {W : World} (h : EG w i l W) {B : Nat} (hB : w.heap.size + 1 + 1 < B) (x y : Value) : EG w i l ((W.setCell ⟨B, 0, none⟩ x).setCell ⟨B, 1, none⟩ y) := by
 have k : ∀ b, b ≤ w.heap.size + 1 + 1 → ((W.setCell ⟨B, 0, none⟩ x).setCell ⟨B, 1, none⟩ y).heap[b]? = W.heap[b]? := fun b hb =>
  (Below.heap_setCell _ _ _ _ (by simp; omega)).trans (Below.heap_setCell _ _ _ _ (by simp; omega))
 exact ⟨(k _ (by omega)).trans h.ib, (k _ (by omega)).trans h.lb, (k _ (by omega)).trans h.rb, (h.be.setCell (p := ⟨B, 0, none⟩) (by simp; omega) _).setCell (p := ⟨B, 1, none⟩) (by simp; omega) _⟩
theorem EG.calls {w : World} {i : Inst} {l : Lot} {f : Nat} {args : Array Value} {v : Value} (ht : Tabs w) (h : ∀ W, Tabs W → Calls Tryz.prog f args W fun e w' => e = .returned v ∧ Below W.heap.size W w') :
 ∀ W, EG w i l W → Calls Tryz.prog f args W fun e wn => e = .returned v ∧ EG w i l wn ∧ Below W.heap.size W wn ∧ wn.cell? ⟨w.heap.size, 6, none⟩ = some (.string i.fn) ∧ wn.cell? ⟨w.heap.size, 7, none⟩ = some (.string i.fd) ∧ wn.cell? ⟨w.heap.size + 1, 4, none⟩ = some (.string l.qty) ∧ wn.cell? ⟨w.heap.size + 1, 5, none⟩ = some (.string l.cost) := by
 intro W hG
 refine (h W (ht.below hG.be)).mono ?_
 rintro e wn ⟨rfl, bn⟩
 exact ⟨rfl, hG.below bn, bn, (hG.below bn).four⟩
structure EF (w : World) (i : Inst) (l : Lot) (B : Nat) (q : Rat) (W : World) : Prop where
 eg : EG w i l W
 fb : FBox W B q
 lt : w.heap.size + 1 + 1 < B
theorem EF.below {w : World} {i : Inst} {l : Lot} {B : Nat} {q : Rat} {W W' : World} (h : EF w i l B q W) (hb : Below W.heap.size W W') : EF w i l B q W' := ⟨h.eg.below hb, h.fb.below hb, h.lt⟩
theorem EF.ne1 {w : World} {i : Inst} {l : Lot} {B : Nat} {q : Rat} {W : World} (h : EF w i l B q W) : W.heap.size ≠ w.heap.size := h.eg.ne1
theorem EF.ne2 {w : World} {i : Inst} {l : Lot} {B : Nat} {q : Rat} {W : World} (h : EF w i l B q W) : W.heap.size ≠ w.heap.size + 1 := h.eg.ne2
theorem EF.blt {w : World} {i : Inst} {l : Lot} {B : Nat} {q : Rat} {W : World} (h : EF w i l B q W) : B < W.heap.size := h.fb.lt
theorem EF.set2 {w : World} {i : Inst} {l : Lot} {B : Nat} {q : Rat} {W : World} (h : EF w i l B q W) {B' : Nat} (hB : B < B') (x y : Value) : EF w i l B q ((W.setCell ⟨B', 0, none⟩ x).setCell ⟨B', 1, none⟩ y) :=
 ⟨h.eg.set2 (by have := h.lt; omega) x y, ((Below.heap_setCell _ _ _ _ (by simp; omega)).trans (Below.heap_setCell _ _ _ _ (by simp; omega))).trans h.fb, h.lt⟩
theorem EF.calls {w : World} {i : Inst} {l : Lot} {B : Nat} {q : Rat} {f : Nat} {args : Array Value} {v : Value} (ht : Tabs w) (h : ∀ W, Tabs W → Calls Tryz.prog f args W fun e w' => e = .returned v ∧ Below W.heap.size W w') :
 ∀ W, EF w i l B q W → Calls Tryz.prog f args W fun e wn => e = .returned v ∧ EF w i l B q wn ∧ Below W.heap.size W wn ∧ wn.cell? ⟨w.heap.size, 5, none⟩ = some (.int .i64 i.matures) ∧ wn.cell? ⟨w.heap.size + 1, 3, none⟩ = some (.int .i64 l.opn) := by
 intro W hG
 refine (h W (ht.below hG.eg.be)).mono ?_
 rintro e wn ⟨rfl, bn⟩
 exact ⟨rfl, hG.below bn, bn, Lib.cell_of_heap (hG.below bn).eg.ib 5, Lib.cell_of_heap (hG.below bn).eg.lb 3⟩
theorem exact_some (i : Inst) (l : Lot) (d : Int) (hk : i.kind = 2) (ho : l.opn ≤ d) (s1 : i.fn.size ≤ 1000) (s2 : i.fd.size ≤ 1000) (s3 : l.qty.size ≤ 1000) (s4 : l.cost.size ≤ 1000)
 (e1 : okDay d) (e2 : okDay l.opn) (e3 : okDay i.matures) (w : World) (ht : Tabs w) :
 Calls Tryz.prog 51 #[i.enc, l.enc, .int .i64 d] w fun e w' => e = .returned (fenc (exactQ i l d)) ∧ Below w.heap.size w w' := by
 have HQ : Hid (exactQ i l d = if i.matures ≤ d then allQ i l else allQ i l * (((d - l.opn : Int) : Rat) / ((i.matures - l.opn : Int) : Rat))) := by unfold exactQ; rw [Hid, if_neg (by omega)]
 have HT := Lib.hid ht
 obtain ⟨K, hK⟩ : ∃ K, K = 1002 := ⟨_, rfl⟩
 have bf : BdQ (fv i.fn i.fd) K := fv_bd _ _ (by omega) (by omega)
 have bq : BdQ (vl l.qty : Rat) K := BdQ.int (Nat.lt_of_lt_of_le (vl_lt _) (pow_mono (by omega))) (by omega)
 have bc : BdQ (vl l.cost : Rat) K := BdQ.int (Nat.lt_of_lt_of_le (vl_lt _) (pow_mono (by omega))) (by omega)
 have bm := bf.mul bq
 have ba : BdQ (allQ i l) (K + K + K + 1) := bm.sub bc
 have HA : Hid (allQ i l = fv i.fn i.fd * (vl l.qty : Rat) - (vl l.cost : Rat)) := rfl
 have C1 := fun W hW => fOf_any l.qty W (by omega) hW
 have C2 := fun W hW => fMul_any i.fn i.fd (I (vl l.qty : Rat).num) (dn (vl l.qty : Rat)) W (by omega) (by omega) (by have := bq.num; omega) (by have := bq.dn; omega) hW
 have C3 := fun W hW => fOf_any l.cost W (by omega) hW
 have C4 := fun W hW => fSubQ bm bc (by omega) (by omega) W hW
 rw [fv_enc] at C2
 rw [← HA.out] at C4
 generalize (vl l.qty : Rat) = rq at C1 C2 C4 bm bq
 generalize (vl l.cost : Rat) = rc at C3 C4 bc
 generalize fv i.fn i.fd * rq = rm at C2 C4 bm
 generalize allQ i l = ra at C4 ba HQ
 have hG := EG.start w i l
 obtain ⟨W0, hW0⟩ : ∃ W0, ((w.alloc (.cells i.cells 27)).alloc (.cells l.cells 39)).alloc (.cells #[.string ⟨#[]⟩, .string ⟨#[]⟩] 25) = W0 := ⟨_, rfl⟩
 rw [hW0] at hG
 have HC1 := Lib.hid (EG.calls (i := i) (l := l) ht C1)
 have HC2 := Lib.hid (EG.calls (i := i) (l := l) ht C2)
 have HC3 := Lib.hid (EG.calls (i := i) (l := l) ht C3)
 have HC4 := Lib.hid (EG.calls (i := i) (l := l) ht C4)
 have HG := Lib.hid hG
 have c1 := Lib.cell_of_heap hG.ib 1
 have c5 := Lib.cell_of_heap hG.ib 5
 have c6 := Lib.cell_of_heap hG.ib 6
 have c7 := Lib.cell_of_heap hG.ib 7
 have o3 := Lib.cell_of_heap hG.lb 3
 have o4 := Lib.cell_of_heap hG.lb 4
 have o5 := Lib.cell_of_heap hG.lb 5
 simp at c1 c5 c6 c7 o3 o4 o5
 have t1 : (i.kind != 2) = false := by simp [hk]
 have t2 : decide (d < l.opn) = false := decide_eq_false (by omega)
 have HKK := Lib.hid hK
 have HBM := Lib.hid (And.intro bm ba)
 clear hG C1 C2 C3 C4 hk ht bf bq bc bm ba HA hK
 unfold Inst.enc Inst.cells Lot.enc Lot.cells at *
 unfold fenc at HC1 HC2 HC3 HC4
 go_enter Tryz.func51, Tryz.ntmps51
 go_wp2_with fail
 go_cut [7] (fun v7 wx => ∃ (B : Nat) (wr : World), v7 = .pointer (some ⟨B, 0, none⟩) ∧ w.heap.size + 1 + 1 < B ∧ FBox wr B ra ∧ EG w i l wr ∧ wr = wx)
 case first =>
  have hg : EG w i l W0.drew := HG.out.below (Below.refl _ _).drew
  have ne1 := HG.out.ne1
  have ne2 := HG.out.ne2
  have lt1 := HG.out.lt
  clear c1 c5 o3 HG
  go_region_held3 (fun W => W.cell? ⟨w.heap.size, 6, none⟩ = some (.string i.fn) ∧ W.cell? ⟨w.heap.size, 7, none⟩ = some (.string i.fd) ∧ W.cell? ⟨w.heap.size + 1, 4, none⟩ = some (.string l.qty) ∧ W.cell? ⟨w.heap.size + 1, 5, none⟩ = some (.string l.cost))
   (((try dsimp only); refine ⟨?_, ?_, ?_, ?_⟩ <;> first | assumption | (simp [*, World.cell?_alloc_some, World.cell?_setCell_far]; done) | (go_simp; done)))
   (first
     | (go_at_call_of 22 [Value.string l.qty]; refine (HC1.out _ ?_).mono ?_; (first | exact hg | exact hg.below ((Below.refl _ _).alloc (Nat.le_refl _) _)); clear hg c6 c7 o4 o5; rintro e wn ⟨rfl, hg, bn, c6, c7, o4, o5⟩; have ne1 := hg.ne1; have ne2 := hg.ne2; have lt1 := hg.lt; (first | (have nb := (bn.block _ (Array.getElem?_eq_some_iff.1 nb).1).trans nb; have n0 := Lib.cell_of_heap nb 0; have n1 := Lib.cell_of_heap nb 1; have n2 := Lib.frozen_of_heap nb 0; have n3 := Lib.frozen_of_heap nb 1; simp at n0 n1 n2 n3) | (have nb := (bn.block _ (by simp)).trans (heap_alloc_new _ _); have n0 := Lib.cell_of_heap nb 0; have n1 := Lib.cell_of_heap nb 1; have n2 := Lib.frozen_of_heap nb 0; have n3 := Lib.frozen_of_heap nb 1; simp at n0 n1 n2 n3) | skip); clear bn)
     | (go_at_call_of 22 [Value.string l.cost]; refine (HC3.out _ ?_).mono ?_; (first | exact hg | exact hg.below ((Below.refl _ _).alloc (Nat.le_refl _) _)); clear hg c6 c7 o4 o5; rintro e wn ⟨rfl, hg, bn, c6, c7, o4, o5⟩; have ne1 := hg.ne1; have ne2 := hg.ne2; have lt1 := hg.lt; (first | (have nb := (bn.block _ (Array.getElem?_eq_some_iff.1 nb).1).trans nb; have n0 := Lib.cell_of_heap nb 0; have n1 := Lib.cell_of_heap nb 1; have n2 := Lib.frozen_of_heap nb 0; have n3 := Lib.frozen_of_heap nb 1; simp at n0 n1 n2 n3) | (have nb := (bn.block _ (by simp)).trans (heap_alloc_new _ _); have n0 := Lib.cell_of_heap nb 0; have n1 := Lib.cell_of_heap nb 1; have n2 := Lib.frozen_of_heap nb 0; have n3 := Lib.frozen_of_heap nb 1; simp at n0 n1 n2 n3) | skip); clear bn)
     | (go_at_call_of 21 [Value.agg #[Value.string i.fn, Value.string i.fd], Value.agg #[Value.string (I rq.num), Value.string (dn rq)]]; refine (HC2.out _ ?_).mono ?_; (first | exact hg | exact hg.below ((Below.refl _ _).alloc (Nat.le_refl _) _)); clear hg c6 c7 o4 o5; rintro e wn ⟨rfl, hg, bn, c6, c7, o4, o5⟩; have ne1 := hg.ne1; have ne2 := hg.ne2; have lt1 := hg.lt; (first | (have nb := (bn.block _ (Array.getElem?_eq_some_iff.1 nb).1).trans nb; have n0 := Lib.cell_of_heap nb 0; have n1 := Lib.cell_of_heap nb 1; have n2 := Lib.frozen_of_heap nb 0; have n3 := Lib.frozen_of_heap nb 1; simp at n0 n1 n2 n3) | (have nb := (bn.block _ (by simp)).trans (heap_alloc_new _ _); have n0 := Lib.cell_of_heap nb 0; have n1 := Lib.cell_of_heap nb 1; have n2 := Lib.frozen_of_heap nb 0; have n3 := Lib.frozen_of_heap nb 1; simp at n0 n1 n2 n3) | skip); clear bn)
     | (go_at_call_of 20 [Value.agg #[Value.string (I rm.num), Value.string (dn rm)], Value.agg #[Value.string (I rc.num), Value.string (dn rc)]]; refine (HC4.out _ ?_).mono ?_; (first | exact hg | exact hg.below ((Below.refl _ _).alloc (Nat.le_refl _) _)); clear hg c6 c7 o4 o5; rintro e wn ⟨rfl, hg, bn, c6, c7, o4, o5⟩; have ne1 := hg.ne1; have ne2 := hg.ne2; have lt1 := hg.lt; (first | (have nb := (bn.block _ (Array.getElem?_eq_some_iff.1 nb).1).trans nb; have n0 := Lib.cell_of_heap nb 0; have n1 := Lib.cell_of_heap nb 1; have n2 := Lib.frozen_of_heap nb 0; have n3 := Lib.frozen_of_heap nb 1; simp at n0 n1 n2 n3) | (have nb := (bn.block _ (by simp)).trans (heap_alloc_new _ _); have n0 := Lib.cell_of_heap nb 0; have n1 := Lib.cell_of_heap nb 1; have n2 := Lib.frozen_of_heap nb 0; have n3 := Lib.frozen_of_heap nb 1; simp at n0 n1 n2 n3) | skip); clear bn))
  all_goals (first | go_wp2_with fail | skip)
  all_goals go_meet
  all_goals first
   | exact ⟨_, _, rfl, lt1, heap_alloc_new _ _, hg.below ((Below.refl _ _).alloc (Nat.le_refl _) _), rfl⟩
   | (refine ⟨_, _, rfl, ?_, set2 nb _ _, hg.set2 ?_ _ _, rfl⟩ <;> assumption)
 case rest =>
  obtain ⟨B, wr, rfl, hBB, hF, hG, rfl⟩ := hcut
  clear c1 c5 c6 c7 o3 o4 o5 HG hW0 HC1 HC2 HC3 HC4
  have c5 : wr.cell? ⟨w.heap.size, 5, none⟩ = some (.int .i64 i.matures) := Lib.cell_of_heap hG.ib 5
  have o3 : wr.cell? ⟨w.heap.size + 1, 3, none⟩ = some (.int .i64 l.opn) := Lib.cell_of_heap hG.lb 3
  have b0 := Lib.cell_of_heap hF 0
  have b1 := Lib.cell_of_heap hF 1
  have r0 := Lib.cell_of_heap hG.rb 0
  have r1 := Lib.cell_of_heap hG.rb 1
  have f0 := Lib.frozen_of_heap hG.rb 0
  have f1 := Lib.frozen_of_heap hG.rb 1
  simp at b0 b1 r0 r1 f0 f1
  have hg : EF w i l B ra wr := ⟨hG, hF, hBB⟩
  clear hG hF
  by_cases hm : i.matures ≤ d
  ·have t3 : decide (i.matures ≤ d) = true := decide_eq_true hm
   have HQ2 : Hid (exactQ i l d = ra) := by rw [Hid, HQ.out, if_pos hm]
   clear hm HQ
   go_wp2_with fail
   have hd := hg.eg.done ra
   generalize (wr.setCell ⟨w.heap.size + 1 + 1, 0, none⟩ (.string (I ra.num))).setCell ⟨w.heap.size + 1 + 1, 1, none⟩ (.string (dn ra)) = W9 at hd ⊢
   have m0 := Lib.cell_of_heap hd.1 0
   have m1 := Lib.cell_of_heap hd.1 1
   simp at m0 m1
   refine bodyPost_ret (v := .agg #[.string (I ra.num), .string (dn ra)]) (by simp [results, Tryz.results51, go_sem, m0, m1]) rfl ⟨?_, hd.2⟩
   rw [HQ2.out]; rfl
  ·have t3 : decide (i.matures ≤ d) = false := decide_eq_false hm
   unfold okDay at e1 e2 e3
   have HQ2 : Hid (exactQ i l d = ra * (((d - l.opn : Int) : Rat) / ((i.matures - l.opn : Int) : Rat))) := by rw [Hid, HQ.out, if_neg hm]
   obtain ⟨x, hx⟩ : ∃ x, x = d - l.opn := ⟨_, rfl⟩
   obtain ⟨y, hy⟩ : ∃ y, y = i.matures - l.opn := ⟨_, rfl⟩
   have wx : IntKind.i64.wrap (d - l.opn) = x := by rw [hx]; exact IntWalk.i64_in _ (by omega)
   have wy : IntKind.i64.wrap (i.matures - l.opn) = y := by rw [hy]; exact IntWalk.i64_in _ (by omega)
   have x0 : 0 ≤ x ∧ x < 1000000 := by omega
   have y0 : 0 < y ∧ y < 1000000 := by omega
   rw [← hx, ← hy] at HQ2
   have D1 := fun W hW => days_any x (by omega) (by omega) W hW
   have D2 := fun W hW => days_any y (by omega) (by omega) W hW
   have by' : BdQ (y : Rat) 7 := BdQ.int (by omega) (by omega)
   have bx' : BdQ (x : Rat) 7 := BdQ.int (by omega) (by omega)
   have D3 := fun W hW => fQuo_any (I (x : Rat).num) (dn (x : Rat)) (I (y : Rat).num) (dn (y : Rat)) W (by have := bx'.num; omega) (by have := bx'.dn; omega) (by have := by'.num; omega) (by have := by'.dn; omega) (by rw [vl_I]; show y ≠ 0; omega) hW
   rw [fv_enc, fv_enc] at D3
   have bp : BdQ ((x : Rat) / (y : Rat)) 7 := by rw [← Rat.divInt_eq_div]; exact BdQ.div (by omega) (by omega) (by omega)
   have D4 := fun W hW => fMulQ HBM.out.2 bp (by have := HKK.out; omega) (by omega) W hW
   generalize (x : Rat) = rx at *
   generalize (y : Rat) = ry at *
   generalize rx / ry = rp at *
   generalize ra * rp = rz at *
   unfold fenc at D1 D2 D3 D4
   have HD1 := Lib.hid (EF.calls (i := i) (l := l) (B := B) (q := ra) HT.out D1)
   have HD2 := Lib.hid (EF.calls (i := i) (l := l) (B := B) (q := ra) HT.out D2)
   have HD3 := Lib.hid (EF.calls (i := i) (l := l) (B := B) (q := ra) HT.out D3)
   have HD4 := Lib.hid (EF.calls (i := i) (l := l) (B := B) (q := ra) HT.out D4)
   clear hx hy D1 D2 D3 D4 bx' by' bp e1 e2 e3 hm HQ x0 y0 ho
   go_wp2_with fail
   go_cut [8] (fun v8 wx => ∃ (B2 : Nat) (wr : World), v8 = .pointer (some ⟨B2, 0, none⟩) ∧ FBox wr B2 rp ∧ EF w i l B ra wr ∧ wr = wx)
   case first =>
    have ne1 := hg.ne1
    have ne2 := hg.ne2
    have lt1 := hg.blt
    replace hg : EF w i l B ra wr.drew := hg.below (Below.refl _ _).drew
    clear b0 b1 r0 r1 f0 f1
    go_region_held3 (fun W => W.cell? ⟨w.heap.size, 5, none⟩ = some (.int .i64 i.matures) ∧ W.cell? ⟨w.heap.size + 1, 3, none⟩ = some (.int .i64 l.opn))
     (((try dsimp only); refine ⟨?_, ?_⟩ <;> first | assumption | (simp [*, World.cell?_alloc_some, World.cell?_setCell_far]; done) | (go_simp; done)))
     (first
       | (go_at_call_of 99 [Value.int IntKind.i64 x]; refine (HD1.out _ ?_).mono ?_; (first | exact hg | exact hg.below ((Below.refl _ _).alloc (Nat.le_refl _) _)); clear hg c5 o3; rintro e wn ⟨rfl, hg, bn, c5, o3⟩; have ne1 := hg.ne1; have ne2 := hg.ne2; have lt1 := hg.blt; (first | (have nb := (bn.block _ (Array.getElem?_eq_some_iff.1 nb).1).trans nb; have n0 := Lib.cell_of_heap nb 0; have n1 := Lib.cell_of_heap nb 1; have n2 := Lib.frozen_of_heap nb 0; have n3 := Lib.frozen_of_heap nb 1; simp at n0 n1 n2 n3) | (have nb := (bn.block _ (by simp)).trans (heap_alloc_new _ _); have n0 := Lib.cell_of_heap nb 0; have n1 := Lib.cell_of_heap nb 1; have n2 := Lib.frozen_of_heap nb 0; have n3 := Lib.frozen_of_heap nb 1; simp at n0 n1 n2 n3) | skip); clear bn)
       | (go_at_call_of 99 [Value.int IntKind.i64 y]; refine (HD2.out _ ?_).mono ?_; (first | exact hg | exact hg.below ((Below.refl _ _).alloc (Nat.le_refl _) _)); clear hg c5 o3; rintro e wn ⟨rfl, hg, bn, c5, o3⟩; have ne1 := hg.ne1; have ne2 := hg.ne2; have lt1 := hg.blt; (first | (have nb := (bn.block _ (Array.getElem?_eq_some_iff.1 nb).1).trans nb; have n0 := Lib.cell_of_heap nb 0; have n1 := Lib.cell_of_heap nb 1; have n2 := Lib.frozen_of_heap nb 0; have n3 := Lib.frozen_of_heap nb 1; simp at n0 n1 n2 n3) | (have nb := (bn.block _ (by simp)).trans (heap_alloc_new _ _); have n0 := Lib.cell_of_heap nb 0; have n1 := Lib.cell_of_heap nb 1; have n2 := Lib.frozen_of_heap nb 0; have n3 := Lib.frozen_of_heap nb 1; simp at n0 n1 n2 n3) | skip); clear bn)
       | (go_at_call_of 98 [Value.agg #[Value.string (I rx.num), Value.string (dn rx)], Value.agg #[Value.string (I ry.num), Value.string (dn ry)]]; refine (HD3.out _ ?_).mono ?_; (first | exact hg | exact hg.below ((Below.refl _ _).alloc (Nat.le_refl _) _)); clear hg c5 o3; rintro e wn ⟨rfl, hg, bn, c5, o3⟩; have ne1 := hg.ne1; have ne2 := hg.ne2; have lt1 := hg.blt; (first | (have nb := (bn.block _ (Array.getElem?_eq_some_iff.1 nb).1).trans nb; have n0 := Lib.cell_of_heap nb 0; have n1 := Lib.cell_of_heap nb 1; have n2 := Lib.frozen_of_heap nb 0; have n3 := Lib.frozen_of_heap nb 1; simp at n0 n1 n2 n3) | (have nb := (bn.block _ (by simp)).trans (heap_alloc_new _ _); have n0 := Lib.cell_of_heap nb 0; have n1 := Lib.cell_of_heap nb 1; have n2 := Lib.frozen_of_heap nb 0; have n3 := Lib.frozen_of_heap nb 1; simp at n0 n1 n2 n3) | skip); clear bn))
    all_goals (first | go_wp2_with fail | skip)
    all_goals go_meet
    all_goals first
     | exact ⟨_, _, rfl, heap_alloc_new _ _, hg.below ((Below.refl _ _).alloc (Nat.le_refl _) _), rfl⟩
     | (refine ⟨_, _, rfl, set2 nb _ _, hg.set2 ?_ _ _, rfl⟩; assumption)
   case rest =>
    obtain ⟨B2, wq, rfl, hF2, hG2, rfl⟩ := hcut
    clear b0 b1 r0 r1 f0 f1 c5 o3
    have b0 := Lib.cell_of_heap hG2.fb 0
    have b1 := Lib.cell_of_heap hG2.fb 1
    have p0 := Lib.cell_of_heap hF2 0
    have p1 := Lib.cell_of_heap hF2 1
    simp at b0 b1 p0 p1
    have HG2 := Lib.hid hG2
    clear hG2 hF2 hg
    go_wp2_with fail
    refine (HD4.out _ HG2.out).mono ?_
    rintro e w7 ⟨rfl, hg, _, _⟩
    have r0 := Lib.cell_of_heap hg.eg.rb 0
    have r1 := Lib.cell_of_heap hg.eg.rb 1
    have f0 := Lib.frozen_of_heap hg.eg.rb 0
    have f1 := Lib.frozen_of_heap hg.eg.rb 1
    simp at r0 r1 f0 f1
    have HG := Lib.hid hg
    clear hg
    go_wp2_with fail
    have hd := HG.out.eg.done rz
    generalize (w7.setCell ⟨w.heap.size + 1 + 1, 0, none⟩ (.string (I rz.num))).setCell ⟨w.heap.size + 1 + 1, 1, none⟩ (.string (dn rz)) = W9 at hd ⊢
    have m0 := Lib.cell_of_heap hd.1 0
    have m1 := Lib.cell_of_heap hd.1 1
    simp at m0 m1
    refine bodyPost_ret (v := .agg #[.string (I rz.num), .string (dn rz)]) (by simp [results, Tryz.results51, go_sem, m0, m1]) rfl ⟨?_, hd.2⟩
    rw [HQ2.out]; rfl
end Go.Proofs.YtpgjmdggblnfkaaGreatDoor
