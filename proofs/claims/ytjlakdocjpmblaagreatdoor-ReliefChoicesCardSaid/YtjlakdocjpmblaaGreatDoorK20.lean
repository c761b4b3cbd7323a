/-
  The walk of lot.CheckAll on valid lots with different ids.
  The iterator of lot.of: it gives the lots of an instrument, in their order.
  The walks of slices.AppendSeq, slices.Collect at lots, of lot.Of.
  The walks of slices.Collect at lots and of lot.Of.
  A region that draws its order, inside a fence, by an invariant over what has come up.
-/
import Derived.Test.YtjlakdocjpmblaaGreatDoorK19
import Derived.Maps.Own
import Derived.Maps.Views
set_option linter.unusedVariables false
set_option linter.unusedSimpArgs false
set_option maxHeartbeats 16000000
set_option maxRecDepth 100000
namespace Go.Proofs.YtjlakdocjpmblaaGreatDoor
open Go.RowKit Tr Go.Shelf Go.Maps Go.WideMaps
structure LotAt (w : World) (p : Addr) (l : Lot) : Prop where
 c0 : w.cell? p = some (.string l.id)
 c1 : w.cell? ⟨p.block, p.off + 1, none⟩ = some (.string l.inst)
 c2 : w.cell? ⟨p.block, p.off + 2, none⟩ = some (.int .i64 l.acq)
 c3 : w.cell? ⟨p.block, p.off + 3, none⟩ = some (.int .i64 l.opn)
 c4 : w.cell? ⟨p.block, p.off + 4, none⟩ = some (.string l.qty)
 c5 : w.cell? ⟨p.block, p.off + 5, none⟩ = some (.string l.cost)
 c6 : w.cell? ⟨p.block, p.off + 6, none⟩ = some (.string l.used)
theorem LotAt.below {w w' : World} {p : Addr} {l : Lot} {B : Nat} (h : LotAt w p l) (hb : Below B w w') (hp : p.block < B) : LotAt w' p l :=
 ⟨(hb.cell hp).trans h.c0, (hb.cell (p := ⟨p.block, p.off + 1, none⟩) hp).trans h.c1, (hb.cell (p := ⟨p.block, p.off + 2, none⟩) hp).trans h.c2, (hb.cell (p := ⟨p.block, p.off + 3, none⟩) hp).trans h.c3, (hb.cell (p := ⟨p.block, p.off + 4, none⟩) hp).trans h.c4, (hb.cell (p := ⟨p.block, p.off + 5, none⟩) hp).trans h.c5, (hb.cell (p := ⟨p.block, p.off + 6, none⟩) hp).trans h.c6⟩
def RdL (w : World) (A : Option Addr) (ls : List Lot) : Prop :=
 ls ≠ [] → ∃ ad : Addr, A = some ad ∧ ad.block < w.heap.size ∧ ∀ (j : Nat) (l : Lot), ls[j]? = some l → LotAt w (ad.add (j * 7)) l
theorem RdL.nil (w : World) (A : Option Addr) : RdL w A [] := fun h => absurd rfl h
theorem RdL.below {w w' : World} {A : Option Addr} {ls : List Lot} (h : RdL w A ls) (hb : Below w.heap.size w w') : RdL w' A ls := by
 intro hl
 obtain ⟨ad, rfl, h1, h2⟩ := h hl
 exact ⟨ad, rfl, Nat.lt_of_lt_of_le h1 hb.size, fun j l hj => (h2 j l hj).below hb (by rw [add_block]; exact h1)⟩
structure LotsOk (ls : List Lot) : Prop where
 len : ls.length ≤ 1000
 ok : ∀ l, l ∈ ls → l.sized ∧ l.ok
 ids : (ls.map Lot.id).Nodup
theorem strKeyed : Keyed Tryz.prog 9 := string_keyed Tryz.underlying9
def idKey (l : Lot) : Lit := .string l.id.data.toList
def seenD (ls : List Lot) : DataW Unit := setOf (.lit (.bool true)) (ls.map idKey)
theorem seenD_snoc (ls : List Lot) (l : Lot) : seenD (ls ++ [l]) = (seenD ls).put (idKey l) (.lit (.bool true)) := by
 unfold seenD; rw [List.map_append]; exact setOf_snoc _ _ _
theorem zeroBool (w : World) : (zeroValue 4).run Tryz.prog w = .ok (.bool false) w := by kernel_rfl
theorem plainElem_bool_inv {P : Program} {e : TypeId} (he : P.underlying e = some .bool) {v : Value} {z : DataW Unit × List MemPlace} (h : plainElem P e v = some z) : ∃ a, v = .bool a ∧ z = (.lit (.bool a), []) := by
 unfold plainElem at h
 rw [he] at h
 cases v <;> simp at h
 exact ⟨_, rfl, h.symm⟩
theorem seen_false {w : World} {b n : Nat} {ls : List Lot} {l : Lot} (h : w.ownsMap Tryz.prog 9 (plainElem Tryz.prog 4) b n (seenD ls)) (hs : l.id.size ≤ maxLen) (hn : ∀ x ∈ ls, x.id ≠ l.id) :
 (Instr.lookup 84 (.map (some b)) (.string l.id) false).run Tryz.prog w = .ok (.bool false) w := by
 obtain ⟨v, ps, hrun, hv⟩ := h.lookup strKeyed Tryz.underlying84 (zeroBool w) (plainElem_bool Tryz.underlying4 false) (keyOf_string_mk Tryz.underlying9 hs)
 have hh : has (seenD ls) (.string l.id.data.toList) = false := by
  unfold seenD
  rw [has_setOf _ _ _ (by intro x hx; obtain ⟨y, _, rfl⟩ := List.mem_map.1 hx; exact trivial)]
  rw [List.any_eq_false]
  intro x hx
  obtain ⟨y, hy, rfl⟩ := List.mem_map.1 hx
  rw [sameKey_ne]
  ·simp
  ·intro e
   injection e with e
   exact hn y hy (by rw [← bs_of y.id, ← bs_of l.id, e])
 rw [atKey_of_not_has hh] at hv
 obtain ⟨a, rfl, ha⟩ := plainElem_bool_inv Tryz.underlying4 hv
 simp at ha
 rw [hrun, ← ha.1]
theorem ownsMap_below {w w' : World} {P : Program} {k : TypeId} {R : Value → Option (DataW Unit × List MemPlace)} {b n : Nat} {D : DataW Unit} (h : w.ownsMap P k R b n D) (hb : Below w.heap.size w w') : w'.ownsMap P k R b n D := by
 have hlt := h.lt
 obtain ⟨es, clock, e, F, hs, hD⟩ := h
 exact ⟨es, clock, (hb.block b hlt).trans e, F, hs, hD⟩
end Go.Proofs.YtjlakdocjpmblaaGreatDoor
namespace Go.Proofs.YtjlakdocjpmblaaGreatDoor
open Go.RowKit Tr Go.Shelf
attribute [local go_sem] Oper.semAt_some
abbrev SLot := { l : Lot // l.sized }
def encL (x : SLot) : Array Value := #[x.1.enc]
def ownL (ls : List SLot) (s : ByteArray) : List SLot := ls.filter fun l => decide (l.1.inst = s)
theorem ownL_succ {ls : List SLot} {s : ByteArray} {k : Nat} {l : SLot} (hl : ls[k]? = some l) : ownL (ls.take (k + 1)) s = ownL (ls.take k) s ++ (if l.1.inst = s then [l] else []) := by
 have hk : k < ls.length := (List.getElem?_eq_some_iff.1 hl).1
 have e : ls[k] = l := by rw [List.getElem?_eq_getElem hk] at hl; exact Option.some.inj hl
 unfold ownL
 rw [List.take_succ_eq_append_getElem hk, List.filter_append, e]
 by_cases h : l.1.inst = s <;> simp [h]
theorem ownL_len (ls : List SLot) (s : ByteArray) (k : Nat) : (ownL (ls.take k) s).length ≤ k := Nat.le_trans (List.length_filter_le _ _) (List.length_take_le _ _)
def KpB (n₀ b : Nat) (W W' : World) : Prop := Below n₀ W W' ∧ (b < W.heap.size → W'.heap[b]? = W.heap[b]?)
theorem KpB.trans {n₀ b : Nat} {A B C : World} (h : KpB n₀ b A B) (k : KpB n₀ b B C) : KpB n₀ b A C :=
 ⟨h.1.trans k.1, fun hb => (k.2 (Nat.lt_of_lt_of_le hb h.1.size)).trans (h.2 hb)⟩
theorem KpB.put {n₀ b N : Nat} (hn : n₀ ≤ N) (hb : b < N) (W : World) (l : Nat) (o o' : Obj) (hl : N ≤ l) (h : W.heap[l]? = some o) : KpB n₀ b W (W.putObj l o') :=
 ⟨(Below.refl n₀ W).grown (grownBy_putObj' W l o') (by have := (Array.getElem?_eq_some_iff.1 h).1; omega) (fun k e => by cases e; omega), fun _ => World.putObj_heap_other (by omega)⟩
theorem KpB.below {n₀ b : Nat} {A B : World} (h : Below A.heap.size A B) (hn : n₀ ≤ A.heap.size) : KpB n₀ b A B := ⟨h.mono hn, fun hb => h.block b hb⟩
def RdB (n₀ : Nat) (w : World) (A : Option Addr) (ls : List SLot) : Prop :=
 ls ≠ [] → ∃ ad : Addr, A = some ad ∧ ad.block < n₀ ∧ ∀ (j : Nat) (l : SLot), ls[j]? = some l → LotAt w (ad.add (j * 7)) l.1
theorem RdB.below {n₀ : Nat} {w w' : World} {A : Option Addr} {ls : List SLot} (h : RdB n₀ w A ls) (hb : Below n₀ w w') : RdB n₀ w' A ls := by
 intro hl
 obtain ⟨ad, rfl, h1, h2⟩ := h hl
 exact ⟨ad, rfl, h1, fun j l hj => (h2 j l hj).below hb (by rw [add_block]; exact h1)⟩
theorem str_eq (a b : ByteArray) : (a.toList == b.toList) = decide (a = b) := by
 by_cases h : a = b
 ·subst h; simp
 ·rw [neq_toList h]; simp [h]
theorem of1_seq (n n₀ bl bi : Nat) (A : Option Addr) (ls : List SLot) (c : Nat) (s : ByteArray) (w : World) (hn : 1 ≤ n) (hlen : ls.length ≤ 1000000)
 (hbl : Boxed w bl 22 (.slice A ls.length c)) (hbi : Boxed w bi 9 (.string s)) (hR : RdB n₀ w A ls) (hnw : n₀ ≤ w.heap.size) :
 SeqStopsK Fence.wide n Tryz.prog 107 #[.pointer (some ⟨bl, 0, none⟩), .pointer (some ⟨bi, 0, none⟩)] encL (KpB n₀ bi) (fun xs => xs = ownL ls s) (fun _ => True) (ls.length + 1) w := by
 intro l J Jx W hW hJ hJx hY hJ0
 have HJ := Lib.hid hJ
 have HY := Lib.hid hY
 have hbl' : Boxed W bl 22 (.slice A ls.length c) := (hW.block bl hbl.lt).trans hbl
 have hbi' : Boxed W bi 9 (.string s) := (hW.block bi hbi.lt).trans hbi
 have HBI := Lib.hid hbi'
 have HR := Lib.hid (hR.below (hW.mono hnw))
 have cl := hbl'.cell
 have hWs : w.heap.size ≤ W.heap.size := hW.size
 clear hJ hJx hY hbl hbi hbl' hbi' hR hW
 refine callsIn_of_wp Tryz.func107 rfl trivial ?_ rfl
 simp only [Tryz.ntmps107, List.size_toArray, List.length_cons, List.length_nil, Nat.reduceAdd, Nat.reduceSub, Array.replicate_succ, Array.replicate_zero, List.push_toArray, List.append_toArray, List.nil_append, List.cons_append]
 gi_wp2
 gi_loopw [8] (fun v wr => ∃ k : Nat, v = .int .i64 (k : Int) ∧ k ≤ ls.length ∧ Boxed wr bi 9 (.string s) ∧ RdB n₀ wr A ls ∧ n₀ ≤ wr.heap.size ∧ J (ownL (ls.take k) s) wr) (fun v _ => ls.length - (intOf v).toNat)
 case atStart => exact ⟨0, rfl, by omega, HBI.out, HR.out, Nat.le_trans hnw hWs, hJ0⟩
 case round =>
  obtain ⟨k, rfl, hk, hb, hr, hnr, hj⟩ := hrel
  clear HBI HR cl hJ0
  rcases Nat.lt_or_ge k ls.length with hlt | hge
  ·obtain ⟨x, hl⟩ : ∃ x, ls[k]? = some x := ⟨_, List.getElem?_eq_getElem hlt⟩
   obtain ⟨ad, rfl, had, hcell⟩ := hr (by intro e; rw [e] at hlt; cases hlt)
   have hcx : decide ((k : Int) < (ls.length : Int)) = true := by simp; omega
   obtain ⟨c0, c1, c2, c3, c4, c5, c6⟩ := hcell k x hl
   have HOS := Lib.hid (ownL_succ (s := s) hl)
   have HOL := Lib.hid (ownL_len ls s k)
   obtain ⟨W5, hW5⟩ : ∃ W5, wr.alloc (.cells x.1.cells 48) = W5 := ⟨_, rfl⟩
   have k5 : LotBox W5 wr.heap.size x.1 := by rw [← hW5]; exact heap_alloc_new wr _
   have b5 : Below wr.heap.size wr W5 := by rw [← hW5]; exact (Below.refl _ wr).alloc (Nat.le_refl _) _
   have hj5 : J (ownL (ls.take k) s) W5 := by rw [← hW5]; exact HJ.out _ _ _ none hj (World.grownBy_alloc wr _ none) (fun r e => by cases e)
   have hb5 : Boxed W5 bi 9 (.string s) := (b5.block bi hb.lt).trans hb
   have hr5 : RdB n₀ W5 (some ad) ls := hr.below (b5.mono hnr)
   have hn5 : n₀ ≤ W5.heap.size := Nat.le_trans hnr b5.size
   obtain ⟨m0, m1, m2, m3, m4, m5, m6⟩ := cells7 k5
   have cb := hb5.cell
   have hse := str_eq x.1.inst s
   have HBB := Lib.hid hb5
   have HRR := Lib.hid hr5
   have HJJ := Lib.hid hj5
   clear hb hr hj k5 b5 hb5 hr5 hj5 hcell hl
   unfold Lot.cells at hW5
   by_cases he : x.1.inst = s
   ·rw [decide_eq_true he] at hse
    obtain ⟨fn, tmps, assign, body, hy, hR⟩ := HY.out _ x W5 HJJ.out (by have := HOL.out; omega)
    dsimp only [encL, Lot.enc, Lot.cells] at hy
    have HE := Lib.hid he
    have HRD := Lib.hid hR
    clear he hR
    gi_wp2
    refine HRD.out.mono ?_
    rintro e W6 (⟨rfl, hj6, hk6⟩ | ⟨rfl, hjx⟩)
    ·have HB6 : Hid (Boxed W6 bi 9 (.string s)) := (hk6.2 HBB.out.lt).trans HBB.out
     have HR6 := Lib.hid (HRR.out.below hk6.1)
     have hn6 : n₀ ≤ W6.heap.size := Nat.le_trans hn5 hk6.1.size
     have HJ6 : Hid (J (ownL (ls.take (k + 1)) s) W6) := by rw [Hid, HOS.out, if_pos HE.out]; exact hj6
     clear hj6 hk6
     gi_wp2
     go_roundw
     case rel => exact ⟨k + 1, by go_num, by omega, HB6.out, HR6.out, hn6, HJ6.out⟩
     case measure => simp [intOf]; omega
    ·gi_wp2
     refine bodyPost_ret (results_none rfl _ _ _) rfl ?_
     exact ⟨⟨_, rfl⟩, .inr ⟨_, trivial, hjx⟩⟩
   ·rw [decide_eq_false he] at hse
    have HE := Lib.hid he
    clear he
    gi_wp2
    refine ⟨fun _ h => (by cases h), ?_⟩
    gi_wp2
    go_roundw
    case rel => exact ⟨k + 1, by go_num, by omega, HBB.out, HRR.out, hn5, by rw [HOS.out, if_neg HE.out, List.append_nil]; exact HJJ.out⟩
    case measure => simp [intOf]; omega
  ·have hcx : decide ((k : Int) < (ls.length : Int)) = false := by simp; omega
   gi_wp2
   go_end0
   refine ⟨⟨_, rfl⟩, .inl ⟨_, rfl, ?_⟩⟩
   rw [List.take_of_length_le (by omega)] at hj
   exact hj
theorem lof_any (A : Option Addr) (k c : Nat) (s : ByteArray) (w : World) :
 Calls Tryz.prog 71 #[.slice A k c, .string s] w fun e w' => e = .returned (.func (.func 107) #[] #[.pointer (some ⟨w.heap.size, 0, none⟩), .pointer (some ⟨w.heap.size + 1, 0, none⟩)]) ∧ w' = (w.alloc (.cells #[.slice A k c] 22)).alloc (.cells #[.string s] 9) := by
 go_enter Tryz.func71, Tryz.ntmps71
 go_wp2_with fail
 go_ret
 exact ⟨rfl, rfl⟩
end Go.Proofs.YtjlakdocjpmblaaGreatDoor
namespace Go.Proofs.YtjlakdocjpmblaaGreatDoor
open Go.RowKit Tr Go.Shelf
attribute [local go_sem] Oper.semAt_some
theorem Tryz.infoLot : (Tryz.prog.info? 48).map (fun i => (i.zero, i.size, i.bytes)) = some (some (.agg #[.string ⟨#[]⟩, .string ⟨#[]⟩, .int .i64 0, .int .i64 0, .string ⟨#[]⟩, .string ⟨#[]⟩, .string ⟨#[]⟩]), 7, 96) := by kernel_rfl
def flatL (ls : List SLot) : List Value := ls.flatMap fun x => x.1.cells.toList
theorem flatL_snoc (ls : List SLot) (x : SLot) : flatL (ls ++ [x]) = flatL ls ++ x.1.cells.toList := by simp [flatL]
theorem cells_new (w : World) (cs : Array Value) (t : TypeId) : ∀ j u, cs.toList[j]? = some u → (w.alloc (.cells cs t)).cell? ((⟨w.heap.size, 0, none⟩ : Addr).add j) = some u := by
 intro j u hj
 have h := heap_alloc_new w (.cells cs t)
 have e : (⟨w.heap.size, 0, none⟩ : Addr).add j = ⟨w.heap.size, j, none⟩ := by unfold Addr.add; split <;> simp_all
 rw [e, Lib.cell_of_heap h j]
 simpa using hj
theorem appendSeq_of (n bl bi n₀ : Nat) (A : Option Addr) (ls : List SLot) (c : Nat) (s : ByteArray) (w : World) (hn : 3 ≤ n) (hlen : ls.length ≤ 1000000)
 (hbl : Boxed w bl 22 (.slice A ls.length c)) (hbi : Boxed w bi 9 (.string s)) (hR : RdB n₀ w A ls) (hnw : n₀ ≤ w.heap.size) :
 CallsIn Fence.wide n Tryz.prog 109 #[.slice none 0 0, .func (.func 107) #[] #[.pointer (some ⟨bl, 0, none⟩), .pointer (some ⟨bi, 0, none⟩)]] w
  fun e w' => ∃ v, e = .returned v ∧ w'.ownsRow w.heap.size 48 7 v (ownL ls s).length (flatL (ownL ls s)) ∧ Below w.heap.size w w' := by
 have h1 : 1 ≤ n := by omega
 obtain ⟨i0, hi, hz0, hz1, hz2⟩ := info_parts Tryz.infoLot
 refine callsIn_of_wp_marks Tryz.func109 rfl trivial ?_ rfl
 simp only [Tryz.ntmps109, List.size_toArray, List.length_cons, List.length_nil, Nat.reduceAdd, Nat.reduceSub, Array.replicate_succ, Array.replicate_zero, List.push_toArray, List.append_toArray, List.nil_append, List.cons_append]
 gi_wp2
 obtain ⟨W0, hW0⟩ : ∃ W0, w.alloc (.cells #[.slice none 0 0] 22) = W0 := ⟨_, rfl⟩
 have hb0 : Below w.heap.size w W0 := by rw [← hW0]; exact (Below.refl _ w).alloc (Nat.le_refl _) _
 have hbo : Boxed W0 w.heap.size 22 (.slice none 0 0) := by rw [← hW0]; exact Boxed.new w _ _
 have hsz : W0.heap.size = w.heap.size + 1 := by rw [← hW0]; simp
 rw [hW0]
 have hbl0 : Boxed W0 bl 22 (.slice A ls.length c) := (hb0.block bl hbl.lt).trans hbl
 have hbi0 : Boxed W0 bi 9 (.string s) := (hb0.block bi hbi.lt).trans hbi
 have hlbi := hbi.lt
 refine wpIn_rangeFunc_ownH rfl h1 (gf := 107) (lb := #[.pointer (some ⟨bl, 0, none⟩), .pointer (some ⟨bi, 0, none⟩)]) rfl trivial (enters_of Tryz.func107 (by kernel_rfl) rfl)
  (of1_seq (n - 1) n₀ bl bi A ls c s W0 (by omega) hlen hbl0 hbi0 (hR.below (hb0.mono hnw)) (by omega)) KpB.trans (fun W l o o' hl h _ _ => KpB.put (N := W0.heap.size) (by omega) (by omega) W l o o' hl h) (Below.refl _ _) (fun _ => rfl)
  (fun pre W => (∃ v, Boxed W w.heap.size 22 v ∧ W.ownsRow w.heap.size 48 7 v pre.length (flatL pre) ∧ (∃ A' k' c', v = .slice A' k' c')) ∧ Below w.heap.size w W) (fun _ _ _ => False)
  (OwnFrom.and ((holdsRow_own w.heap.size w.heap.size 22 48 7 (fun pre => pre.length) (fun pre => flatL pre) (fun _ v => ∃ A' k' c', v = .slice A' k' c')).from _) (ownFrom_below (Nat.le_refl _) (by omega)))
  (fun _ => ownFrom_pure _ _) ⟨⟨_, hbo, World.ownsRow_nil _ _ _ _, ⟨_, _, _, rfl⟩⟩, hb0⟩
  (fun x a' W => ∃ Bx, w.heap.size < Bx ∧ LotBox W Bx x.1 ∧ a' = { tmps := #[Value.slice none 0 0, Value.func (Fn.func 107) #[] #[Value.pointer (some { block := bl, off := 0 }), Value.pointer (some { block := bi, off := 0 })], Value.pointer (some { block := w.heap.size, off := 0 }), undef, Value.slice none 0 0, Value.pointer (some { block := Bx, off := 0 }), Value.func (Fn.func 107) #[] #[Value.pointer (some { block := bl, off := 0 }), Value.pointer (some { block := bi, off := 0 })], x.1.enc, undef, undef, undef, undef, undef], defers := [] })
  (fun x a' => ?hAx) ?assign ?body ?done ?stop
 case hAx =>
  rintro _ X Y row ⟨Bx, hB, hx, rfl⟩ hg hr
  refine ⟨Bx, hB, (hg.block Bx hx.lt (fun e => ?_)).trans hx, rfl⟩
  obtain ⟨_, o, ho, hc⟩ := hr Bx e.symm
  rw [show X.heap[Bx]? = _ from hx] at ho; cases ho; cases hc
 case assign =>
  rintro l pre x W K ⟨⟨v, hv, hrow, hvs⟩, hB⟩ hK
  have hlt := hv.lt
  obtain ⟨W5, hW5⟩ : ∃ W5, W.alloc (.cells x.1.cells 48) = W5 := ⟨_, rfl⟩
  have b5 : Below W.heap.size W W5 := by rw [← hW5]; exact (Below.refl _ W).alloc (Nat.le_refl _) _
  have HF : Hid (LotBox W5 W.heap.size x.1 ∧ KeepsFrom W0.heap.size W W5 ∧ KpB n₀ bi W W5 ∧ Boxed W5 w.heap.size 22 v ∧ W5.ownsRow w.heap.size 48 7 v pre.length (flatL pre) ∧ Below w.heap.size w W5) := by
   refine ⟨by rw [← hW5]; exact heap_alloc_new W _, by rw [← hW5]; exact (KeepsOthers.alloc _ _).from _, KpB.below b5 (by have := hB.size; omega), (b5.block _ hlt).trans hv, by rw [← hW5]; exact hrow.alloc _, hB.trans (b5.mono hB.size)⟩
  clear b5
  dsimp only [encL, Lot.enc, Lot.cells] at hW5 ⊢
  gi_wp2
  obtain ⟨f1, f2, f3, f4, f5, f6⟩ := HF.out
  exact hK _ _ f2 f3 ⟨⟨v, f4, f5, hvs⟩, f6⟩ ⟨W.heap.size, hlt, f1, rfl⟩
 case body =>
  rintro l pre x a' W hl ⟨r, hr⟩ ⟨⟨v, hv, hrow, ⟨A', k', c', rfl⟩⟩, hB⟩ ⟨Bx, hBx, bX, rfl⟩ hlt
  have hc := hv.cell
  obtain ⟨m0, m1, m2, m3, m4, m5, m6⟩ := cells7 bX
  dsimp only [Lot.enc, Lot.cells]
  gi_wp2_with (gi_at_builtin; refine wpListIn_append_own _ rfl _ _ 22 rfl w.heap.size 48 i0 (.agg #[.string ⟨#[]⟩, .string ⟨#[]⟩, .int .i64 0, .int .i64 0, .string ⟨#[]⟩, .string ⟨#[]⟩, .string ⟨#[]⟩]) 7 96 Tryz.underlying22 hi hz0 hz1 hz2 rfl (by decide) _ _ _ rfl (hrow.alloc _) ⟨W.heap.size, 0, none⟩ 1 1 x.1.cells.toList rfl rfl (cells_new _ _ _) (by simp [Value.oneCell']) (by unfold maxLen; omega) (by omega) (by have := hB.size; simp; omega) ?_; intro v' w1 hown' hgrow _; obtain ⟨g', cap', rfl⟩ := ownsRow_succ hown'; obtain ⟨hv1, hv2, hr2, hk2, hb2⟩ := hv.appended (by decide) hrow hB.size (Nat.le_refl _) hown' hgrow; have hc1 := hv1.cell; have hf1 := hv1.frozen)
  exact ⟨hk2.from _, ⟨hb2.mono hnw, fun _ => hb2.block bi hlbi⟩, ⟨_, hv2, by rw [flatL_snoc, List.length_append]; exact hr2, ⟨_, _, _, rfl⟩⟩, hB.trans hb2⟩
 case done =>
  rintro D xs W hD rfl ⟨⟨v, hv, hrow, hvs⟩, hB⟩ hK
  have hc := hv.cell
  obtain ⟨A', k', c', rfl⟩ := hvs
  gi_wp2
  refine ⟨by simp, .inl ⟨_, _, rfl, run_takeDeferred hK, ?_⟩⟩
  exact ⟨_, results_tmp rfl _ _ _, _, rfl, ownsRow_putObj hrow _ hK rfl, hB.trans (belowK_b (w := w) (Nat.le_refl _) W D _ _ (by omega) hK rfl rfl)⟩
 case stop =>
  rintro D c pre W _ _ h _
  exact h.elim
end Go.Proofs.YtjlakdocjpmblaaGreatDoor
namespace Go.Proofs.YtjlakdocjpmblaaGreatDoor
open Go.RowKit Tr Go.Shelf
attribute [local go_sem] Oper.semAt_some
theorem flatL_get : ∀ (ls : List SLot) (j : Nat) (l : SLot), ls[j]? = some l → ∀ f, f < 7 → (flatL ls)[j * 7 + f]? = l.1.cells[f]?
 | [], j, l, h, f, hf => by simp at h
 | x :: r, 0, l, h, f, hf => by
   simp at h
   subst h
   simp only [flatL, List.flatMap_cons]
   rw [List.getElem?_append_left (by simp; omega)]
   simp
 | x :: r, j + 1, l, h, f, hf => by
   simp at h
   have := flatL_get r j l h f hf
   simp only [flatL, List.flatMap_cons] at this ⊢
   rw [List.getElem?_append_right (by simp; omega)]
   rw [← this]
   congr 1
   simp; omega
theorem addr_add0 (g m : Nat) : (⟨g, 0, none⟩ : Addr).add m = ⟨g, m, none⟩ := by unfold Addr.add; split <;> simp_all
theorem RdB.of_own {w : World} {base : Nat} {v : Value} {ls : List SLot} (h : w.ownsRow base 48 7 v ls.length (flatL ls)) :
 ∃ A c, v = .slice A ls.length c ∧ ls.length ≤ c ∧ (∀ ad, A = some ad → base ≤ ad.block) ∧ RdB w.heap.size w A ls := by
 rcases h.2 with ⟨rfl, h0⟩ | ⟨g, cap, cur, rfl, hb, hg, hnc, hcm, _⟩
 ·have : ls = [] := List.eq_nil_of_length_eq_zero h0
  subst this
  exact ⟨none, 0, rfl, Nat.le_refl _, (fun _ e => by cases e), fun e => absurd rfl e⟩
 ·refine ⟨_, _, rfl, hnc, fun ad e => by cases e; exact hb, fun _ => ⟨_, rfl, (Array.getElem?_eq_some_iff.1 hg).1, fun j l hj => ?_⟩⟩
  have hc := h.cells (g := g) rfl
  have q : ∀ f, f < 7 → ∀ u, l.1.cells[f]? = some u → w.cell? ⟨g, j * 7 + f, none⟩ = some u := by
   intro f hf u hu
   have := hc (j * 7 + f) u (by rw [flatL_get ls j l hj f hf]; exact hu)
   rwa [addr_add0] at this
  rw [addr_add0]
  exact ⟨q 0 (by omega) _ rfl, q 1 (by omega) _ rfl, q 2 (by omega) _ rfl, q 3 (by omega) _ rfl, q 4 (by omega) _ rfl, q 5 (by omega) _ rfl, q 6 (by omega) _ rfl⟩
def LotsPost (w : World) (ls : List SLot) (e : Ending) (w' : World) : Prop := ∃ A c, e = .returned (.slice A ls.length c) ∧ ls.length ≤ c ∧ (∀ ad, A = some ad → w.heap.size ≤ ad.block) ∧ RdB w'.heap.size w' A ls ∧ Below w.heap.size w w'
end Go.Proofs.YtjlakdocjpmblaaGreatDoor
namespace Go.Proofs.YtjlakdocjpmblaaGreatDoor
open Go.RowKit Tr Go.Shelf
def waits (L : List Bool) : Nat := (L.filter fun b => !b).length
theorem waits_set : ∀ (L : List Bool) (i : Nat), L[i]? = some false → waits (L.set i true) < waits L
 | [], i, h => by simp at h
 | b :: r, 0, h => by simp at h; subst h; simp [waits]
 | b :: r, i + 1, h => by
   simp at h
   have := waits_set r i h
   unfold waits at *
   cases b <;> simp at * <;> omega
theorem waits_zero : ∀ (L : List Bool) (i : Nat), waits L = 0 → L[i]? ≠ some false
 | [], i, _ => by simp
 | b :: r, 0, h => by cases b <;> simp [waits] at h ⊢
 | b :: r, i + 1, h => by
   simp
   refine waits_zero r i ?_
   unfold waits at *
   cases b <;> simp at h ⊢ <;> exact h
theorem getD_false {L : Array Bool} {i : Nat} (h : L.getD i true = false) : L.toList[i]? = some false := by
 rw [Array.getD_eq_getD_getElem?] at h
 rw [Array.getElem?_toList]
 cases hh : L[i]? with
 | none => rw [hh] at h; cases h
 | some b => rw [hh] at h; simp at h; rw [h]
variable {F : Fence} {n : Nat} {P : Program} {md : Region.Mode} {ops : Array Oper} {Q : Exit → Act → World → Prop}
theorem wpAnyIn_inv (J : Array Bool → Act → World → Prop)
 (hstep : ∀ L a w, J L a w → ∀ i ∈ Region.ready md ops L, wpOpIn F n P ops Q i (J (L.setIfInBounds i true)) a w)
 (hdone : ∀ L a w, J L a w → Region.ready md ops L = [] → Q .normal a w) :
 ∀ (fuel : Nat) (L : Array Bool) (a : Act) (w : World), J L a w → waits L.toList ≤ fuel → wpAnyIn F n P md ops Q fuel L a w := by
 intro fuel
 induction fuel with
 | zero =>
   intro L a w hj hw
   have hr : Region.ready md ops L = [] := by
    refine List.eq_nil_iff_forall_not_mem.2 fun i hi => ?_
    exact waits_zero L.toList i (by omega) (getD_false (mem_ready.1 hi).1)
   exact ⟨hr, hdone L a w hj hr⟩
 | succ fuel ih =>
   intro L a w hj hw
   refine ⟨fun hr => hdone L a w hj hr, fun i hi => wpOpIn_mono (fun a' w' h' => ih _ a' w' h' ?_) (hstep L a w hj i hi)⟩
   have := waits_set L.toList i (getD_false (mem_ready.1 hi).1)
   rw [Array.toList_setIfInBounds]
   omega
theorem getD_set_same {L : Array Bool} {i : Nat} (h : L.getD i true = false) : (L.setIfInBounds i true).getD i false = true := by
 have := getD_false h
 rw [Array.getElem?_toList] at this
 have hi := (Array.getElem?_eq_some_iff.1 this).1
 simp [Array.getD_eq_getD_getElem?, hi]
theorem getD_set_other {L : Array Bool} {i j : Nat} (h : i ≠ j) : (L.setIfInBounds i true).getD j false = L.getD j false := by
 simp [Array.getD_eq_getD_getElem?, Array.getElem?_setIfInBounds, h]
theorem getD_off {L : Array Bool} {i : Nat} (h : L.getD i true = false) : L.getD i false = false := by
 have := getD_false h
 rw [Array.getElem?_toList] at this
 simp [Array.getD_eq_getD_getElem?, this]
theorem getD_up {L : Array Bool} {i j : Nat} (hun : L.getD i true = false) (h : L.getD j false = true) : (L.setIfInBounds i true).getD j false = true := by
 by_cases e : i = j
 ·subst e; exact getD_set_same hun
 ·rw [getD_set_other e]; exact h
theorem getD_dn {L : Array Bool} {i j : Nat} (e : i ≠ j) (h : (L.setIfInBounds i true).getD j false = true) : L.getD j false = true := by rwa [getD_set_other e] at h
theorem getD_df {L : Array Bool} {i j : Nat} (e : i ≠ j) (h : (L.setIfInBounds i true).getD j false = false) : L.getD j false = false := by rwa [getD_set_other e] at h
theorem not_on {L : Array Bool} {i : Nat} (h : L.getD i false = false) (k : L.getD i false = true) : False := by rw [h] at k; cases k
theorem off_or_on (L : Array Bool) (i : Nat) : L.getD i false = false ∨ L.getD i false = true := by cases L.getD i false <;> simp
theorem ready_of {L : Array Bool} {i : Nat} {o : Oper} (hsz : i < L.size) (hoff : L.getD i false = false) (ho : ops[i]? = some o) (ha : ∀ e ∈ o.after, Region.binds md e = true → L.getD e.on false = true) : i ∈ Region.ready md ops L :=
 mem_ready.2 ⟨by rw [Array.getD_eq_getD_getElem?] at *; rw [Array.getElem?_eq_getElem hsz] at *; simpa using hoff, o, ho, ha⟩
theorem Uz {L : Array Bool} {i j : Nat} (h : (L.setIfInBounds i true).getD j false = true) (e : i ≠ j := by decide) : L.getD j false = true := getD_dn e h
theorem Um {L : Array Bool} {i j : Nat} {X : Prop} (f : L.getD j false = true → X) (e : i ≠ j := by decide) : (L.setIfInBounds i true).getD j false = true → X := fun h => f (getD_dn e h)
theorem Dz {L : Array Bool} {i j : Nat} (h : (L.setIfInBounds i true).getD j false = false) (e : i ≠ j := by decide) : L.getD j false = false := getD_df e h
theorem hI {p : Prop} (h : p) : Hid p := h
theorem Hq {m : Region.Mode} {o : Oper} {L : Array Bool} (hall : ∀ e ∈ o.after, Region.binds m e = true → L.getD e.on false = true) (j : Nat) (h : (o.after.toList.any fun e => Nat.beq e.on j && Region.binds m e) = true := by decide) : Hid (L.getD j false = true) := by
 rw [List.any_eq_true] at h
 obtain ⟨e, he, h2⟩ := h
 rw [Bool.and_eq_true] at h2
 rw [← Nat.eq_of_beq_eq_true h2.1]
 exact hall e (Array.mem_toList_iff.1 he) h2.2
theorem wpOp_hid {P : Program} {ops : Array Oper} {Q : Exit → Act → World → Prop} {i : Nat} {o : Oper} {K : Act → World → Prop} {a : Act} {w : World} (ho : ops[i]? = some o) (h : ∀ K' : Act → World → Prop, Hid (∀ a w, K a w → K' a w) → if Region.wanted o (yielded ops a.tmps) = true then Oper.wp P o a w K' Q else K' (a.put o.dst undef) w) : wpOp P ops Q i K a w := wpOp_step ho fun K' hK => h K' hK
theorem Un {L : Array Bool} {i j k : Nat} {X : Prop} (f : L.getD j false = true → L.getD k false = false → X) (e : i ≠ j := by decide) (d : i ≠ k := by decide) : (L.setIfInBounds i true).getD j false = true → (L.setIfInBounds i true).getD k false = false → X := fun h g => f (getD_dn e h) (getD_df d g)
theorem Uf {L : Array Bool} {i k : Nat} {X : Prop} (f : L.getD k false = false → X) (d : i ≠ k := by decide) : (L.setIfInBounds i true).getD k false = false → X := fun g => f (getD_df d g)
theorem U3 {L : Array Bool} {i j k m : Nat} {X : Prop} (f : L.getD j false = true → L.getD k false = false → L.getD m false = true → X) (e : i ≠ j := by decide) (d : i ≠ k := by decide) (c : i ≠ m := by decide) : (L.setIfInBounds i true).getD j false = true → (L.setIfInBounds i true).getD k false = false → (L.setIfInBounds i true).getD m false = true → X := fun h g l => f (getD_dn e h) (getD_df d g) (getD_dn c l)
theorem Uq {L : Array Bool} {i j k : Nat} (hun : L.getD i true = false) (f : L.getD j false = true → L.getD k false = true) (e : i ≠ j := by decide) : (L.setIfInBounds i true).getD j false = true → (L.setIfInBounds i true).getD k false = true := fun h => getD_up hun (f (getD_dn e h))
theorem Uq2 {L : Array Bool} {i j k m : Nat} (hun : L.getD i true = false) (f : L.getD j false = true → L.getD k false = true ∧ L.getD m false = true) (e : i ≠ j := by decide) : (L.setIfInBounds i true).getD j false = true → (L.setIfInBounds i true).getD k false = true ∧ (L.setIfInBounds i true).getD m false = true := fun h => ⟨getD_up hun (f (getD_dn e h)).1, getD_up hun (f (getD_dn e h)).2⟩
theorem Uq3 {L : Array Bool} {i j k m n : Nat} (hun : L.getD i true = false) (f : L.getD j false = true → L.getD k false = true ∧ L.getD m false = true ∧ L.getD n false = true) (e : i ≠ j := by decide) : (L.setIfInBounds i true).getD j false = true → (L.setIfInBounds i true).getD k false = true ∧ (L.setIfInBounds i true).getD m false = true ∧ (L.setIfInBounds i true).getD n false = true := fun h => ⟨getD_up hun (f (getD_dn e h)).1, getD_up hun (f (getD_dn e h)).2.1, getD_up hun (f (getD_dn e h)).2.2⟩
def leansBack (md : Region.Mode) (ops : Array Oper) (n : Nat) : Bool :=
 (List.range n).all fun i => match ops[i]? with
   | none => false
   | some o => o.after.all fun e => !Region.binds md e || Nat.blt e.on i
theorem all_on {md : Region.Mode} {ops : Array Oper} {L : Array Bool} {n : Nat} (hr : Region.ready md ops L = []) (hsz : L.size = n) (hc : leansBack md ops n = true) : ∀ i, i < n → L.getD i false = true := by
 intro i
 induction i using Nat.strongRecOn with
 | ind i ih =>
   intro hi
   have hh := List.all_eq_true.1 hc i (List.mem_range.2 hi)
   cases ho : ops[i]? with
   | none => rw [ho] at hh; cases hh
   | some o =>
     rw [ho] at hh
     simp only [Array.all_eq_true_iff_forall_mem, Bool.or_eq_true, Bool.not_eq_true'] at hh
     refine (off_or_on L i).resolve_left fun h => ?_
     refine List.eq_nil_iff_forall_not_mem.1 hr i (ready_of (by rw [hsz]; exact hi) h ho (fun e he hbd => ?_))
     rcases hh e he with hb | hb
     ·rw [hb] at hbd; cases hbd
     ·rw [Nat.blt_eq] at hb
      exact ih e.on hb (Nat.lt_trans hb hi)
end Go.Proofs.YtjlakdocjpmblaaGreatDoor
