/-
  The walks of lot.CheckAll and trancheref19.CheckAll on whatever is small: which answer.
  The walk of accrual.Total on what is valid. (Printed by gen_acc6.py.)
  The walk of accrual.Book on what is valid. (Printed by gen_acc6.py.)
  The walks of accrual.checkOne and Amortized on what is valid. (Printed by gen_acc9.py.)
  The walk of accrual.Effect on what is valid. (Printed by gen_acc10.py.)
  The walk of trancheref19.CheckAll: which answer. (Printed by gen_ref41.py.)
-/
import Derived.Test.YtdnmpgoigagjmaaGreatDoorA29
import Derived.Test.YtdnmpgoigagjmaaGreatDoorA32
set_option linter.unusedVariables false
set_option linter.unusedSimpArgs false
namespace Go.Proofs.YtdnmpgoigagjmaaGreatDoor
open Go.RowKit Tr Go.Shelf Go.Maps Go.WideMaps
open Classical in
noncomputable def lallF (pre : List Lot) : List Lot → Int
 | [] => 0
 | l :: r => if lchk l ≠ 0 then lchk l else if l.id ∈ pre.map Lot.id then 5 else lallF (pre ++ [l]) r
open Classical in
noncomputable def lall (ls : List Lot) : Int := if 1000 < ls.length then 4 else lallF [] ls
theorem lall_at {ls : List Lot} {k : Nat} {l : Lot} (hlen : ls.length ≤ 1000) (hg : lallF (ls.take k) (ls.drop k) = lall ls) (hl : ls[k]? = some l) :
 (lchk l ≠ 0 → lall ls = lchk l) ∧ (lchk l = 0 → l.id ∈ (ls.take k).map Lot.id → lall ls = 5) ∧ (lchk l = 0 → l.id ∉ (ls.take k).map Lot.id → lallF (ls.take (k + 1)) (ls.drop (k + 1)) = lall ls) := by
 have hk : k < ls.length := (List.getElem?_eq_some_iff.1 hl).1
 have hd : ls.drop k = l :: ls.drop (k + 1) := by
  rw [List.drop_eq_getElem_cons hk]
  congr 1
  rw [List.getElem?_eq_getElem hk] at hl
  exact Option.some.inj hl
 rw [hd] at hg
 unfold lallF at hg
 refine ⟨fun h => ?_, fun h h2 => ?_, fun h h2 => ?_⟩
 ·rw [if_pos h] at hg; exact hg.symm
 ·rw [if_neg (fun x => x h), if_pos h2] at hg; exact hg.symm
 ·rw [if_neg (fun x => x h), if_neg h2] at hg
  rw [take_snoc hl]; exact hg
theorem lall_start {ls : List Lot} (h : ls.length ≤ 1000) : lallF (ls.take 0) (ls.drop 0) = lall ls := by unfold lall; rw [if_neg (by omega)]; rfl
theorem lall_end {ls : List Lot} (hg : lallF (ls.take ls.length) (ls.drop ls.length) = lall ls) : lall ls = 0 := by
 rw [List.drop_length] at hg; exact hg.symm
theorem lall_great {ls : List Lot} (h : 1000 < ls.length) : lall ls = 4 := by unfold lall; rw [if_pos h]
theorem atKey_fold (u z : DataW Unit) (k : Lit) (hk : WideAt.IsKeyLit k) : ∀ (acc : List Lit) (m : DataW Unit), IsMap m → (k ∈ acc ∨ m.atKey k z = u) → (acc.foldl (fun m x => m.put x u) m).atKey k z = u
 | [], m, _, h => h.resolve_left (fun x => by cases x)
 | x :: r, m, hm, h => by
   rw [List.foldl_cons]
   refine atKey_fold u z k hk r _ (hm.put _ _) ?_
   by_cases hx : x = k
   ·subst hx; exact .inr (atKey_put_same hm hk _ _)
   ·rcases h with h | h
    ·rcases List.mem_cons.1 h with h | h
     ·exact absurd h.symm hx
     ·exact .inl h
    ·exact .inr ((atKey_put_other (fun e => hx e.symm) _ _).trans h)
theorem atKey_setOf (u z : DataW Unit) (k : Lit) (hk : WideAt.IsKeyLit k) (acc : List Lit) (h : k ∈ acc) : (setOf u acc).atKey k z = u :=
 atKey_fold u z k hk acc _ isMap_empty (.inl h)
theorem seen_true {w : World} {b n : Nat} {ls : List Lot} {l : Lot} (h : w.ownsMap Tryz.prog 9 (plainElem Tryz.prog 4) b n (seenD ls)) (hs : l.id.size ≤ maxLen) (hn : l.id ∈ ls.map Lot.id) :
 (Instr.lookup 85 (.map (some b)) (.string l.id) false).run Tryz.prog w = .ok (.bool true) w := by
 obtain ⟨v, ps, hrun, hv⟩ := h.lookup strKeyed Tryz.underlying85 (zeroBool w) (plainElem_bool Tryz.underlying4 false) (keyOf_string_mk Tryz.underlying9 hs)
 have hh := atKey_setOf (.lit (.bool true)) (.lit (.bool false)) (.string l.id.data.toList : Lit) trivial (ls.map idKey) (by
  obtain ⟨x, hx, e⟩ := List.mem_map.1 hn
  exact List.mem_map.2 ⟨x, hx, by unfold idKey; rw [e]⟩)
 have hv' := hv
 unfold seenD at hv'
 rw [hh] at hv'
 obtain ⟨a, rfl, ha⟩ := plainElem_bool_inv Tryz.underlying4 hv'
 simp at ha
 rw [hrun, ← ha.1]
set_option maxHeartbeats 4000000 in
set_option maxRecDepth 100000 in
theorem lCheckAll_any (A : Option Addr) (c : Nat) (ls : List Lot) (hc : ls.length ≤ c) (hlm : ls.length ≤ 9223372036854775807) (w : World) (hr : RdL w A ls) (hsz : ∀ l ∈ ls, l.sized) (ht : Tabs w) :
 Calls Tryz.prog 14 #[.slice A ls.length c] w fun e w' => e = .returned (.int .i64 (lall ls)) ∧ Below w.heap.size w w' := by
 have HR := Lib.hid hr
 have HT := Lib.hid ht
 have H := Lib.hid hsz
 clear hr ht hsz
 by_cases hgr : 1000 < ls.length
 ·have hgt : decide ((1000 : Int) < (ls.length : Int)) = true := by simp; omega
  have HG := Lib.hid (lall_great hgr)
  clear hgr
  go_enter Tryz.func14, Tryz.ntmps14
  go_wp2_with fail
  go_ret
  exact ⟨by rw [HG.out]; rfl, Below.refl _ _⟩
 have hgt : decide ((1000 : Int) < (ls.length : Int)) = false := by simp; omega
 have hlen : ls.length ≤ 1000 := by omega
 clear hgr
 have hmm := @run_makeMap Tryz.prog
 go_enter Tryz.func14, Tryz.ntmps14
 go_wp2_with fail
 go_loopw [13] (fun v wr => ∃ k : Nat, v = .int .i64 (k : Int) ∧ k ≤ ls.length ∧ lallF (ls.take k) (ls.drop k) = lall ls ∧ wr.ownsMap Tryz.prog 9 (plainElem Tryz.prog 4) w.heap.size k (seenD (ls.take k)) ∧ Below w.heap.size w wr) (fun v _ => ls.length - (intOf v).toNat)
 case atStart => exact ⟨0, rfl, by omega, lall_start hlen, World.ownsMap_made _ _ _ _, (Below.refl _ _).alloc (Nat.le_refl _) _⟩
 case round =>
  obtain ⟨k, rfl, hk, hg, hown, hb⟩ := hrel
  have HO := Lib.hid hown
  have HB := Lib.hid hb
  have HG := Lib.hid hg
  clear hown hb hg
  rcases Nat.lt_or_ge k ls.length with hlt | hge
  ·obtain ⟨l, hl⟩ : ∃ l, ls[k]? = some l := ⟨_, List.getElem?_eq_getElem hlt⟩
   obtain ⟨ad, rfl, had, hcell⟩ := HR.out (by intro e; rw [e] at hlt; cases hlt)
   have hcx : decide ((k : Int) < (ls.length : Int)) = true := by simp; omega
   obtain ⟨c0, c1, c2, c3, c4, c5, c6⟩ := (hcell k l hl).below HB.out (by rw [add_block]; exact had)
   have hs := H.out l (List.mem_of_getElem? hl)
   have hzid : l.id.size ≤ maxLen := by unfold maxLen; have := hs.1; omega
   have HSN := Lib.hid (take_snoc hl)
   have HAT := Lib.hid (lall_at hlen HG.out hl)
   have HC := Lib.hid (fun W hW => lCheck_any l hs W hW)
   clear hcell hl hs
   obtain ⟨W5, hW5⟩ : ∃ W5, wr.alloc (.cells l.cells 49) = W5 := ⟨_, rfl⟩
   have k5 : LotBox W5 wr.heap.size l := by rw [← hW5]; exact heap_alloc_new wr _
   have b5 : Below wr.heap.size wr W5 := by rw [← hW5]; exact (Below.refl _ wr).alloc (Nat.le_refl _) _
   have HK5 := Lib.hid k5
   have HB5 := Lib.hid (HB.out.trans (b5.mono HB.out.size))
   have HO5 := Lib.hid (ownsMap_below HO.out b5)
   have m0 := Lib.cell_of_heap k5 0
   have m1 := Lib.cell_of_heap k5 1
   have m2 := Lib.cell_of_heap k5 2
   have m3 := Lib.cell_of_heap k5 3
   have m4 := Lib.cell_of_heap k5 4
   have m5 := Lib.cell_of_heap k5 5
   have m6 := Lib.cell_of_heap k5 6
   simp at m0 m1 m2 m3 m4 m5 m6
   clear k5 b5 HO
   unfold Lot.cells at hW5
   go_wp2_with fail
   refine (HC.out _ (HT.out.below HB5.out)).mono ?_
   rintro e w6 ⟨rfl, b6⟩
   have k6 := HK5.out.below b6
   have HB6 := Lib.hid (HB5.out.trans (b6.mono HB5.out.size))
   have hO6 := ownsMap_below HO5.out b6
   by_cases h0 : lchk l = 0
   case neg =>
    have t1 : (lchk l == 0) = false := beq_eq_false_iff_ne.2 h0
    have t1' : (lchk l != 0) = true := by rw [bne, t1]; rfl
    have HN := Lib.hid (HAT.out.1 h0)
    clear h0 hO6 b6 k6 m0 m1 m2 m3 m4 m5 m6 hW5
    go_wp2_with fail
    go_ret
    exact ⟨by rw [HN.out]; rfl, HB6.out⟩
   have H0 := Lib.hid h0
   rw [h0]
   clear h0
   clear m0 m1 m2 m3 m4 m5 m6
   have m0 := Lib.cell_of_heap k6 0
   have m1 := Lib.cell_of_heap k6 1
   have m2 := Lib.cell_of_heap k6 2
   have m3 := Lib.cell_of_heap k6 3
   have m4 := Lib.cell_of_heap k6 4
   have m5 := Lib.cell_of_heap k6 5
   have m6 := Lib.cell_of_heap k6 6
   simp at m0 m1 m2 m3 m4 m5 m6
   by_cases hid : l.id ∈ (ls.take k).map Lot.id
   ·have hlk := seen_true hO6 hzid hid
    have HN := Lib.hid (HAT.out.2.1 H0.out hid)
    clear hid hO6 b6 k6
    go_wp2_with fail
    go_ret
    exact ⟨by rw [HN.out]; rfl, HB6.out⟩
   have hlk := seen_false hO6 hzid (fun x hx e => hid (List.mem_map.2 ⟨x, hx, e⟩))
   have HN := Lib.hid (HAT.out.2.2 H0.out hid)
   obtain ⟨w7, hup, hO7, hg7⟩ := hO6.update strKeyed Tryz.underlying85 (by unfold maxLen; omega) (keyOf_string_mk Tryz.underlying9 hzid) (plainElem_bool Tryz.underlying4 true)
   have HO7 : Hid (w7.ownsMap Tryz.prog 9 (plainElem Tryz.prog 4) w.heap.size (k + 1) (seenD (ls.take (k + 1)))) := by
    rw [HSN.out, seenD_snoc]; exact hO7
   have HB7 := Lib.hid (HB6.out.grown hg7 HB6.out.size (fun j hj => by cases hj; exact Nat.le_refl _))
   clear hid hO6 hO7 hg7 b6 k6 HO5 HB5 HK5
   go_wp2_with fail
   go_roundw
   case rel => exact ⟨k + 1, by go_num, by omega, HN.out, HO7.out, HB7.out⟩
   case measure => simp [intOf]; omega
  ·have hcx : decide ((k : Int) < (ls.length : Int)) = false := by simp; omega
   have hkk : k = ls.length := by omega
   subst hkk
   have HN := Lib.hid (lall_end HG.out)
   go_wp2_with fail
   go_ret
   exact ⟨by rw [HN.out]; rfl, HB.out⟩
end Go.Proofs.YtdnmpgoigagjmaaGreatDoor
namespace Go.Proofs.YtdnmpgoigagjmaaGreatDoor
open Go.RowKit Tr Go.Shelf
end Go.Proofs.YtdnmpgoigagjmaaGreatDoor
namespace Go.Proofs.YtdnmpgoigagjmaaGreatDoor
open Go.RowKit Tr Go.Shelf
end Go.Proofs.YtdnmpgoigagjmaaGreatDoor
namespace Go.Proofs.YtdnmpgoigagjmaaGreatDoor
open Go.RowKit Tr Go.Shelf
def ith (ds : List Int) (k : Nat) : Int := ds.getD k 0
def RdD (w : World) (A : Option Addr) (ds : List Int) : Prop :=
 ds ≠ [] → ∃ ad : Addr, A = some ad ∧ ad.block < w.heap.size ∧ ∀ j, j < ds.length → w.cell? (ad.add j) = some (.int .i64 (ith ds j))
theorem RdD.below {w w' : World} {A : Option Addr} {ds : List Int} (h : RdD w A ds) (hb : Below w.heap.size w w') : RdD w' A ds := by
 intro hl
 obtain ⟨ad, rfl, h1, h2⟩ := h hl
 exact ⟨ad, rfl, Nat.lt_of_lt_of_le h1 hb.size, fun j hj => (hb.cell (by rw [add_block]; exact h1)).trans (h2 j hj)⟩
theorem ith_mem {ds : List Int} {k : Nat} (h : k < ds.length) : ith ds k ∈ ds := by
 unfold ith; rw [List.getD_eq_getElem?_getD, List.getElem?_eq_getElem h]; exact List.getElem_mem h
structure BOk (i : Inst) (l : Lot) : Prop where
 small : i.small
 ok : i.ok
 sized : l.sized
 lok : l.ok
 inst : l.inst = i.id
end Go.Proofs.YtdnmpgoigagjmaaGreatDoor
namespace Go.Proofs.YtdnmpgoigagjmaaGreatDoor
open Go.RowKit Tr Go.Shelf
abbrev effZero : Array Value := #[.int .i64 0, .int .i64 0, .string ⟨#[]⟩, .string ⟨#[]⟩, .string ⟨#[]⟩, .string ⟨#[]⟩, .slice none 0 0]
noncomputable def causeB (d : Int) (id : ByteArray) : ByteArray := ⟨#[109, 97, 114, 107, 32]⟩ ++ ptext d ++ ⟨#[32]⟩ ++ id
theorem set7 {w : World} {b : Nat} {a0 a1 a2 a3 a4 a5 a6 : Value} {t : TypeId} {m : Nat × Nat} (h : w.heap[b]? = some (.cells #[a0, a1, a2, a3, a4, a5, a6] t m)) (x0 x1 x2 x3 x4 x5 x6 : Value) :
 (((((((w.setCell ⟨b, 0, none⟩ x0).setCell ⟨b, 1, none⟩ x1).setCell ⟨b, 2, none⟩ x2).setCell ⟨b, 3, none⟩ x3).setCell ⟨b, 4, none⟩ x4).setCell ⟨b, 5, none⟩ x5).setCell ⟨b, 6, none⟩ x6).heap[b]? = some (.cells #[x0, x1, x2, x3, x4, x5, x6] t m) := by
 simp [World.setCell, Array.getElem?_modify, h]
theorem below7 {w W : World} {b : Nat} (hb : w.heap.size ≤ b) (h : Below w.heap.size w W) (x0 x1 x2 x3 x4 x5 x6 : Value) :
 Below w.heap.size w (((((((W.setCell ⟨b, 0, none⟩ x0).setCell ⟨b, 1, none⟩ x1).setCell ⟨b, 2, none⟩ x2).setCell ⟨b, 3, none⟩ x3).setCell ⟨b, 4, none⟩ x4).setCell ⟨b, 5, none⟩ x5).setCell ⟨b, 6, none⟩ x6) :=
 (((((((h.setCell (p := ⟨b, 0, none⟩) hb x0).setCell (p := ⟨b, 1, none⟩) hb x1).setCell (p := ⟨b, 2, none⟩) hb x2).setCell (p := ⟨b, 3, none⟩) hb x3).setCell (p := ⟨b, 4, none⟩) hb x4).setCell (p := ⟨b, 5, none⟩) hb x5).setCell (p := ⟨b, 6, none⟩) hb x6)
theorem far7 {W : World} {b k : Nat} (hk : k ≠ b) (x0 x1 x2 x3 x4 x5 x6 : Value) :
 (((((((W.setCell ⟨b, 0, none⟩ x0).setCell ⟨b, 1, none⟩ x1).setCell ⟨b, 2, none⟩ x2).setCell ⟨b, 3, none⟩ x3).setCell ⟨b, 4, none⟩ x4).setCell ⟨b, 5, none⟩ x5).setCell ⟨b, 6, none⟩ x6).heap[k]? = W.heap[k]? := by
 simp [World.setCell, Array.getElem?_modify, Ne.symm hk]
end Go.Proofs.YtdnmpgoigagjmaaGreatDoor
namespace Go.Proofs.YtdnmpgoigagjmaaGreatDoor
open Go.RowKit Tr Go.Shelf
set_option maxHeartbeats 4000000 in
set_option maxRecDepth 100000 in
theorem rCheckAll19_ex (A : Option Addr) (ls : List Lot) (c : Nat) (hcap : ls.length ≤ c) (hlm : ls.length ≤ 9223372036854775807) (hti : ∀ l ∈ ls, l.tiny) (w : World) (hR : RdL w A ls) :
 Calls Tryz.prog 53 #[.slice A ls.length c] w fun e w' => e = .returned (.int .i64 (lall ls)) ∧ Below w.heap.size w w' := by
 have HR := Lib.hid hR
 have HTI := Lib.hid hti
 clear hR hti
 by_cases hgr : 1000 < ls.length
 ·have t0 : decide ((1000 : Int) < (ls.length : Int)) = true := decide_eq_true (by omega)
  have HG := Lib.hid (lall_great hgr)
  clear hgr
  go_enter Tryz.func53, Tryz.ntmps53
  go_wp2_with fail
  go_ret
  exact ⟨by rw [HG.out]; rfl, Below.refl _ _⟩
 have hlen : ls.length ≤ 1000 := by omega
 have t0 : decide ((1000 : Int) < (ls.length : Int)) = false := decide_eq_false (by omega)
 clear hgr
 go_enter Tryz.func53, Tryz.ntmps53
 go_wp2_with fail
 go_loopw [3, 4, 5, 6, 24] (fun v _ _ _ _ wr => ∃ k : Nat, v = .int .i64 (k : Int) ∧ k ≤ ls.length ∧ lallF (ls.take k) (ls.drop k) = lall ls ∧ Below w.heap.size w wr) (fun v _ _ _ _ _ => ls.length - (intOf v).toNat)
 case atStart => exact ⟨0, rfl, by omega, lall_start hlen, Below.refl _ _⟩
 case round =>
  obtain ⟨k, rfl, hk, hg, hb⟩ := hrel
  have HG := Lib.hid hg
  have HB := Lib.hid hb
  clear hg hb
  rcases Nat.lt_or_ge k ls.length with hlt | hge
  ·obtain ⟨l, hl⟩ : ∃ l, ls[k]? = some l := ⟨_, List.getElem?_eq_getElem hlt⟩
   have HR2 := Lib.hid HR.out
   obtain ⟨ad, rfl, had, hcell⟩ := HR.out (by intro e; rw [e] at hlt; cases hlt)
   have hcx : decide ((k : Int) < (ls.length : Int)) = true := by simp; omega
   have HCE := Lib.hid (hcell k l hl)
   have HAD := Lib.hid had
   obtain ⟨c0, c1, c2, c3, c4, c5, c6⟩ := (hcell k l hl).below HB.out (by rw [add_block]; exact had)
   have HSN := Lib.hid (take_snoc hl)
   have hlt1 := HTI.out l (List.mem_of_getElem? hl)
   have HAT := Lib.hid (lall_at hlen HG.out hl)
   have HC := Lib.hid (fun W => rCheck19_ex l hlt1 W)
   clear hcell hl hlt1 had
   go_wp2_with fail
   refine (HC.out _).mono ?_
   rintro e w1 ⟨rfl, b1⟩
   obtain ⟨n, hn⟩ : ∃ n, lchk l = n := ⟨_, rfl⟩
   rw [hn]
   rw [hn] at HAT
   have HB1 := Lib.hid (HB.out.trans (b1.mono HB.out.size))
   clear b1 c0 c1 c2 c3 c4 c5 c6
   by_cases h0 : n = 0
   case neg =>
    have t1 : (n == 0) = false := beq_eq_false_iff_ne.2 h0
    have t2 : (n != 0) = true := by simp [bne, t1]
    have H0 := Lib.hid h0
    clear h0 hn
    go_wp2_with fail
    go_ret
    exact ⟨by rw [HAT.out.1 H0.out]; rfl, HB1.out⟩
   clear hn
   subst h0
   obtain ⟨c0, c1, c2, c3, c4, c5, c6⟩ := HCE.out.below HB1.out (by rw [add_block]; exact HAD.out)
   have HF := Lib.hid (fun n => q_same (rFind_any (some ad) ls k c (by omega) (by omega) l.id (w1.drewN n) ((HR2.out.below HB1.out).drewN n)))
   have HFF := Lib.hid (findR_false (ls.take k) l.id 0)
   have HFT := Lib.hid (fun (h : ∀ x ∈ ls.take k, x.id ≠ l.id) => congrArg Prod.snd (findR_none h 0))
   clear HC
   go_wp2_with fail
   generalize findR (ls.take k) l.id 0 = fr at HF HFF HFT
   obtain ⟨fn, fb⟩ := fr
   go_quiet ((go_at_call 48; exact HF.out _))
   cases fb
   ·have HNE := Lib.hid (HFF.out rfl)
    go_wp2_with fail
    go_roundw
    case rel =>
     exact ⟨k + 1, by go_num, by omega, HAT.out.2.2 (by trivial) (fun h => by obtain ⟨x, hx, e⟩ := List.mem_map.1 h; exact HNE.out x hx e), below_drewN HB1.out _⟩
    case measure => simp [intOf]; omega
   ·go_wp2_with fail
    go_ret
    refine ⟨?_, below_drewN HB1.out _⟩
    rw [HAT.out.2.1 (by trivial) (Classical.byContradiction (fun hn => by
     have := HFT.out (fun x hx e => hn (List.mem_map.2 ⟨x, hx, e⟩))
     cases this))]
    rfl
  ·have hcx : decide ((k : Int) < (ls.length : Int)) = false := by simp; omega
   have hkm : k = ls.length := by omega
   subst hkm
   go_wp2_with fail
   go_ret
   exact ⟨by rw [lall_end HG.out]; rfl, HB.out⟩
end Go.Proofs.YtdnmpgoigagjmaaGreatDoor
