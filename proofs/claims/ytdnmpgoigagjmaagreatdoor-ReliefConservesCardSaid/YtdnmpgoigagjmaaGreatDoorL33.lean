/-
  A lot put into a list behind the last one whose instrument is not greater: plainly.
  The walk of lot.Find.
  Lots that are sorted in place, in memory; slices.swapRangeCmpFunc and slices.insertionSortCmpFunc over lots. (Printed by gen_srt2.py.)
  The orders of lots by the methods of relief, plainly.
-/
import Derived.Test.YtdnmpgoigagjmaaGreatDoorL32
import Derived.Test.YtdnmpgoigagjmaaGreatDoorL21
import Derived.Test.YtdnmpgoigagjmaaGreatDoorL25
import Derived.Sort.Walk0
import Derived.Test.YtdnmpgoigagjmaaGreatDoorL28
import Derived.Test.YtdnmpgoigagjmaaGreatDoorL01
set_option linter.unusedVariables false
set_option linter.unusedSimpArgs false
set_option maxHeartbeats 16000000
set_option maxRecDepth 100000
namespace Go.Proofs.YtdnmpgoigagjmaaGreatDoor
open Go.RowKit Tr Go.Shelf
def bl (a b : ByteArray) : Bool := Op.bytesLess a.toList b.toList
structure IsPl (ls : List Lot) (s : ByteArray) (k : Nat) : Prop where
 le : k ≤ ls.length
 hi : ∀ i y, k ≤ i → ls[i]? = some y → bl s y.inst = true
 lo : ∀ y, 0 < k → ls[k - 1]? = some y → bl s y.inst = false
theorem IsPl.not_lt {ls : List Lot} {s : ByteArray} {a b : Nat} (ha : IsPl ls s a) (hb : IsPl ls s b) : ¬ a < b := by
 intro h
 have hk : b - 1 < ls.length := by have := hb.le; omega
 have h1 := ha.hi (b - 1) _ (by omega) (List.getElem?_eq_getElem hk)
 have h2 := hb.lo _ (by omega) (List.getElem?_eq_getElem hk)
 rw [h1] at h2; cases h2
structure UpPl (ls : List Lot) (s : ByteArray) (n k : Nat) : Prop where
 le : k ≤ n
 hi : ∀ i y, k ≤ i → i < n → ls[i]? = some y → bl s y.inst = true
 lo : ∀ y, 0 < k → ls[k - 1]? = some y → bl s y.inst = false
theorem UpPl.start (ls : List Lot) (s : ByteArray) : UpPl ls s 0 0 := ⟨Nat.le_refl _, fun i y _ h => by omega, fun y h => by omega⟩
theorem UpPl.yes {ls : List Lot} {s : ByteArray} {n : Nat} {y : Lot} (hy : ls[n]? = some y) (h : bl s y.inst = false) : UpPl ls s (n + 1) (n + 1) :=
 ⟨Nat.le_refl _, fun i z h1 h2 => by omega, fun z _ hz => by rw [Nat.add_sub_cancel, hy] at hz; injection hz with hz; rw [← hz]; exact h⟩
theorem UpPl.no {ls : List Lot} {s : ByteArray} {n k : Nat} {y : Lot} (hu : UpPl ls s n k) (hy : ls[n]? = some y) (h : bl s y.inst = true) : UpPl ls s (n + 1) k :=
 ⟨Nat.le_succ_of_le hu.le, fun i z h1 h2 hz => by
   rcases Nat.lt_or_ge i n with h3 | h3
   ·exact hu.hi i z h1 h3 hz
   ·obtain rfl : i = n := by omega
    rw [hy] at hz; injection hz with hz; rw [← hz]; exact h, hu.lo⟩
theorem UpPl.done {ls : List Lot} {s : ByteArray} {n k : Nat} (hu : UpPl ls s n k) (hn : n = ls.length) : IsPl ls s k :=
 ⟨by have := hu.le; omega, fun i y h1 hy => hu.hi i y h1 (by rw [hn]; exact (List.getElem?_eq_some_iff.1 hy).1) hy, hu.lo⟩
structure AllOk (ls : List Lot) : Prop where
 len : ls.length ≤ 1000
 ok : ∀ l ∈ ls, lchk l = 0
 nd : (ls.map Lot.id).Nodup
theorem lallF_zero : ∀ (r pre : List Lot), lallF pre r = 0 ↔ (∀ l ∈ r, lchk l = 0) ∧ (r.map Lot.id).Nodup ∧ ∀ l ∈ r, l.id ∉ pre.map Lot.id
 | [], pre => by unfold lallF; simp
 | l :: r, pre => by
   unfold lallF
   by_cases h1 : lchk l = 0
   ·rw [if_neg (fun x => x h1)]
    by_cases h2 : l.id ∈ pre.map Lot.id
    ·rw [if_pos h2]
     exact ⟨fun h => absurd h (by decide), fun h => absurd h2 (h.2.2 l (List.mem_cons_self ..))⟩
    ·rw [if_neg h2, lallF_zero r (pre ++ [l])]
     constructor
     ·rintro ⟨a, b, c⟩
      refine ⟨fun x hx => ?_, ?_, fun x hx => ?_⟩
      ·rcases List.mem_cons.1 hx with rfl | hx
       ·exact h1
       ·exact a x hx
      ·rw [List.map_cons, List.nodup_cons]
       refine ⟨fun hm => ?_, b⟩
       obtain ⟨y, hy, e⟩ := List.mem_map.1 hm
       exact c y hy (by rw [List.map_append, List.mem_append]; exact .inr (by rw [e]; simp))
      ·rcases List.mem_cons.1 hx with rfl | hx
       ·exact h2
       ·exact fun hm => c x hx (by rw [List.map_append, List.mem_append]; exact .inl hm)
     ·rintro ⟨a, b, c⟩
      rw [List.map_cons, List.nodup_cons] at b
      refine ⟨fun x hx => a x (List.mem_cons_of_mem _ hx), b.2, fun x hx hm => ?_⟩
      rw [List.map_append, List.mem_append] at hm
      rcases hm with hm | hm
      ·exact c x (List.mem_cons_of_mem _ hx) hm
      ·simp at hm
       exact b.1 (List.mem_map.2 ⟨x, hx, hm⟩)
   ·rw [if_pos h1]
    exact ⟨fun h => absurd h h1, fun h => absurd (h.1 l (List.mem_cons_self ..)) h1⟩
theorem lall_zero (ls : List Lot) : lall ls = 0 ↔ AllOk ls := by
 unfold lall
 by_cases h : 1000 < ls.length
 ·rw [if_pos h]; exact ⟨fun x => absurd x (by decide), fun x => absurd x.len (by omega)⟩
 ·rw [if_neg h, lallF_zero]
  exact ⟨fun x => ⟨by omega, x.1, x.2.1⟩, fun x => ⟨x.ok, x.nd, by simp⟩⟩
theorem RdB'.below {n₀ : Nat} {w w' : World} {A : Option Addr} {ls : List Lot} (h : RdB' n₀ w A ls) (hb : Below n₀ w w') : RdB' n₀ w' A ls := by
 intro hl
 obtain ⟨ad, rfl, h1, h2⟩ := h hl
 exact ⟨ad, rfl, h1, fun j l hj => (h2 j l hj).below hb (by rw [add_block]; exact h1)⟩
theorem RdB'.rdl {n₀ : Nat} {w : World} {A : Option Addr} {ls : List Lot} (h : RdB' n₀ w A ls) (hn : n₀ ≤ w.heap.size) : RdL w A ls := by
 intro hl
 obtain ⟨ad, rfl, h1, h2⟩ := h hl
 exact ⟨ad, rfl, Nat.lt_of_lt_of_le h1 hn, h2⟩
theorem findClo_any (id : ByteArray) (B : Nat) (l : Lot) (w : World) (h : w.heap[B]? = some (.cells #[.string id] 9 (0, 0))) :
 Calls Tryz.prog 86 #[l.enc, .pointer (some ⟨B, 0, none⟩)] w fun e w' => e = .returned (.bool (decide (l.id = id))) ∧ Below w.heap.size w w' := by
 have hBl := (Array.getElem?_eq_some_iff.1 h).1
 obtain ⟨W0, hW0⟩ : ∃ W0, w.alloc (.cells l.cells 49) = W0 := ⟨_, rfl⟩
 have hb : Below w.heap.size w W0 := by rw [← hW0]; exact (Below.refl _ w).alloc (Nat.le_refl _) _
 have k1 : LotBox W0 w.heap.size l := by rw [← hW0]; exact heap_alloc_new w _
 have k0 : W0.heap[B]? = some (.cells #[.string id] 9 (0, 0)) := (hb.block B hBl).trans h
 have c0 := Lib.cell_of_heap k0 0
 have d0 := Lib.cell_of_heap k1 0
 simp [Lot.cells] at c0 d0
 have hse := str_eq l.id id
 have HB := hI hb
 clear k0 k1 h hb hBl
 unfold Lot.cells at hW0
 unfold Lot.enc Lot.cells
 go_enter Tryz.func86, Tryz.ntmps86
 go_wp2_with fail
 go_ret
 exact ⟨rfl, HB.out⟩
theorem idxLots_any (n₀ : Nat) (A : Option Addr) (ls : List Lot) (c B : Nat) (id : ByteArray) (hlen : ls.length ≤ 1000000) (w : World) (hR : RdB' n₀ w A ls) (hn : n₀ ≤ w.heap.size) (hx : w.heap[B]? = some (.cells #[.string id] 9 (0, 0))) :
 Calls Tryz.prog 85 #[.slice A ls.length c, .func (.func 86) #[] #[.pointer (some ⟨B, 0, none⟩)]] w fun e w' => (∃ z : Int, e = .returned (.int .i64 z) ∧ ((findR ls id 0).2 = true → z = ((findR ls id 0).1 : Int)) ∧ ((findR ls id 0).2 = false → z = -1)) ∧ Below w.heap.size w w' := by
 have hBl := (Array.getElem?_eq_some_iff.1 hx).1
 have HR := hI hR
 have HX := hI (And.intro hBl hx)
 clear hR hx hBl
 go_enter Tryz.func85, Tryz.ntmps85
 go_wp2_with fail
 go_loopw [5, 8] (fun _ v wr => ∃ k : Nat, v = .int .i64 (k : Int) ∧ k ≤ ls.length ∧ (∀ x ∈ ls.take k, x.id ≠ id) ∧ Below w.heap.size w wr) (fun _ v _ => ls.length - (intOf v).toNat)
 case atStart => exact ⟨0, rfl, by omega, fun p hp => by simp at hp, Below.refl _ _⟩
 case round =>
  obtain ⟨k, rfl, hk, hno, hb⟩ := hrel
  have HNO := hI hno
  have HB := hI hb
  clear hno hb
  rcases Nat.lt_or_ge k ls.length with hlt | hge
  ·obtain ⟨l, hl⟩ : ∃ l, ls[k]? = some l := ⟨_, List.getElem?_eq_getElem hlt⟩
   obtain ⟨ad, rfl, had, hcell⟩ := HR.out (by intro e; rw [e] at hlt; cases hlt)
   have hcx : decide ((k : Int) < (ls.length : Int)) = true := by simp; omega
   obtain ⟨c0, c1, c2, c3, c4, c5, c6⟩ := (hcell k l hl).below (HB.out.mono hn) (by rw [add_block]; exact had)
   have HTK := hI (take_snoc hl)
   have hcl := fun W (hW : Below w.heap.size w W) => findClo_any id B l W ((hW.block B HX.out.1).trans HX.out.2)
   unfold Lot.enc Lot.cells at hcl
   have HCL := hI hcl
   clear hcell hcl
   have HL := hI hl
   clear hl
   go_wp2_with fail
   refine (HCL.out _ HB.out).mono ?_
   rintro e w1 ⟨rfl, b1⟩
   have HB1 := hI (HB.out.trans (b1.mono HB.out.size))
   clear b1 HCL c0 c1 c2 c3 c4 c5 c6
   by_cases he : l.id = id
   ·rw [decide_eq_true he]
    have HF : Hid (findR ls id 0 = (k, true)) := by
     have h := findR_hit (ls := ls) (m := ls.length) hlt (Nat.le_refl _) HTK.out HNO.out he
     rwa [List.take_of_length_le (Nat.le_refl _)] at h
    clear he
    go_wp2_with fail
    go_ret
    exact ⟨⟨_, rfl, (fun _ => by rw [HF.out]), (fun h => by rw [HF.out] at h; cases h)⟩, HB1.out⟩
   ·rw [decide_eq_false he]
    have HE := hI he
    clear he
    go_wp2_with fail
    go_roundw
    case rel =>
     refine ⟨k + 1, by go_num, by omega, fun x hx => ?_, HB1.out⟩
     rw [HTK.out, List.mem_append] at hx
     rcases hx with hx | hx
     ·exact HNO.out x hx
     ·rw [List.mem_singleton] at hx; subst hx; exact HE.out
    case measure => simp [intOf]; omega
  ·have hcx : decide ((k : Int) < (ls.length : Int)) = false := by simp; omega
   have HF : Hid (findR ls id 0 = (0, false)) := findR_none (fun x hx => HNO.out x (by rw [List.take_of_length_le hge]; exact hx)) 0
   go_wp2_with fail
   go_ret
   exact ⟨⟨_, rfl, (fun h => by rw [HF.out] at h; cases h), (fun _ => rfl)⟩, HB.out⟩
theorem lFind_any (n₀ : Nat) (A : Option Addr) (ls : List Lot) (c : Nat) (id : ByteArray) (hlen : ls.length ≤ 1000000) (w : World) (hR : RdB' n₀ w A ls) (hn : n₀ ≤ w.heap.size) :
 Calls Tryz.prog 24 #[.slice A ls.length c, .string id] w fun e w' => e = .returned (.tuple #[.int .i64 ((findR ls id 0).1 : Int), .bool (findR ls id 0).2]) ∧ Below w.heap.size w w' := by
 obtain ⟨W0, hW0⟩ : ∃ W0, w.alloc (.cells #[.string id] 9) = W0 := ⟨_, rfl⟩
 have hb : Below w.heap.size w W0 := by rw [← hW0]; exact (Below.refl _ w).alloc (Nat.le_refl _) _
 have k1 : W0.heap[w.heap.size]? = some (.cells #[.string id] 9 (0, 0)) := by rw [← hW0]; exact heap_alloc_new w _
 have HI := hI (idxLots_any n₀ A ls c w.heap.size id hlen W0 (hR.below (hb.mono hn)) (Nat.le_trans hn hb.size) k1)
 have HB := hI hb
 have HZ : Hid ((findR ls id 0).2 = false → (findR ls id 0).1 = 0) := fun h => by rw [findR_none (findR_false ls id 0 h)]
 clear hR k1 hb
 go_enter Tryz.func24, Tryz.ntmps24
 go_wp2_with fail
 refine HI.out.mono ?_
 rintro e w1 ⟨⟨z, rfl, hz1, hz2⟩, b1⟩
 have HB1 := hI (HB.out.trans (b1.mono HB.out.size))
 clear b1
 generalize hf : findR ls id 0 = fr at hz1 hz2 HZ
 obtain ⟨k, b⟩ := fr
 have HFR := hI hf
 clear hf
 cases b
 ·obtain rfl := hz2 rfl
  obtain rfl : k = 0 := HZ.out rfl
  go_wp2_with fail
  go_ret2
  exact ⟨by rw [HFR.out]; rfl, HB1.out⟩
 ·obtain rfl := hz1 rfl
  have t1 : decide ((0 : Int) ≤ (k : Int)) = true := decide_eq_true (by omega)
  have t2 : decide ((k : Int) ≥ 0) = true := t1
  go_wp2_with fail
  go_ret2
  exact ⟨by rw [HFR.out]; rfl, HB1.out⟩
theorem step_store_run {P : Program} {ops : Array Oper} {o : Oper} {a : Act} {K : Act → World → Prop} {Q : Exit → Act → World → Prop} {E : Prop} {t : TypeId} {pv xv : Value} {w w' : World} (hr : (Instr.storeAt t pv xv).run P w = .ok () w') (hgd : o.guard = none) (p x : Operand)
 (ho : o.op = .store t p x) (hp : a.eval p = pv) (hx : a.eval x = xv) (h : K (a.put o.dst undef) w') :
 if Region.wanted o (yielded ops a.tmps) = true then Oper.wp P o a w K Q else E := by
 have hw : Region.wanted o (yielded ops a.tmps) = true := by simp [Region.wanted, hgd]
 rw [if_pos hw]
 unfold Oper.wp execOp
 simp only [ho, hp, hx, Sem.run_bind, Sem.run_pure, Result.andThen_ok, hr]
 exact h
def flatV (ls : List Lot) : List Value := ls.flatMap fun x => x.cells.toList
theorem flatV_nil : flatV [] = [] := rfl
theorem flatV_append (a b : List Lot) : flatV (a ++ b) = flatV a ++ flatV b := by simp [flatV]
theorem flatV_cons (x : Lot) (a : List Lot) : flatV (x :: a) = x.cells.toList ++ flatV a := by simp [flatV]
theorem flatV_len (ls : List Lot) : (flatV ls).length = ls.length * 7 := by
 induction ls with
 | nil => rfl
 | cons x r ih => rw [flatV_cons, List.length_append, ih, List.length_cons]; simp; omega
theorem flatV_one (ls : List Lot) : ∀ u ∈ flatV ls, u.oneCell' = true := by
 intro u hu
 obtain ⟨x, _, hx⟩ := List.mem_flatMap.1 hu
 exact lotcells_one x u hx
theorem flatV_val (ls : List SLot) : flatV (ls.map Subtype.val) = flatL ls := by unfold flatV flatL; rw [List.flatMap_map]
theorem splitL {α : Type} {D : List α} {k : Nat} {x : α} (h : D[k]? = some x) : ∃ P Q, D = P ++ x :: Q ∧ P.length = k := by
 obtain ⟨hk, he⟩ := List.getElem?_eq_some_iff.1 h
 refine ⟨D.take k, D.drop (k + 1), ?_, by rw [List.length_take]; omega⟩
 rw [← he, ← List.drop_eq_getElem_cons hk, List.take_append_drop]
structure SRow (V : Lot → Prop) (w0 : World) (g : Nat) (sp : List Value) (D : List Lot) (W : World) : Prop where
 row : W.heap[g]? = some (.cells (flatV D ++ sp).toArray 49 (0, 0))
 ok : ∀ x ∈ D, V x
 gr : w0.grownBy W (some g)
 lt : g < w0.heap.size
section
variable {V : Lot → Prop} {w0 W W' : World} {g k : Nat} {sp : List Value} {D : List Lot} {x : Lot}
theorem SRow.ltW (h : SRow V w0 g sp D W) : g < W.heap.size := Nat.lt_of_lt_of_le h.lt h.gr.size
theorem SRow.below (h : SRow V w0 g sp D W) (hb : Below W.heap.size W W') : SRow V w0 g sp D W' :=
 ⟨(hb.block g h.ltW).trans h.row, h.ok, ⟨hb.os.trans h.gr.os, hb.tape.trans h.gr.tape, hb.output.trans h.gr.output, Nat.le_trans h.gr.size hb.size, fun k hk hne => (hb.block k (Nat.lt_of_lt_of_le hk h.gr.size)).trans (h.gr.block k hk hne)⟩, h.lt⟩
theorem SRow.drew (h : SRow V w0 g sp D W) : SRow V w0 g sp D W.drew := h.below (Below.refl _ _).drew
theorem SRow.at (h : SRow V w0 g sp D W) (hk : D[k]? = some x) : LotAt W ⟨g, k * 7, none⟩ x := by
 obtain ⟨P, Q, rfl, hP⟩ := splitL hk
 have hl : (flatV P).length = k * 7 := by rw [flatV_len, hP]
 have hc : ∀ f u, f < 7 → x.cells.toList[f]? = some u → W.cell? ⟨g, k * 7 + f, none⟩ = some u := fun f u hf hu => by
  rw [Lib.cell_of_heap h.row (k * 7 + f), List.getElem?_toArray, flatV_append, flatV_cons, List.append_assoc, List.getElem?_append_right (by omega), hl, Nat.add_sub_cancel_left, List.append_assoc, List.getElem?_append_left (by exact hf)]
  exact hu
 exact ⟨hc 0 _ (by omega) rfl, hc 1 _ (by omega) rfl, hc 2 _ (by omega) rfl, hc 3 _ (by omega) rfl, hc 4 _ (by omega) rfl, hc 5 _ (by omega) rfl, hc 6 _ (by omega) rfl⟩
theorem adk {ad : Addr} (had : ad = ⟨g, 0, none⟩) (n : Nat) : ad.add n = ⟨g, n, none⟩ := by
 rw [had, add_none _ rfl]; simp
theorem SRow.at' {ad : Addr} (h : SRow V w0 g sp D W) (had : ad = ⟨g, 0, none⟩) (hk : D[k]? = some x) : LotAt W (ad.add (k * 7)) x := by
 rw [adk had]; exact h.at hk
theorem SRow.put (h : SRow V w0 g sp D W) (hk : D[k]? = some x) {y : Lot} (hy : V y) : SRow V w0 g sp (D.set k y) (W.setRow g (flatV (D.set k y) ++ sp).toArray) := by
 refine ⟨setRow_heap _ g _ _ _ _ h.row, fun z hz => ?_, ⟨h.gr.os, h.gr.tape, h.gr.output, by simp [World.setRow]; exact h.gr.size, fun j hj hne => ?_⟩, h.lt⟩
 ·rcases List.mem_or_eq_of_mem_set hz with hz | rfl
  ·exact h.ok z hz
  ·exact hy
 ·rw [setRow_other _ g j _ (fun e => hne (by rw [e]))]
  exact h.gr.block j hj hne
theorem SRow.st {ad : Addr} (h : SRow V w0 g sp D W) (had : ad = ⟨g, 0, none⟩) (hk : D[k]? = some x) {y : Lot} (hy : V y) :
 ∃ wn, (Instr.storeAt 49 (.pointer (some (ad.add (k * 7)))) (.agg #[.string y.id, .string y.inst, .int .i64 y.acq, .int .i64 y.opn, .string y.qty, .string y.cost, .string y.used])).run Tryz.prog W = .ok () wn ∧ SRow V w0 g sp (D.set k y) wn := by
 refine ⟨_, ?_, h.put hk hy⟩
 have hz : (sizeOf 49).run Tryz.prog W = .ok 7 W := by kernel_rfl
 have hkl := (List.getElem?_eq_some_iff.1 hk).1
 have hs := run_storeCells_at Tryz.prog g (k * 7) 49 y.cells.toList 0 _ W h.row (by simp [flatV_len]; omega) (lotcells_one y)
 rw [adk had]
 obtain ⟨P, Q, hD, hP⟩ := splitL hk
 have hl : (flatV P).length = k * 7 := by rw [flatV_len, hP]
 have e1 : (flatV D ++ sp).take (k * 7) = flatV P := by
  rw [hD, flatV_append, List.append_assoc, ← hl, List.take_left]
 have e2 : (flatV D ++ sp).drop (k * 7 + 7) = flatV Q ++ sp := by
  rw [hD, flatV_append, flatV_cons, show flatV P ++ (x.cells.toList ++ flatV Q) ++ sp = (flatV P ++ x.cells.toList) ++ (flatV Q ++ sp) from by simp, show k * 7 + 7 = (flatV P ++ x.cells.toList).length from by rw [List.length_append, hl]; rfl, List.drop_left]
 have e3 : flatV (D.set k y) ++ sp = flatV P ++ y.cells.toList ++ (flatV Q ++ sp) := by
  rw [hD, set_mid' hP, flatV_append, flatV_cons]; simp
 rw [Nat.add_zero, show y.cells.toList.length = 7 from rfl, e1, e2, ← e3] at hs
 unfold Instr.storeAt storeVar
 simp only [Sem.run_bind, Instr.sureAddr, Sem.run_pure, Result.andThen_ok, hz]
 rw [if_neg (by show ¬ (7 : Nat) ≠ 7; exact fun h => h rfl)]
 exact hs
theorem SRow.same (h : SRow V w0 g sp D W) {D' : List Lot} (e : D = D') : SRow V w0 g sp D' W := e ▸ h
end
structure CmpS (V : Lot → Prop) (cf : Lot → Lot → Int) (f : Nat) (bd : Array Value) (w0 : World) (g : Nat) : Prop where
 en : ∀ args w, (callFunc f args).run Tryz.prog w = .ok (.enter f args) w
 run : ∀ W, w0.grownBy W (some g) → ∀ a b, V a → V b → Calls Tryz.prog f (#[a.enc, b.enc] ++ bd) W fun e w' => e = .returned (.int .i64 (cf a b)) ∧ Below W.heap.size W w'
theorem CmpS.at {V : Lot → Prop} {cf : Lot → Lot → Int} {f : Nat} {bd : Array Value} {w0 : World} {g : Nat} (h : CmpS V cf f bd w0 g) {sp : List Value} {D : List Lot} {x y : Lot} (hx : V x) (hy : V y) : ∀ W, SRow V w0 g sp D W →
 Calls Tryz.prog f (#[.agg #[.string x.id, .string x.inst, .int .i64 x.acq, .int .i64 x.opn, .string x.qty, .string x.cost, .string x.used], .agg #[.string y.id, .string y.inst, .int .i64 y.acq, .int .i64 y.opn, .string y.qty, .string y.cost, .string y.used]] ++ bd) W fun e w' => e = .returned (.int .i64 (cf x y)) ∧ Below W.heap.size W w' :=
 fun W hW => h.run W hW.gr x y hx hy
structure SWV (V : Lot → Prop) (w0 : World) (g : Nat) (sp : List Value) (D : List Lot) (ad : Addr) (N c : Nat) (f : Nat) (bd : Array Value) (a_ b_ n_ i_ u_ v_ : Nat) (x y : Lot)  (L : Array Bool) (W : World) (s16 s17 s18 s19 s20 s21 s22 s23 s24 s25 s26 s27 s28 s29 s30 s31 s32 s33 s34 s35 s36 s37 : Value) : Prop where
 k0 : L.getD 0 false = true → s16 = .slice (some ad) N c
 k1 : L.getD 1 false = true → s17 = .int .i64 (a_ : Int)
 k2 : L.getD 2 false = true → s18 = .int .i64 (i_ : Int)
 k3 : L.getD 3 false = true → s19 = .int .i64 (u_ : Int)
 k4 : L.getD 4 false = true → s20 = .slice (some ad) N c
 k5 : L.getD 5 false = true → s21 = .int .i64 (b_ : Int)
 k6 : L.getD 6 false = true → s22 = .int .i64 (i_ : Int)
 k7 : L.getD 7 false = true → s23 = .int .i64 (v_ : Int)
 k8 : L.getD 8 false = true → s24 = .slice (some ad) N c
 k9 : L.getD 9 false = true → s25 = .int .i64 (b_ : Int)
 k10 : L.getD 10 false = true → s26 = .int .i64 (i_ : Int)
 k11 : L.getD 11 false = true → s27 = .int .i64 (v_ : Int)
 k12 : L.getD 12 false = true → s28 = .pointer (some (ad.add (v_ * 7)))
 k13 : L.getD 13 false = true → s29 = .agg #[.string y.id, .string y.inst, .int .i64 y.acq, .int .i64 y.opn, .string y.qty, .string y.cost, .string y.used]
 k14 : L.getD 14 false = true → s30 = .slice (some ad) N c
 k15 : L.getD 15 false = true → s31 = .int .i64 (a_ : Int)
 k16 : L.getD 16 false = true → s32 = .int .i64 (i_ : Int)
 k17 : L.getD 17 false = true → s33 = .int .i64 (u_ : Int)
 k18 : L.getD 18 false = true → s34 = .pointer (some (ad.add (u_ * 7)))
 k19 : L.getD 19 false = true → s35 = .agg #[.string x.id, .string x.inst, .int .i64 x.acq, .int .i64 x.opn, .string x.qty, .string x.cost, .string x.used]
 k20 : L.getD 20 false = true → s36 = .pointer (some (ad.add (u_ * 7)))
 k22 : L.getD 22 false = true → s37 = .pointer (some (ad.add (v_ * 7)))
 r0 : L.getD 21 false = false → SRow V w0 g sp D W
 r1 : L.getD 21 false = true → L.getD 23 false = false → SRow V w0 g sp (D.set u_ y) W
 r2 : L.getD 23 false = true → SRow V w0 g sp ((D.set u_ y).set v_ x) W
 q1 : L.getD 21 false = true → L.getD 19 false = true ∧ L.getD 13 false = true
 q2 : L.getD 23 false = true → L.getD 21 false = true
structure SWJ (V : Lot → Prop) (w0 : World) (g : Nat) (sp : List Value) (D : List Lot) (ad : Addr) (N c : Nat) (f : Nat) (bd : Array Value) (a_ b_ n_ i_ u_ v_ : Nat) (x y : Lot) (x5 x6 x7 x8 x9 x11 x12 x13 x14 x15 : Value) (L : Array Bool) (a : Act) (W : World) : Prop where
 sz : L.size = 24
 fr : ∃ s16 s17 s18 s19 s20 s21 s22 s23 s24 s25 s26 s27 s28 s29 s30 s31 s32 s33 s34 s35 s36 s37 : Value, a = { tmps := #[.slice (some ad) N c, .int .i64 (a_ : Int), .int .i64 (b_ : Int), .int .i64 (n_ : Int), .func (.func f) #[] bd, x5, x6, x7, x8, x9, .int .i64 (i_ : Int), x11, x12, x13, x14, x15, s16, s17, s18, s19, s20, s21, s22, s23, s24, s25, s26, s27, s28, s29, s30, s31, s32, s33, s34, s35, s36, s37], defers := [] } ∧ SWV V w0 g sp D ad N c f bd a_ b_ n_ i_ u_ v_ x y  L W s16 s17 s18 s19 s20 s21 s22 s23 s24 s25 s26 s27 s28 s29 s30 s31 s32 s33 s34 s35 s36 s37
theorem swapR_any (V : Lot → Prop) (w0 : World) (g N c a b n f : Nat) (bd : Array Value) (sp : List Value) (D0 : List Lot) (hN : D0.length = N) (hm : N ≤ 1000000) (ha : a + n ≤ N) (hb : b + n ≤ N) (hab : a + n ≤ b ∨ b + n ≤ a) (w : World) (hrow : SRow V w0 g sp D0 w) :
 Calls Tryz.prog 282 #[.slice (some ⟨g, 0, none⟩) N c, .int .i64 (a : Int), .int .i64 (b : Int), .int .i64 (n : Int), .func (.func f) #[] bd] w fun e w' => e = .returned (.tuple #[]) ∧ SRow V w0 g sp (swR D0 a b n) w' := by
 obtain ⟨ad, had⟩ : ∃ ad : Addr, ad = ⟨g, 0, none⟩ := ⟨_, rfl⟩
 rw [← had]
 have HAD := hI had
 have HROW := hI hrow
 have HNN := hI hN
 clear had hrow hN
 go_enter Tryz.func282, Tryz.ntmps282
 go_wp2_with fail
 go_loopw [10] (fun v wr => ∃ (i : Nat) (D : List Lot), v = .int .i64 (i : Int) ∧ i ≤ n ∧ D = swR D0 a b i ∧ SRow V w0 g sp D wr) (fun v _ => n - (intOf v).toNat)
 case atStart => exact ⟨0, D0, rfl, by omega, rfl, HROW.out⟩
 case round =>
  obtain ⟨i, D, rfl, hi, hD, hr⟩ := hrel
  have HR := hI hr
  have HSW : Hid (D = swR D0 a b i) := hD
  have hlen : D.length = N := by rw [hD, swR_len, HNN.out]
  clear hr hD
  rcases Nat.lt_or_ge i n with hlt | hge
  ·have hcx : decide ((i : Int) < (n : Int)) = true := by simp; omega
   obtain ⟨u, hu⟩ : ∃ u, u = a + i := ⟨_, rfl⟩
   obtain ⟨v, hv⟩ : ∃ v, v = b + i := ⟨_, rfl⟩
   have HW_u : Hid (IntKind.i64.wrap ((a : Int) + (i : Int)) = (u : Int)) := by rw [Hid, IntKind.wrap_i64]; omega
   have HW_v : Hid (IntKind.i64.wrap ((b : Int) + (i : Int)) = (v : Int)) := by rw [Hid, IntKind.wrap_i64]; omega
   have HL_u : Hid ((u : Int) < (N : Int)) := by show (u : Int) < _; omega
   have HL_v : Hid ((v : Int) < (N : Int)) := by show (v : Int) < _; omega
   obtain ⟨x, hx⟩ : ∃ x, D[u]? = some x := ⟨_, List.getElem?_eq_getElem (by omega)⟩
   obtain ⟨y, hy⟩ : ∃ y, D[v]? = some y := ⟨_, List.getElem?_eq_getElem (by omega)⟩
   have HX : Hid (D[u]? = some x) := hx
   have HY : Hid (D[v]? = some y) := hy
   have HYV : Hid ((D.set u y)[v]? = some y) := by rw [Hid, List.getElem?_set_ne (by omega)]; exact hy
   have HVX : Hid (V x) := HR.out.ok x (List.mem_of_getElem? hx)
   have HVY : Hid (V y) := HR.out.ok y (List.mem_of_getElem? hy)
   have HSW : Hid (swp (swR D0 a b i) (a + i) (b + i) = swp D u v) := by rw [Hid, HSW.out, hu, hv]
   have hrow0 := HR.out.drew
   clear hx hy hu hv hlen
   go_upto_region 3 with fail
   have mixed : Tryz.prog.follows .mixedOrders = true := by kernel_rfl
   refine wp_region_any mixed (wpAny_inv (SWJ V w0 g sp D ad N c f bd a b n i u v x y _ _ _ _ _ _ _ _ _ _) ?stSW ?dnSW _ _ _ _ ⟨by simp, ⟨_, _, _, _, _, _, _, _, _, _, _, _, _, _, _, _, _, _, _, _, _, _, rfl, fun h => by simp at h, fun h => by simp at h, fun h => by simp at h, fun h => by simp at h, fun h => by simp at h, fun h => by simp at h, fun h => by simp at h, fun h => by simp at h, fun h => by simp at h, fun h => by simp at h, fun h => by simp at h, fun h => by simp at h, fun h => by simp at h, fun h => by simp at h, fun h => by simp at h, fun h => by simp at h, fun h => by simp at h, fun h => by simp at h, fun h => by simp at h, fun h => by simp at h, fun h => by simp at h, fun h => by simp at h, fun _ => hrow0, fun h => by simp at h, fun h => by simp at h, fun h => by simp at h, fun h => by simp at h⟩⟩ (by decide))
   case dnSW =>
    intro L a w' hj hr
    have all := all_on hr hj.sz (by kernel_rfl)
    obtain ⟨s16, s17, s18, s19, s20, s21, s22, s23, s24, s25, s26, s27, s28, s29, s30, s31, s32, s33, s34, s35, s36, s37, rfl, hv⟩ := hj.fr
    have HRW := hI (hv.r2 (all 23 (by omega)))
    clear all hv hj hr
    go_wp2_with fail
    go_roundw
    case rel =>
     refine ⟨i + 1, _, by go_num, by omega, ?_, HRW.out⟩
     rw [swR, HSW.out]; exact (swp_at HX.out HY.out).symm
    case measure => simp [intOf]; omega
   case stSW =>
    intro L a w' hj i hi
    obtain ⟨hun, o, ho, hall⟩ := mem_ready.1 hi
    have hoff := getD_off hun
    have hlt := (Array.getElem?_eq_some_iff.1 ho).1
    simp at hlt
    obtain ⟨s16, s17, s18, s19, s20, s21, s22, s23, s24, s25, s26, s27, s28, s29, s30, s31, s32, s33, s34, s35, s36, s37, rfl, hv⟩ := hj.fr
    have HV := hI hv
    have HJ := hI hj
    clear hv hj
    rcases (show i = 0 ∨ i = 1 ∨ i = 2 ∨ i = 3 ∨ i = 4 ∨ i = 5 ∨ i = 6 ∨ i = 7 ∨ i = 8 ∨ i = 9 ∨ i = 10 ∨ i = 11 ∨ i = 12 ∨ i = 13 ∨ i = 14 ∨ i = 15 ∨ i = 16 ∨ i = 17 ∨ i = 18 ∨ i = 19 ∨ i = 20 ∨ i = 21 ∨ i = 22 ∨ i = 23 from by omega) with rfl | rfl | rfl | rfl | rfl | rfl | rfl | rfl | rfl | rfl | rfl | rfl | rfl | rfl | rfl | rfl | rfl | rfl | rfl | rfl | rfl | rfl | rfl | rfl
    ·simp at ho
     subst ho
     clear hall hi
     refine wpOp_hid rfl fun K' HK => ?_
     go_simp
     cases HV.out
     refine HK.out _ _ ⟨by simp [HJ.out.sz], ⟨_, _, _, _, _, _, _, _, _, _, _, _, _, _, _, _, _, _, _, _, _, _, rfl, fun _ => rfl, ?_, ?_, ?_, ?_, ?_, ?_, ?_, ?_, ?_, ?_, ?_, ?_, ?_, ?_, ?_, ?_, ?_, ?_, ?_, ?_, ?_, fun h => HV.out.r0 (Dz h), fun h i => HV.out.r1 (Uz h) (Dz i), ?_, fun h => ⟨getD_up hun (HV.out.q1 (Uz h)).1, getD_up hun (HV.out.q1 (Uz h)).2⟩, fun h => getD_up hun (HV.out.q2 (Uz h))⟩⟩
     all_goals exact Um (by assumption)
    ·simp at ho
     subst ho
     clear hall hi
     refine wpOp_hid rfl fun K' HK => ?_
     go_simp
     cases HV.out
     refine HK.out _ _ ⟨by simp [HJ.out.sz], ⟨_, _, _, _, _, _, _, _, _, _, _, _, _, _, _, _, _, _, _, _, _, _, rfl, ?_, fun _ => rfl, ?_, ?_, ?_, ?_, ?_, ?_, ?_, ?_, ?_, ?_, ?_, ?_, ?_, ?_, ?_, ?_, ?_, ?_, ?_, ?_, fun h => HV.out.r0 (Dz h), fun h i => HV.out.r1 (Uz h) (Dz i), ?_, fun h => ⟨getD_up hun (HV.out.q1 (Uz h)).1, getD_up hun (HV.out.q1 (Uz h)).2⟩, fun h => getD_up hun (HV.out.q2 (Uz h))⟩⟩
     all_goals exact Um (by assumption)
    ·simp at ho
     subst ho
     clear hall hi
     refine wpOp_hid rfl fun K' HK => ?_
     go_simp
     cases HV.out
     refine HK.out _ _ ⟨by simp [HJ.out.sz], ⟨_, _, _, _, _, _, _, _, _, _, _, _, _, _, _, _, _, _, _, _, _, _, rfl, ?_, ?_, fun _ => rfl, ?_, ?_, ?_, ?_, ?_, ?_, ?_, ?_, ?_, ?_, ?_, ?_, ?_, ?_, ?_, ?_, ?_, ?_, ?_, fun h => HV.out.r0 (Dz h), fun h i => HV.out.r1 (Uz h) (Dz i), ?_, fun h => ⟨getD_up hun (HV.out.q1 (Uz h)).1, getD_up hun (HV.out.q1 (Uz h)).2⟩, fun h => getD_up hun (HV.out.q2 (Uz h))⟩⟩
     all_goals exact Um (by assumption)
    ·simp at ho
     subst ho
     have H1 := Hq hall 1
     have H2 := Hq hall 2
     clear hall hi
     have e0 := HV.out.k1 H1.out
     subst e0
     have e1 := HV.out.k2 H2.out
     subst e1
     have h0 := HW_u.out
     refine wpOp_hid rfl fun K' HK => ?_
     go_simp
     cases HV.out
     refine HK.out _ _ ⟨by simp [HJ.out.sz], ⟨_, _, _, _, _, _, _, _, _, _, _, _, _, _, _, _, _, _, _, _, _, _, rfl, ?_, ?_, ?_, fun _ => rfl, ?_, ?_, ?_, ?_, ?_, ?_, ?_, ?_, ?_, ?_, ?_, ?_, ?_, ?_, ?_, ?_, ?_, ?_, fun h => HV.out.r0 (Dz h), fun h i => HV.out.r1 (Uz h) (Dz i), ?_, fun h => ⟨getD_up hun (HV.out.q1 (Uz h)).1, getD_up hun (HV.out.q1 (Uz h)).2⟩, fun h => getD_up hun (HV.out.q2 (Uz h))⟩⟩
     all_goals exact Um (by assumption)
    ·simp at ho
     subst ho
     clear hall hi
     refine wpOp_hid rfl fun K' HK => ?_
     go_simp
     cases HV.out
     refine HK.out _ _ ⟨by simp [HJ.out.sz], ⟨_, _, _, _, _, _, _, _, _, _, _, _, _, _, _, _, _, _, _, _, _, _, rfl, ?_, ?_, ?_, ?_, fun _ => rfl, ?_, ?_, ?_, ?_, ?_, ?_, ?_, ?_, ?_, ?_, ?_, ?_, ?_, ?_, ?_, ?_, ?_, fun h => HV.out.r0 (Dz h), fun h i => HV.out.r1 (Uz h) (Dz i), ?_, fun h => ⟨getD_up hun (HV.out.q1 (Uz h)).1, getD_up hun (HV.out.q1 (Uz h)).2⟩, fun h => getD_up hun (HV.out.q2 (Uz h))⟩⟩
     all_goals exact Um (by assumption)
    ·simp at ho
     subst ho
     clear hall hi
     refine wpOp_hid rfl fun K' HK => ?_
     go_simp
     cases HV.out
     refine HK.out _ _ ⟨by simp [HJ.out.sz], ⟨_, _, _, _, _, _, _, _, _, _, _, _, _, _, _, _, _, _, _, _, _, _, rfl, ?_, ?_, ?_, ?_, ?_, fun _ => rfl, ?_, ?_, ?_, ?_, ?_, ?_, ?_, ?_, ?_, ?_, ?_, ?_, ?_, ?_, ?_, ?_, fun h => HV.out.r0 (Dz h), fun h i => HV.out.r1 (Uz h) (Dz i), ?_, fun h => ⟨getD_up hun (HV.out.q1 (Uz h)).1, getD_up hun (HV.out.q1 (Uz h)).2⟩, fun h => getD_up hun (HV.out.q2 (Uz h))⟩⟩
     all_goals exact Um (by assumption)
    ·simp at ho
     subst ho
     clear hall hi
     refine wpOp_hid rfl fun K' HK => ?_
     go_simp
     cases HV.out
     refine HK.out _ _ ⟨by simp [HJ.out.sz], ⟨_, _, _, _, _, _, _, _, _, _, _, _, _, _, _, _, _, _, _, _, _, _, rfl, ?_, ?_, ?_, ?_, ?_, ?_, fun _ => rfl, ?_, ?_, ?_, ?_, ?_, ?_, ?_, ?_, ?_, ?_, ?_, ?_, ?_, ?_, ?_, fun h => HV.out.r0 (Dz h), fun h i => HV.out.r1 (Uz h) (Dz i), ?_, fun h => ⟨getD_up hun (HV.out.q1 (Uz h)).1, getD_up hun (HV.out.q1 (Uz h)).2⟩, fun h => getD_up hun (HV.out.q2 (Uz h))⟩⟩
     all_goals exact Um (by assumption)
    ·simp at ho
     subst ho
     have H5 := Hq hall 5
     have H6 := Hq hall 6
     clear hall hi
     have e0 := HV.out.k5 H5.out
     subst e0
     have e1 := HV.out.k6 H6.out
     subst e1
     have h0 := HW_v.out
     refine wpOp_hid rfl fun K' HK => ?_
     go_simp
     cases HV.out
     refine HK.out _ _ ⟨by simp [HJ.out.sz], ⟨_, _, _, _, _, _, _, _, _, _, _, _, _, _, _, _, _, _, _, _, _, _, rfl, ?_, ?_, ?_, ?_, ?_, ?_, ?_, fun _ => rfl, ?_, ?_, ?_, ?_, ?_, ?_, ?_, ?_, ?_, ?_, ?_, ?_, ?_, ?_, fun h => HV.out.r0 (Dz h), fun h i => HV.out.r1 (Uz h) (Dz i), ?_, fun h => ⟨getD_up hun (HV.out.q1 (Uz h)).1, getD_up hun (HV.out.q1 (Uz h)).2⟩, fun h => getD_up hun (HV.out.q2 (Uz h))⟩⟩
     all_goals exact Um (by assumption)
    ·simp at ho
     subst ho
     clear hall hi
     refine wpOp_hid rfl fun K' HK => ?_
     go_simp
     cases HV.out
     refine HK.out _ _ ⟨by simp [HJ.out.sz], ⟨_, _, _, _, _, _, _, _, _, _, _, _, _, _, _, _, _, _, _, _, _, _, rfl, ?_, ?_, ?_, ?_, ?_, ?_, ?_, ?_, fun _ => rfl, ?_, ?_, ?_, ?_, ?_, ?_, ?_, ?_, ?_, ?_, ?_, ?_, ?_, fun h => HV.out.r0 (Dz h), fun h i => HV.out.r1 (Uz h) (Dz i), ?_, fun h => ⟨getD_up hun (HV.out.q1 (Uz h)).1, getD_up hun (HV.out.q1 (Uz h)).2⟩, fun h => getD_up hun (HV.out.q2 (Uz h))⟩⟩
     all_goals exact Um (by assumption)
    ·simp at ho
     subst ho
     clear hall hi
     refine wpOp_hid rfl fun K' HK => ?_
     go_simp
     cases HV.out
     refine HK.out _ _ ⟨by simp [HJ.out.sz], ⟨_, _, _, _, _, _, _, _, _, _, _, _, _, _, _, _, _, _, _, _, _, _, rfl, ?_, ?_, ?_, ?_, ?_, ?_, ?_, ?_, ?_, fun _ => rfl, ?_, ?_, ?_, ?_, ?_, ?_, ?_, ?_, ?_, ?_, ?_, ?_, fun h => HV.out.r0 (Dz h), fun h i => HV.out.r1 (Uz h) (Dz i), ?_, fun h => ⟨getD_up hun (HV.out.q1 (Uz h)).1, getD_up hun (HV.out.q1 (Uz h)).2⟩, fun h => getD_up hun (HV.out.q2 (Uz h))⟩⟩
     all_goals exact Um (by assumption)
    ·simp at ho
     subst ho
     clear hall hi
     refine wpOp_hid rfl fun K' HK => ?_
     go_simp
     cases HV.out
     refine HK.out _ _ ⟨by simp [HJ.out.sz], ⟨_, _, _, _, _, _, _, _, _, _, _, _, _, _, _, _, _, _, _, _, _, _, rfl, ?_, ?_, ?_, ?_, ?_, ?_, ?_, ?_, ?_, ?_, fun _ => rfl, ?_, ?_, ?_, ?_, ?_, ?_, ?_, ?_, ?_, ?_, ?_, fun h => HV.out.r0 (Dz h), fun h i => HV.out.r1 (Uz h) (Dz i), ?_, fun h => ⟨getD_up hun (HV.out.q1 (Uz h)).1, getD_up hun (HV.out.q1 (Uz h)).2⟩, fun h => getD_up hun (HV.out.q2 (Uz h))⟩⟩
     all_goals exact Um (by assumption)
    ·simp at ho
     subst ho
     have H9 := Hq hall 9
     have H10 := Hq hall 10
     clear hall hi
     have e0 := HV.out.k9 H9.out
     subst e0
     have e1 := HV.out.k10 H10.out
     subst e1
     have h0 := HW_v.out
     refine wpOp_hid rfl fun K' HK => ?_
     go_simp
     cases HV.out
     refine HK.out _ _ ⟨by simp [HJ.out.sz], ⟨_, _, _, _, _, _, _, _, _, _, _, _, _, _, _, _, _, _, _, _, _, _, rfl, ?_, ?_, ?_, ?_, ?_, ?_, ?_, ?_, ?_, ?_, ?_, fun _ => rfl, ?_, ?_, ?_, ?_, ?_, ?_, ?_, ?_, ?_, ?_, fun h => HV.out.r0 (Dz h), fun h i => HV.out.r1 (Uz h) (Dz i), ?_, fun h => ⟨getD_up hun (HV.out.q1 (Uz h)).1, getD_up hun (HV.out.q1 (Uz h)).2⟩, fun h => getD_up hun (HV.out.q2 (Uz h))⟩⟩
     all_goals exact Um (by assumption)
    ·simp at ho
     subst ho
     have H8 := Hq hall 8
     have H11 := Hq hall 11
     clear hall hi
     have e0 := HV.out.k8 H8.out
     subst e0
     have e1 := HV.out.k11 H11.out
     subst e1
     have h0 := HL_v.out
     refine wpOp_hid rfl fun K' HK => ?_
     go_simp
     cases HV.out
     refine HK.out _ _ ⟨by simp [HJ.out.sz], ⟨_, _, _, _, _, _, _, _, _, _, _, _, _, _, _, _, _, _, _, _, _, _, rfl, ?_, ?_, ?_, ?_, ?_, ?_, ?_, ?_, ?_, ?_, ?_, ?_, fun _ => rfl, ?_, ?_, ?_, ?_, ?_, ?_, ?_, ?_, ?_, fun h => HV.out.r0 (Dz h), fun h i => HV.out.r1 (Uz h) (Dz i), ?_, fun h => ⟨getD_up hun (HV.out.q1 (Uz h)).1, getD_up hun (HV.out.q1 (Uz h)).2⟩, fun h => getD_up hun (HV.out.q2 (Uz h))⟩⟩
     all_goals exact Um (by assumption)
    ·simp at ho
     subst ho
     have H12 := Hq hall 12
     clear hall hi
     have e0 := HV.out.k12 H12.out
     subst e0
     have ho : L.getD 21 false = false := by rcases off_or_on L 21 with h | h; exact h; exact (not_on hoff (HV.out.q1 h).2).elim
     obtain ⟨c0, c1, c2, c3, c4, c5, c6⟩ := (HV.out.r0 ho).at' HAD.out HY.out
     refine wpOp_hid rfl fun K' HK => ?_
     go_simp
     cases HV.out
     refine HK.out _ _ ⟨by simp [HJ.out.sz], ⟨_, _, _, _, _, _, _, _, _, _, _, _, _, _, _, _, _, _, _, _, _, _, rfl, ?_, ?_, ?_, ?_, ?_, ?_, ?_, ?_, ?_, ?_, ?_, ?_, ?_, fun _ => rfl, ?_, ?_, ?_, ?_, ?_, ?_, ?_, ?_, fun h => HV.out.r0 (Dz h), fun h i => HV.out.r1 (Uz h) (Dz i), ?_, fun h => ⟨getD_up hun (HV.out.q1 (Uz h)).1, getD_up hun (HV.out.q1 (Uz h)).2⟩, fun h => getD_up hun (HV.out.q2 (Uz h))⟩⟩
     all_goals exact Um (by assumption)
    ·simp at ho
     subst ho
     clear hall hi
     refine wpOp_hid rfl fun K' HK => ?_
     go_simp
     cases HV.out
     refine HK.out _ _ ⟨by simp [HJ.out.sz], ⟨_, _, _, _, _, _, _, _, _, _, _, _, _, _, _, _, _, _, _, _, _, _, rfl, ?_, ?_, ?_, ?_, ?_, ?_, ?_, ?_, ?_, ?_, ?_, ?_, ?_, ?_, fun _ => rfl, ?_, ?_, ?_, ?_, ?_, ?_, ?_, fun h => HV.out.r0 (Dz h), fun h i => HV.out.r1 (Uz h) (Dz i), ?_, fun h => ⟨getD_up hun (HV.out.q1 (Uz h)).1, getD_up hun (HV.out.q1 (Uz h)).2⟩, fun h => getD_up hun (HV.out.q2 (Uz h))⟩⟩
     all_goals exact Um (by assumption)
    ·simp at ho
     subst ho
     clear hall hi
     refine wpOp_hid rfl fun K' HK => ?_
     go_simp
     cases HV.out
     refine HK.out _ _ ⟨by simp [HJ.out.sz], ⟨_, _, _, _, _, _, _, _, _, _, _, _, _, _, _, _, _, _, _, _, _, _, rfl, ?_, ?_, ?_, ?_, ?_, ?_, ?_, ?_, ?_, ?_, ?_, ?_, ?_, ?_, ?_, fun _ => rfl, ?_, ?_, ?_, ?_, ?_, ?_, fun h => HV.out.r0 (Dz h), fun h i => HV.out.r1 (Uz h) (Dz i), ?_, fun h => ⟨getD_up hun (HV.out.q1 (Uz h)).1, getD_up hun (HV.out.q1 (Uz h)).2⟩, fun h => getD_up hun (HV.out.q2 (Uz h))⟩⟩
     all_goals exact Um (by assumption)
    ·simp at ho
     subst ho
     clear hall hi
     refine wpOp_hid rfl fun K' HK => ?_
     go_simp
     cases HV.out
     refine HK.out _ _ ⟨by simp [HJ.out.sz], ⟨_, _, _, _, _, _, _, _, _, _, _, _, _, _, _, _, _, _, _, _, _, _, rfl, ?_, ?_, ?_, ?_, ?_, ?_, ?_, ?_, ?_, ?_, ?_, ?_, ?_, ?_, ?_, ?_, fun _ => rfl, ?_, ?_, ?_, ?_, ?_, fun h => HV.out.r0 (Dz h), fun h i => HV.out.r1 (Uz h) (Dz i), ?_, fun h => ⟨getD_up hun (HV.out.q1 (Uz h)).1, getD_up hun (HV.out.q1 (Uz h)).2⟩, fun h => getD_up hun (HV.out.q2 (Uz h))⟩⟩
     all_goals exact Um (by assumption)
    ·simp at ho
     subst ho
     have H15 := Hq hall 15
     have H16 := Hq hall 16
     clear hall hi
     have e0 := HV.out.k15 H15.out
     subst e0
     have e1 := HV.out.k16 H16.out
     subst e1
     have h0 := HW_u.out
     refine wpOp_hid rfl fun K' HK => ?_
     go_simp
     cases HV.out
     refine HK.out _ _ ⟨by simp [HJ.out.sz], ⟨_, _, _, _, _, _, _, _, _, _, _, _, _, _, _, _, _, _, _, _, _, _, rfl, ?_, ?_, ?_, ?_, ?_, ?_, ?_, ?_, ?_, ?_, ?_, ?_, ?_, ?_, ?_, ?_, ?_, fun _ => rfl, ?_, ?_, ?_, ?_, fun h => HV.out.r0 (Dz h), fun h i => HV.out.r1 (Uz h) (Dz i), ?_, fun h => ⟨getD_up hun (HV.out.q1 (Uz h)).1, getD_up hun (HV.out.q1 (Uz h)).2⟩, fun h => getD_up hun (HV.out.q2 (Uz h))⟩⟩
     all_goals exact Um (by assumption)
    ·simp at ho
     subst ho
     have H14 := Hq hall 14
     have H17 := Hq hall 17
     clear hall hi
     have e0 := HV.out.k14 H14.out
     subst e0
     have e1 := HV.out.k17 H17.out
     subst e1
     have h0 := HL_u.out
     refine wpOp_hid rfl fun K' HK => ?_
     go_simp
     cases HV.out
     refine HK.out _ _ ⟨by simp [HJ.out.sz], ⟨_, _, _, _, _, _, _, _, _, _, _, _, _, _, _, _, _, _, _, _, _, _, rfl, ?_, ?_, ?_, ?_, ?_, ?_, ?_, ?_, ?_, ?_, ?_, ?_, ?_, ?_, ?_, ?_, ?_, ?_, fun _ => rfl, ?_, ?_, ?_, fun h => HV.out.r0 (Dz h), fun h i => HV.out.r1 (Uz h) (Dz i), ?_, fun h => ⟨getD_up hun (HV.out.q1 (Uz h)).1, getD_up hun (HV.out.q1 (Uz h)).2⟩, fun h => getD_up hun (HV.out.q2 (Uz h))⟩⟩
     all_goals exact Um (by assumption)
    ·simp at ho
     subst ho
     have H18 := Hq hall 18
     clear hall hi
     have e0 := HV.out.k18 H18.out
     subst e0
     have ho : L.getD 21 false = false := by rcases off_or_on L 21 with h | h; exact h; exact (not_on hoff (HV.out.q1 h).1).elim
     obtain ⟨c0, c1, c2, c3, c4, c5, c6⟩ := (HV.out.r0 ho).at' HAD.out HX.out
     refine wpOp_hid rfl fun K' HK => ?_
     go_simp
     cases HV.out
     refine HK.out _ _ ⟨by simp [HJ.out.sz], ⟨_, _, _, _, _, _, _, _, _, _, _, _, _, _, _, _, _, _, _, _, _, _, rfl, ?_, ?_, ?_, ?_, ?_, ?_, ?_, ?_, ?_, ?_, ?_, ?_, ?_, ?_, ?_, ?_, ?_, ?_, ?_, fun _ => rfl, ?_, ?_, fun h => HV.out.r0 (Dz h), fun h i => HV.out.r1 (Uz h) (Dz i), ?_, fun h => ⟨getD_up hun (HV.out.q1 (Uz h)).1, getD_up hun (HV.out.q1 (Uz h)).2⟩, fun h => getD_up hun (HV.out.q2 (Uz h))⟩⟩
     all_goals exact Um (by assumption)
    ·simp at ho
     subst ho
     have H0 := Hq hall 0
     have H3 := Hq hall 3
     clear hall hi
     have e0 := HV.out.k0 H0.out
     subst e0
     have e1 := HV.out.k3 H3.out
     subst e1
     have h0 := HL_u.out
     refine wpOp_hid rfl fun K' HK => ?_
     go_simp
     cases HV.out
     refine HK.out _ _ ⟨by simp [HJ.out.sz], ⟨_, _, _, _, _, _, _, _, _, _, _, _, _, _, _, _, _, _, _, _, _, _, rfl, ?_, ?_, ?_, ?_, ?_, ?_, ?_, ?_, ?_, ?_, ?_, ?_, ?_, ?_, ?_, ?_, ?_, ?_, ?_, ?_, fun _ => rfl, ?_, fun h => HV.out.r0 (Dz h), fun h i => HV.out.r1 (Uz h) (Dz i), ?_, fun h => ⟨getD_up hun (HV.out.q1 (Uz h)).1, getD_up hun (HV.out.q1 (Uz h)).2⟩, fun h => getD_up hun (HV.out.q2 (Uz h))⟩⟩
     all_goals exact Um (by assumption)
    ·simp at ho
     subst ho
     have H20 := Hq hall 20
     have H13 := Hq hall 13
     have H13 := Hq hall 13
     have H19 := Hq hall 19
     clear hall hi
     have e0 := HV.out.k20 H20.out
     subst e0
     have e1 := HV.out.k13 H13.out
     subst e1
     have ho2 : L.getD 23 false = false := by rcases off_or_on L 23 with h | h; exact h; exact (not_on hoff (HV.out.q2 h)).elim
     obtain ⟨wn, hrun, hrow⟩ := (HV.out.r0 hoff).st HAD.out HX.out HVY.out
     refine wpOp_hid rfl fun K' HK => ?_
     refine step_store_run hrun rfl _ _ rfl rfl rfl ?_
     go_simp
     cases HV.out
     refine HK.out _ _ ⟨by simp [HJ.out.sz], ⟨_, _, _, _, _, _, _, _, _, _, _, _, _, _, _, _, _, _, _, _, _, _, rfl, ?_, ?_, ?_, ?_, ?_, ?_, ?_, ?_, ?_, ?_, ?_, ?_, ?_, ?_, ?_, ?_, ?_, ?_, ?_, ?_, ?_, ?_, fun h => (not_on h (getD_set_same hun)).elim, fun _ _ => hrow, fun h => (not_on hoff (HV.out.q2 (Uz h))).elim, fun _ => ⟨getD_up hun H19.out, getD_up hun H13.out⟩, fun h => (not_on hoff (HV.out.q2 (Uz h))).elim⟩⟩
     all_goals exact Um (by assumption)
    ·simp at ho
     subst ho
     have H4 := Hq hall 4
     have H7 := Hq hall 7
     clear hall hi
     have e0 := HV.out.k4 H4.out
     subst e0
     have e1 := HV.out.k7 H7.out
     subst e1
     have h0 := HL_v.out
     refine wpOp_hid rfl fun K' HK => ?_
     go_simp
     cases HV.out
     refine HK.out _ _ ⟨by simp [HJ.out.sz], ⟨_, _, _, _, _, _, _, _, _, _, _, _, _, _, _, _, _, _, _, _, _, _, rfl, ?_, ?_, ?_, ?_, ?_, ?_, ?_, ?_, ?_, ?_, ?_, ?_, ?_, ?_, ?_, ?_, ?_, ?_, ?_, ?_, ?_, fun _ => rfl, fun h => HV.out.r0 (Dz h), fun h i => HV.out.r1 (Uz h) (Dz i), ?_, fun h => ⟨getD_up hun (HV.out.q1 (Uz h)).1, getD_up hun (HV.out.q1 (Uz h)).2⟩, fun h => getD_up hun (HV.out.q2 (Uz h))⟩⟩
     all_goals exact Um (by assumption)
    ·simp at ho
     subst ho
     have H22 := Hq hall 22
     have H19 := Hq hall 19
     have H21 := Hq hall 21
     clear hall hi
     have e0 := HV.out.k22 H22.out
     subst e0
     have e1 := HV.out.k19 H19.out
     subst e1
     obtain ⟨wn, hrun, hrow⟩ := (HV.out.r1 H21.out hoff).st HAD.out HYV.out HVX.out
     refine wpOp_hid rfl fun K' HK => ?_
     refine step_store_run hrun rfl _ _ rfl rfl rfl ?_
     go_simp
     cases HV.out
     refine HK.out _ _ ⟨by simp [HJ.out.sz], ⟨_, _, _, _, _, _, _, _, _, _, _, _, _, _, _, _, _, _, _, _, _, _, rfl, ?_, ?_, ?_, ?_, ?_, ?_, ?_, ?_, ?_, ?_, ?_, ?_, ?_, ?_, ?_, ?_, ?_, ?_, ?_, ?_, ?_, ?_, fun h => (not_on (Dz h) H21.out).elim, fun _ h => (not_on h (getD_set_same hun)).elim, fun _ => hrow, fun h => ⟨getD_up hun (HV.out.q1 (Uz h)).1, getD_up hun (HV.out.q1 (Uz h)).2⟩, fun _ => getD_up hun H21.out⟩⟩
     all_goals exact Um (by assumption)
  ·have hcx : decide ((i : Int) < (n : Int)) = false := by simp; omega
   obtain rfl : i = n := by omega
   have HF : Hid (SRow V w0 g sp (swR D0 a b i) wr) := HSW.out ▸ HR.out
   clear hlen
   go_wp2_with fail
   go_end0
   exact ⟨rfl, HF.out⟩
structure IXV (V : Lot → Prop) (w0 : World) (g : Nat) (sp : List Value) (D : List Lot) (ad : Addr) (N c : Nat) (f : Nat) (bd : Array Value) (a_ b_ i_ j_ jp_ : Nat) (x y : Lot)  (L : Array Bool) (W : World) (s37 s38 s39 s40 s41 s42 s43 s44 s45 s46 s47 s48 s49 s50 s51 s52 : Value) : Prop where
 k0 : L.getD 0 false = true → s37 = .slice (some ad) N c
 k1 : L.getD 1 false = true → s38 = .int .i64 (j_ : Int)
 k2 : L.getD 2 false = true → s39 = .slice (some ad) N c
 k3 : L.getD 3 false = true → s40 = .int .i64 (j_ : Int)
 k4 : L.getD 4 false = true → s41 = .int .i64 (jp_ : Int)
 k5 : L.getD 5 false = true → s42 = .slice (some ad) N c
 k6 : L.getD 6 false = true → s43 = .int .i64 (j_ : Int)
 k7 : L.getD 7 false = true → s44 = .int .i64 (jp_ : Int)
 k8 : L.getD 8 false = true → s45 = .pointer (some (ad.add (jp_ * 7)))
 k9 : L.getD 9 false = true → s46 = .agg #[.string y.id, .string y.inst, .int .i64 y.acq, .int .i64 y.opn, .string y.qty, .string y.cost, .string y.used]
 k10 : L.getD 10 false = true → s47 = .slice (some ad) N c
 k11 : L.getD 11 false = true → s48 = .int .i64 (j_ : Int)
 k12 : L.getD 12 false = true → s49 = .pointer (some (ad.add (j_ * 7)))
 k13 : L.getD 13 false = true → s50 = .agg #[.string x.id, .string x.inst, .int .i64 x.acq, .int .i64 x.opn, .string x.qty, .string x.cost, .string x.used]
 k14 : L.getD 14 false = true → s51 = .pointer (some (ad.add (j_ * 7)))
 k16 : L.getD 16 false = true → s52 = .pointer (some (ad.add (jp_ * 7)))
 r0 : L.getD 15 false = false → SRow V w0 g sp D W
 r1 : L.getD 15 false = true → L.getD 17 false = false → SRow V w0 g sp (D.set j_ y) W
 r2 : L.getD 17 false = true → SRow V w0 g sp ((D.set j_ y).set jp_ x) W
 q1 : L.getD 15 false = true → L.getD 13 false = true ∧ L.getD 9 false = true
 q2 : L.getD 17 false = true → L.getD 15 false = true
structure IXJ (V : Lot → Prop) (w0 : World) (g : Nat) (sp : List Value) (D : List Lot) (ad : Addr) (N c : Nat) (f : Nat) (bd : Array Value) (a_ b_ i_ j_ jp_ : Nat) (x y : Lot) (x4 x5 x6 x7 x10 x11 x12 x13 x14 x15 x16 x17 x18 x19 x20 x21 x22 x23 x24 x25 x26 x27 x28 x29 x30 x31 x32 x33 x34 x35 x36 : Value) (L : Array Bool) (a : Act) (W : World) : Prop where
 sz : L.size = 18
 fr : ∃ s37 s38 s39 s40 s41 s42 s43 s44 s45 s46 s47 s48 s49 s50 s51 s52 : Value, a = { tmps := #[.slice (some ad) N c, .int .i64 (a_ : Int), .int .i64 (b_ : Int), .func (.func f) #[] bd, x4, x5, x6, x7, .int .i64 (i_ : Int), .int .i64 (j_ : Int), x10, x11, x12, x13, x14, x15, x16, x17, x18, x19, x20, x21, x22, x23, x24, x25, x26, x27, x28, x29, x30, x31, x32, x33, x34, x35, x36, s37, s38, s39, s40, s41, s42, s43, s44, s45, s46, s47, s48, s49, s50, s51, s52], defers := [] } ∧ IXV V w0 g sp D ad N c f bd a_ b_ i_ j_ jp_ x y  L W s37 s38 s39 s40 s41 s42 s43 s44 s45 s46 s47 s48 s49 s50 s51 s52
structure ICV (V : Lot → Prop) (w0 : World) (g : Nat) (sp : List Value) (D : List Lot) (ad : Addr) (N c : Nat) (f : Nat) (bd : Array Value) (a_ b_ i_ j_ jp_ : Nat) (x y : Lot) (zc : Int) (t : Bool)  (L : Array Bool) (W : World) (s18 s19 s20 s21 s22 s23 s24 s25 s26 s27 s28 s29 s30 s31 s32 s33 s34 : Value) : Prop where
 k0 : L.getD 0 false = true → s18 = .int .i64 (j_ : Int)
 k1 : L.getD 1 false = true → s19 = .int .i64 (a_ : Int)
 k2 : L.getD 2 false = true → s20 = .bool true
 k3 : L.getD 3 false = true → s21 = .bool true
 k4 : L.getD 4 false = true → s22 = .func (.func f) #[] bd
 k5 : L.getD 5 false = true → s23 = .slice (some ad) N c
 k6 : L.getD 6 false = true → s24 = .int .i64 (j_ : Int)
 k7 : L.getD 7 false = true → s25 = .pointer (some (ad.add (j_ * 7)))
 k8 : L.getD 8 false = true → s26 = .agg #[.string x.id, .string x.inst, .int .i64 x.acq, .int .i64 x.opn, .string x.qty, .string x.cost, .string x.used]
 k9 : L.getD 9 false = true → s27 = .slice (some ad) N c
 k10 : L.getD 10 false = true → s28 = .int .i64 (j_ : Int)
 k11 : L.getD 11 false = true → s29 = .int .i64 (jp_ : Int)
 k12 : L.getD 12 false = true → s30 = .pointer (some (ad.add (jp_ * 7)))
 k13 : L.getD 13 false = true → s31 = .agg #[.string y.id, .string y.inst, .int .i64 y.acq, .int .i64 y.opn, .string y.qty, .string y.cost, .string y.used]
 k14 : L.getD 14 false = true → s32 = .int .i64 zc
 k15 : L.getD 15 false = true → s33 = .bool t
 k16 : L.getD 16 false = true → s34 = .bool t
 r : SRow V w0 g sp D W
structure ICJ (V : Lot → Prop) (w0 : World) (g : Nat) (sp : List Value) (D : List Lot) (ad : Addr) (N c : Nat) (f : Nat) (bd : Array Value) (a_ b_ i_ j_ jp_ : Nat) (x y : Lot) (zc : Int) (t : Bool) (x4 x5 x6 x7 x10 x11 x12 x13 x14 x15 x16 x17 x35 x36 x37 x38 x39 x40 x41 x42 x43 x44 x45 x46 x47 x48 x49 x50 x51 x52 : Value) (L : Array Bool) (a : Act) (W : World) : Prop where
 sz : L.size = 17
 fr : ∃ s18 s19 s20 s21 s22 s23 s24 s25 s26 s27 s28 s29 s30 s31 s32 s33 s34 : Value, a = { tmps := #[.slice (some ad) N c, .int .i64 (a_ : Int), .int .i64 (b_ : Int), .func (.func f) #[] bd, x4, x5, x6, x7, .int .i64 (i_ : Int), .int .i64 (j_ : Int), x10, x11, x12, x13, x14, x15, x16, x17, s18, s19, s20, s21, s22, s23, s24, s25, s26, s27, s28, s29, s30, s31, s32, s33, s34, x35, x36, x37, x38, x39, x40, x41, x42, x43, x44, x45, x46, x47, x48, x49, x50, x51, x52], defers := [] } ∧ ICV V w0 g sp D ad N c f bd a_ b_ i_ j_ jp_ x y zc t  L W s18 s19 s20 s21 s22 s23 s24 s25 s26 s27 s28 s29 s30 s31 s32 s33 s34
theorem insSort_any (V : Lot → Prop) (cf : Lot → Lot → Int) (lt : Lot → Lot → Bool) (hw : Weak lt) (w0 : World) (g N c a b f : Nat) (bd : Array Value) (hlt : ∀ x y, V x → V y → decide (cf x y < 0) = lt x y) (hC : CmpS V cf f bd w0 g) (sp : List Value) (D0 : List Lot) (hN : D0.length = N) (hm : N ≤ 1000000) (hab : a ≤ b) (hb : b ≤ N) (w : World) (hrow : SRow V w0 g sp D0 w) :
 Calls Tryz.prog 201 #[.slice (some ⟨g, 0, none⟩) N c, .int .i64 (a : Int), .int .i64 (b : Int), .func (.func f) #[] bd] w fun e w' => e = .returned (.tuple #[]) ∧ SRow V w0 g sp (sortSeg lt D0 a b) w' := by
 obtain ⟨ad, had⟩ : ∃ ad : Addr, ad = ⟨g, 0, none⟩ := ⟨_, rfl⟩
 rw [← had]
 have HAD := hI had
 have HROW := hI hrow
 have HNN := hI hN
 have HLT := hI hlt
 have HC := hI hC
 have HWK := hI hw
 clear had hrow hN hlt hC hw
 have hw1 : IntKind.i64.wrap ((a : Int) + 1) = (a : Int) + 1 := by rw [IntKind.wrap_i64]; omega
 go_enter Tryz.func201, Tryz.ntmps201
 go_wp2_with fail
 go_loopw [8] (fun v wr => ∃ (i : Nat) (D : List Lot), v = .int .i64 (i : Int) ∧ a < i ∧ i ≤ b + 1 ∧ D.length = N ∧ D = sortSeg lt D0 a (if i ≤ b then i else b) ∧ SRow V w0 g sp D wr) (fun v _ => b + 1 - (intOf v).toNat)
 case atStart =>
  refine ⟨a + 1, D0, by go_num, by omega, by omega, HNN.out, ?_, HROW.out⟩
  split
  ·rw [sortSeg_one lt (by rw [HNN.out]; omega)]
  ·rw [show b = a from by omega, sortSeg_self]
 case round =>
  obtain ⟨i, D, rfl, hai, hib, hlen, hD, hr⟩ := hrel
  have HR := hI hr
  have HD := hI hD
  have HLEN0 := hI hlen
  clear hr hD hlen hw1
  rcases Nat.lt_or_ge i b with hlt | hge
  ·have hcx : decide ((i : Int) < (b : Int)) = true := by simp; omega
   obtain ⟨z, hz⟩ : ∃ z, D0[i]? = some z := ⟨_, List.getElem?_eq_getElem (by rw [HNN.out]; omega)⟩
   have HS0 : Hid (Sh (D0.take a) (ssort lt ((D0.take i).drop a)) z (D0.drop (i + 1)) i D (fun y => lt z y = true)) := by
    have h := HD.out
    rw [if_pos (by omega)] at h
    rw [Hid, h]; exact sortSeg_start lt (by omega) hz
   have HEND := hI (sortSeg_step lt (show a ≤ i by omega) hz)
   have HXL : Hid ((D0.take a).length = a) := by rw [Hid, List.length_take, HNN.out]; omega
   have HIB : Hid (i + 1 ≤ b) := hlt
   clear hz
   go_wp2_with fail
   go_loopw [9] (fun v wr => ∃ (j : Nat) (D : List Lot), v = .int .i64 (j : Int) ∧ a ≤ j ∧ j ≤ i ∧ D.length = N ∧ Sh (D0.take a) (ssort lt ((D0.take i).drop a)) z (D0.drop (i + 1)) j D (fun y => lt z y = true) ∧ SRow V w0 g sp D wr) (fun v _ => (intOf v).toNat)
   case atStart => exact ⟨i, D, rfl, by omega, by omega, HLEN0.out, HS0.out, HR.out⟩
   case round =>
    clear HD HR HLEN0
    obtain ⟨j, D, rfl, haj, hji, hlen, hsh, hr⟩ := hrel
    have HR := hI hr
    have HSH := hI hsh
    have HLEN := hI hlen
    have HSTOP : Hid (j = a ∨ ltAt lt D j (j - 1) = false → D = sortSeg lt D0 a (if i + 1 ≤ b then i + 1 else b)) := fun h => by
     rw [if_pos HIB.out, ← HEND.out]
     exact HSH.out.stop lt HWK.out (ssort_asc lt HWK.out _) (by rw [HXL.out]; exact h)
    clear hr hsh
    rcases Nat.eq_or_lt_of_le haj with he | hpos
    ·have tg : decide ((j : Int) > (a : Int)) = false := decide_eq_false (by omega)
     have tg' : decide ((a : Int) < (j : Int)) = false := decide_eq_false (by omega)
     have tg2 : ¬ a < j := by omega
     have HF := hI (HSTOP.out (.inl he.symm))
     clear he hlen
     go_wp2_with fail
     go_quiet (fail)
     go_wp2_with fail
     go_roundw
     case rel => exact ⟨i + 1, D, by go_num, by omega, by omega, HLEN.out, HF.out, by first | exact HR.out.drew | exact HR.out.below (below_drewN (Below.refl _ _) _)⟩
     case measure => simp [intOf]; omega
    ·obtain ⟨jp, hj⟩ : ∃ jp, j = jp + 1 := ⟨j - 1, by omega⟩
     have HJ := hI hj
     have HGT : Hid (decide ((a : Int) < (j : Int)) = true) := decide_eq_true (by omega)
     have HW_jp : Hid (IntKind.i64.wrap ((j : Int) - 1) = (jp : Int)) := by rw [Hid, IntKind.wrap_i64]; omega
     have HL_j : Hid ((j : Int) < (N : Int)) := by show (j : Int) < _; omega
     have HL_jp : Hid ((jp : Int) < (N : Int)) := by show (jp : Int) < _; omega
     obtain ⟨x, hx⟩ : ∃ x, D[j]? = some x := ⟨_, List.getElem?_eq_getElem (by omega)⟩
     obtain ⟨y, hy⟩ : ∃ y, D[jp]? = some y := ⟨_, List.getElem?_eq_getElem (by omega)⟩
     have HX : Hid (D[j]? = some x) := hx
     have HY : Hid (D[jp]? = some y) := hy
     have HYV : Hid ((D.set j y)[jp]? = some y) := by rw [Hid, List.getElem?_set_ne (by omega)]; exact hy
     have HVX : Hid (V x) := HR.out.ok x (List.mem_of_getElem? hx)
     have HVY : Hid (V y) := HR.out.ok y (List.mem_of_getElem? hy)
     have hxz : x = z := by have h := HSH.out.at; rw [hx] at h; exact Option.some.inj h
     obtain ⟨zc, hzc⟩ : ∃ zc, cf x y = zc := ⟨_, rfl⟩
     obtain ⟨t, ht⟩ : ∃ t, lt x y = t := ⟨_, rfl⟩
     have hzt := HLT.out x y HVX.out HVY.out
     rw [ht, hzc] at hzt
     have HZT := hI hzt
     have hcr := fun W (h : SRow V w0 g sp D W) => HC.out.at HVX.out HVY.out W h
     rw [hzc] at hcr
     have HCR := hI hcr
     have HSTOP : Hid (j = a ∨ t = false → D = sortSeg lt D0 a (if i + 1 ≤ b then i + 1 else b)) := fun h => HSTOP.out (h.imp_right fun h => by rw [show j - 1 = jp from by omega, ltAt_of lt hx hy, ht, h])
     have HSTEP : Hid (t = true → Sh (D0.take a) (ssort lt ((D0.take i).drop a)) z (D0.drop (i + 1)) jp (swp D j jp) (fun y => lt z y = true)) := fun h => by
      have h2 := HSH.out.down (y := y) (by rw [HXL.out]; exact hpos) (by rw [show j - 1 = jp from by omega]; exact hy) (by rw [← hxz, ht, h])
      rw [show j - 1 = jp from by omega] at h2
      exact h2
     have hrow0 := HR.out.drew
     clear hx hy hxz hzc ht hzt hcr hj hlen
     go_upto_region 4 with fail
     have mixed : Tryz.prog.follows .mixedOrders = true := by kernel_rfl
     refine wp_region_any mixed (wpAny_inv (ICJ V w0 g sp D ad N c f bd a b i j jp x y zc t _ _ _ _ _ _ _ _ _ _ _ _ _ _ _ _ _ _ _ _ _ _ _ _ _ _ _ _ _ _) ?stIC ?dnIC _ _ _ _ ⟨by simp, ⟨_, _, _, _, _, _, _, _, _, _, _, _, _, _, _, _, _, rfl, fun h => by simp at h, fun h => by simp at h, fun h => by simp at h, fun h => by simp at h, fun h => by simp at h, fun h => by simp at h, fun h => by simp at h, fun h => by simp at h, fun h => by simp at h, fun h => by simp at h, fun h => by simp at h, fun h => by simp at h, fun h => by simp at h, fun h => by simp at h, fun h => by simp at h, fun h => by simp at h, fun h => by simp at h, hrow0⟩⟩ (by decide))
     case dnIC =>
      intro L a w' hj hr
      have all := all_on hr hj.sz (by kernel_rfl)
      obtain ⟨s18, s19, s20, s21, s22, s23, s24, s25, s26, s27, s28, s29, s30, s31, s32, s33, s34, rfl, hv⟩ := hj.fr
      have e16 := hv.k16 (all 16 (by omega))
      subst e16
      have HR1 := hI hv.r
      clear all hv hj hr
      cases t
      case false =>
       go_wp2_with fail
       go_roundw
       case rel => exact ⟨i + 1, D, by go_num, by omega, by omega, HLEN.out, HSTOP.out (.inr (by first | rfl | trivial)), HR1.out⟩
       case measure => simp [intOf]; omega
      have hrow0 := HR1.out.drew
      go_upto_region 6 with fail
      have mixed : Tryz.prog.follows .mixedOrders = true := by kernel_rfl
      refine wp_region_any mixed (wpAny_inv (IXJ V w0 g sp D ad N c f bd a b i j jp x y _ _ _ _ _ _ _ _ _ _ _ _ _ _ _ _ _ _ _ _ _ _ _ _ _ _ _ _ _ _ _) ?stIX ?dnIX _ _ _ _ ⟨by simp, ⟨_, _, _, _, _, _, _, _, _, _, _, _, _, _, _, _, rfl, fun h => by simp at h, fun h => by simp at h, fun h => by simp at h, fun h => by simp at h, fun h => by simp at h, fun h => by simp at h, fun h => by simp at h, fun h => by simp at h, fun h => by simp at h, fun h => by simp at h, fun h => by simp at h, fun h => by simp at h, fun h => by simp at h, fun h => by simp at h, fun h => by simp at h, fun h => by simp at h, fun _ => hrow0, fun h => by simp at h, fun h => by simp at h, fun h => by simp at h, fun h => by simp at h⟩⟩ (by decide))
      case dnIX =>
       intro L a w' hj hr
       have all := all_on hr hj.sz (by kernel_rfl)
       obtain ⟨s37, s38, s39, s40, s41, s42, s43, s44, s45, s46, s47, s48, s49, s50, s51, s52, rfl, hv⟩ := hj.fr
       have HRW := hI (hv.r2 (all 17 (by omega)))
       clear all hv hj hr
       have hwr := HW_jp.out
       go_wp2_with fail
       go_roundw
       case rel => exact ⟨jp, _, rfl, by have := HJ.out; omega, by have := HJ.out; omega, by rw [← swp_len D j jp, swp_at HX.out HY.out] at *; first | assumption | (rw [List.length_set, List.length_set]; exact HLEN.out), by have h := HSTEP.out (by first | rfl | trivial); rw [swp_at HX.out HY.out] at h; exact h, HRW.out⟩
       case measure => have hj := HJ.out; simp [intOf]; omega
      case stIX =>
       intro L a w' hj i hi
       obtain ⟨hun, o, ho, hall⟩ := mem_ready.1 hi
       have hoff := getD_off hun
       have hlt := (Array.getElem?_eq_some_iff.1 ho).1
       simp at hlt
       obtain ⟨s37, s38, s39, s40, s41, s42, s43, s44, s45, s46, s47, s48, s49, s50, s51, s52, rfl, hv⟩ := hj.fr
       have HV := hI hv
       have HJ := hI hj
       clear hv hj
       rcases (show i = 0 ∨ i = 1 ∨ i = 2 ∨ i = 3 ∨ i = 4 ∨ i = 5 ∨ i = 6 ∨ i = 7 ∨ i = 8 ∨ i = 9 ∨ i = 10 ∨ i = 11 ∨ i = 12 ∨ i = 13 ∨ i = 14 ∨ i = 15 ∨ i = 16 ∨ i = 17 from by omega) with rfl | rfl | rfl | rfl | rfl | rfl | rfl | rfl | rfl | rfl | rfl | rfl | rfl | rfl | rfl | rfl | rfl | rfl
       ·simp at ho
        subst ho
        clear hall hi
        refine wpOp_hid rfl fun K' HK => ?_
        go_simp
        cases HV.out
        refine HK.out _ _ ⟨by simp [HJ.out.sz], ⟨_, _, _, _, _, _, _, _, _, _, _, _, _, _, _, _, rfl, fun _ => rfl, ?_, ?_, ?_, ?_, ?_, ?_, ?_, ?_, ?_, ?_, ?_, ?_, ?_, ?_, ?_, fun h => HV.out.r0 (Dz h), fun h i => HV.out.r1 (Uz h) (Dz i), ?_, fun h => ⟨getD_up hun (HV.out.q1 (Uz h)).1, getD_up hun (HV.out.q1 (Uz h)).2⟩, fun h => getD_up hun (HV.out.q2 (Uz h))⟩⟩
        all_goals exact Um (by assumption)
       ·simp at ho
        subst ho
        clear hall hi
        refine wpOp_hid rfl fun K' HK => ?_
        go_simp
        cases HV.out
        refine HK.out _ _ ⟨by simp [HJ.out.sz], ⟨_, _, _, _, _, _, _, _, _, _, _, _, _, _, _, _, rfl, ?_, fun _ => rfl, ?_, ?_, ?_, ?_, ?_, ?_, ?_, ?_, ?_, ?_, ?_, ?_, ?_, ?_, fun h => HV.out.r0 (Dz h), fun h i => HV.out.r1 (Uz h) (Dz i), ?_, fun h => ⟨getD_up hun (HV.out.q1 (Uz h)).1, getD_up hun (HV.out.q1 (Uz h)).2⟩, fun h => getD_up hun (HV.out.q2 (Uz h))⟩⟩
        all_goals exact Um (by assumption)
       ·simp at ho
        subst ho
        clear hall hi
        refine wpOp_hid rfl fun K' HK => ?_
        go_simp
        cases HV.out
        refine HK.out _ _ ⟨by simp [HJ.out.sz], ⟨_, _, _, _, _, _, _, _, _, _, _, _, _, _, _, _, rfl, ?_, ?_, fun _ => rfl, ?_, ?_, ?_, ?_, ?_, ?_, ?_, ?_, ?_, ?_, ?_, ?_, ?_, fun h => HV.out.r0 (Dz h), fun h i => HV.out.r1 (Uz h) (Dz i), ?_, fun h => ⟨getD_up hun (HV.out.q1 (Uz h)).1, getD_up hun (HV.out.q1 (Uz h)).2⟩, fun h => getD_up hun (HV.out.q2 (Uz h))⟩⟩
        all_goals exact Um (by assumption)
       ·simp at ho
        subst ho
        clear hall hi
        refine wpOp_hid rfl fun K' HK => ?_
        go_simp
        cases HV.out
        refine HK.out _ _ ⟨by simp [HJ.out.sz], ⟨_, _, _, _, _, _, _, _, _, _, _, _, _, _, _, _, rfl, ?_, ?_, ?_, fun _ => rfl, ?_, ?_, ?_, ?_, ?_, ?_, ?_, ?_, ?_, ?_, ?_, ?_, fun h => HV.out.r0 (Dz h), fun h i => HV.out.r1 (Uz h) (Dz i), ?_, fun h => ⟨getD_up hun (HV.out.q1 (Uz h)).1, getD_up hun (HV.out.q1 (Uz h)).2⟩, fun h => getD_up hun (HV.out.q2 (Uz h))⟩⟩
        all_goals exact Um (by assumption)
       ·simp at ho
        subst ho
        have H3 := Hq hall 3
        clear hall hi
        have e0 := HV.out.k3 H3.out
        subst e0
        have h0 := HW_jp.out
        refine wpOp_hid rfl fun K' HK => ?_
        go_simp
        cases HV.out
        refine HK.out _ _ ⟨by simp [HJ.out.sz], ⟨_, _, _, _, _, _, _, _, _, _, _, _, _, _, _, _, rfl, ?_, ?_, ?_, ?_, fun _ => rfl, ?_, ?_, ?_, ?_, ?_, ?_, ?_, ?_, ?_, ?_, ?_, fun h => HV.out.r0 (Dz h), fun h i => HV.out.r1 (Uz h) (Dz i), ?_, fun h => ⟨getD_up hun (HV.out.q1 (Uz h)).1, getD_up hun (HV.out.q1 (Uz h)).2⟩, fun h => getD_up hun (HV.out.q2 (Uz h))⟩⟩
        all_goals exact Um (by assumption)
       ·simp at ho
        subst ho
        clear hall hi
        refine wpOp_hid rfl fun K' HK => ?_
        go_simp
        cases HV.out
        refine HK.out _ _ ⟨by simp [HJ.out.sz], ⟨_, _, _, _, _, _, _, _, _, _, _, _, _, _, _, _, rfl, ?_, ?_, ?_, ?_, ?_, fun _ => rfl, ?_, ?_, ?_, ?_, ?_, ?_, ?_, ?_, ?_, ?_, fun h => HV.out.r0 (Dz h), fun h i => HV.out.r1 (Uz h) (Dz i), ?_, fun h => ⟨getD_up hun (HV.out.q1 (Uz h)).1, getD_up hun (HV.out.q1 (Uz h)).2⟩, fun h => getD_up hun (HV.out.q2 (Uz h))⟩⟩
        all_goals exact Um (by assumption)
       ·simp at ho
        subst ho
        clear hall hi
        refine wpOp_hid rfl fun K' HK => ?_
        go_simp
        cases HV.out
        refine HK.out _ _ ⟨by simp [HJ.out.sz], ⟨_, _, _, _, _, _, _, _, _, _, _, _, _, _, _, _, rfl, ?_, ?_, ?_, ?_, ?_, ?_, fun _ => rfl, ?_, ?_, ?_, ?_, ?_, ?_, ?_, ?_, ?_, fun h => HV.out.r0 (Dz h), fun h i => HV.out.r1 (Uz h) (Dz i), ?_, fun h => ⟨getD_up hun (HV.out.q1 (Uz h)).1, getD_up hun (HV.out.q1 (Uz h)).2⟩, fun h => getD_up hun (HV.out.q2 (Uz h))⟩⟩
        all_goals exact Um (by assumption)
       ·simp at ho
        subst ho
        have H6 := Hq hall 6
        clear hall hi
        have e0 := HV.out.k6 H6.out
        subst e0
        have h0 := HW_jp.out
        refine wpOp_hid rfl fun K' HK => ?_
        go_simp
        cases HV.out
        refine HK.out _ _ ⟨by simp [HJ.out.sz], ⟨_, _, _, _, _, _, _, _, _, _, _, _, _, _, _, _, rfl, ?_, ?_, ?_, ?_, ?_, ?_, ?_, fun _ => rfl, ?_, ?_, ?_, ?_, ?_, ?_, ?_, ?_, fun h => HV.out.r0 (Dz h), fun h i => HV.out.r1 (Uz h) (Dz i), ?_, fun h => ⟨getD_up hun (HV.out.q1 (Uz h)).1, getD_up hun (HV.out.q1 (Uz h)).2⟩, fun h => getD_up hun (HV.out.q2 (Uz h))⟩⟩
        all_goals exact Um (by assumption)
       ·simp at ho
        subst ho
        have H5 := Hq hall 5
        have H7 := Hq hall 7
        clear hall hi
        have e0 := HV.out.k5 H5.out
        subst e0
        have e1 := HV.out.k7 H7.out
        subst e1
        have h0 := HL_jp.out
        refine wpOp_hid rfl fun K' HK => ?_
        go_simp
        cases HV.out
        refine HK.out _ _ ⟨by simp [HJ.out.sz], ⟨_, _, _, _, _, _, _, _, _, _, _, _, _, _, _, _, rfl, ?_, ?_, ?_, ?_, ?_, ?_, ?_, ?_, fun _ => rfl, ?_, ?_, ?_, ?_, ?_, ?_, ?_, fun h => HV.out.r0 (Dz h), fun h i => HV.out.r1 (Uz h) (Dz i), ?_, fun h => ⟨getD_up hun (HV.out.q1 (Uz h)).1, getD_up hun (HV.out.q1 (Uz h)).2⟩, fun h => getD_up hun (HV.out.q2 (Uz h))⟩⟩
        all_goals exact Um (by assumption)
       ·simp at ho
        subst ho
        have H8 := Hq hall 8
        clear hall hi
        have e0 := HV.out.k8 H8.out
        subst e0
        have ho : L.getD 15 false = false := by rcases off_or_on L 15 with h | h; exact h; exact (not_on hoff (HV.out.q1 h).2).elim
        obtain ⟨c0, c1, c2, c3, c4, c5, c6⟩ := (HV.out.r0 ho).at' HAD.out HY.out
        refine wpOp_hid rfl fun K' HK => ?_
        go_simp
        cases HV.out
        refine HK.out _ _ ⟨by simp [HJ.out.sz], ⟨_, _, _, _, _, _, _, _, _, _, _, _, _, _, _, _, rfl, ?_, ?_, ?_, ?_, ?_, ?_, ?_, ?_, ?_, fun _ => rfl, ?_, ?_, ?_, ?_, ?_, ?_, fun h => HV.out.r0 (Dz h), fun h i => HV.out.r1 (Uz h) (Dz i), ?_, fun h => ⟨getD_up hun (HV.out.q1 (Uz h)).1, getD_up hun (HV.out.q1 (Uz h)).2⟩, fun h => getD_up hun (HV.out.q2 (Uz h))⟩⟩
        all_goals exact Um (by assumption)
       ·simp at ho
        subst ho
        clear hall hi
        refine wpOp_hid rfl fun K' HK => ?_
        go_simp
        cases HV.out
        refine HK.out _ _ ⟨by simp [HJ.out.sz], ⟨_, _, _, _, _, _, _, _, _, _, _, _, _, _, _, _, rfl, ?_, ?_, ?_, ?_, ?_, ?_, ?_, ?_, ?_, ?_, fun _ => rfl, ?_, ?_, ?_, ?_, ?_, fun h => HV.out.r0 (Dz h), fun h i => HV.out.r1 (Uz h) (Dz i), ?_, fun h => ⟨getD_up hun (HV.out.q1 (Uz h)).1, getD_up hun (HV.out.q1 (Uz h)).2⟩, fun h => getD_up hun (HV.out.q2 (Uz h))⟩⟩
        all_goals exact Um (by assumption)
       ·simp at ho
        subst ho
        clear hall hi
        refine wpOp_hid rfl fun K' HK => ?_
        go_simp
        cases HV.out
        refine HK.out _ _ ⟨by simp [HJ.out.sz], ⟨_, _, _, _, _, _, _, _, _, _, _, _, _, _, _, _, rfl, ?_, ?_, ?_, ?_, ?_, ?_, ?_, ?_, ?_, ?_, ?_, fun _ => rfl, ?_, ?_, ?_, ?_, fun h => HV.out.r0 (Dz h), fun h i => HV.out.r1 (Uz h) (Dz i), ?_, fun h => ⟨getD_up hun (HV.out.q1 (Uz h)).1, getD_up hun (HV.out.q1 (Uz h)).2⟩, fun h => getD_up hun (HV.out.q2 (Uz h))⟩⟩
        all_goals exact Um (by assumption)
       ·simp at ho
        subst ho
        have H10 := Hq hall 10
        have H11 := Hq hall 11
        clear hall hi
        have e0 := HV.out.k10 H10.out
        subst e0
        have e1 := HV.out.k11 H11.out
        subst e1
        have h0 := HL_j.out
        refine wpOp_hid rfl fun K' HK => ?_
        go_simp
        cases HV.out
        refine HK.out _ _ ⟨by simp [HJ.out.sz], ⟨_, _, _, _, _, _, _, _, _, _, _, _, _, _, _, _, rfl, ?_, ?_, ?_, ?_, ?_, ?_, ?_, ?_, ?_, ?_, ?_, ?_, fun _ => rfl, ?_, ?_, ?_, fun h => HV.out.r0 (Dz h), fun h i => HV.out.r1 (Uz h) (Dz i), ?_, fun h => ⟨getD_up hun (HV.out.q1 (Uz h)).1, getD_up hun (HV.out.q1 (Uz h)).2⟩, fun h => getD_up hun (HV.out.q2 (Uz h))⟩⟩
        all_goals exact Um (by assumption)
       ·simp at ho
        subst ho
        have H12 := Hq hall 12
        clear hall hi
        have e0 := HV.out.k12 H12.out
        subst e0
        have ho : L.getD 15 false = false := by rcases off_or_on L 15 with h | h; exact h; exact (not_on hoff (HV.out.q1 h).1).elim
        obtain ⟨c0, c1, c2, c3, c4, c5, c6⟩ := (HV.out.r0 ho).at' HAD.out HX.out
        refine wpOp_hid rfl fun K' HK => ?_
        go_simp
        cases HV.out
        refine HK.out _ _ ⟨by simp [HJ.out.sz], ⟨_, _, _, _, _, _, _, _, _, _, _, _, _, _, _, _, rfl, ?_, ?_, ?_, ?_, ?_, ?_, ?_, ?_, ?_, ?_, ?_, ?_, ?_, fun _ => rfl, ?_, ?_, fun h => HV.out.r0 (Dz h), fun h i => HV.out.r1 (Uz h) (Dz i), ?_, fun h => ⟨getD_up hun (HV.out.q1 (Uz h)).1, getD_up hun (HV.out.q1 (Uz h)).2⟩, fun h => getD_up hun (HV.out.q2 (Uz h))⟩⟩
        all_goals exact Um (by assumption)
       ·simp at ho
        subst ho
        have H0 := Hq hall 0
        have H1 := Hq hall 1
        clear hall hi
        have e0 := HV.out.k0 H0.out
        subst e0
        have e1 := HV.out.k1 H1.out
        subst e1
        have h0 := HL_j.out
        refine wpOp_hid rfl fun K' HK => ?_
        go_simp
        cases HV.out
        refine HK.out _ _ ⟨by simp [HJ.out.sz], ⟨_, _, _, _, _, _, _, _, _, _, _, _, _, _, _, _, rfl, ?_, ?_, ?_, ?_, ?_, ?_, ?_, ?_, ?_, ?_, ?_, ?_, ?_, ?_, fun _ => rfl, ?_, fun h => HV.out.r0 (Dz h), fun h i => HV.out.r1 (Uz h) (Dz i), ?_, fun h => ⟨getD_up hun (HV.out.q1 (Uz h)).1, getD_up hun (HV.out.q1 (Uz h)).2⟩, fun h => getD_up hun (HV.out.q2 (Uz h))⟩⟩
        all_goals exact Um (by assumption)
       ·simp at ho
        subst ho
        have H14 := Hq hall 14
        have H9 := Hq hall 9
        have H9 := Hq hall 9
        have H13 := Hq hall 13
        clear hall hi
        have e0 := HV.out.k14 H14.out
        subst e0
        have e1 := HV.out.k9 H9.out
        subst e1
        have ho2 : L.getD 17 false = false := by rcases off_or_on L 17 with h | h; exact h; exact (not_on hoff (HV.out.q2 h)).elim
        obtain ⟨wn, hrun, hrow⟩ := (HV.out.r0 hoff).st HAD.out HX.out HVY.out
        refine wpOp_hid rfl fun K' HK => ?_
        refine step_store_run hrun rfl _ _ rfl rfl rfl ?_
        go_simp
        cases HV.out
        refine HK.out _ _ ⟨by simp [HJ.out.sz], ⟨_, _, _, _, _, _, _, _, _, _, _, _, _, _, _, _, rfl, ?_, ?_, ?_, ?_, ?_, ?_, ?_, ?_, ?_, ?_, ?_, ?_, ?_, ?_, ?_, ?_, fun h => (not_on h (getD_set_same hun)).elim, fun _ _ => hrow, fun h => (not_on hoff (HV.out.q2 (Uz h))).elim, fun _ => ⟨getD_up hun H13.out, getD_up hun H9.out⟩, fun h => (not_on hoff (HV.out.q2 (Uz h))).elim⟩⟩
        all_goals exact Um (by assumption)
       ·simp at ho
        subst ho
        have H2 := Hq hall 2
        have H4 := Hq hall 4
        clear hall hi
        have e0 := HV.out.k2 H2.out
        subst e0
        have e1 := HV.out.k4 H4.out
        subst e1
        have h0 := HL_jp.out
        refine wpOp_hid rfl fun K' HK => ?_
        go_simp
        cases HV.out
        refine HK.out _ _ ⟨by simp [HJ.out.sz], ⟨_, _, _, _, _, _, _, _, _, _, _, _, _, _, _, _, rfl, ?_, ?_, ?_, ?_, ?_, ?_, ?_, ?_, ?_, ?_, ?_, ?_, ?_, ?_, ?_, fun _ => rfl, fun h => HV.out.r0 (Dz h), fun h i => HV.out.r1 (Uz h) (Dz i), ?_, fun h => ⟨getD_up hun (HV.out.q1 (Uz h)).1, getD_up hun (HV.out.q1 (Uz h)).2⟩, fun h => getD_up hun (HV.out.q2 (Uz h))⟩⟩
        all_goals exact Um (by assumption)
       ·simp at ho
        subst ho
        have H16 := Hq hall 16
        have H13 := Hq hall 13
        have H15 := Hq hall 15
        clear hall hi
        have e0 := HV.out.k16 H16.out
        subst e0
        have e1 := HV.out.k13 H13.out
        subst e1
        obtain ⟨wn, hrun, hrow⟩ := (HV.out.r1 H15.out hoff).st HAD.out HYV.out HVX.out
        refine wpOp_hid rfl fun K' HK => ?_
        refine step_store_run hrun rfl _ _ rfl rfl rfl ?_
        go_simp
        cases HV.out
        refine HK.out _ _ ⟨by simp [HJ.out.sz], ⟨_, _, _, _, _, _, _, _, _, _, _, _, _, _, _, _, rfl, ?_, ?_, ?_, ?_, ?_, ?_, ?_, ?_, ?_, ?_, ?_, ?_, ?_, ?_, ?_, ?_, fun h => (not_on (Dz h) H15.out).elim, fun _ h => (not_on h (getD_set_same hun)).elim, fun _ => hrow, fun h => ⟨getD_up hun (HV.out.q1 (Uz h)).1, getD_up hun (HV.out.q1 (Uz h)).2⟩, fun _ => getD_up hun H15.out⟩⟩
        all_goals exact Um (by assumption)
     case stIC =>
      intro L a w' hj i hi
      obtain ⟨hun, o, ho, hall⟩ := mem_ready.1 hi
      have hoff := getD_off hun
      have hlt := (Array.getElem?_eq_some_iff.1 ho).1
      simp at hlt
      obtain ⟨s18, s19, s20, s21, s22, s23, s24, s25, s26, s27, s28, s29, s30, s31, s32, s33, s34, rfl, hv⟩ := hj.fr
      have HV := hI hv
      have HJ := hI hj
      clear hv hj
      rcases (show i = 0 ∨ i = 1 ∨ i = 2 ∨ i = 3 ∨ i = 4 ∨ i = 5 ∨ i = 6 ∨ i = 7 ∨ i = 8 ∨ i = 9 ∨ i = 10 ∨ i = 11 ∨ i = 12 ∨ i = 13 ∨ i = 14 ∨ i = 15 ∨ i = 16 from by omega) with rfl | rfl | rfl | rfl | rfl | rfl | rfl | rfl | rfl | rfl | rfl | rfl | rfl | rfl | rfl | rfl | rfl
      ·simp at ho
       subst ho
       clear hall hi
       refine wpOp_hid rfl fun K' HK => ?_
       go_simp
       cases HV.out
       refine HK.out _ _ ⟨by simp [HJ.out.sz], ?_⟩
       iterate 17 apply Exists.intro
       refine ⟨rfl, ?_⟩
       constructor
       case k0 => exact fun _ => rfl
       case r => exact HV.out.r
       all_goals exact Um (by assumption)
      ·simp at ho
       subst ho
       clear hall hi
       refine wpOp_hid rfl fun K' HK => ?_
       go_simp
       cases HV.out
       refine HK.out _ _ ⟨by simp [HJ.out.sz], ?_⟩
       iterate 17 apply Exists.intro
       refine ⟨rfl, ?_⟩
       constructor
       case k1 => exact fun _ => rfl
       case r => exact HV.out.r
       all_goals exact Um (by assumption)
      ·simp at ho
       subst ho
       have H0 := Hq hall 0
       have H1 := Hq hall 1
       clear hall hi
       have e0 := HV.out.k0 H0.out
       subst e0
       have e1 := HV.out.k1 H1.out
       subst e1
       have h0 := HGT.out
       refine wpOp_hid rfl fun K' HK => ?_
       go_simp
       cases HV.out
       refine HK.out _ _ ⟨by simp [HJ.out.sz], ?_⟩
       iterate 17 apply Exists.intro
       refine ⟨rfl, ?_⟩
       constructor
       case k2 => exact fun _ => rfl
       case r => exact HV.out.r
       all_goals exact Um (by assumption)
      ·simp at ho
       subst ho
       have H2 := Hq hall 2
       clear hall hi
       have e0 := HV.out.k2 H2.out
       subst e0
       refine wpOp_hid rfl fun K' HK => ?_
       go_simp
       cases HV.out
       refine HK.out _ _ ⟨by simp [HJ.out.sz], ?_⟩
       iterate 17 apply Exists.intro
       refine ⟨rfl, ?_⟩
       constructor
       case k3 => exact fun _ => rfl
       case r => exact HV.out.r
       all_goals exact Um (by assumption)
      ·simp at ho
       subst ho
       have H3 := Hq hall 3
       clear hall hi
       have e0 := HV.out.k3 H3.out
       subst e0
       refine wpOp_hid rfl fun K' HK => ?_
       go_simp
       cases HV.out
       refine HK.out _ _ ⟨by simp [HJ.out.sz], ?_⟩
       iterate 17 apply Exists.intro
       refine ⟨rfl, ?_⟩
       constructor
       case k4 => exact fun _ => rfl
       case r => exact HV.out.r
       all_goals exact Um (by assumption)
      ·simp at ho
       subst ho
       have H3 := Hq hall 3
       clear hall hi
       have e0 := HV.out.k3 H3.out
       subst e0
       refine wpOp_hid rfl fun K' HK => ?_
       go_simp
       cases HV.out
       refine HK.out _ _ ⟨by simp [HJ.out.sz], ?_⟩
       iterate 17 apply Exists.intro
       refine ⟨rfl, ?_⟩
       constructor
       case k5 => exact fun _ => rfl
       case r => exact HV.out.r
       all_goals exact Um (by assumption)
      ·simp at ho
       subst ho
       have H3 := Hq hall 3
       clear hall hi
       have e0 := HV.out.k3 H3.out
       subst e0
       refine wpOp_hid rfl fun K' HK => ?_
       go_simp
       cases HV.out
       refine HK.out _ _ ⟨by simp [HJ.out.sz], ?_⟩
       iterate 17 apply Exists.intro
       refine ⟨rfl, ?_⟩
       constructor
       case k6 => exact fun _ => rfl
       case r => exact HV.out.r
       all_goals exact Um (by assumption)
      ·simp at ho
       subst ho
       have H5 := Hq hall 5
       have H6 := Hq hall 6
       have H3 := Hq hall 3
       clear hall hi
       have e0 := HV.out.k5 H5.out
       subst e0
       have e1 := HV.out.k6 H6.out
       subst e1
       have e2 := HV.out.k3 H3.out
       subst e2
       have h0 := HL_j.out
       refine wpOp_hid rfl fun K' HK => ?_
       go_simp
       cases HV.out
       refine HK.out _ _ ⟨by simp [HJ.out.sz], ?_⟩
       iterate 17 apply Exists.intro
       refine ⟨rfl, ?_⟩
       constructor
       case k7 => exact fun _ => rfl
       case r => exact HV.out.r
       all_goals exact Um (by assumption)
      ·simp at ho
       subst ho
       have H7 := Hq hall 7
       have H3 := Hq hall 3
       clear hall hi
       have e0 := HV.out.k7 H7.out
       subst e0
       have e1 := HV.out.k3 H3.out
       subst e1
       obtain ⟨c0, c1, c2, c3, c4, c5, c6⟩ := HV.out.r.at' HAD.out HX.out
       refine wpOp_hid rfl fun K' HK => ?_
       go_simp
       cases HV.out
       refine HK.out _ _ ⟨by simp [HJ.out.sz], ?_⟩
       iterate 17 apply Exists.intro
       refine ⟨rfl, ?_⟩
       constructor
       case k8 => exact fun _ => rfl
       case r => exact HV.out.r
       all_goals exact Um (by assumption)
      ·simp at ho
       subst ho
       have H3 := Hq hall 3
       clear hall hi
       have e0 := HV.out.k3 H3.out
       subst e0
       refine wpOp_hid rfl fun K' HK => ?_
       go_simp
       cases HV.out
       refine HK.out _ _ ⟨by simp [HJ.out.sz], ?_⟩
       iterate 17 apply Exists.intro
       refine ⟨rfl, ?_⟩
       constructor
       case k9 => exact fun _ => rfl
       case r => exact HV.out.r
       all_goals exact Um (by assumption)
      ·simp at ho
       subst ho
       have H3 := Hq hall 3
       clear hall hi
       have e0 := HV.out.k3 H3.out
       subst e0
       refine wpOp_hid rfl fun K' HK => ?_
       go_simp
       cases HV.out
       refine HK.out _ _ ⟨by simp [HJ.out.sz], ?_⟩
       iterate 17 apply Exists.intro
       refine ⟨rfl, ?_⟩
       constructor
       case k10 => exact fun _ => rfl
       case r => exact HV.out.r
       all_goals exact Um (by assumption)
      ·simp at ho
       subst ho
       have H10 := Hq hall 10
       have H3 := Hq hall 3
       clear hall hi
       have e0 := HV.out.k10 H10.out
       subst e0
       have e1 := HV.out.k3 H3.out
       subst e1
       have h0 := HW_jp.out
       refine wpOp_hid rfl fun K' HK => ?_
       go_simp
       cases HV.out
       refine HK.out _ _ ⟨by simp [HJ.out.sz], ?_⟩
       iterate 17 apply Exists.intro
       refine ⟨rfl, ?_⟩
       constructor
       case k11 => exact fun _ => rfl
       case r => exact HV.out.r
       all_goals exact Um (by assumption)
      ·simp at ho
       subst ho
       have H9 := Hq hall 9
       have H11 := Hq hall 11
       have H3 := Hq hall 3
       clear hall hi
       have e0 := HV.out.k9 H9.out
       subst e0
       have e1 := HV.out.k11 H11.out
       subst e1
       have e2 := HV.out.k3 H3.out
       subst e2
       have h0 := HL_jp.out
       refine wpOp_hid rfl fun K' HK => ?_
       go_simp
       cases HV.out
       refine HK.out _ _ ⟨by simp [HJ.out.sz], ?_⟩
       iterate 17 apply Exists.intro
       refine ⟨rfl, ?_⟩
       constructor
       case k12 => exact fun _ => rfl
       case r => exact HV.out.r
       all_goals exact Um (by assumption)
      ·simp at ho
       subst ho
       have H12 := Hq hall 12
       have H3 := Hq hall 3
       clear hall hi
       have e0 := HV.out.k12 H12.out
       subst e0
       have e1 := HV.out.k3 H3.out
       subst e1
       obtain ⟨c0, c1, c2, c3, c4, c5, c6⟩ := HV.out.r.at' HAD.out HY.out
       refine wpOp_hid rfl fun K' HK => ?_
       go_simp
       cases HV.out
       refine HK.out _ _ ⟨by simp [HJ.out.sz], ?_⟩
       iterate 17 apply Exists.intro
       refine ⟨rfl, ?_⟩
       constructor
       case k13 => exact fun _ => rfl
       case r => exact HV.out.r
       all_goals exact Um (by assumption)
      ·simp at ho
       subst ho
       have H4 := Hq hall 4
       have H8 := Hq hall 8
       have H13 := Hq hall 13
       have H3 := Hq hall 3
       clear hall hi
       have e0 := HV.out.k4 H4.out
       subst e0
       have e1 := HV.out.k8 H8.out
       subst e1
       have e2 := HV.out.k13 H13.out
       subst e2
       have e3 := HV.out.k3 H3.out
       subst e3
       have hen := HC.out.en
       refine wpOp_hid rfl fun K' HK => ?_
       go_simp
       refine (HCR.out w' HV.out.r).mono ?_
       rintro e wn ⟨rfl, bn⟩
       cases HV.out
       refine HK.out _ _ ⟨by simp [HJ.out.sz], ?_⟩
       iterate 17 apply Exists.intro
       refine ⟨rfl, ?_⟩
       constructor
       case k14 => exact fun _ => rfl
       case r => exact HV.out.r.below bn
       all_goals exact Um (by assumption)
      ·simp at ho
       subst ho
       have H14 := Hq hall 14
       have H3 := Hq hall 3
       clear hall hi
       have e0 := HV.out.k14 H14.out
       subst e0
       have e1 := HV.out.k3 H3.out
       subst e1
       have hzt := HZT.out
       refine wpOp_hid rfl fun K' HK => ?_
       go_simp
       cases HV.out
       refine HK.out _ _ ⟨by simp [HJ.out.sz], ?_⟩
       iterate 17 apply Exists.intro
       refine ⟨rfl, ?_⟩
       constructor
       case k15 => exact fun _ => rfl
       case r => exact HV.out.r
       all_goals exact Um (by assumption)
      ·simp at ho
       subst ho
       have H3 := Hq hall 3
       have H15 := Hq hall 15
       clear hall hi
       have e0 := HV.out.k3 H3.out
       subst e0
       have e1 := HV.out.k15 H15.out
       subst e1
       refine wpOp_hid rfl fun K' HK => ?_
       go_simp
       cases HV.out
       refine HK.out _ _ ⟨by simp [HJ.out.sz], ?_⟩
       iterate 17 apply Exists.intro
       refine ⟨rfl, ?_⟩
       constructor
       case k16 => exact fun _ => rfl
       case r => exact HV.out.r
       all_goals exact Um (by assumption)
  ·have hcx : decide ((i : Int) < (b : Int)) = false := by simp; omega
   have HF : Hid (SRow V w0 g sp (sortSeg lt D0 a b) wr) := HR.out.same (by rw [HD.out]; split <;> first | rfl | (congr 1; omega))
   go_wp2_with fail
   go_end0
   exact ⟨rfl, HF.out⟩
end Go.Proofs.YtdnmpgoigagjmaaGreatDoor
namespace Go.Proofs.YtdnmpgoigagjmaaGreatDoor
open Go.RowKit Tr Go.Shelf
section
variable {α : Type} (lt : α → α → Bool)
end
def qpos (a : Lot) : Int := if 0 < vl a.qty then vl a.qty else 1
theorem qpos_pos (a : Lot) : 0 < qpos a := by unfold qpos; split <;> omega
theorem qpos_of {a : Lot} (h : 0 < vl a.qty) : qpos a = vl a.qty := by unfold qpos; rw [if_pos h]
def ltF (a b : Lot) : Bool := decide (a.acq < b.acq)
def ltK (n : Lot → Int) (a b : Lot) : Bool := decide (n a * qpos b < n b * qpos a ∨ n a * qpos b = n b * qpos a ∧ a.acq < b.acq)
def ltL : Lot → Lot → Bool := ltK (fun a => vl a.cost)
def ltH : Lot → Lot → Bool := ltK (fun a => - vl a.cost)
def ltM (m : Int) : Lot → Lot → Bool := if m = 3 then ltH else if m = 4 then ltL else ltF
theorem ltF_weak : Weak ltF := ⟨fun a => by unfold ltF; simp, fun a b c h1 h2 => by unfold ltF at *; simp at *; omega, fun a b h => by unfold ltF at *; simp at *; omega⟩
theorem cross_le {a p b q c r : Int} (hp : 0 < p) (hq : 0 < q) (hr : 0 < r) (h1 : b * p ≤ a * q) (h2 : c * q ≤ b * r) : c * p ≤ a * r := by
 refine Int.le_of_mul_le_mul_right ?_ hq
 have e1 : c * p * q = c * q * p := by rw [Int.mul_assoc, Int.mul_comm p q, ← Int.mul_assoc]
 have e2 : b * r * p = b * p * r := by rw [Int.mul_assoc, Int.mul_comm r p, ← Int.mul_assoc]
 have e3 : a * q * r = a * r * q := by rw [Int.mul_assoc, Int.mul_comm q r, ← Int.mul_assoc]
 rw [e1, ← e3]
 refine Int.le_trans (Int.mul_le_mul_of_nonneg_right h2 (Int.le_of_lt hp)) ?_
 rw [e2]
 exact Int.mul_le_mul_of_nonneg_right h1 (Int.le_of_lt hr)
theorem cross_lt1 {a p b q c r : Int} (hp : 0 < p) (hq : 0 < q) (hr : 0 < r) (h1 : b * p < a * q) (h2 : c * q ≤ b * r) : c * p < a * r := by
 refine Int.lt_of_mul_lt_mul_right ?_ (Int.le_of_lt hq)
 have e1 : c * p * q = c * q * p := by rw [Int.mul_assoc, Int.mul_comm p q, ← Int.mul_assoc]
 have e2 : b * r * p = b * p * r := by rw [Int.mul_assoc, Int.mul_comm r p, ← Int.mul_assoc]
 have e3 : a * q * r = a * r * q := by rw [Int.mul_assoc, Int.mul_comm q r, ← Int.mul_assoc]
 rw [e1, ← e3]
 refine Int.lt_of_le_of_lt (Int.mul_le_mul_of_nonneg_right h2 (Int.le_of_lt hp)) ?_
 rw [e2]
 exact Int.mul_lt_mul_of_pos_right h1 hr
theorem cross_lt2 {a p b q c r : Int} (hp : 0 < p) (hq : 0 < q) (hr : 0 < r) (h1 : b * p ≤ a * q) (h2 : c * q < b * r) : c * p < a * r := by
 refine Int.lt_of_mul_lt_mul_right ?_ (Int.le_of_lt hq)
 have e1 : c * p * q = c * q * p := by rw [Int.mul_assoc, Int.mul_comm p q, ← Int.mul_assoc]
 have e2 : b * r * p = b * p * r := by rw [Int.mul_assoc, Int.mul_comm r p, ← Int.mul_assoc]
 have e3 : a * q * r = a * r * q := by rw [Int.mul_assoc, Int.mul_comm q r, ← Int.mul_assoc]
 rw [e1, ← e3]
 refine Int.lt_of_lt_of_le (Int.mul_lt_mul_of_pos_right h2 hp) ?_
 rw [e2]
 exact Int.mul_le_mul_of_nonneg_right h1 (Int.le_of_lt hr)
theorem ltK_weak (n : Lot → Int) : Weak (ltK n) := by
 have key : ∀ a b c, ltK n a c = true → ltK n a b = true ∨ ltK n b c = true := by
  intro a b c h
  unfold ltK at *
  simp only [decide_eq_true_eq] at *
  have pa := qpos_pos a
  have pb := qpos_pos b
  have pc := qpos_pos c
  rcases Int.lt_trichotomy (n a * qpos b) (n b * qpos a) with h1 | h1 | h1
  ·exact .inl (.inl h1)
  ·rcases Int.lt_trichotomy (n b * qpos c) (n c * qpos b) with h2 | h2 | h2
   ·exact .inr (.inl h2)
   ·have e1 := cross_le pa pb pc (Int.le_of_eq h1.symm) (Int.le_of_eq h2.symm)
    have e2 := cross_le pc pb pa (Int.le_of_eq h2) (Int.le_of_eq h1)
    rcases h with h | ⟨_, h⟩
    ·omega
    ·by_cases hab : a.acq < b.acq
     ·exact .inl (.inr ⟨h1, hab⟩)
     ·exact .inr (.inr ⟨h2, by omega⟩)
   ·have e1 := cross_lt2 pa pb pc (Int.le_of_eq h1.symm) h2
    omega
  ·rcases Int.lt_or_le (n b * qpos c) (n c * qpos b) with h2 | h2
   ·exact .inr (.inl h2)
   ·have e1 := cross_lt1 pa pb pc h1 h2
    omega
 refine ⟨fun a => ?_, fun a b c h1 h2 => ?_, fun a b h => ?_⟩
 ·unfold ltK; simp
 ·cases h : ltK n a c
  ·rfl
  ·rcases key a b c h with h | h
   ·rw [h1] at h; cases h
   ·rw [h2] at h; cases h
 ·cases h2 : ltK n b a
  ·rfl
  ·rcases key a a b h with h3 | h3
   ·exfalso; unfold ltK at h3; simp at h3
   ·unfold ltK at *
    simp only [decide_eq_true_eq] at *
    omega
theorem ltM_weak (m : Int) : Weak (ltM m) := by
 unfold ltM
 split
 ·exact ltK_weak _
 ·split
  ·exact ltK_weak _
  ·exact ltF_weak
def ordP (m : Int) (ls : List Lot) : List Lot := if m = 2 then (ssort ltF ls).reverse else ssort (ltM m) ls
theorem ordP_perm (m : Int) (ls : List Lot) : (ordP m ls).Perm ls := by
 unfold ordP
 split
 ·exact (List.reverse_perm _).trans (ssort_perm _ _)
 ·exact ssort_perm _ _
end Go.Proofs.YtdnmpgoigagjmaaGreatDoor
