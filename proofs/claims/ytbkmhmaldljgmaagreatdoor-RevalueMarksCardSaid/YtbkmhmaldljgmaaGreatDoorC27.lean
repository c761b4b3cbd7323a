/-
  The limits of a number: the closure of fact.between.
  Ints that are sorted in place, in memory: slices.insertionSortCmpFunc over ints.
  trancheref10.Great of one instrument, trancheref02.Great of three numbers.
  fact.whole, fact.value: the numbers of a fact. (Printed by gen_fk2.py.)
  fact.empty, fact.isCode, the name's check.
-/
import Derived.Test.YtbkmhmaldljgmaaGreatDoorC24
import Derived.Test.YtbkmhmaldljgmaaGreatDoorC26
import Derived.Test.YtbkmhmaldljgmaaGreatDoorC19
import Derived.Deep.Quiet
import Derived.Deep.QuietTactic
import Derived.Test.YtbkmhmaldljgmaaGreatDoorC16
import Derived.Test.YtbkmhmaldljgmaaGreatDoorC02
import Derived.Test.YtbkmhmaldljgmaaGreatDoorC05
import Derived.Test.YtbkmhmaldljgmaaGreatDoorC14
import Derived.Test.YtbkmhmaldljgmaaGreatDoorC17
import Derived.Laws.StructEq
import Derived.Shelf.Strings.SlTrimAscii
set_option linter.unusedVariables false
set_option linter.unusedSimpArgs false
set_option maxHeartbeats 16000000
set_option maxRecDepth 100000
namespace Go.Proofs.YtbkmhmaldljgmaaGreatDoor
open Go.RowKit Tr Go.Shelf Go.Maps
theorem bkeepK {W W' : World} {k : Nat} {o : Obj} (hb : Below W.heap.size W W') (h : W.heap[k]? = some o) : W'.heap[k]? = some o := (hb.block _ (Array.getElem?_eq_some_iff.1 h).1).trans h
theorem BX.farK {w : World} {l : List (Nat × Obj)} {W : World} {b : Nat} (h : BX w l W) (hB : w.heap.size ≤ b) (hn : ∀ x, x ∈ l → x.1 ≠ b) (x y : Value) : BX w l ((W.setCell ⟨b, 0, none⟩ x).setCell ⟨b, 1, none⟩ y) :=
 ⟨set2_below hB h.1 _ _, fun z hz => (set2_far (hn z hz) _ _).trans (h.2 z hz)⟩
theorem trim_size (a : ByteArray) (p : List UInt8) : (⟨(Lib.trimPrefix a.data.toList p).toArray⟩ : ByteArray).size ≤ a.size := by
 have e : (⟨(Lib.trimPrefix a.data.toList p).toArray⟩ : ByteArray).size = (Lib.trimPrefix a.data.toList p).length := by simp [ByteArray.size]
 rw [e, Lib.size_eq]
 unfold Lib.trimPrefix
 split
 ·simp
 ·exact Nat.le_refl _
section
variable {P : Program} {ops : Array Oper} {C : World → Prop}
theorem wp_region_quietC {id : Nat} {Q : Exit → Act → World → Prop} {a : Act} {w : World} {l : List Oper} (C : World → Prop) (hm : P.follows .mixedOrders = true) (hB : Region.lexB .any l.toArray = true) (hC : C w.drew)
 (h : wpQuiet P l.toArray C (fun a' => ∀ w', C w' → Q .normal a' w') l a) : (Code.region id l.toArray true).wp P Q a w :=
 wp_region_quiet hm hB hC (by simpa using h)
end
theorem num_le_zero (q : Rat) : q.num ≤ 0 ↔ q ≤ 0 := by
 have h := @Rat.num_nonneg (-q)
 rw [Rat.neg_num] at h
 constructor
 ·intro h1; have := h.1 (by omega); grind
 ·intro h1; have := h.2 (by grind); omega
theorem fcDigits_any (a : ByteArray) (w : World) : Calls Tryz.prog 280 #[.string a] w fun e w' => ∃ k : Nat, e = .returned (.int .i64 (k : Int)) ∧ k ≤ a.size ∧ w' = w := by
 have HT := hI (Tryz.strings_TrimPrefix a ⟨#[45]⟩ w)
 have HS := hI (trim_size a (⟨#[45]⟩ : ByteArray).data.toList)
 generalize (⟨(Lib.trimPrefix a.data.toList (⟨#[45]⟩ : ByteArray).data.toList).toArray⟩ : ByteArray) = r at HT HS
 go_enter Tryz.func280, Tryz.ntmps280
 go_wp2_with fail
 refine HT.out.mono ?_
 rintro e w1 ⟨rfl, rfl⟩
 go_wp2_with fail
 go_ret
 exact ⟨r.size, rfl, HS.out, rfl⟩
abbrev btL (w : World) (n d : ByteArray) (p q : Bool) (b1 b2 : Nat) : List (Nat × Obj) := [(w.heap.size, .cells #[.string n, .string d] 25 (0, 0)), (b1, .cells #[.bool p] 4 (0, 0)), (b2, .cells #[.bool q] 4 (0, 0))]
theorem bt_cells {w : World} {n d : ByteArray} {p q : Bool} {b1 b2 : Nat} {W : World} (h : BX w (btL w n d p q b1 b2) W) : W.cell? ⟨w.heap.size, 0, none⟩ = some (.string n) ∧ W.cell? ⟨w.heap.size, 1, none⟩ = some (.string d) ∧ W.cell? ⟨b1, 0, none⟩ = some (.bool p) ∧ W.cell? ⟨b2, 0, none⟩ = some (.bool q) := by
 have a := h.get 0 rfl
 have b := h.get 1 rfl
 have c := h.get 2 rfl
 exact ⟨Lib.cell_of_heap a 0, Lib.cell_of_heap a 1, Lib.cell_of_heap b 0, Lib.cell_of_heap c 0⟩
theorem fv_zero2 : fv ⟨#[]⟩ ⟨#[]⟩ = 0 := by
 have h := fv_enc 0
 exact h
end Go.Proofs.YtbkmhmaldljgmaaGreatDoor
namespace Go.Proofs.YtbkmhmaldljgmaaGreatDoor
open Go.RowKit Tr Go.Shelf
structure IRow (w0 : World) (g : Nat) (D : List Nat) (W : World) : Prop where
 row : OwnN W g D
 gr : w0.grownBy W (some g)
 lt : g < w0.heap.size
section
variable {w0 W W' : World} {g k : Nat} {D : List Nat} {x : Nat}
theorem IRow.ltW (h : IRow w0 g D W) : g < W.heap.size := Nat.lt_of_lt_of_le h.lt h.gr.size
theorem IRow.below (h : IRow w0 g D W) (hb : Below W.heap.size W W') : IRow w0 g D W' :=
 ⟨(hb.block g h.ltW).trans h.row, ⟨hb.os.trans h.gr.os, hb.tape.trans h.gr.tape, hb.output.trans h.gr.output, Nat.le_trans h.gr.size hb.size, fun k hk hne => (hb.block k (Nat.lt_of_lt_of_le hk h.gr.size)).trans (h.gr.block k hk hne)⟩, h.lt⟩
theorem IRow.drew (h : IRow w0 g D W) : IRow w0 g D W.drew := h.below (Below.refl _ _).drew
theorem IRow.cell (h : IRow w0 g D W) (hk : D[k]? = some x) : W.cell? ⟨g, k, none⟩ = some (.int .i64 (x : Int)) := by
 obtain ⟨hl, he⟩ := List.getElem?_eq_some_iff.1 hk
 rw [h.row.cell hl]
 unfold gt
 simp [hk]
theorem IRow.put (h : IRow w0 g D W) (hk : k < D.length) (y : Nat) : IRow w0 g (D.set k y) (W.setCell ⟨g, k, none⟩ (.int .i64 (y : Int))) := by
 refine ⟨h.row.set hk y, ?_, h.lt⟩
 refine ⟨h.gr.os, h.gr.tape, h.gr.output, by simp [World.setCell]; exact h.gr.size, fun j hj hne => ?_⟩
 have : (W.setCell ⟨g, k, none⟩ (.int .i64 (y : Int))).heap[j]? = W.heap[j]? := by
  simp only [World.setCell, Array.getElem?_modify]
  rw [if_neg (fun e => hne (by rw [e]))]
 rw [this]
 exact h.gr.block j hj hne
theorem IRow.same (h : IRow w0 g D W) {D' : List Nat} (e : D = D') : IRow w0 g D' W := e ▸ h
end
structure CmpI (p : Nat → Prop) (cf : Nat → Nat → Int) (f : Nat) (bd : Array Value) (w0 : World) (g : Nat) : Prop where
 en : ∀ args w, (callFunc f args).run Tryz.prog w = .ok (.enter f args) w
 run : ∀ W, w0.grownBy W (some g) → ∀ a b, p a → p b → Calls Tryz.prog f (#[.int .i64 (a : Int), .int .i64 (b : Int)] ++ bd) W fun e w' => e = .returned (.int .i64 (cf a b)) ∧ Below W.heap.size W w'
theorem cells_two {w0 W : World} {g j jp u v : Nat} {D : List Nat} (h : IRow w0 g ((D.set j u).set jp v) W) (hne : j ≠ jp) (hj : j < D.length) (hp : jp < D.length) :
 W.cell? ⟨g, j, none⟩ = some (.int .i64 (u : Int)) ∧ W.cell? ⟨g, jp, none⟩ = some (.int .i64 (v : Int)) :=
 ⟨h.cell (by rw [List.getElem?_set_ne (Ne.symm hne)]; simp [hj]), h.cell (by simp [hp])⟩
theorem set_id {α : Type} {D : List α} {k : Nat} {x : α} (h : D[k]? = some x) : D.set k x = D := by
 obtain ⟨hk, he⟩ := List.getElem?_eq_some_iff.1 h
 rw [← he, List.set_getElem_self]
theorem isortI_any (p : Nat → Prop) (cf : Nat → Nat → Int) (lt : Nat → Nat → Bool) (hw : Weak lt) (w0 : World) (g N c a b f : Nat) (bd : Array Value) (hlt : ∀ x y, p x → p y → decide (cf x y < 0) = lt x y) (hC : CmpI p cf f bd w0 g) (D0 : List Nat) (hN : D0.length = N) (hm : N ≤ 1000000) (hab : a ≤ b) (hb : b ≤ N) (hp : ∀ x ∈ D0, p x) (w : World) (hrow : IRow w0 g D0 w) :
 Calls Tryz.prog 260 #[.slice (some ⟨g, 0, none⟩) N c, .int .i64 (a : Int), .int .i64 (b : Int), .func (.func f) #[] bd] w fun e w' => e = .returned (.tuple #[]) ∧ IRow w0 g (sortSeg lt D0 a b) w' := by
 have mixed : Tryz.prog.follows .mixedOrders = true := by kernel_rfl
 have HROW := hI hrow
 have HNN := hI hN
 have HLT := hI hlt
 have HC := hI hC
 have HWK := hI hw
 have HP := hI hp
 clear hrow hN hlt hC hw hp
 have hw1 : IntKind.i64.wrap ((a : Int) + 1) = (a : Int) + 1 := by rw [IntKind.wrap_i64]; omega
 go_enter Tryz.func260, Tryz.ntmps260
 go_wp2_with fail
 go_loopw [8] (fun v wr => ∃ (i : Nat) (D : List Nat), v = .int .i64 (i : Int) ∧ a < i ∧ i ≤ b + 1 ∧ D.length = N ∧ (∀ x ∈ D, p x) ∧ D = sortSeg lt D0 a (if i ≤ b then i else b) ∧ IRow w0 g D wr) (fun v _ => b + 1 - (intOf v).toNat)
 case atStart =>
  refine ⟨a + 1, D0, by go_num, by omega, by omega, HNN.out, HP.out, ?_, HROW.out⟩
  split
  ·rw [sortSeg_one lt (by rw [HNN.out]; omega)]
  ·rw [show b = a from by omega, sortSeg_self]
 case round =>
  obtain ⟨i, D, rfl, hai, hib, hlen, hpd, hD, hr⟩ := hrel
  have HR := hI hr
  have HD := hI hD
  have HLEN0 := hI hlen
  have HPD0 := hI hpd
  clear hr hD hlen hw1 hpd
  rcases Nat.lt_or_ge i b with hlt | hge
  ·have hcx : decide ((i : Int) < (b : Int)) = true := by simp; omega
   obtain ⟨z, hz⟩ : ∃ z, D0[i]? = some z := ⟨_, List.getElem?_eq_getElem (by rw [HNN.out]; omega)⟩
   have HS0 : Hid (Sh (D0.take a) (ssort lt ((D0.take i).drop a)) z (D0.drop (i + 1)) i D (fun y => lt z y = true)) := by
    have h := HD.out
    rw [if_pos (by omega)] at h
    rw [Hid, h]; exact sortSeg_start lt (by omega) hz
   have HEND := hI (sortSeg_step lt (show a ≤ i by omega) hz)
   have HXL : Hid ((D0.take a).length = a) := by rw [Hid, List.length_take, HNN.out]; omega
   have HIB : Hid (i + 1 ≤ b) := hlt
   clear hz
   go_wp2_with fail
   go_loopw [9] (fun v wr => ∃ (j : Nat) (D : List Nat), v = .int .i64 (j : Int) ∧ a ≤ j ∧ j ≤ i ∧ D.length = N ∧ (∀ x ∈ D, p x) ∧ Sh (D0.take a) (ssort lt ((D0.take i).drop a)) z (D0.drop (i + 1)) j D (fun y => lt z y = true) ∧ IRow w0 g D wr) (fun v _ => (intOf v).toNat)
   case atStart => exact ⟨i, D, rfl, by omega, by omega, HLEN0.out, HPD0.out, HS0.out, HR.out⟩
   case round =>
    clear HD HR HLEN0 HPD0
    obtain ⟨j, D, rfl, haj, hji, hlen, hpd, hsh, hr⟩ := hrel
    have HR := hI hr
    have HSH := hI hsh
    have HLEN := hI hlen
    have HPD := hI hpd
    have HSTOP : Hid (j = a ∨ ltAt lt D j (j - 1) = false → D = sortSeg lt D0 a (if i + 1 ≤ b then i + 1 else b)) := fun h => by
     rw [if_pos HIB.out, ← HEND.out]
     exact HSH.out.stop lt HWK.out (ssort_asc lt HWK.out _) (by rw [HXL.out]; exact h)
    clear hr hsh hpd
    rcases Nat.eq_or_lt_of_le haj with he | hpos
    ·have tg : decide ((j : Int) > (a : Int)) = false := decide_eq_false (by omega)
     have tg' : decide ((a : Int) < (j : Int)) = false := decide_eq_false (by omega)
     have tg2 : ¬ a < j := by omega
     have HF := hI (HSTOP.out (.inl he.symm))
     clear he hlen
     go_wp2_with fail
     go_quiet (fail)
     go_wp2_with fail
     go_roundw
     case rel => exact ⟨i + 1, D, by go_num, by omega, by omega, HLEN.out, HPD.out, HF.out, by first | exact HR.out.drew | exact HR.out.below (below_drewN (Below.refl _ _) _)⟩
     case measure => simp [intOf]; omega
    ·obtain ⟨jp, hj⟩ : ∃ jp, j = jp + 1 := ⟨j - 1, by omega⟩
     have HJ := hI hj
     have HGT : Hid (decide ((a : Int) < (j : Int)) = true) := decide_eq_true (by omega)
     have HW_jp : Hid (IntKind.i64.wrap ((j : Int) - 1) = (jp : Int)) := by rw [Hid, IntKind.wrap_i64]; omega
     have HL_j : Hid ((j : Int) < (N : Int)) := by show (j : Int) < _; omega
     have HL_jp : Hid ((jp : Int) < (N : Int)) := by show (jp : Int) < _; omega
     obtain ⟨x, hx⟩ : ∃ x, D[j]? = some x := ⟨_, List.getElem?_eq_getElem (by omega)⟩
     obtain ⟨y, hy⟩ : ∃ y, D[jp]? = some y := ⟨_, List.getElem?_eq_getElem (by omega)⟩
     have HX : Hid (D[j]? = some x) := hx
     have HY : Hid (D[jp]? = some y) := hy
     have HVX : Hid (p x) := HPD.out x (List.mem_of_getElem? hx)
     have HVY : Hid (p y) := HPD.out y (List.mem_of_getElem? hy)
     have hxz : x = z := by have h := HSH.out.at; rw [hx] at h; exact Option.some.inj h
     obtain ⟨zc, hzc⟩ : ∃ zc, cf x y = zc := ⟨_, rfl⟩
     obtain ⟨t, ht⟩ : ∃ t, lt x y = t := ⟨_, rfl⟩
     have hzt : decide (zc < 0) = t := by rw [← hzc, ← ht]; exact HLT.out x y HVX.out HVY.out
     have HTL : Hid (ltAt lt D j (j - 1) = t) := by rw [Hid, hj, Nat.add_sub_cancel, ← hj, ltAt_of lt hx hy]; exact ht
     have HTZ : Hid (lt z y = t) := by rw [Hid, ← hxz]; exact ht
     have HCR : Hid (∀ W, IRow w0 g D W → Calls Tryz.prog f (#[.int .i64 (x : Int), .int .i64 (y : Int)] ++ bd) W fun e w' => e = .returned (.int .i64 zc) ∧ Below W.heap.size W w') := fun W hW => by
      rw [← hzc]; exact HC.out.run W hW.gr x y HVX.out HVY.out
     clear hx hy hj hxz hzc ht hlen haj
     have hgt := HGT.out
     have hwjp := HW_jp.out
     have hlj := HL_j.out
     have hljp := HL_jp.out
     have hen := HC.out.en
     go_upto_region 4 with fail
     refine wp_region_quietC (fun W => IRow w0 g D W) mixed (by kernel_rfl) HR.out.drew ?_
     iterate 17
      refine wpQuiet_step (fun K hK => ?_)
      go_simp
      first
      | (refine hK _ ?_; clear hK K)
      | (refine ⟨_, fun _ _ => rfl, hK _ ?_⟩; clear hK K)
      | (refine ⟨.int .i64 (x : Int), fun W hW => ?_, hK _ ?_⟩
         focus
          have a0 := hW.cell HX.out
          go_simp
          done
         clear hK K)
      | (refine ⟨.int .i64 (y : Int), fun W hW => ?_, hK _ ?_⟩
         focus
          have a0 := hW.cell HY.out
          go_simp
          done
         clear hK K)
      | (refine ⟨.int .i64 zc, fun W hW => ?_, hK _ ?_⟩
         focus
          refine (HCR.out W hW).mono ?_
          rintro e wn ⟨rfl, hb⟩
          exact ⟨rfl, hW.below hb⟩
         clear hK K)
     refine wpQuiet_nil ?_
     intro w5 hw5
     have HR1 := hI hw5
     clear hw5 hgt hen
     cases t with
     | false =>
       go_wp2_with fail
       go_roundw
       case rel => exact ⟨i + 1, D, by go_num, by omega, by omega, HLEN.out, HPD.out, HSTOP.out (.inr HTL.out), HR1.out⟩
       case measure => simp [intOf]; omega
     | true =>
       go_upto_region 6 with fail
       have HJN : Hid (j ≠ jp) := by rw [Hid, HJ.out]; omega
       have HJL : Hid (j < D.length) := (List.getElem?_eq_some_iff.1 HX.out).1
       have HPL : Hid (jp < D.length) := (List.getElem?_eq_some_iff.1 HY.out).1
       refine region_marks (m := { C := fun W => ∃ u v : Nat, IRow w0 g ((D.set j u).set jp v) W, V := [fun v => v = .slice (some ⟨g, 0, none⟩) N c, fun v => v = .int .i64 (j : Int), fun v => v = .slice (some ⟨g, 0, none⟩) N c, fun v => v = .int .i64 (j : Int), fun v => v = .int .i64 (jp : Int), fun v => v = .slice (some ⟨g, 0, none⟩) N c, fun v => v = .int .i64 (j : Int), fun v => v = .int .i64 (jp : Int), fun v => v = .pointer (some ⟨g, jp, none⟩), fun v => v = .int .i64 (y : Int), fun v => v = .slice (some ⟨g, 0, none⟩) N c, fun v => v = .int .i64 (j : Int), fun v => v = .pointer (some ⟨g, j, none⟩), fun v => v = .int .i64 (x : Int), fun v => v = .pointer (some ⟨g, j, none⟩), fun _ => True, fun v => v = .pointer (some ⟨g, jp, none⟩)], N := [(15, fun _ W => W.cell? ⟨g, j, none⟩ = some (.int .i64 (y : Int))), (17, fun _ W => W.cell? ⟨g, jp, none⟩ = some (.int .i64 (x : Int)))], Z := [(15, fun W => W.cell? ⟨g, j, none⟩ = some (.int .i64 (x : Int))), (17, fun W => W.cell? ⟨g, jp, none⟩ = some (.int .i64 (y : Int)))] }) (F := ?F) mixed (by kernel_rfl) (by kernel_rfl) (by kernel_rfl) (fun s => ?hF) ?hC ?hZ ?hs ?he
       case hF =>
        simp only [putAll, Act.put, List.setIfInBounds_toArray, List.set_cons_succ, List.set_cons_zero, Nat.reduceAdd, Nat.zero_add]
        exact rfl
       case hC => exact ⟨x, y, by rw [set_id HX.out, set_id HY.out]; exact HR1.out.drew⟩
       case hZ => exact ⟨HR1.out.drew.cell HX.out, HR1.out.drew.cell HY.out, True.intro⟩
       case hs =>
        iterate 18
         refine mSteps_cons (fun s W hW hd hz K hK => ?_) ?_
         focus
          simp [depsOk, Mk.ok, mkV, mkN, Region.binds] at hd
          try simp only [hd] at hK ⊢
          first
          | (go_simp
             refine hK _ _ ?_ _ rfl
             first | exact nx_pure hW (And.intro rfl True.intro) rfl | exact nx_pure hW (And.intro True.intro True.intro) rfl)
          | (have z := hz.2.1 (by kernel_rfl)
             simp only at z
             go_simp
             refine hK _ _ ?_ _ rfl
             exact nx_pure hW (And.intro rfl True.intro) rfl)
          | (have z := hz.1 (by kernel_rfl)
             simp only at z
             go_simp
             refine hK _ _ ?_ _ rfl
             exact nx_pure hW (And.intro rfl True.intro) rfl)
          | (obtain ⟨u, v, hr⟩ := hW
             have hf := hr.row.frozen j
             have A := cells_two hr HJN.out HJL.out HPL.out
             have a1 := A.1
             have hr' : IRow w0 g ((D.set j y).set jp v) (W.setCell ⟨g, j, none⟩ (.int .i64 (y : Int))) := (hr.put (k := j) (by simp [HJL.out]) y).same (by rw [List.set_comm _ _ (Ne.symm HJN.out), List.set_set])
             have B := cells_two hr' HJN.out HJL.out HPL.out
             go_simp
             refine hK undef _ ?_ _ rfl
             exact ⟨⟨y, v, hr'⟩, ⟨True.intro, fun _ h => B.2.trans (A.2.symm.trans h), True.intro⟩, ⟨True.intro, fun h => B.2.trans (A.2.symm.trans h), True.intro⟩, by simp [World.setCell], And.intro True.intro B.1, (fun h => by cases h), True.intro⟩)
          | (obtain ⟨u, v, hr⟩ := hW
             have hf := hr.row.frozen jp
             have A := cells_two hr HJN.out HJL.out HPL.out
             have a1 := A.2
             have hr' : IRow w0 g ((D.set j u).set jp x) (W.setCell ⟨g, jp, none⟩ (.int .i64 (x : Int))) := (hr.put (k := jp) (by simp [HPL.out]) x).same (by rw [List.set_set])
             have B := cells_two hr' HJN.out HJL.out HPL.out
             go_simp
             refine hK undef _ ?_ _ rfl
             exact ⟨⟨u, x, hr'⟩, ⟨fun _ h => B.1.trans (A.1.symm.trans h), True.intro, True.intro⟩, ⟨fun h => B.1.trans (A.1.symm.trans h), True.intro, True.intro⟩, by simp [World.setCell], And.intro True.intro B.2, (fun h => by cases h), True.intro⟩)
        exact mSteps_nil
       case he =>
        intro s W hC hall hd
        simp [allOk, Mk.ok, mkV, mkN] at hall
        obtain ⟨u, v, hr⟩ := hC
        have A := cells_two hr HJN.out HJL.out HPL.out
        have e1 : u = y := by have h := A.1; simp [hall] at h; omega
        have e2 : v = x := by have h := A.2; simp [hall] at h; omega
        subst e1 e2
        have HF : Hid (IRow w0 g (swp D j jp) W) := hr.same (by rw [swp_at HX.out HY.out])
        clear hall hd hr A
        go_wp2_with fail
        go_roundw
        case rel => exact ⟨jp, swp D j jp, rfl, by have := HJ.out; omega, by have := HJ.out; omega, by rw [swp_len]; exact HLEN.out, fun z hz => HPD.out z (swp_mem hz), by have h := HSH.out.down (p := fun y => lt z y = true) (by rw [HXL.out]; have := HJ.out; omega) (by rw [HJ.out, Nat.add_sub_cancel]; exact HY.out) HTZ.out; rw [HJ.out, Nat.add_sub_cancel] at h; rw [HJ.out]; exact h, HF.out⟩
        case measure => have hj := HJ.out; simp [intOf]; omega
  ·have hcx : decide ((i : Int) < (b : Int)) = false := by simp; omega
   have HF : Hid (IRow w0 g (sortSeg lt D0 a b) wr) := HR.out.same (by rw [HD.out]; split <;> first | rfl | (congr 1; omega))
   go_wp2_with fail
   go_end0
   exact ⟨rfl, HF.out⟩
end Go.Proofs.YtbkmhmaldljgmaaGreatDoor
namespace Go.Proofs.YtbkmhmaldljgmaaGreatDoor
open Go.RowKit Tr Go.Shelf
structure Inst.s60 (i : Inst) : Prop where
 id : i.id.size ≤ 60
 cur : i.cur.size ≤ 60
 other : i.other.size ≤ 60
 fn : i.fn.size ≤ 60
 fd : i.fd.size ≤ 60
 cn : i.cn.size ≤ 60
 cd : i.cd.size ≤ 60
 sn : i.sn.size ≤ 60
 sd : i.sd.size ≤ 60
theorem Inst.s60.small {i : Inst} (h : i.s60) : i.small := ⟨Nat.le_trans h.id (by omega), Nat.le_trans h.cur (by omega), Nat.le_trans h.fn (by omega), Nat.le_trans h.fd (by omega), Nat.le_trans h.cn (by omega), Nat.le_trans h.cd (by omega), Nat.le_trans h.other (by omega), Nat.le_trans h.sn (by omega), Nat.le_trans h.sd (by omega)⟩
def G2Post (w : World) (x y z : ByteArray × ByteArray) (e : Ending) (w' : World) : Prop := ∃ g, e = .returned (.bool g) ∧ (g = false → (x.1.size ≤ 60 ∧ x.2.size ≤ 60) ∧ (y.1.size ≤ 60 ∧ y.2.size ≤ 60) ∧ (z.1.size ≤ 60 ∧ z.2.size ≤ 60)) ∧ w' = w
def G10Post (w : World) (i : Inst) (e : Ending) (w' : World) : Prop := ∃ g, e = .returned (.bool g) ∧ (g = false → i.s60) ∧ Below w.heap.size w w'
theorem great02_any (B : Nat) (x y z : ByteArray × ByteArray) (w : World) (hb : w.heap[B]? = some (.cells #[.string x.1, .string x.2, .string y.1, .string y.2, .string z.1, .string z.2] 25 (0, 0))) :
 Calls Tryz.prog 17 #[.slice (some ⟨B, 0, none⟩) 3 3] w (G2Post w x y z) := by
 obtain ⟨Q, hQ⟩ : ∃ Q, G2Post w x y z = Q := ⟨_, rfl⟩
 rw [hQ]
 have HQ := hI hQ
 clear hQ
 have HB := hI hb
 obtain ⟨P, hP⟩ : ∃ P : Nat → ByteArray × ByteArray, P = fun k => if k = 0 then x else if k = 1 then y else z := ⟨_, rfl⟩
 have HC : Hid (∀ k, k < 3 → w.cell? ⟨B, k * 2, none⟩ = some (.string (P k).1) ∧ w.cell? ⟨B, k * 2 + 1, none⟩ = some (.string (P k).2)) := fun k hk => by
  rw [hP]
  rcases (show k = 0 ∨ k = 1 ∨ k = 2 from by omega) with rfl | rfl | rfl
  ·exact ⟨Lib.cell_of_heap hb 0, Lib.cell_of_heap hb 1⟩
  ·exact ⟨Lib.cell_of_heap hb 2, Lib.cell_of_heap hb 3⟩
  ·exact ⟨Lib.cell_of_heap hb 4, Lib.cell_of_heap hb 5⟩
 have HP : Hid (x = P 0 ∧ y = P 1 ∧ z = P 2) := by rw [hP]; exact ⟨rfl, rfl, rfl⟩
 clear hb hP
 go_enter Tryz.func17, Tryz.ntmps17
 go_wp2_with fail
 go_loopw [3] (fun v wr => ∃ k : Nat, v = .int .i64 (k : Int) ∧ k ≤ 3 ∧ (∀ j, j < k → (P j).1.size ≤ 60 ∧ (P j).2.size ≤ 60) ∧ wr = w) (fun v _ => 3 - (intOf v).toNat)
 case atStart => exact ⟨0, rfl, Nat.zero_le _, fun j h => by omega, rfl⟩
 case round =>
  obtain ⟨k, rfl, hk, hj, rfl⟩ := hrel
  have HJ := hI hj
  clear hj
  rcases Nat.lt_or_ge k 3 with hlt | hge
  ·have hcx : decide ((k : Int) < (3 : Int)) = true := by simp; omega
   have hbk : (k : Int) < (3 : Int) := by omega
   obtain ⟨e1, e2⟩ := HC.out k hlt
   obtain ⟨a, ha⟩ : ∃ a, (P k).1 = a := ⟨_, rfl⟩
   obtain ⟨b, hb⟩ : ∃ b, (P k).2 = b := ⟨_, rfl⟩
   rw [ha] at e1
   rw [hb] at e2
   have HA := hI ha
   have HBB := hI hb
   clear ha hb
   by_cases h1 : 60 < a.size
   ·have d1 : decide ((a.size : Int) > 60) = true := decide_eq_true (by omega)
    have d1' : (60 : Int) < (a.size : Int) := by omega
    clear h1
    go_wp2_with fail
    rw [← HQ.out]
    exact ⟨true, rfl, fun h => (by cases h), rfl⟩
   ·have d1 : decide ((a.size : Int) > 60) = false := decide_eq_false (by omega)
    have d1' : ¬ (60 : Int) < (a.size : Int) := by omega
    by_cases h2 : 60 < b.size
    ·have d2 : decide ((b.size : Int) > 60) = true := decide_eq_true (by omega)
     have d2' : (60 : Int) < (b.size : Int) := by omega
     clear h1 h2
     go_wp2_with fail
     rw [← HQ.out]
     exact ⟨true, rfl, fun h => (by cases h), rfl⟩
    ·have d2 : decide ((b.size : Int) > 60) = false := decide_eq_false (by omega)
     have d2' : ¬ (60 : Int) < (b.size : Int) := by omega
     have HS : Hid (∀ j, j < k + 1 → (P j).1.size ≤ 60 ∧ (P j).2.size ≤ 60) := fun j h => by
      rcases Nat.lt_or_ge j k with h3 | h3
      ·exact HJ.out j h3
      ·have : j = k := by omega
       subst this
       rw [HA.out, HBB.out]; omega
     clear h1 h2
     go_wp2_with fail
     go_roundw
     case rel => exact ⟨k + 1, by go_num, by omega, HS.out, (by first | rfl | trivial)⟩
     case measure => simp [intOf]; omega
  ·have hcx : decide ((k : Int) < (3 : Int)) = false := by simp; omega
   have hk3 : k = 3 := by omega
   subst hk3
   go_wp2_with fail
   rw [← HQ.out]
   exact ⟨false, rfl, fun _ => by rw [HP.out.1, HP.out.2.1, HP.out.2.2]; exact ⟨HJ.out 0 (by omega), HJ.out 1 (by omega), HJ.out 2 (by omega)⟩, rfl⟩
theorem s_gt {n : Nat} (h : 60 < n) : decide ((n : Int) > 60) = true := decide_eq_true (by omega)
theorem s_le {n : Nat} (h : ¬ 60 < n) : decide ((n : Int) > 60) = false := decide_eq_false (by omega)
theorem great10_any (B : Nat) (i : Inst) (w : World) (hb : w.heap[B]? = some (.cells i.cells 27 (0, 0))) :
 Calls Tryz.prog 6 #[.slice (some ⟨B, 0, none⟩) 1 1] w (G10Post w i) := by
 obtain ⟨Q, hQ⟩ : ∃ Q, G10Post w i = Q := ⟨_, rfl⟩
 rw [hQ]
 have HQ := hI hQ
 clear hQ
 obtain ⟨c0, c1, c2, c3, c4, c5, c6, c7, c8, c9, c10, c11, c12, c13, c14⟩ := icellsV hb
 obtain ⟨W1, hW1⟩ : ∃ W1, w.alloc (.cells i.cells 27) = W1 := ⟨_, rfl⟩
 have b1 : Below w.heap.size w W1 := by rw [← hW1]; exact (Below.refl _ w).alloc (Nat.le_refl _) _
 have k1 : W1.heap[w.heap.size]? = some (.cells i.cells 27 (0, 0)) := by rw [← hW1]; exact heap_alloc_new w _
 obtain ⟨m0, m1, m2, m3, m4, m5, m6, m7, m8, m9, m10, m11, m12, m13, m14⟩ := icellsV k1
 have HB1 := hI b1
 have HBB : Hid (W1.heap[B]? = some (.cells i.cells 27 (0, 0))) := bkeepK b1 hb
 have HG := hI (great02_any W1.heap.size (i.fn, i.fd) (i.cn, i.cd) (i.sn, i.sd) (W1.alloc (.cells #[.string i.fn, .string i.fd, .string i.cn, .string i.cd, .string i.sn, .string i.sd] 25)) (heap_alloc_new W1 _))
 have HBA : Hid (Below w.heap.size w (W1.alloc (.cells #[.string i.fn, .string i.fd, .string i.cn, .string i.cd, .string i.sn, .string i.sd] 25))) := HB1.out.alloc HB1.out.size _
 clear b1 k1 hb
 unfold Inst.cells at hW1
 go_enter Tryz.func6, Tryz.ntmps6
 go_wp2_with fail
 go_loopw [3] (fun v wr => (v = .int .i64 0 ∧ wr = w) ∨ (v = .int .i64 1 ∧ i.s60 ∧ Below w.heap.size w wr)) (fun v _ => 1 - (intOf v).toNat)
 case atStart => exact .inl ⟨rfl, rfl⟩
 case round =>
  rcases hrel with ⟨rfl, rfl⟩ | ⟨rfl, hs, hb⟩
  ·by_cases h1 : 60 < i.id.size
   ·have d1 := s_gt h1
    clear h1
    go_wp2_with fail
    rw [← HQ.out]
    exact ⟨true, rfl, fun h => (by cases h), HB1.out⟩
   ·have d1 := s_le h1
    by_cases h2 : 60 < i.cur.size
    ·have d2 := s_gt h2
     clear h1 h2
     go_wp2_with fail
     rw [← HQ.out]
     exact ⟨true, rfl, fun h => (by cases h), HB1.out⟩
    ·have d2 := s_le h2
     by_cases h3 : 60 < i.other.size
     ·have d3 := s_gt h3
      clear h1 h2 h3
      go_wp2_with fail
      rw [← HQ.out]
      exact ⟨true, rfl, fun h => (by cases h), HB1.out⟩
     ·have d3 := s_le h3
      have HS : Hid (i.id.size ≤ 60 ∧ i.cur.size ≤ 60 ∧ i.other.size ≤ 60) := ⟨by omega, by omega, by omega⟩
      clear h1 h2 h3
      go_wp2_with fail
      refine HG.out.mono ?_
      rintro e w3 ⟨g, rfl, hg, rfl⟩
      cases g with
      | true =>
        go_wp2_with fail
        rw [← HQ.out]
        exact ⟨true, rfl, fun h => (by cases h), HBA.out⟩
      | false =>
        have HS2 := hI (hg rfl)
        clear hg
        go_wp2_with fail
        go_roundw
        case rel => exact .inr ⟨rfl, ⟨HS.out.1, HS.out.2.1, HS.out.2.2, HS2.out.1.1, HS2.out.1.2, HS2.out.2.1.1, HS2.out.2.1.2, HS2.out.2.2.1, HS2.out.2.2.2⟩, HBA.out⟩
        case measure => simp [intOf]
  ·have HS := hI hs
   have HB := hI hb
   clear hs hb
   go_wp2_with fail
   rw [← HQ.out]
   exact ⟨false, rfl, fun _ => HS.out, HB.out⟩
end Go.Proofs.YtbkmhmaldljgmaaGreatDoor
namespace Go.Proofs.YtbkmhmaldljgmaaGreatDoor
open Go.RowKit Tr Go.Shelf Go.Maps
theorem fcWhole_any (a : ByteArray) (w : World) : Calls Tryz.prog 284 #[.string a] w fun e w' => e = .returned (.agg #[.string a, .string ⟨#[]⟩]) ∧ Below w.heap.size w w' := by
 obtain ⟨W1, hW1⟩ : ∃ W1, w.alloc (.cells #[.string a, .string ⟨#[]⟩] 25) = W1 := ⟨_, rfl⟩
 have H : Hid (W1.heap[w.heap.size]? = some (.cells #[.string a, .string ⟨#[]⟩] 25 (0, 0)) ∧ Below w.heap.size w W1) := ⟨by rw [← hW1]; exact heap_alloc_new w _, by rw [← hW1]; exact (Below.refl _ w).alloc (Nat.le_refl _) _⟩
 have c0 := Lib.cell_of_heap H.out.1 0
 have c1 := Lib.cell_of_heap H.out.1 1
 have f0 := Lib.frozen_of_heap H.out.1 0
 have f1 := Lib.frozen_of_heap H.out.1 1
 simp at c0 c1
 go_enter Tryz.func284, Tryz.ntmps284
 go_wp2_with fail
 have hk : (W1.setCell ⟨w.heap.size, 1, none⟩ (.string ⟨#[]⟩)).heap[w.heap.size]? = some (.cells #[.string a, .string ⟨#[]⟩] 25 (0, 0)) := by
  simp [World.setCell, Array.getElem?_modify, H.out.1]
 refine bodyPost_ret (results_cell_row rfl _ _ w.heap.size _ _ (0, 0) _ rfl hk Tryz.underlying25 rfl (by kernel_rfl)) rfl ?_
 exact ⟨rfl, H.out.2.setCell (p := ⟨w.heap.size, 1, none⟩) (Nat.le_refl _) _⟩
theorem build_nums (x : Fact) (W : World) : (Instr.build 315 #[(4, .agg #[.string x.qty, .string ⟨#[]⟩]), (5, .agg #[.string x.amt, .string ⟨#[]⟩]), (6, .agg #[.string x.fee, .string ⟨#[]⟩]), (7, .agg #[.string x.pn, .string x.pd]), (8, .agg #[.string x.rn, .string x.rd]), (9, .agg #[.string x.sn, .string x.sd])]).run Tryz.prog W = .ok (.agg #[.string ⟨#[]⟩, .string ⟨#[]⟩, .string ⟨#[]⟩, .string ⟨#[]⟩, .string ⟨#[]⟩, .string ⟨#[]⟩, .string ⟨#[]⟩, .string ⟨#[]⟩, .string x.qty, .string ⟨#[]⟩, .string x.amt, .string ⟨#[]⟩, .string x.fee, .string ⟨#[]⟩, .string x.pn, .string x.pd, .string x.rn, .string x.rd, .string x.sn, .string x.sd, .string ⟨#[]⟩, .string ⟨#[]⟩, .string ⟨#[]⟩, .string ⟨#[]⟩, .string ⟨#[]⟩, .string ⟨#[]⟩]) W := run_build W _ _ _ (by kernel_rfl)
theorem index_nums (x : Fact) (f : Nat) (hf : f < 13) (W : World) : (Instr.index 315 (.agg #[.string ⟨#[]⟩, .string ⟨#[]⟩, .string ⟨#[]⟩, .string ⟨#[]⟩, .string ⟨#[]⟩, .string ⟨#[]⟩, .string ⟨#[]⟩, .string ⟨#[]⟩, .string x.qty, .string ⟨#[]⟩, .string x.amt, .string ⟨#[]⟩, .string x.fee, .string ⟨#[]⟩, .string x.pn, .string x.pd, .string x.rn, .string x.rd, .string x.sn, .string x.sd, .string ⟨#[]⟩, .string ⟨#[]⟩, .string ⟨#[]⟩, .string ⟨#[]⟩, .string ⟨#[]⟩, .string ⟨#[]⟩]) (.int .i64 (f : Int))).run Tryz.prog W = .ok (.agg #[.string (x.num f).1, .string (x.num f).2]) W := by
 rcases (show f = 0 ∨ f = 1 ∨ f = 2 ∨ f = 3 ∨ f = 4 ∨ f = 5 ∨ f = 6 ∨ f = 7 ∨ f = 8 ∨ f = 9 ∨ f = 10 ∨ f = 11 ∨ f = 12 from by omega) with rfl | rfl | rfl | rfl | rfl | rfl | rfl | rfl | rfl | rfl | rfl | rfl | rfl
 all_goals (unfold Instr.index; simp [go_sem, asAgg, Fact.num])
structure FVV (w : World) (x : Fact) (P O : Value) (f : Nat)  (L : Array Bool) (W : World) (s5 s6 s7 s8 s9 s10 s11 s12 s13 s14 s15 s16 s17 s18 s19 s20 s21 s22 : Value) : Prop where
 k0 : L.getD 0 false = true → s5 = .pointer (some ⟨w.heap.size, 9, none⟩)
 k1 : L.getD 1 false = true → s6 = .string x.qty
 k2 : L.getD 2 false = true → s7 = .agg #[.string x.qty, .string ⟨#[]⟩]
 k3 : L.getD 3 false = true → s8 = .pointer (some ⟨w.heap.size, 10, none⟩)
 k4 : L.getD 4 false = true → s9 = .string x.amt
 k5 : L.getD 5 false = true → s10 = .agg #[.string x.amt, .string ⟨#[]⟩]
 k6 : L.getD 6 false = true → s11 = .pointer (some ⟨w.heap.size, 11, none⟩)
 k7 : L.getD 7 false = true → s12 = .string x.fee
 k8 : L.getD 8 false = true → s13 = .agg #[.string x.fee, .string ⟨#[]⟩]
 k9 : L.getD 9 false = true → s14 = .pointer (some ⟨w.heap.size, 12, none⟩)
 k10 : L.getD 10 false = true → s15 = .agg #[.string x.pn, .string x.pd]
 k11 : L.getD 11 false = true → s16 = .pointer (some ⟨w.heap.size, 14, none⟩)
 k12 : L.getD 12 false = true → s17 = .agg #[.string x.rn, .string x.rd]
 k13 : L.getD 13 false = true → s18 = .pointer (some ⟨w.heap.size, 16, none⟩)
 k14 : L.getD 14 false = true → s19 = .agg #[.string x.sn, .string x.sd]
 k15 : L.getD 15 false = true → s20 = .agg #[.string ⟨#[]⟩, .string ⟨#[]⟩, .string ⟨#[]⟩, .string ⟨#[]⟩, .string ⟨#[]⟩, .string ⟨#[]⟩, .string ⟨#[]⟩, .string ⟨#[]⟩, .string x.qty, .string ⟨#[]⟩, .string x.amt, .string ⟨#[]⟩, .string x.fee, .string ⟨#[]⟩, .string x.pn, .string x.pd, .string x.rn, .string x.rd, .string x.sn, .string x.sd, .string ⟨#[]⟩, .string ⟨#[]⟩, .string ⟨#[]⟩, .string ⟨#[]⟩, .string ⟨#[]⟩, .string ⟨#[]⟩]
 k16 : L.getD 16 false = true → s21 = .int .i64 (f : Int)
 k17 : L.getD 17 false = true → s22 = .agg #[.string (x.num f).1, .string (x.num f).2]
 bx : BX w [(w.heap.size, .cells (x.cells P O) 60 (0, 0))] W
 o18 : L.getD 18 false = false → W.heap[(w.heap.size + 1)]? = some (fz)
 n18 : L.getD 18 false = true → W.heap[(w.heap.size + 1)]? = some (Obj.cells #[.string (x.num f).1, .string (x.num f).2] 25 (0, 0))
structure FVJ (w : World) (x : Fact) (P O : Value) (f : Nat) (x0 x3 : Value) (L : Array Bool) (a : Act) (W : World) : Prop where
 sz : L.size = 19
 fr : ∃ s5 s6 s7 s8 s9 s10 s11 s12 s13 s14 s15 s16 s17 s18 s19 s20 s21 s22 : Value, a = { tmps := #[x0, .int .i64 (f : Int), .pointer (some ⟨w.heap.size, 0, none⟩), x3, .pointer (some ⟨w.heap.size + 1, 0, none⟩), s5, s6, s7, s8, s9, s10, s11, s12, s13, s14, s15, s16, s17, s18, s19, s20, s21, s22], defers := [] } ∧ FVV w x P O f  L W s5 s6 s7 s8 s9 s10 s11 s12 s13 s14 s15 s16 s17 s18 s19 s20 s21 s22
theorem fcValue_any (x : Fact) (P O : Value) (f : Nat) (hf : f < 13) (w : World) : Calls Tryz.prog 253 #[.agg (x.cells P O), .int .i64 (f : Int)] w fun e w' => e = .returned (.agg #[.string (x.num f).1, .string (x.num f).2]) ∧ Below w.heap.size w w' := by
 obtain ⟨W0, hW0', hB0, hz, k0, k1⟩ := box2 w (.cells (x.cells P O) 60) fz
 have hW0 := hW0'.symm
 have hg : BX w [(w.heap.size, .cells (x.cells P O) 60 (0, 0))] W0.drew := ⟨hB0.drew, fun y hy => by rw [List.mem_singleton] at hy; subst hy; exact k0⟩
 have hko18 : W0.drew.heap[w.heap.size + 1]? = some fz := k1
 have HW1 := hI (fun W (_ : BX w [(w.heap.size, .cells (x.cells P O) 60 (0, 0))] W) => fcWhole_any x.qty W)
 have HW2 := hI (fun W (_ : BX w [(w.heap.size, .cells (x.cells P O) 60 (0, 0))] W) => fcWhole_any x.amt W)
 have HW3 := hI (fun W (_ : BX w [(w.heap.size, .cells (x.cells P O) 60 (0, 0))] W) => fcWhole_any x.fee W)
 clear hW0' hB0 hz k0 k1
 unfold Fact.cells at hW0 ⊢
 go_enter Tryz.func253, Tryz.ntmps253
 go_wp2_with fail
 have mixed : Tryz.prog.follows .mixedOrders = true := by kernel_rfl
 refine wp_region_any mixed (wpAny_inv (FVJ w x P O f _ _) ?stFV ?dnFV _ _ _ _ ⟨by simp, ⟨_, _, _, _, _, _, _, _, _, _, _, _, _, _, _, _, _, _, rfl, fun h => by simp at h, fun h => by simp at h, fun h => by simp at h, fun h => by simp at h, fun h => by simp at h, fun h => by simp at h, fun h => by simp at h, fun h => by simp at h, fun h => by simp at h, fun h => by simp at h, fun h => by simp at h, fun h => by simp at h, fun h => by simp at h, fun h => by simp at h, fun h => by simp at h, fun h => by simp at h, fun h => by simp at h, fun h => by simp at h, hg, fun _ => hko18, fun h => by simp at h⟩⟩ (by decide))
 case dnFV =>
  intro L a w' hj hr
  have all := all_on hr hj.sz (by kernel_rfl)
  obtain ⟨s5, s6, s7, s8, s9, s10, s11, s12, s13, s14, s15, s16, s17, s18, s19, s20, s21, s22, rfl, hv⟩ := hj.fr
  have HF := hI (And.intro (hv.n18 (all 18 (by omega))) hv.bx)
  clear all hv hj hr
  go_wp2_with fail
  have hk := HF.out.1
  refine bodyPost_ret (results_cell_row rfl _ _ (w.heap.size + 1) _ _ (0, 0) _ rfl hk Tryz.underlying25 rfl (by kernel_rfl)) rfl ?_
  exact ⟨rfl, HF.out.2.1⟩
 case stFV =>
  intro L a w' hj i hi
  obtain ⟨hun, o, ho, hall⟩ := mem_ready.1 hi
  have hoff := getD_off hun
  have hlt := (Array.getElem?_eq_some_iff.1 ho).1
  simp at hlt
  obtain ⟨s5, s6, s7, s8, s9, s10, s11, s12, s13, s14, s15, s16, s17, s18, s19, s20, s21, s22, rfl, hv⟩ := hj.fr
  have HV := hI hv
  have HJ := hI hj
  clear hv hj
  rcases (show i = 0 ∨ i = 1 ∨ i = 2 ∨ i = 3 ∨ i = 4 ∨ i = 5 ∨ i = 6 ∨ i = 7 ∨ i = 8 ∨ i = 9 ∨ i = 10 ∨ i = 11 ∨ i = 12 ∨ i = 13 ∨ i = 14 ∨ i = 15 ∨ i = 16 ∨ i = 17 ∨ i = 18 from by omega) with rfl | rfl | rfl | rfl | rfl | rfl | rfl | rfl | rfl | rfl | rfl | rfl | rfl | rfl | rfl | rfl | rfl | rfl | rfl
  all_goals simp at ho
  all_goals subst ho
  rotate_left
  cases HV.out.k0 (Hq hall 0).out
  have hb := HV.out.bx.get 0 rfl
  have c0 := Lib.cell_of_heap hb 9
  simp [Fact.cells] at c0
  rotate_left
  ·cases HV.out.k1 (Hq hall 1).out
   clear hall hi
   refine wpOp_hid rfl fun K' HK => ?_
   go_simp
   refine (HW1.out _ HV.out.bx).mono ?_
   rintro e wn ⟨rfl, hbn⟩
   cases HV.out
   refine HK.out _ _ ⟨by simp [HJ.out.sz], ⟨_, _, _, _, _, _, _, _, _, _, _, _, _, _, _, _, _, _, rfl, ?_, ?_, fun _ => rfl, ?_, ?_, ?_, ?_, ?_, ?_, ?_, ?_, ?_, ?_, ?_, ?_, ?_, ?_, ?_, HV.out.bx.below hbn, fun h => bkeepK hbn (HV.out.o18 (getD_df (by decide) h)), fun h => bkeepK hbn (HV.out.n18 (getD_dn (by decide) h))⟩⟩
   all_goals exact Um (by assumption)
  rotate_left
  cases HV.out.k3 (Hq hall 3).out
  have hb := HV.out.bx.get 0 rfl
  have c0 := Lib.cell_of_heap hb 10
  simp [Fact.cells] at c0
  rotate_left
  ·cases HV.out.k4 (Hq hall 4).out
   clear hall hi
   refine wpOp_hid rfl fun K' HK => ?_
   go_simp
   refine (HW2.out _ HV.out.bx).mono ?_
   rintro e wn ⟨rfl, hbn⟩
   cases HV.out
   refine HK.out _ _ ⟨by simp [HJ.out.sz], ⟨_, _, _, _, _, _, _, _, _, _, _, _, _, _, _, _, _, _, rfl, ?_, ?_, ?_, ?_, ?_, fun _ => rfl, ?_, ?_, ?_, ?_, ?_, ?_, ?_, ?_, ?_, ?_, ?_, ?_, HV.out.bx.below hbn, fun h => bkeepK hbn (HV.out.o18 (getD_df (by decide) h)), fun h => bkeepK hbn (HV.out.n18 (getD_dn (by decide) h))⟩⟩
   all_goals exact Um (by assumption)
  rotate_left
  cases HV.out.k6 (Hq hall 6).out
  have hb := HV.out.bx.get 0 rfl
  have c0 := Lib.cell_of_heap hb 11
  simp [Fact.cells] at c0
  rotate_left
  ·cases HV.out.k7 (Hq hall 7).out
   clear hall hi
   refine wpOp_hid rfl fun K' HK => ?_
   go_simp
   refine (HW3.out _ HV.out.bx).mono ?_
   rintro e wn ⟨rfl, hbn⟩
   cases HV.out
   refine HK.out _ _ ⟨by simp [HJ.out.sz], ⟨_, _, _, _, _, _, _, _, _, _, _, _, _, _, _, _, _, _, rfl, ?_, ?_, ?_, ?_, ?_, ?_, ?_, ?_, fun _ => rfl, ?_, ?_, ?_, ?_, ?_, ?_, ?_, ?_, ?_, HV.out.bx.below hbn, fun h => bkeepK hbn (HV.out.o18 (getD_df (by decide) h)), fun h => bkeepK hbn (HV.out.n18 (getD_dn (by decide) h))⟩⟩
   all_goals exact Um (by assumption)
  rotate_left
  cases HV.out.k9 (Hq hall 9).out
  have hb := HV.out.bx.get 0 rfl
  have c0 := Lib.cell_of_heap hb 12; have c1 := Lib.cell_of_heap hb 13
  simp [Fact.cells] at c0 c1
  rotate_left
  rotate_left
  cases HV.out.k11 (Hq hall 11).out
  have hb := HV.out.bx.get 0 rfl
  have c0 := Lib.cell_of_heap hb 14; have c1 := Lib.cell_of_heap hb 15
  simp [Fact.cells] at c0 c1
  rotate_left
  rotate_left
  cases HV.out.k13 (Hq hall 13).out
  have hb := HV.out.bx.get 0 rfl
  have c0 := Lib.cell_of_heap hb 16; have c1 := Lib.cell_of_heap hb 17
  simp [Fact.cells] at c0 c1
  rotate_left
  cases HV.out.k2 (Hq hall 2).out
  cases HV.out.k5 (Hq hall 5).out
  cases HV.out.k8 (Hq hall 8).out
  cases HV.out.k10 (Hq hall 10).out
  cases HV.out.k12 (Hq hall 12).out
  cases HV.out.k14 (Hq hall 14).out
  have hbd := build_nums x w'
  rotate_left
  rotate_left
  cases HV.out.k15 (Hq hall 15).out
  cases HV.out.k16 (Hq hall 16).out
  have hix := index_nums x f hf w'
  rotate_left
  ·cases HV.out.k17 (Hq hall 17).out
   clear hall hi
   have hko := HV.out.o18 hoff
   have m0 := Lib.cell_of_heap hko 0; have m1 := Lib.cell_of_heap hko 1; have f0 := Lib.frozen_of_heap hko 0; have f1 := Lib.frozen_of_heap hko 1
   simp at m0 m1 f0 f1
   refine wpOp_hid rfl fun K' HK => ?_
   go_simp
   cases HV.out
   refine HK.out _ _ ⟨by simp [HJ.out.sz], ?_⟩
   iterate 18 apply Exists.intro
   refine ⟨rfl, ?_⟩
   constructor
   case bx => exact HV.out.bx.farK (b := (w.heap.size + 1)) (by omega) (by simp <;> omega) _ _
   case o18 => exact fun h => (not_on h (getD_set_same hun)).elim
   case n18 => exact fun _ => set2 hko _ _
   all_goals exact Um (by assumption)
  all_goals
   clear hall hi
   refine wpOp_hid rfl fun K' HK => ?_
   go_simp
   cases HV.out
   refine HK.out _ _ ⟨by simp [HJ.out.sz], ?_⟩
   iterate 18 apply Exists.intro
   refine ⟨rfl, ?_⟩
   constructor
   all_goals first | exact Um (by assumption) | exact Un (by assumption) | exact Uf (by assumption) | exact fun _ => rfl | assumption
attribute [local go_sem] Oper.semAt_some
theorem tl_eqK (a b : ByteArray) : (a.toList = b.toList) ↔ (a = b) := by
 have h := str_eq a b
 constructor
 ·intro e
  rw [e] at h
  simp at h
  exact h
 ·intro e; rw [e]
theorem eqGuard_fracK (op : BinOp) (x y : Operand) (xs ys : Array Value) (w : World) : (eqGuard op 25 x y (.agg xs) (.agg ys)).run Tryz.prog w = .ok () w := run_eqGuard_agg w op _ x y xs ys (by kernel_rfl)
attribute [local go_sem] eqGuard_fracK
theorem run_eql_fracK (a b c d : ByteArray) (w : World) : (binOp .eql 25 (.agg #[.string a, .string b]) (.agg #[.string c, .string d])).run Tryz.prog w = .ok (.bool (decide (a = c) && decide (b = d))) w := by
 have hS : Tryz.prog.underlying 25 = some (.struct (Tryz.prog.fieldsOf 25)) := by kernel_rfl
 have hp : Tryz.prog.stoodInHeld 25 = false := by kernel_rfl
 have u1 := Tryz.underlying23
 have a1 := Tryz.isAgg23
 have z1 := Tryz.sizeOf23
 rw [run_eql_struct, show (10000 : Nat) = 9999 + 1 from rfl, run_equalIn_agg w 9999 _ _ _ hS hp]
 simp only [Program.fieldsOf, Tryz.underlying25]
 go_simp
 by_cases h0 : a = c
 case neg => simp [tl_eqK, h0]
 by_cases h1 : b = d
 case neg => simp [tl_eqK, h0, h1]
 simp [tl_eqK, h0, h1]
theorem wpList_binOp_runK {ops : Array Oper} {rest : List Oper} {o : Oper} {a : Act} {w : World} {Q : Exit → Act → World → Prop} {op : BinOp} {t : TypeId} {xv yv v : Value} (hg : ∀ x y, (eqGuard op t x y xv yv).run Tryz.prog w = .ok () w) (hr : (binOp op t xv yv).run Tryz.prog w = .ok v w) (hgd : o.guard = none) (x y : Operand) (yt : TypeId)
 (ho : o.op = .binOp op t x y yt) (hx : a.eval x = xv) (hy : a.eval y = yv) (h : wpList Tryz.prog ops Q rest (a.put o.dst v) w) : wpList Tryz.prog ops Q (o :: rest) a w :=
 wpList_plain hgd fun _ hK => by
  unfold Oper.wp execOp
  simp only [ho, hx, hy, Sem.run_bind, Sem.run_pure, Result.andThen_ok, hg, hr]
  exact hK _ _ h
structure FactV (x : Fact) (P O : Value) : Prop where
 p : ∃ A c, P = .slice A x.picks.length c
 o : ∃ A c, O = .slice A x.opts.length c
def emptyB (x : Fact) : Nat → Bool
 | 0 => decide (x.inst = ⟨#[]⟩)
 | 1 => decide (x.other = ⟨#[]⟩)
 | 2 => decide (x.cur = ⟨#[]⟩)
 | 3 => decide (x.target = ⟨#[]⟩)
 | 10 => decide (x.picks.length = 0)
 | 11 => decide (x.opts.length = 0)
 | 12 => decide (x.choice = 0)
 | f => decide ((x.num f).1 = ⟨#[]⟩) && decide ((x.num f).2 = ⟨#[]⟩)
theorem emptyB_iff (x : Fact) {f : Nat} (hf : f < 13) : emptyB x f = true ↔ emptyF x f := by
 rcases (show f = 0 ∨ f = 1 ∨ f = 2 ∨ f = 3 ∨ f = 4 ∨ f = 5 ∨ f = 6 ∨ f = 7 ∨ f = 8 ∨ f = 9 ∨ f = 10 ∨ f = 11 ∨ f = 12 from by omega) with rfl | rfl | rfl | rfl | rfl | rfl | rfl | rfl | rfl | rfl | rfl | rfl | rfl
 all_goals simp [emptyB, emptyF, Fact.num]
theorem str_nil (a : ByteArray) : (a.toList == []) = decide (a = ⟨#[]⟩) := by
 have h := tl_eqK a ⟨#[]⟩
 have e : (⟨#[]⟩ : ByteArray).toList = [] := by rw [Lib.toList_data]
 rw [e] at h
 by_cases hc : a = ⟨#[]⟩
 ·rw [decide_eq_true hc, h.2 hc]; rfl
 ·rw [decide_eq_false hc]; exact beq_eq_false_iff_ne.2 fun k => hc (h.1 k)
theorem str_emptyK (a : ByteArray) : a.toList.isEmpty = decide (a = ⟨#[]⟩) := by rw [← str_nil]; cases a.toList <;> rfl
theorem fact_cells {W : World} {b : Nat} {x : Fact} {P O : Value} (h : W.heap[b]? = some (.cells (x.cells P O) 60 (0, 0))) :
 W.cell? ⟨b, 0, none⟩ = some (.string x.key) ∧ W.cell? ⟨b, 1, none⟩ = some (.int .i64 x.stamp) ∧ W.cell? ⟨b, 2, none⟩ = some (.bool x.canc) ∧ W.cell? ⟨b, 3, none⟩ = some (.int .i64 x.day) ∧ W.cell? ⟨b, 4, none⟩ = some (.int .i64 x.kind) ∧ W.cell? ⟨b, 5, none⟩ = some (.string x.inst) ∧ W.cell? ⟨b, 6, none⟩ = some (.string x.other) ∧ W.cell? ⟨b, 7, none⟩ = some (.string x.cur) ∧ W.cell? ⟨b, 8, none⟩ = some (.string x.target) ∧ W.cell? ⟨b, 9, none⟩ = some (.string x.qty) ∧ W.cell? ⟨b, 10, none⟩ = some (.string x.amt) ∧ W.cell? ⟨b, 11, none⟩ = some (.string x.fee) ∧ W.cell? ⟨b, 12, none⟩ = some (.string x.pn) ∧ W.cell? ⟨b, 13, none⟩ = some (.string x.pd) ∧ W.cell? ⟨b, 14, none⟩ = some (.string x.rn) ∧ W.cell? ⟨b, 15, none⟩ = some (.string x.rd) ∧ W.cell? ⟨b, 16, none⟩ = some (.string x.sn) ∧ W.cell? ⟨b, 17, none⟩ = some (.string x.sd) ∧ W.cell? ⟨b, 18, none⟩ = some P ∧ W.cell? ⟨b, 19, none⟩ = some O ∧ W.cell? ⟨b, 20, none⟩ = some (.int .i64 x.choice) :=
 ⟨Lib.cell_of_heap h 0, Lib.cell_of_heap h 1, Lib.cell_of_heap h 2, Lib.cell_of_heap h 3, Lib.cell_of_heap h 4, Lib.cell_of_heap h 5, Lib.cell_of_heap h 6, Lib.cell_of_heap h 7, Lib.cell_of_heap h 8, Lib.cell_of_heap h 9, Lib.cell_of_heap h 10, Lib.cell_of_heap h 11, Lib.cell_of_heap h 12, Lib.cell_of_heap h 13, Lib.cell_of_heap h 14, Lib.cell_of_heap h 15, Lib.cell_of_heap h 16, Lib.cell_of_heap h 17, Lib.cell_of_heap h 18, Lib.cell_of_heap h 19, Lib.cell_of_heap h 20⟩
theorem fcEmpty_0 (x : Fact) (P O : Value) (hv : FactV x P O) (f : Nat) (hf : f < 13) (hq : f = 0) (w : World) : Calls Tryz.prog 206 #[.agg (x.cells P O), .int .i64 (f : Int)] w fun e w' => e = .returned (.bool (emptyB x f)) ∧ Below w.heap.size w w' := by
 obtain ⟨⟨A, c, rfl⟩, A', c', rfl⟩ := hv
 obtain ⟨W0, hW0⟩ : ∃ W0, w.alloc (.cells (x.cells (.slice A x.picks.length c) (.slice A' x.opts.length c')) 60) = W0 := ⟨_, rfl⟩
 have hb0 : Below w.heap.size w W0 := by rw [← hW0]; exact (Below.refl _ w).alloc (Nat.le_refl _) _
 have hk0 : W0.heap[w.heap.size]? = some (.cells (x.cells (.slice A x.picks.length c) (.slice A' x.opts.length c')) 60 (0, 0)) := by rw [← hW0]; exact heap_alloc_new w _
 have HK0 := hI hk0
 have HB0 := hI hb0
 have HV := hI (fcValue_any x (.slice A x.picks.length c) (.slice A' x.opts.length c') f hf)
 have HE := hI (fun a b W => run_eql_fracK a b ⟨#[]⟩ ⟨#[]⟩ W)
 obtain ⟨c0, c1, c2, c3, c4, c5, c6, c7, c8, c9, c10, c11, c12, c13, c14, c15, c16, c17, c18, c19, c20⟩ := fact_cells hk0
 clear hk0 hb0
 unfold Fact.cells at hW0 HV HK0 ⊢
 subst hq
 go_enter Tryz.func206, Tryz.ntmps206
 go_wp2_with fail
 go_ret
 exact ⟨congrArg (fun b => Ending.returned (Value.bool b)) (str_emptyK _), HB0.out⟩
theorem fcEmpty_1 (x : Fact) (P O : Value) (hv : FactV x P O) (f : Nat) (hf : f < 13) (hq : f = 1) (w : World) : Calls Tryz.prog 206 #[.agg (x.cells P O), .int .i64 (f : Int)] w fun e w' => e = .returned (.bool (emptyB x f)) ∧ Below w.heap.size w w' := by
 obtain ⟨⟨A, c, rfl⟩, A', c', rfl⟩ := hv
 obtain ⟨W0, hW0⟩ : ∃ W0, w.alloc (.cells (x.cells (.slice A x.picks.length c) (.slice A' x.opts.length c')) 60) = W0 := ⟨_, rfl⟩
 have hb0 : Below w.heap.size w W0 := by rw [← hW0]; exact (Below.refl _ w).alloc (Nat.le_refl _) _
 have hk0 : W0.heap[w.heap.size]? = some (.cells (x.cells (.slice A x.picks.length c) (.slice A' x.opts.length c')) 60 (0, 0)) := by rw [← hW0]; exact heap_alloc_new w _
 have HK0 := hI hk0
 have HB0 := hI hb0
 have HV := hI (fcValue_any x (.slice A x.picks.length c) (.slice A' x.opts.length c') f hf)
 have HE := hI (fun a b W => run_eql_fracK a b ⟨#[]⟩ ⟨#[]⟩ W)
 obtain ⟨c0, c1, c2, c3, c4, c5, c6, c7, c8, c9, c10, c11, c12, c13, c14, c15, c16, c17, c18, c19, c20⟩ := fact_cells hk0
 clear hk0 hb0
 unfold Fact.cells at hW0 HV HK0 ⊢
 subst hq
 go_enter Tryz.func206, Tryz.ntmps206
 go_wp2_with fail
 go_ret
 exact ⟨congrArg (fun b => Ending.returned (Value.bool b)) (str_emptyK _), HB0.out⟩
theorem fcEmpty_2 (x : Fact) (P O : Value) (hv : FactV x P O) (f : Nat) (hf : f < 13) (hq : f = 2) (w : World) : Calls Tryz.prog 206 #[.agg (x.cells P O), .int .i64 (f : Int)] w fun e w' => e = .returned (.bool (emptyB x f)) ∧ Below w.heap.size w w' := by
 obtain ⟨⟨A, c, rfl⟩, A', c', rfl⟩ := hv
 obtain ⟨W0, hW0⟩ : ∃ W0, w.alloc (.cells (x.cells (.slice A x.picks.length c) (.slice A' x.opts.length c')) 60) = W0 := ⟨_, rfl⟩
 have hb0 : Below w.heap.size w W0 := by rw [← hW0]; exact (Below.refl _ w).alloc (Nat.le_refl _) _
 have hk0 : W0.heap[w.heap.size]? = some (.cells (x.cells (.slice A x.picks.length c) (.slice A' x.opts.length c')) 60 (0, 0)) := by rw [← hW0]; exact heap_alloc_new w _
 have HK0 := hI hk0
 have HB0 := hI hb0
 have HV := hI (fcValue_any x (.slice A x.picks.length c) (.slice A' x.opts.length c') f hf)
 have HE := hI (fun a b W => run_eql_fracK a b ⟨#[]⟩ ⟨#[]⟩ W)
 obtain ⟨c0, c1, c2, c3, c4, c5, c6, c7, c8, c9, c10, c11, c12, c13, c14, c15, c16, c17, c18, c19, c20⟩ := fact_cells hk0
 clear hk0 hb0
 unfold Fact.cells at hW0 HV HK0 ⊢
 subst hq
 go_enter Tryz.func206, Tryz.ntmps206
 go_wp2_with fail
 go_ret
 exact ⟨congrArg (fun b => Ending.returned (Value.bool b)) (str_emptyK _), HB0.out⟩
theorem fcEmpty_3 (x : Fact) (P O : Value) (hv : FactV x P O) (f : Nat) (hf : f < 13) (hq : f = 3) (w : World) : Calls Tryz.prog 206 #[.agg (x.cells P O), .int .i64 (f : Int)] w fun e w' => e = .returned (.bool (emptyB x f)) ∧ Below w.heap.size w w' := by
 obtain ⟨⟨A, c, rfl⟩, A', c', rfl⟩ := hv
 obtain ⟨W0, hW0⟩ : ∃ W0, w.alloc (.cells (x.cells (.slice A x.picks.length c) (.slice A' x.opts.length c')) 60) = W0 := ⟨_, rfl⟩
 have hb0 : Below w.heap.size w W0 := by rw [← hW0]; exact (Below.refl _ w).alloc (Nat.le_refl _) _
 have hk0 : W0.heap[w.heap.size]? = some (.cells (x.cells (.slice A x.picks.length c) (.slice A' x.opts.length c')) 60 (0, 0)) := by rw [← hW0]; exact heap_alloc_new w _
 have HK0 := hI hk0
 have HB0 := hI hb0
 have HV := hI (fcValue_any x (.slice A x.picks.length c) (.slice A' x.opts.length c') f hf)
 have HE := hI (fun a b W => run_eql_fracK a b ⟨#[]⟩ ⟨#[]⟩ W)
 obtain ⟨c0, c1, c2, c3, c4, c5, c6, c7, c8, c9, c10, c11, c12, c13, c14, c15, c16, c17, c18, c19, c20⟩ := fact_cells hk0
 clear hk0 hb0
 unfold Fact.cells at hW0 HV HK0 ⊢
 subst hq
 go_enter Tryz.func206, Tryz.ntmps206
 go_wp2_with fail
 go_ret
 exact ⟨congrArg (fun b => Ending.returned (Value.bool b)) (str_emptyK _), HB0.out⟩
theorem fcEmpty_10 (x : Fact) (P O : Value) (hv : FactV x P O) (f : Nat) (hf : f < 13) (hq : f = 10) (w : World) : Calls Tryz.prog 206 #[.agg (x.cells P O), .int .i64 (f : Int)] w fun e w' => e = .returned (.bool (emptyB x f)) ∧ Below w.heap.size w w' := by
 obtain ⟨⟨A, c, rfl⟩, A', c', rfl⟩ := hv
 obtain ⟨W0, hW0⟩ : ∃ W0, w.alloc (.cells (x.cells (.slice A x.picks.length c) (.slice A' x.opts.length c')) 60) = W0 := ⟨_, rfl⟩
 have hb0 : Below w.heap.size w W0 := by rw [← hW0]; exact (Below.refl _ w).alloc (Nat.le_refl _) _
 have hk0 : W0.heap[w.heap.size]? = some (.cells (x.cells (.slice A x.picks.length c) (.slice A' x.opts.length c')) 60 (0, 0)) := by rw [← hW0]; exact heap_alloc_new w _
 have HK0 := hI hk0
 have HB0 := hI hb0
 have HV := hI (fcValue_any x (.slice A x.picks.length c) (.slice A' x.opts.length c') f hf)
 have HE := hI (fun a b W => run_eql_fracK a b ⟨#[]⟩ ⟨#[]⟩ W)
 obtain ⟨c0, c1, c2, c3, c4, c5, c6, c7, c8, c9, c10, c11, c12, c13, c14, c15, c16, c17, c18, c19, c20⟩ := fact_cells hk0
 clear hk0 hb0
 unfold Fact.cells at hW0 HV HK0 ⊢
 subst hq
 go_enter Tryz.func206, Tryz.ntmps206
 go_wp2_with fail
 go_ret
 refine ⟨congrArg (fun b => Ending.returned (Value.bool b)) ?_, HB0.out⟩
 show _ = decide (_ = 0)
 rw [Bool.eq_iff_iff]; simp
theorem fcEmpty_11 (x : Fact) (P O : Value) (hv : FactV x P O) (f : Nat) (hf : f < 13) (hq : f = 11) (w : World) : Calls Tryz.prog 206 #[.agg (x.cells P O), .int .i64 (f : Int)] w fun e w' => e = .returned (.bool (emptyB x f)) ∧ Below w.heap.size w w' := by
 obtain ⟨⟨A, c, rfl⟩, A', c', rfl⟩ := hv
 obtain ⟨W0, hW0⟩ : ∃ W0, w.alloc (.cells (x.cells (.slice A x.picks.length c) (.slice A' x.opts.length c')) 60) = W0 := ⟨_, rfl⟩
 have hb0 : Below w.heap.size w W0 := by rw [← hW0]; exact (Below.refl _ w).alloc (Nat.le_refl _) _
 have hk0 : W0.heap[w.heap.size]? = some (.cells (x.cells (.slice A x.picks.length c) (.slice A' x.opts.length c')) 60 (0, 0)) := by rw [← hW0]; exact heap_alloc_new w _
 have HK0 := hI hk0
 have HB0 := hI hb0
 have HV := hI (fcValue_any x (.slice A x.picks.length c) (.slice A' x.opts.length c') f hf)
 have HE := hI (fun a b W => run_eql_fracK a b ⟨#[]⟩ ⟨#[]⟩ W)
 obtain ⟨c0, c1, c2, c3, c4, c5, c6, c7, c8, c9, c10, c11, c12, c13, c14, c15, c16, c17, c18, c19, c20⟩ := fact_cells hk0
 clear hk0 hb0
 unfold Fact.cells at hW0 HV HK0 ⊢
 subst hq
 go_enter Tryz.func206, Tryz.ntmps206
 go_wp2_with fail
 go_ret
 refine ⟨congrArg (fun b => Ending.returned (Value.bool b)) ?_, HB0.out⟩
 show _ = decide (_ = 0)
 rw [Bool.eq_iff_iff]; simp
theorem fcEmpty_12 (x : Fact) (P O : Value) (hv : FactV x P O) (f : Nat) (hf : f < 13) (hq : f = 12) (w : World) : Calls Tryz.prog 206 #[.agg (x.cells P O), .int .i64 (f : Int)] w fun e w' => e = .returned (.bool (emptyB x f)) ∧ Below w.heap.size w w' := by
 obtain ⟨⟨A, c, rfl⟩, A', c', rfl⟩ := hv
 obtain ⟨W0, hW0⟩ : ∃ W0, w.alloc (.cells (x.cells (.slice A x.picks.length c) (.slice A' x.opts.length c')) 60) = W0 := ⟨_, rfl⟩
 have hb0 : Below w.heap.size w W0 := by rw [← hW0]; exact (Below.refl _ w).alloc (Nat.le_refl _) _
 have hk0 : W0.heap[w.heap.size]? = some (.cells (x.cells (.slice A x.picks.length c) (.slice A' x.opts.length c')) 60 (0, 0)) := by rw [← hW0]; exact heap_alloc_new w _
 have HK0 := hI hk0
 have HB0 := hI hb0
 have HV := hI (fcValue_any x (.slice A x.picks.length c) (.slice A' x.opts.length c') f hf)
 have HE := hI (fun a b W => run_eql_fracK a b ⟨#[]⟩ ⟨#[]⟩ W)
 obtain ⟨c0, c1, c2, c3, c4, c5, c6, c7, c8, c9, c10, c11, c12, c13, c14, c15, c16, c17, c18, c19, c20⟩ := fact_cells hk0
 clear hk0 hb0
 unfold Fact.cells at hW0 HV HK0 ⊢
 subst hq
 go_enter Tryz.func206, Tryz.ntmps206
 go_wp2_with fail
 go_ret
 refine ⟨congrArg (fun b => Ending.returned (Value.bool b)) ?_, HB0.out⟩
 show _ = decide (_ = 0)
 rw [Bool.eq_iff_iff]; simp
theorem fcEmpty_n (x : Fact) (P O : Value) (hv : FactV x P O) (f : Nat) (hf : f < 13) (hf2 : f = 4 ∨ f = 5 ∨ f = 6 ∨ f = 7 ∨ f = 8 ∨ f = 9) (w : World) : Calls Tryz.prog 206 #[.agg (x.cells P O), .int .i64 (f : Int)] w fun e w' => e = .returned (.bool (emptyB x f)) ∧ Below w.heap.size w w' := by
 obtain ⟨⟨A, c, rfl⟩, A', c', rfl⟩ := hv
 obtain ⟨W0, hW0⟩ : ∃ W0, w.alloc (.cells (x.cells (.slice A x.picks.length c) (.slice A' x.opts.length c')) 60) = W0 := ⟨_, rfl⟩
 have hb0 : Below w.heap.size w W0 := by rw [← hW0]; exact (Below.refl _ w).alloc (Nat.le_refl _) _
 have hk0 : W0.heap[w.heap.size]? = some (.cells (x.cells (.slice A x.picks.length c) (.slice A' x.opts.length c')) 60 (0, 0)) := by rw [← hW0]; exact heap_alloc_new w _
 have HK0 := hI hk0
 have HB0 := hI hb0
 have HV := hI (fcValue_any x (.slice A x.picks.length c) (.slice A' x.opts.length c') f hf)
 have HE := hI (fun a b W => run_eql_fracK a b ⟨#[]⟩ ⟨#[]⟩ W)
 obtain ⟨c0, c1, c2, c3, c4, c5, c6, c7, c8, c9, c10, c11, c12, c13, c14, c15, c16, c17, c18, c19, c20⟩ := fact_cells hk0
 clear hk0 hb0
 unfold Fact.cells at hW0 HV HK0 ⊢
 have e0 : ((f : Int) == 0) = false := beq_eq_false_iff_ne.2 (by omega)
 have e1 : ((f : Int) == 1) = false := beq_eq_false_iff_ne.2 (by omega)
 have e2 : ((f : Int) == 2) = false := beq_eq_false_iff_ne.2 (by omega)
 have e3 : ((f : Int) == 3) = false := beq_eq_false_iff_ne.2 (by omega)
 have e10 : ((f : Int) == 10) = false := beq_eq_false_iff_ne.2 (by omega)
 have e11 : ((f : Int) == 11) = false := beq_eq_false_iff_ne.2 (by omega)
 have e12 : ((f : Int) == 12) = false := beq_eq_false_iff_ne.2 (by omega)
 have HEM : Hid (emptyB x f = (decide ((x.num f).1 = ⟨#[]⟩) && decide ((x.num f).2 = ⟨#[]⟩))) := by
  rcases hf2 with rfl | rfl | rfl | rfl | rfl | rfl <;> rfl
 generalize emptyB x f = em at HEM ⊢
 generalize x.num f = nm at HV HEM
 clear hf2
 go_enter Tryz.func206, Tryz.ntmps206
 go_wp2_with (first | (refine wpList_load_row rfl _ _ rfl w.heap.size rfl _ _ (0, 0) _ HK0.out Tryz.underlying60 rfl (by kernel_rfl) ?_) | fail)
 refine (HV.out _).mono ?_
 rintro e w1 ⟨rfl, b1⟩
 have hE := HE.out nm.1 nm.2 w1
 rw [← HEM.out] at hE
 have HB1 := hI (HB0.out.trans (b1.mono HB0.out.size))
 clear b1
 as_aux_lemma =>
 go_wp2_with (first | (refine wpList_binOp_runK (fun x y => eqGuard_fracK _ x y _ _ _) hE rfl _ _ _ rfl rfl rfl ?_) | fail)
 go_ret
 exact ⟨rfl, HB1.out⟩
theorem fcEmpty_any (x : Fact) (P O : Value) (hv : FactV x P O) (f : Nat) (hf : f < 13) (w : World) : Calls Tryz.prog 206 #[.agg (x.cells P O), .int .i64 (f : Int)] w fun e w' => e = .returned (.bool (emptyB x f)) ∧ Below w.heap.size w w' := by
 rcases (show f = 0 ∨ f = 1 ∨ f = 2 ∨ f = 3 ∨ f = 10 ∨ f = 11 ∨ f = 12 ∨ (f = 4 ∨ f = 5 ∨ f = 6 ∨ f = 7 ∨ f = 8 ∨ f = 9) from by omega) with h | h | h | h | h | h | h | h
 ·exact fcEmpty_0 x P O hv f hf h w
 ·exact fcEmpty_1 x P O hv f hf h w
 ·exact fcEmpty_2 x P O hv f hf h w
 ·exact fcEmpty_3 x P O hv f hf h w
 ·exact fcEmpty_10 x P O hv f hf h w
 ·exact fcEmpty_11 x P O hv f hf h w
 ·exact fcEmpty_12 x P O hv f hf h w
 ·exact fcEmpty_n x P O hv f hf h w
end Go.Proofs.YtbkmhmaldljgmaaGreatDoor
