/-
  revalue.Effects of valid measures.
  revalue.Effects of what is not valid.
  revalue.Effects on a day that is not valid. (Printed by gen_rve10.py.)
  tranchelaw28.SameEffect, slices.EqualFunc over effects.
  slices.EqualFunc over effects.
  revalue.Effects and trancheref40.Effects: the same on any measures.
-/
import Derived.Test.YtbkmhmaldljgmaaGreatDoorC25
import Derived.Test.YtbkmhmaldljgmaaGreatDoorC27
import Derived.Test.YtbkmhmaldljgmaaGreatDoorC19
import Derived.Test.YtbkmhmaldljgmaaGreatDoorC18
import Derived.Test.YtbkmhmaldljgmaaGreatDoorC16
set_option linter.unusedVariables false
set_option linter.unusedSimpArgs false
set_option maxHeartbeats 16000000
set_option maxRecDepth 100000
namespace Go.Proofs.YtbkmhmaldljgmaaGreatDoor
open Go.RowKit Tr Go.Shelf
def at3 (l : List ByteArray) (k : Nat) : ByteArray := l.getD k ⟨#[]⟩
def chK (b a : List ByteArray) (k : Nat) : ByteArray := I (vl (at3 a k) - vl (at3 b k))
abbrev EE := Int × ByteArray × Nat
noncomputable def elC (d : Int) (i : Inst) (L : List EE) : List Value := L.flatMap fun x => (efkC x.1 d i x.2.2).toList
def chosen (b a : List ByteArray) (k : Nat) : List (Int × ByteArray) := (List.range k).flatMap fun j => if isS (chK b a j) = true then [(17 + (j : Int), chK b a j)] else []
theorem chosen_succ (b a : List ByteArray) (k : Nat) : chosen b a (k + 1) = chosen b a k ++ (if isS (chK b a k) = true then [(17 + (k : Int), chK b a k)] else []) := by
 unfold chosen; rw [List.range_succ, List.flatMap_append]; simp
theorem elC_snoc (d : Int) (i : Inst) (L : List EE) (x : EE) : elC d i (L ++ [x]) = elC d i L ++ (efkC x.1 d i x.2.2).toList := by unfold elC; simp
theorem Tryz.infoEff : (Tryz.prog.info? 47).map (fun i => (i.zero, i.size, i.bytes)) = some (some (.agg effZero), 7, 104) := by kernel_rfl
theorem chosen_len (b a : List ByteArray) : ∀ k, (chosen b a k).length ≤ k
 | 0 => Nat.le_refl _
 | k + 1 => by
   have ih := chosen_len b a k
   rw [chosen_succ, List.length_append]
   split <;> simp <;> omega
theorem own_ne {W : World} {base n : Nat} {v : Value} {xs : List Value} {B : Nat} {cs : Array Value} {t : TypeId} {m : Nat × Nat} (h : W.ownsRow base 47 7 v n xs) (hB : W.heap[B]? = some (.cells cs t m)) (ht : t ≠ 47) : some B ≠ v.ownBlock := by
 intro e
 rcases h.2 with ⟨rfl, _⟩ | ⟨g, cap, cur, rfl, _, hg, _⟩
 ·simp [Value.ownBlock] at e
 ·simp [Value.ownBlock] at e
  subst e
  rw [hB] at hg
  simp at hg
  exact ht hg.2.1
def TmAll (n₀ : Nat) (L : List EE) (W : World) : Prop := ∀ x ∈ L, n₀ ≤ x.2.2 ∧ W.heap[x.2.2]? = some (.cells #[.string ⟨#[97, 109, 111, 117, 110, 116]⟩, .string x.2.1] 82 (0, 0))
theorem idxK {k : Nat} (hk : k < 3) (W : World) : (Instr.index 76 (.agg #[.int .i64 17, .int .i64 18, .int .i64 19]) (.int .i64 (k : Int))).run Tryz.prog W = .ok (.int .i64 (17 + (k : Int))) W := by
 rcases (show k = 0 ∨ k = 1 ∨ k = 2 from by omega) with rfl | rfl | rfl <;> kernel_rfl
theorem rvEffects_ok (d : Int) (hd : okDay d) (i : Inst) (hi : i.small) (hok : i.ok) (B A : Option Addr) (b a : List ByteArray) (cb ca : Nat) (hb3 : b.length = 3) (ha3 : a.length = 3) (hbc : ∀ x ∈ b, Can x ∧ x.size ≤ 13) (hac : ∀ x ∈ a, Can x ∧ x.size ≤ 13) (w : World) (hB : RdS w B b) (hA : RdS w A a) (ht : Tabs w) :
 Calls Tryz.prog 9 #[.int .i64 d, i.enc, .slice B b.length cb, .slice A a.length ca] w fun e w' => ∃ (v : Value) (L : List EE), e = .returned (.tuple #[v, .int .i64 0]) ∧ w'.ownsRow w.heap.size 47 7 v L.length (elC d i L) ∧ L.map (fun x => (x.1, x.2.1)) = chosen b a 3 ∧ TmAll w.heap.size L w' ∧ Below w.heap.size w w' := by
 have mixed : Tryz.prog.follows .mixedOrders = true := by kernel_rfl
 obtain ⟨bd, rfl, hbd, hbr⟩ := hB (fun e => by rw [e] at hb3; cases hb3)
 obtain ⟨ad, rfl, had, har⟩ := hA (fun e => by rw [e] at ha3; cases ha3)
 obtain ⟨W0, hW0⟩ : ∃ W0, w.alloc (.cells i.cells 27) = W0 := ⟨_, rfl⟩
 have k0 : W0.heap[w.heap.size]? = some (.cells i.cells 27 (0, 0)) := by rw [← hW0]; exact heap_alloc_new w _
 have b0 : Below w.heap.size w W0 := by rw [← hW0]; exact (Below.refl _ w).alloc (Nat.le_refl _) _
 have HB0 := hI b0
 have HK0 := hI k0
 have hen : ∀ args w, (callFunc 22 args).run Tryz.prog w = .ok (.enter 22 args) w := fun args w => by kernel_rfl
 have HI := hI (fun W (hb : Below w.heap.size w W) => iCheck_ok i hi.sized hok W (ht.below hb))
 have nob : b.any oddS = false := by rw [List.any_eq_false]; intro x hx; unfold oddS; rw [decide_eq_true (show I (vl x) = x from (hbc x hx).1)]; exact Bool.false_ne_true
 have noa : a.any oddS = false := by rw [List.any_eq_false]; intro x hx; unfold oddS; rw [decide_eq_true (show I (vl x) = x from (hac x hx).1)]; exact Bool.false_ne_true
 have HHB := hI (fun W (hb : Below w.heap.size w W) => hasS_any oddS 22 (some bd) b cb (by omega) W (hB.below hb) hen (fun W' _ x hx => rvOdd_any x (by have := (hbc x hx).2; omega) W'))
 have HHA := hI (fun W (hb : Below w.heap.size w W) => hasS_any oddS 22 (some ad) a ca (by omega) W (hA.below hb) hen (fun W' _ x hx => rvOdd_any x (by have := (hac x hx).2; omega) W'))
 rw [nob, hb3] at HHB
 rw [noa, ha3] at HHA
 rw [hb3, ha3]
 have HT := hI ht
 have HBR : Hid (∀ W, Below w.heap.size w W → ∀ k x, b[k]? = some x → W.cell? (bd.add k) = some (.string x)) := fun W hb k x hx => (hb.cell (by rw [add_block]; exact hbd)).trans (hbr k x hx)
 have HAR : Hid (∀ W, Below w.heap.size w W → ∀ k x, a[k]? = some x → W.cell? (ad.add k) = some (.string x)) := fun W hb k x hx => (hb.cell (by rw [add_block]; exact had)).trans (har k x hx)
 have HL3 : Hid (b.length = 3 ∧ a.length = 3) := ⟨hb3, ha3⟩
 obtain ⟨c0, c1, c2, c3, c4, c5, c6, c7, c8, c9, c10, c11, c12, c13, c14⟩ := cells15 k0
 clear hB hA ht hbr har nob noa hen b0 k0 hb3 ha3
 unfold Inst.enc Inst.cells at *
 go_enter Tryz.func9, Tryz.ntmps9
 go_wp2_with fail
 refine (HI.out W0 HB0.out).mono ?_
 rintro e w1 ⟨rfl, b1⟩
 have HB1 := hI (HB0.out.trans (b1.mono HB0.out.size))
 go_wp2_with fail
 refine (HHB.out w1 HB1.out).mono ?_
 rintro e w2 ⟨rfl, b2⟩
 have HB2 := hI (HB1.out.trans (b2.mono HB1.out.size))
 go_wp2_with fail
 refine (HHA.out w2 HB2.out).mono ?_
 rintro e w3 ⟨rfl, b3⟩
 have HB3 := hI (HB2.out.trans (b3.mono HB2.out.size))
 go_wp2_with fail
 have HI3 : Hid (w3.heap[w.heap.size]? = some (.cells i.cells 27 (0, 0))) := by
  have e1 := (b1.block _ (Array.getElem?_eq_some_iff.1 HK0.out).1).trans HK0.out
  have e2 := (b2.block _ (Array.getElem?_eq_some_iff.1 e1).1).trans e1
  exact (b3.block _ (Array.getElem?_eq_some_iff.1 e2).1).trans e2
 clear b1 b2 b3 HB1 HB2 HHB HHA HI hW0 c0 c1 c2 c3 c4 c5 c6 c7 c8 c9 c10 c11 c12 c13 c14
 go_loopw [11, 41] (fun v11 v41 wr => ∃ (k : Nat) (L : List EE), v41 = .int .i64 (k : Int) ∧ k ≤ 3 ∧ wr.ownsRow w.heap.size 47 7 v11 L.length (elC d i L) ∧ L.map (fun x => (x.1, x.2.1)) = chosen b a k ∧ TmAll w.heap.size L wr ∧ Below w.heap.size w wr ∧ wr.heap[w.heap.size]? = some (.cells i.cells 27 (0, 0))) (fun _ v _ => 3 - (intOf v).toNat)
 case atStart => exact ⟨0, [], rfl, by omega, World.ownsRow_nil _ _ _ _, rfl, (fun x hx => by cases hx), HB3.out, HI3.out⟩
 case round =>
  clear HB3 HI3
  obtain ⟨k, L, rfl, hk, hown, hmap, htm, hbw, hins⟩ := hrel
  have HOWN := hI hown
  have HMAP := hI hmap
  have HTM := hI htm
  have HBW := hI hbw
  have HINS := hI hins
  clear hown hmap htm hbw hins
  rcases Nat.lt_or_ge k 3 with hlt | hge
  ·have hcx : decide ((k : Int) < 3) = true := by simp; omega
   have hk3 : (k : Int) < 3 := by omega
   have hidx := fun W => idxK hlt W
   obtain ⟨x, hx⟩ : ∃ x, b[k]? = some x := ⟨_, List.getElem?_eq_getElem (by rw [HL3.out.1]; exact hlt)⟩
   obtain ⟨y, hy⟩ : ∃ y, a[k]? = some y := ⟨_, List.getElem?_eq_getElem (by rw [HL3.out.2]; exact hlt)⟩
   obtain ⟨ch, hch⟩ : ∃ c, I (vl y - vl x) = c := ⟨_, rfl⟩
   have HCH : Hid (chK b a k = ch) := by rw [Hid, ← hch]; unfold chK at3; rw [List.getD_eq_getElem?_getD, List.getD_eq_getElem?_getD, hx, hy]; rfl
   have hzx := (hbc x (List.mem_of_getElem? hx)).2
   have hzy := (hac y (List.mem_of_getElem? hy)).2
   have hcz : ch.size ≤ 1000 := by
    rw [← hch]
    refine Nat.le_trans (I_size_le (k := 14) ?_) (by omega)
    have h1 := vl_lt x
    have h2 := vl_lt y
    have h3 : 10 ^ x.size ≤ 10 ^ 13 := Nat.pow_le_pow_right (by omega) hzx
    have h4 : 10 ^ y.size ≤ 10 ^ 13 := Nat.pow_le_pow_right (by omega) hzy
    omega
   have hcan : Can ch := by rw [← hch]; show I (vl (I _)) = I _; rw [vl_I]
   have HSB : Hid (∀ W, Below wr.heap.size wr W → Calls Tryz.prog 26 #[.string y, .string x] W fun e w' => e = .returned (.string ch) ∧ Below W.heap.size W w') := fun W hb => by
    rw [← hch]; exact Sub_any y x W (by omega) (by omega) (HT.out.below (HBW.out.trans (hb.mono HBW.out.size)))
   have HEF : Hid (∀ W, Below wr.heap.size wr W → Calls Tryz.prog 25 #[.int .i64 (17 + (k : Int)), .int .i64 d, i.enc, .string ch] W fun e w' => ∃ v, e = .returned v ∧ EffV wr.heap.size (17 + (k : Int)) d i ch v w' ∧ Below W.heap.size W w') := fun W hb =>
    aEff_any _ d (by omega) hd i hi hok ch hcan hcz wr.heap.size W hb.size (HT.out.below (HBW.out.trans (hb.mono HBW.out.size)))
   have HCB : Hid (∀ W, Below wr.heap.size wr W → W.cell? (bd.add k) = some (.string x)) := fun W hb => HBR.out W (HBW.out.trans (hb.mono HBW.out.size)) k x hx
   have HCA : Hid (∀ W, Below wr.heap.size wr W → W.cell? (ad.add k) = some (.string y)) := fun W hb => HAR.out W (HBW.out.trans (hb.mono HBW.out.size)) k y hy
   have HRI : Hid (∀ W, Below wr.heap.size wr W → W.rangeAt w.heap.size 0 i.cells.toList) := fun W hb j v hj => by
    rw [Nat.zero_add, Lib.cell_of_heap ((hb.block _ (Array.getElem?_eq_some_iff.1 HINS.out).1).trans HINS.out) j]; simpa using hj
   clear hx hy hch hzx hzy hcz hcan
   go_upto_region 8 with fail
   clear hidx
   refine region_marks (m := { C := fun W => Below wr.heap.size wr W, V := [fun v => v = .int .i64 (17 + (k : Int)), fun v => v = .int .i64 d, fun v => v = i.enc, fun v => v = .slice (some ad) 3 ca, fun v => v = .int .i64 (k : Int), fun v => v = .pointer (some (ad.add k)), fun v => v = .string y, fun v => v = .slice (some bd) 3 cb, fun v => v = .int .i64 (k : Int), fun v => v = .pointer (some (bd.add k)), fun v => v = .string x, fun v => v = .string ch, fun _ => True, fun _ => True, fun _ => True, fun v => v = .bool (isS ch), fun v => v = .int .i64 0, fun _ => True, fun _ => True, fun v => v = .bool (isS ch), fun v => v = .int .i64 0], N := [(12, EffV wr.heap.size (17 + (k : Int)) d i ch), (13, EffV wr.heap.size (17 + (k : Int)) d i ch), (14, aggE wr.heap.size (17 + (k : Int)) d i ch), (17, newE wr.heap.size), (18, fulE wr.heap.size (17 + (k : Int)) d i ch)], E := [(18, [17], fun l v => l = [v])], F := [] }) (F := ?F) mixed (by kernel_rfl) (by kernel_rfl) (by kernel_rfl) (fun s => ?hF) (Below.refl _ wr).drew True.intro ?hs ?he
   case hF =>
    simp only [putAll, Act.put, List.setIfInBounds_toArray, List.set_cons_succ, List.set_cons_zero, Nat.reduceAdd, Nat.zero_add]
    exact rfl
   case hs =>
    iterate 2
     refine mSteps_cons (fun s W hW hd hz K hK => ?_) ?_
     focus
      simp [depsOk, Mk.ok, mkV, mkN, Region.binds] at hd
      try simp only [hd] at hK ⊢
      first
      | (go_simp
         refine hK _ _ ?_ _ rfl
         exact nx_pure hW (And.intro rfl True.intro) rfl)
      | (have z := HCA.out W hW
         have z2 := HCB.out W hW
         go_simp
         refine hK _ _ ?_ _ rfl
         exact nx_pure hW (And.intro rfl True.intro) rfl)
      | (go_simp
         refine (HSB.out W hW).mono ?_
         rintro e wn ⟨rfl, hb⟩
         refine hK _ _ ?_ _ rfl
         exact ⟨hW.trans (hb.mono hW.size), ⟨fun _ h => h.below hb, fun _ h => h.below hb, fun _ h => h.below hb, fun _ h => h.below hb, fun _ h => h.below hb, True.intro⟩, True.intro, hb.size, And.intro rfl True.intro, (fun h => by cases h), True.intro⟩)
    refine mSteps_cons (fun s W hW hd hz K hK => ?_) ?_
    focus
     clear hd
     refine mk_load rfl rfl w.heap.size 0 rfl _ _ (HRI.out W hW) Tryz.underlying27 rfl (by kernel_rfl) ?_
     refine hK _ _ ?_ _ rfl
     exact nx_pure hW (And.intro rfl True.intro) rfl
    iterate 9
     refine mSteps_cons (fun s W hW hd hz K hK => ?_) ?_
     focus
      simp [depsOk, Mk.ok, mkV, mkN, Region.binds] at hd
      try simp only [hd] at hK ⊢
      first
      | (go_simp
         refine hK _ _ ?_ _ rfl
         exact nx_pure hW (And.intro rfl True.intro) rfl)
      | (have z := HCA.out W hW
         have z2 := HCB.out W hW
         go_simp
         refine hK _ _ ?_ _ rfl
         exact nx_pure hW (And.intro rfl True.intro) rfl)
      | (go_simp
         refine (HSB.out W hW).mono ?_
         rintro e wn ⟨rfl, hb⟩
         refine hK _ _ ?_ _ rfl
         exact ⟨hW.trans (hb.mono hW.size), ⟨fun _ h => h.below hb, fun _ h => h.below hb, fun _ h => h.below hb, fun _ h => h.below hb, fun _ h => h.below hb, True.intro⟩, True.intro, hb.size, And.intro rfl True.intro, (fun h => by cases h), True.intro⟩)
    refine mSteps_cons (fun s W hW hd hz K hK => ?_) ?_
    focus
     simp [depsOk, Mk.ok, mkV, mkN, Region.binds] at hd
     try simp only [hd] at hK ⊢
     go_simp
     refine (HEF.out W hW).mono ?_
     rintro e wn ⟨v, rfl, hv, hb⟩
     refine hK _ _ ?_ _ rfl
     exact ⟨hW.trans (hb.mono hW.size), ⟨True.intro, fun _ h => h.below hb, fun _ h => h.below hb, fun _ h => h.below hb, fun _ h => h.below hb, True.intro⟩, True.intro, hb.size, And.intro True.intro hv, (fun h => by cases h), True.intro⟩
    refine mSteps_cons (fun s W hW hd hz K hK => ?_) ?_
    focus
     simp [depsOk, Mk.ok, mkV, mkN, Region.binds] at hd
     have hd1 : EffV wr.heap.size (17 + (k : Int)) d i ch (s 12) W := by first | exact hd | exact hd.1 | exact hd.2
     clear hd
     go_simp
     refine hK _ _ ?_ _ rfl
     exact nx_pure hW (And.intro True.intro hd1) rfl
    iterate 3
     refine mSteps_cons (fun s W hW hd hz K hK => ?_) ?_
     focus
      simp [depsOk, Mk.ok, mkV, mkN, Region.binds] at hd
      have hd1 : EffV wr.heap.size (17 + (k : Int)) d i ch (s 13) W := by first | exact hd | exact hd.1 | exact hd.2 | exact hd.2.1
      clear hd
      obtain ⟨Bt, e, ht⟩ := hd1
      simp only [e] at hK ⊢
      go_simp
      refine hK _ _ ?_ _ rfl
      first | exact nx_pure hW (And.intro True.intro ⟨Bt, rfl, ht⟩) rfl | exact nx_pure hW (And.intro rfl True.intro) rfl
    refine mSteps_cons (fun s W hW hd hz K hK => ?_) ?_
    focus
     clear hd
     go_simp
     refine hK _ _ ?_ _ rfl
     have hb : Below W.heap.size W (W.alloc (.cells effZero 47)) := (Below.refl _ W).alloc (Nat.le_refl _) _
     exact ⟨hW.trans (hb.mono hW.size), ⟨fun _ h => h.below hb, fun _ h => h.below hb, fun _ h => h.below hb, True.intro, fun _ h => h.below hb, True.intro⟩, True.intro, hb.size, And.intro True.intro ⟨_, rfl, hW.size, _, heap_alloc_new W _, rfl⟩, (fun h => by cases h), True.intro⟩
    refine mSteps_cons (fun s W hW hd hz K hK => ?_) ?_
    focus
     simp [depsOk, Mk.ok, mkV, mkN, Region.binds] at hd
     have hd1 : newE wr.heap.size (s 17) W := by first | exact hd.1 | exact hd.2.1 | exact hd.2.2.1
     have hd2 : aggE wr.heap.size (17 + (k : Int)) d i ch (s 14) W := by first | exact hd.1 | exact hd.2.1 | exact hd.2.2.1
     clear hd
     obtain ⟨q, e1, hq, cs, hc, hz7⟩ := hd1
     obtain ⟨Bt, e2, ht⟩ := hd2
     rw [if_pos (show Region.wanted _ _ = true from rfl)]
     simp only [e1, e2] at hK ⊢
     have hrun := run_store_rowK W q 7 47 cs (cE (isS ch) (17 + (k : Int)) d i Bt) (by kernel_rfl) hc hz7 (cE_size _ _ _ _ _) (cE_one _ _ _ _ _)
     refine op_store hrun _ _ rfl rfl rfl ?_
     refine hK (.pointer (some ⟨q, 0, none⟩)) _ ?_ _ rfl
     exact ⟨below_setRowK hW hq _, ⟨fun _ h => h.put hc _, fun _ h => h.put hc _, fun _ h => h.put hc _, fun _ h => h.put hc (cE_size _ _ _ _ _), True.intro, True.intro⟩, True.intro, by simp [World.setRow], And.intro True.intro ⟨q, Bt, rfl, hq, setRow_heap W _ _ _ _ _ hc, ht.put hc _⟩, (fun h => by cases h), by simp [eNow, e1]⟩
    iterate 2
     refine mSteps_cons (fun s W hW hd hz K hK => ?_) ?_
     focus
      simp [depsOk, Mk.ok, mkV, mkN, Region.binds] at hd
      have hd1 : s 15 = .bool (isS ch) ∨ s 16 = .int .i64 0 := by first | exact .inl hd | exact .inl hd.1 | exact .inr hd | exact .inr hd.1
      first
      | (have e : s 15 = .bool (isS ch) := by first | exact hd | exact hd.1
         clear hd
         simp only [e] at hK ⊢
         go_simp
         refine hK _ _ ?_ _ rfl
         exact nx_pure hW (And.intro rfl True.intro) rfl)
      | (have e : s 16 = .int .i64 0 := by first | exact hd | exact hd.1
         clear hd
         simp only [e] at hK ⊢
         go_simp
         refine hK _ _ ?_ _ rfl
         exact nx_pure hW (And.intro rfl True.intro) rfl)
    exact mSteps_nil
   case he =>
    intro s W hC hall hdd
    simp [allOk, Mk.ok, mkV, mkN] at hall
    have h18 : fulE wr.heap.size (17 + (k : Int)) d i ch (s 18) W := by simp [hall]
    have e19 : s 19 = .bool (isS ch) := by simp [hall]
    have e20 : s 20 = .int .i64 0 := by simp [hall]
    have e18 : s 18 = s 17 := by have := hdd.2.1; simp at this; exact this.symm
    rw [e18] at h18
    obtain ⟨q, Bt, e17, hq, hc, ht⟩ := h18
    simp only [e17, e19, e20]
    clear hall hdd e18 e17 e19 e20
    have HOW := hI (ownsRow_below HOWN.out hC)
    have HTM2 : Hid (TmAll w.heap.size L W) := fun x hx => ⟨(HTM.out x hx).1, (hC.block _ (Array.getElem?_eq_some_iff.1 (HTM.out x hx).2).1).trans (HTM.out x hx).2⟩
    have HBW2 := hI (HBW.out.trans (hC.mono HBW.out.size))
    have HIN2 : Hid (W.heap[w.heap.size]? = some (.cells i.cells 27 (0, 0))) := (hC.block _ (Array.getElem?_eq_some_iff.1 HINS.out).1).trans HINS.out
    have HSUC := hI (chosen_succ b a k)
    rw [HCH.out] at HSUC
    have HTT := hI ht
    have HWZ : Hid (w.heap.size ≤ wr.heap.size) := HBW.out.size
    have hk3' : (k : Int) + 1 ≤ 3 := by omega
    obtain ⟨g, hg⟩ : ∃ g, isS ch = g := ⟨_, rfl⟩
    unfold TmRow at HTT
    rw [hg] at hc HSUC HTT ⊢
    clear hC ht HOWN HTM HBW HINS HRI HSB HEF HCB HCA hg
    cases g with
    | false =>
      go_wp2_with fail
      go_roundw
      case rel => exact ⟨k + 1, L, by go_num, by omega, HOW.out, by rw [HMAP.out, HSUC.out]; simp, HTM2.out, HBW2.out, HIN2.out⟩
      case measure => simp [intOf]; omega
    | true =>
      obtain ⟨i0, hi0, hz0, hz1, hz2⟩ := info_parts Tryz.infoEff
      have hlen : L.length ≤ 3 := by
       have h1 := chosen_len b a k
       rw [← HMAP.out, List.length_map] at h1
       omega
      obtain ⟨cb8, hcb⟩ : ∃ x, causeB d i.id = x := ⟨_, rfl⟩
      have HCBE := hI hcb
      have hc' : W.heap[q]? = some (.cells #[.int .i64 (17 + (k : Int)), .int .i64 d, .string cb8, .string i.id, .string ⟨#[]⟩, .string i.cur, .slice (some ⟨Bt, 0, none⟩) 1 1] 47 (0, 0)) := by rw [← hcb]; exact hc
      have HONE : Hid (∀ u ∈ (#[.int .i64 (17 + (k : Int)), .int .i64 d, .string cb8, .string i.id, .string ⟨#[]⟩, .string i.cur, .slice (some ⟨Bt, 0, none⟩) 1 1] : Array Value).toList, u.oneCell' = true) := by rw [← hcb]; exact cE_one true _ _ _ _
      have HSRC : Hid (∀ j u, (#[.int .i64 (17 + (k : Int)), .int .i64 d, .string cb8, .string i.id, .string ⟨#[]⟩, .string i.cur, .slice (some ⟨Bt, 0, none⟩) 1 1] : Array Value).toList[j]? = some u → (W.alloc (.cells #[.int .i64 (17 + (k : Int)), .int .i64 d, .string cb8, .string i.id, .string ⟨#[]⟩, .string i.cur, .slice (some ⟨Bt, 0, none⟩) 1 1] 47)).cell? ((⟨W.heap.size, 0, none⟩ : Addr).add j) = some u) := fun j u hu => by
       rw [addr_add0, Lib.cell_of_heap (heap_alloc_new W _) j, ← Array.getElem?_toList]; exact hu
      have HOA := hI (HOW.out.alloc (.cells #[.int .i64 (17 + (k : Int)), .int .i64 d, .string cb8, .string i.id, .string ⟨#[]⟩, .string i.cur, .slice (some ⟨Bt, 0, none⟩) 1 1] 47))
      have HBA : Hid (Below w.heap.size w (W.alloc (.cells #[.int .i64 (17 + (k : Int)), .int .i64 d, .string cb8, .string i.id, .string ⟨#[]⟩, .string i.cur, .slice (some ⟨Bt, 0, none⟩) 1 1] 47))) := HBW2.out.alloc HBW2.out.size _
      clear hc hcb
      go_wp2_with (first | (refine wpList_load_row rfl 47 _ rfl q rfl _ _ (0, 0) _ hc' Tryz.underlying47 rfl (by kernel_rfl) ?_) | (at_builtin; refine wpList_append_own _ rfl _ _ 33 rfl w.heap.size 47 i0 (.agg effZero) 7 104 Tryz.underlying33 hi0 hz0 hz1 hz2 rfl (by decide) _ _ _ rfl HOA.out ⟨W.heap.size, 0, none⟩ 1 1 (#[.int .i64 (17 + (k : Int)), .int .i64 d, .string cb8, .string i.id, .string ⟨#[]⟩, .string i.cur, .slice (some ⟨Bt, 0, none⟩) 1 1] : Array Value).toList rfl rfl HSRC.out HONE.out (by unfold maxLen; omega) (by omega) HBA.out.size ?_; intro v2 w2 hown2 hgrow2 _; have HO2 := hI hown2; have HG2 := hI hgrow2; clear hown2 hgrow2) | fail)
      have HB2 : Hid (Below w.heap.size w w2) := HBA.out.grown HG2.out HBA.out.size (fun k hk => (HOA.out.lt k hk).1)
      have HKEEP : Hid (∀ (B : Nat) (cs : Array Value) (t : TypeId), W.heap[B]? = some (Obj.cells cs t (0, 0)) → t ≠ 47 → w2.heap[B]? = some (Obj.cells cs t (0, 0))) := fun B cs t hB hne => by
       have hlt2 := (Array.getElem?_eq_some_iff.1 hB).1
       exact (HG2.out.block B (by simp; omega) (own_ne HOW.out hB hne)).trans ((Below.heap_alloc _ _ _ hlt2).trans hB)
      go_roundw
      case rel => exact ⟨k + 1, L ++ [(17 + (k : Int), ch, Bt)], by go_num, by omega, by have h := HO2.out; rw [← HCBE.out] at h; rw [List.length_append, elC_snoc]; exact h, by rw [List.map_append, HMAP.out, HSUC.out]; simp, fun x hx => by
       rcases List.mem_append.1 hx with h | h
       ·exact ⟨(HTM2.out x h).1, HKEEP.out _ _ _ (HTM2.out x h).2 (by decide)⟩
       ·rw [List.mem_singleton.1 h]
        have h2 := HTT.out rfl
        exact ⟨Nat.le_trans HWZ.out h2.1, HKEEP.out _ _ _ h2.2 (by decide)⟩, HB2.out, HKEEP.out _ _ _ HIN2.out (by decide)⟩
      case measure => simp [intOf]; omega
  ·have hkk : k = 3 := by omega
   subst hkk
   go_wp2_with fail
   refine bodyPost_ret (results_tmp2 rfl _ _ _) rfl ?_
   exact ⟨_, L, rfl, HOWN.out, HMAP.out, HTM.out, HBW.out⟩
theorem rvEffects_bad (d : Int) (i : Inst) (hi : i.small) (B A : Option Addr) (b a : List ByteArray) (cb ca : Nat) (hbl : b.length ≤ 1000) (hal : a.length ≤ 1000) (hbz : ∀ x ∈ b, x.size ≤ 1000) (haz : ∀ x ∈ a, x.size ≤ 1000) (hbad : ¬ (i.ok ∧ threeS b = true ∧ threeS a = true)) (w : World) (hB : RdS w B b) (hA : RdS w A a) (ht : Tabs w) :
 Calls Tryz.prog 9 #[.int .i64 d, i.enc, .slice B b.length cb, .slice A a.length ca] w fun e w' => e = .returned (.tuple #[.slice none 0 0, .int .i64 1]) ∧ Below w.heap.size w w' := by
 obtain ⟨W0, hW0⟩ : ∃ W0, w.alloc (.cells i.cells 27) = W0 := ⟨_, rfl⟩
 have k0 : W0.heap[w.heap.size]? = some (.cells i.cells 27 (0, 0)) := by rw [← hW0]; exact heap_alloc_new w _
 have b0 : Below w.heap.size w W0 := by rw [← hW0]; exact (Below.refl _ w).alloc (Nat.le_refl _) _
 have HB0 := hI b0
 have hen : ∀ args w, (callFunc 22 args).run Tryz.prog w = .ok (.enter 22 args) w := fun args w => by kernel_rfl
 have HI := hI (fun W (hb : Below w.heap.size w W) => iCheck_any i hi.sized W (ht.below hb))
 have HHB := hI (fun W (hb : Below w.heap.size w W) => hasS_any oddS 22 B b cb hbl W (hB.below hb) hen (fun W' _ x hx => rvOdd_any x (by have := hbz x hx; omega) W'))
 have HHA := hI (fun W (hb : Below w.heap.size w W) => hasS_any oddS 22 A a ca hal W (hA.below hb) hen (fun W' _ x hx => rvOdd_any x (by have := haz x hx; omega) W'))
 obtain ⟨p, hp⟩ : ∃ p, b.any oddS = p := ⟨_, rfl⟩
 obtain ⟨q, hq⟩ : ∃ q, a.any oddS = q := ⟨_, rfl⟩
 rw [hp] at HHB
 rw [hq] at HHA
 have HP : Hid (i.ok ∧ b.length = 3 ∧ a.length = 3 ∧ p = false ∧ q = false → False) := fun h => hbad ⟨h.1, by unfold threeS; rw [decide_eq_true h.2.1, hp, h.2.2.2.1]; rfl, by unfold threeS; rw [decide_eq_true h.2.2.1, hq, h.2.2.2.2]; rfl⟩
 obtain ⟨nb, hnb⟩ : ∃ n, b.length = n := ⟨_, rfl⟩
 obtain ⟨na, hna⟩ : ∃ n, a.length = n := ⟨_, rfl⟩
 rw [hnb] at HHB HP ⊢
 rw [hna] at HHA HP ⊢
 obtain ⟨c0, c1, c2, c3, c4, c5, c6, c7, c8, c9, c10, c11, c12, c13, c14⟩ := cells15 k0
 clear hB hA b0 k0 hp hq hbad hbl hal hbz haz hen ht hnb hna
 unfold Inst.enc Inst.cells at *
 go_enter Tryz.func9, Tryz.ntmps9
 go_wp2_with fail
 refine (HI.out W0 HB0.out).mono ?_
 rintro e w1 ⟨z, rfl, hz, b1⟩
 have HB1 := hI (HB0.out.trans (b1.mono HB0.out.size))
 by_cases hz0 : z = 0
 ·have hok := hz.1 hz0
  subst hz0
  clear hz b1
  by_cases h3 : nb = 3
  ·have u1 : ((nb : Int) == 3) = true := by rw [beq_iff_eq]; omega
   have u2 : ((nb : Int) != 3) = false := by rw [bne, u1]; rfl
   have u3 : (nb : Int) = 3 := by omega
   by_cases h4 : na = 3
   ·have v1 : ((na : Int) == 3) = true := by rw [beq_iff_eq]; omega
    have v2 : ((na : Int) != 3) = false := by rw [bne, v1]; rfl
    have v3 : (na : Int) = 3 := by omega
    subst h3 h4
    go_wp2_with fail
    refine (HHB.out w1 HB1.out).mono ?_
    rintro e w2 ⟨rfl, b2⟩
    have HB2 := hI (HB1.out.trans (b2.mono HB1.out.size))
    cases p with
    | true =>
      go_wp2_with fail
      refine bodyPost_ret (results_tmp2 rfl _ _ _) rfl ?_
      exact ⟨rfl, HB2.out⟩
    | false =>
      go_wp2_with fail
      refine (HHA.out w2 HB2.out).mono ?_
      rintro e w3 ⟨rfl, b3⟩
      have HB3 := hI (HB2.out.trans (b3.mono HB2.out.size))
      cases q with
      | false => exact absurd hok (by have h := HP.out; simpa using h)
      | true =>
        go_wp2_with fail
        refine bodyPost_ret (results_tmp2 rfl _ _ _) rfl ?_
        exact ⟨rfl, HB3.out⟩
   ·have v1 : ((na : Int) == 3) = false := beq_eq_false_iff_ne.2 (by omega)
    have v2 : ((na : Int) != 3) = true := by rw [bne, v1]; rfl
    have v3 : ¬ (na : Int) = 3 := by omega
    go_wp2_with fail
    refine bodyPost_ret (results_tmp2 rfl _ _ _) rfl ?_
    exact ⟨rfl, HB1.out⟩
  ·have u1 : ((nb : Int) == 3) = false := beq_eq_false_iff_ne.2 (by omega)
   have u2 : ((nb : Int) != 3) = true := by rw [bne, u1]; rfl
   have u3 : ¬ (nb : Int) = 3 := by omega
   go_wp2_with fail
   refine bodyPost_ret (results_tmp2 rfl _ _ _) rfl ?_
   exact ⟨rfl, HB1.out⟩
 ·have t1 : (z == 0) = false := beq_eq_false_iff_ne.2 hz0
  have t2 : (z != 0) = true := by rw [bne, t1]; rfl
  clear hz b1 hz0
  go_wp2_with fail
  refine bodyPost_ret (results_tmp2 rfl _ _ _) rfl ?_
  exact ⟨rfl, HB1.out⟩
theorem rvEffects_day (d : Int) (hd : ¬ okDay d) (i : Inst) (hi : i.small) (hok : i.ok) (B A : Option Addr) (b a : List ByteArray) (cb ca : Nat) (hb3 : b.length = 3) (ha3 : a.length = 3) (hbc : ∀ x ∈ b, Can x ∧ x.size ≤ 13) (hac : ∀ x ∈ a, Can x ∧ x.size ≤ 13) (w : World) (hB : RdS w B b) (hA : RdS w A a) (ht : Tabs w) :
 Calls Tryz.prog 9 #[.int .i64 d, i.enc, .slice B b.length cb, .slice A a.length ca] w fun e w' => e = .returned (.tuple #[.slice none 0 0, .int .i64 13]) ∧ Below w.heap.size w w' := by
 have mixed : Tryz.prog.follows .mixedOrders = true := by kernel_rfl
 obtain ⟨bd, rfl, hbd, hbr⟩ := hB (fun e => by rw [e] at hb3; cases hb3)
 obtain ⟨ad, rfl, had, har⟩ := hA (fun e => by rw [e] at ha3; cases ha3)
 obtain ⟨W0, hW0⟩ : ∃ W0, w.alloc (.cells i.cells 27) = W0 := ⟨_, rfl⟩
 have k0 : W0.heap[w.heap.size]? = some (.cells i.cells 27 (0, 0)) := by rw [← hW0]; exact heap_alloc_new w _
 have b0 : Below w.heap.size w W0 := by rw [← hW0]; exact (Below.refl _ w).alloc (Nat.le_refl _) _
 have HB0 := hI b0
 have HK0 := hI k0
 have hen : ∀ args w, (callFunc 22 args).run Tryz.prog w = .ok (.enter 22 args) w := fun args w => by kernel_rfl
 have HI := hI (fun W (hb : Below w.heap.size w W) => iCheck_ok i hi.sized hok W (ht.below hb))
 have nob : b.any oddS = false := by rw [List.any_eq_false]; intro x hx; unfold oddS; rw [decide_eq_true (show I (vl x) = x from (hbc x hx).1)]; exact Bool.false_ne_true
 have noa : a.any oddS = false := by rw [List.any_eq_false]; intro x hx; unfold oddS; rw [decide_eq_true (show I (vl x) = x from (hac x hx).1)]; exact Bool.false_ne_true
 have HHB := hI (fun W (hb : Below w.heap.size w W) => hasS_any oddS 22 (some bd) b cb (by omega) W (hB.below hb) hen (fun W' _ x hx => rvOdd_any x (by have := (hbc x hx).2; omega) W'))
 have HHA := hI (fun W (hb : Below w.heap.size w W) => hasS_any oddS 22 (some ad) a ca (by omega) W (hA.below hb) hen (fun W' _ x hx => rvOdd_any x (by have := (hac x hx).2; omega) W'))
 rw [nob, hb3] at HHB
 rw [noa, ha3] at HHA
 rw [hb3, ha3]
 have HT := hI ht
 have HBR : Hid (∀ W, Below w.heap.size w W → ∀ k x, b[k]? = some x → W.cell? (bd.add k) = some (.string x)) := fun W hb k x hx => (hb.cell (by rw [add_block]; exact hbd)).trans (hbr k x hx)
 have HAR : Hid (∀ W, Below w.heap.size w W → ∀ k x, a[k]? = some x → W.cell? (ad.add k) = some (.string x)) := fun W hb k x hx => (hb.cell (by rw [add_block]; exact had)).trans (har k x hx)
 have HL3 : Hid (b.length = 3 ∧ a.length = 3) := ⟨hb3, ha3⟩
 obtain ⟨c0, c1, c2, c3, c4, c5, c6, c7, c8, c9, c10, c11, c12, c13, c14⟩ := cells15 k0
 clear hB hA ht hbr har nob noa hen b0 k0 hb3 ha3
 unfold Inst.enc Inst.cells at *
 go_enter Tryz.func9, Tryz.ntmps9
 go_wp2_with fail
 refine (HI.out W0 HB0.out).mono ?_
 rintro e w1 ⟨rfl, b1⟩
 have HB1 := hI (HB0.out.trans (b1.mono HB0.out.size))
 go_wp2_with fail
 refine (HHB.out w1 HB1.out).mono ?_
 rintro e w2 ⟨rfl, b2⟩
 have HB2 := hI (HB1.out.trans (b2.mono HB1.out.size))
 go_wp2_with fail
 refine (HHA.out w2 HB2.out).mono ?_
 rintro e w3 ⟨rfl, b3⟩
 have HB3 := hI (HB2.out.trans (b3.mono HB2.out.size))
 go_wp2_with fail
 have HI3 : Hid (w3.heap[w.heap.size]? = some (.cells i.cells 27 (0, 0))) := by
  have e1 := (b1.block _ (Array.getElem?_eq_some_iff.1 HK0.out).1).trans HK0.out
  have e2 := (b2.block _ (Array.getElem?_eq_some_iff.1 e1).1).trans e1
  exact (b3.block _ (Array.getElem?_eq_some_iff.1 e2).1).trans e2
 clear b1 b2 b3 HB1 HB2 HHB HHA HI hW0 c0 c1 c2 c3 c4 c5 c6 c7 c8 c9 c10 c11 c12 c13 c14
 go_loopw [11, 41] (fun v11 v41 wr => ∃ k : Nat, v41 = .int .i64 (k : Int) ∧ k = 0 ∧ v11 = .slice none 0 0 ∧ Below w.heap.size w wr ∧ wr.heap[w.heap.size]? = some (.cells i.cells 27 (0, 0))) (fun _ v _ => 0)
 case atStart => exact ⟨0, rfl, rfl, rfl, HB3.out, HI3.out⟩
 case round =>
  clear HB3 HI3
  obtain ⟨k, rfl, hk0, rfl, hbw, hins⟩ := hrel
  have HBW := hI hbw
  have HINS := hI hins
  have hlt : k < 3 := by omega
  clear hbw hins hk0
  have hcx : decide ((k : Int) < 3) = true := by simp; omega
  have hk3 : (k : Int) < 3 := by omega
  have hidx := fun W => idxK hlt W
  obtain ⟨x, hx⟩ : ∃ x, b[k]? = some x := ⟨_, List.getElem?_eq_getElem (by rw [HL3.out.1]; exact hlt)⟩
  obtain ⟨y, hy⟩ : ∃ y, a[k]? = some y := ⟨_, List.getElem?_eq_getElem (by rw [HL3.out.2]; exact hlt)⟩
  obtain ⟨ch, hch⟩ : ∃ c, I (vl y - vl x) = c := ⟨_, rfl⟩
  have hzx := (hbc x (List.mem_of_getElem? hx)).2
  have hzy := (hac y (List.mem_of_getElem? hy)).2
  have hcz : ch.size ≤ 1000 := by
   rw [← hch]
   refine Nat.le_trans (I_size_le (k := 14) ?_) (by omega)
   have h1 := vl_lt x
   have h2 := vl_lt y
   have h3 : 10 ^ x.size ≤ 10 ^ 13 := Nat.pow_le_pow_right (by omega) hzx
   have h4 : 10 ^ y.size ≤ 10 ^ 13 := Nat.pow_le_pow_right (by omega) hzy
   omega
  have hcan : Can ch := by rw [← hch]; show I (vl (I _)) = I _; rw [vl_I]
  have HSB : Hid (∀ W, Below wr.heap.size wr W → Calls Tryz.prog 26 #[.string y, .string x] W fun e w' => e = .returned (.string ch) ∧ Below W.heap.size W w') := fun W hb => by
   rw [← hch]; exact Sub_any y x W (by omega) (by omega) (HT.out.below (HBW.out.trans (hb.mono HBW.out.size)))
  have HEF : Hid (∀ W, Below wr.heap.size wr W → Calls Tryz.prog 25 #[.int .i64 (17 + (k : Int)), .int .i64 d, i.enc, .string ch] W fun e w' => e = .returned (.tuple #[.agg effZero, .bool false, .int .i64 13]) ∧ Below W.heap.size W w') := fun W hb => by
   exact Effect_e3 (17 + (k : Int)) d i ch hi hcz hok hcan hd W (HT.out.below (HBW.out.trans (hb.mono HBW.out.size)))
  have HCB : Hid (∀ W, Below wr.heap.size wr W → W.cell? (bd.add k) = some (.string x)) := fun W hb => HBR.out W (HBW.out.trans (hb.mono HBW.out.size)) k x hx
  have HCA : Hid (∀ W, Below wr.heap.size wr W → W.cell? (ad.add k) = some (.string y)) := fun W hb => HAR.out W (HBW.out.trans (hb.mono HBW.out.size)) k y hy
  have HRI : Hid (∀ W, Below wr.heap.size wr W → W.rangeAt w.heap.size 0 i.cells.toList) := fun W hb j v hj => by
   rw [Nat.zero_add, Lib.cell_of_heap ((hb.block _ (Array.getElem?_eq_some_iff.1 HINS.out).1).trans HINS.out) j]; simpa using hj
  clear hx hy hch hzx hzy hcz hcan
  unfold effZero at HEF
  go_upto_region 8 with fail
  clear hidx
  refine region_marks (m := { C := fun W => Below wr.heap.size wr W, V := [fun v => v = .int .i64 (17 + (k : Int)), fun v => v = .int .i64 d, fun v => v = i.enc, fun v => v = .slice (some ad) 3 ca, fun v => v = .int .i64 (k : Int), fun v => v = .pointer (some (ad.add k)), fun v => v = .string y, fun v => v = .slice (some bd) 3 cb, fun v => v = .int .i64 (k : Int), fun v => v = .pointer (some (bd.add k)), fun v => v = .string x, fun v => v = .string ch, fun v => v = .tuple #[.agg effZero, .bool false, .int .i64 13], fun v => v = .tuple #[.agg effZero, .bool false, .int .i64 13], fun v => v = .agg effZero, fun v => v = .bool false, fun v => v = .int .i64 13, fun _ => True, fun _ => True, fun v => v = .bool false, fun v => v = .int .i64 13], N := [(17, newE wr.heap.size), (18, fulE wr.heap.size (17 + (k : Int)) d i ⟨#[]⟩)], E := [], F := [] }) (F := ?F) mixed (by kernel_rfl) (by kernel_rfl) (by kernel_rfl) (fun s => ?hF) (Below.refl _ wr).drew True.intro ?hs ?he
  case hF =>
   simp only [putAll, Act.put, List.setIfInBounds_toArray, List.set_cons_succ, List.set_cons_zero, Nat.reduceAdd, Nat.zero_add]
   exact rfl
  case hs =>
   iterate 2
    refine mSteps_cons (fun s W hW hd hz K hK => ?_) ?_
    focus
     simp [depsOk, Mk.ok, mkV, mkN, Region.binds] at hd
     try simp only [hd] at hK ⊢
     first
     | (go_simp
        refine hK _ _ ?_ _ rfl
        exact nx_pure hW (And.intro rfl True.intro) rfl)
     | (have z := HCA.out W hW
        have z2 := HCB.out W hW
        go_simp
        refine hK _ _ ?_ _ rfl
        exact nx_pure hW (And.intro rfl True.intro) rfl)
     | (go_simp
        refine (HSB.out W hW).mono ?_
        rintro e wn ⟨rfl, hb⟩
        refine hK _ _ ?_ _ rfl
        exact ⟨hW.trans (hb.mono hW.size), ⟨fun _ h => h.below hb, fun _ h => h.below hb, True.intro⟩, True.intro, hb.size, And.intro rfl True.intro, (fun h => by cases h), True.intro⟩)
     | (go_simp
        refine (HEF.out W hW).mono ?_
        rintro e wn ⟨rfl, hb⟩
        refine hK _ _ ?_ _ rfl
        exact ⟨hW.trans (hb.mono hW.size), ⟨fun _ h => h.below hb, fun _ h => h.below hb, True.intro⟩, True.intro, hb.size, And.intro rfl True.intro, (fun h => by cases h), True.intro⟩)
   refine mSteps_cons (fun s W hW hd hz K hK => ?_) ?_
   focus
    clear hd
    refine mk_load rfl rfl w.heap.size 0 rfl _ _ (HRI.out W hW) Tryz.underlying27 rfl (by kernel_rfl) ?_
    refine hK _ _ ?_ _ rfl
    exact nx_pure hW (And.intro rfl True.intro) rfl
   iterate 14
    refine mSteps_cons (fun s W hW hd hz K hK => ?_) ?_
    focus
     simp [depsOk, Mk.ok, mkV, mkN, Region.binds] at hd
     try simp only [hd] at hK ⊢
     first
     | (go_simp
        refine hK _ _ ?_ _ rfl
        exact nx_pure hW (And.intro rfl True.intro) rfl)
     | (have z := HCA.out W hW
        have z2 := HCB.out W hW
        go_simp
        refine hK _ _ ?_ _ rfl
        exact nx_pure hW (And.intro rfl True.intro) rfl)
     | (go_simp
        refine (HSB.out W hW).mono ?_
        rintro e wn ⟨rfl, hb⟩
        refine hK _ _ ?_ _ rfl
        exact ⟨hW.trans (hb.mono hW.size), ⟨fun _ h => h.below hb, fun _ h => h.below hb, True.intro⟩, True.intro, hb.size, And.intro rfl True.intro, (fun h => by cases h), True.intro⟩)
     | (go_simp
        refine (HEF.out W hW).mono ?_
        rintro e wn ⟨rfl, hb⟩
        refine hK _ _ ?_ _ rfl
        exact ⟨hW.trans (hb.mono hW.size), ⟨fun _ h => h.below hb, fun _ h => h.below hb, True.intro⟩, True.intro, hb.size, And.intro rfl True.intro, (fun h => by cases h), True.intro⟩)
   refine mSteps_cons (fun s W hW hd hz K hK => ?_) ?_
   focus
    clear hd
    go_simp
    refine hK _ _ ?_ _ rfl
    have hb : Below W.heap.size W (W.alloc (.cells effZero 47)) := (Below.refl _ W).alloc (Nat.le_refl _) _
    exact ⟨hW.trans (hb.mono hW.size), ⟨True.intro, fun _ h => h.below hb, True.intro⟩, True.intro, hb.size, And.intro True.intro ⟨_, rfl, hW.size, _, heap_alloc_new W _, rfl⟩, (fun h => by cases h), True.intro⟩
   refine mSteps_cons (fun s W hW hd hz K hK => ?_) ?_
   focus
    simp [depsOk, Mk.ok, mkV, mkN, Region.binds] at hd
    have hd1 : newE wr.heap.size (s 17) W := by first | exact hd.1 | exact hd.2 | exact hd.2.1 | exact hd.2.2.1
    have e2 : s 14 = .agg effZero := by first | exact hd.1 | exact hd.2 | exact hd.2.1 | exact hd.2.2.1
    clear hd
    obtain ⟨q, e1, hq, cs, hc, hz7⟩ := hd1
    rw [if_pos (show Region.wanted _ _ = true from rfl)]
    simp only [e1, e2] at hK ⊢
    have hrun := run_store_rowK W q 7 47 cs effZero (by kernel_rfl) hc hz7 rfl (cE_one false 0 0 i 0)
    refine op_store hrun _ _ rfl rfl rfl ?_
    refine hK (.pointer (some ⟨q, 0, none⟩)) _ ?_ _ rfl
    exact ⟨below_setRowK hW hq _, ⟨fun _ h => h.put hc rfl, True.intro, True.intro⟩, True.intro, by simp [World.setRow], And.intro True.intro ⟨q, 0, rfl, hq, setRow_heap W _ _ _ _ _ hc, fun h => by simp [isS] at h⟩, (fun h => by cases h), True.intro⟩
   iterate 2
    refine mSteps_cons (fun s W hW hd hz K hK => ?_) ?_
    focus
     simp [depsOk, Mk.ok, mkV, mkN, Region.binds] at hd
     try simp only [hd] at hK ⊢
     first
     | (go_simp
        refine hK _ _ ?_ _ rfl
        exact nx_pure hW (And.intro rfl True.intro) rfl)
     | (have z := HCA.out W hW
        have z2 := HCB.out W hW
        go_simp
        refine hK _ _ ?_ _ rfl
        exact nx_pure hW (And.intro rfl True.intro) rfl)
     | (go_simp
        refine (HSB.out W hW).mono ?_
        rintro e wn ⟨rfl, hb⟩
        refine hK _ _ ?_ _ rfl
        exact ⟨hW.trans (hb.mono hW.size), ⟨fun _ h => h.below hb, fun _ h => h.below hb, True.intro⟩, True.intro, hb.size, And.intro rfl True.intro, (fun h => by cases h), True.intro⟩)
     | (go_simp
        refine (HEF.out W hW).mono ?_
        rintro e wn ⟨rfl, hb⟩
        refine hK _ _ ?_ _ rfl
        exact ⟨hW.trans (hb.mono hW.size), ⟨fun _ h => h.below hb, fun _ h => h.below hb, True.intro⟩, True.intro, hb.size, And.intro rfl True.intro, (fun h => by cases h), True.intro⟩)
   exact mSteps_nil
  case he =>
   intro s W hC hall hdd
   simp [allOk, Mk.ok, mkV, mkN] at hall
   have e19 : s 19 = .bool false := by simp [hall]
   have e20 : s 20 = .int .i64 13 := by simp [hall]
   simp only [e19, e20]
   have HBW2 := hI (HBW.out.trans (hC.mono HBW.out.size))
   clear hall hdd hC e19 e20 HBW HINS HRI HSB HEF HCB HCA
   go_wp2_with fail
   refine bodyPost_ret (results_tmp2 rfl _ _ _) rfl ?_
   exact ⟨rfl, HBW2.out⟩
noncomputable def efT (kind d : Int) (i : Inst) (T : Value) : Array Value := #[.int .i64 kind, .int .i64 d, .string (causeB d i.id), .string i.id, .string ⟨#[]⟩, .string i.cur, T]
def FulX (kind d : Int) (i : Inst) (q : Nat) (W : World) : Prop := ∃ T, W.heap[q]? = some (.cells (efT kind d i T) 47 (0, 0))
theorem FulX.put {kind d : Int} {i : Inst} {q q' : Nat} {W : World} {cs : Array Value} (h : FulX kind d i q W) (hq : W.heap[q']? = some (.cells cs 47 (0, 0))) (T : Value) : FulX kind d i q (W.setRow q' (efT kind d i T)) := by
 by_cases e : q = q'
 ·subst e; exact ⟨T, setRow_heap _ _ _ _ _ _ hq⟩
 ·obtain ⟨T', h⟩ := h; exact ⟨T', (setRow_other _ _ _ _ e).trans h⟩
theorem FulX.set {kind d : Int} {i : Inst} {q q' : Nat} {W : World} (h : FulX kind d i q W) (hq : FulX kind d i q' W) (T : Value) : FulX kind d i q (W.setCell ⟨q', 6, none⟩ T) := by
 by_cases e : q = q'
 ·subst e
  obtain ⟨T', h⟩ := h
  refine ⟨T, ?_⟩
  have := heap_setCell_same W q 6 _ _ T h
  rw [this]
  rfl
 ·obtain ⟨T', h⟩ := h; exact ⟨T', (Below.heap_setCell _ _ _ _ e).trans h⟩
theorem FulX.cells {kind d : Int} {i : Inst} {q : Nat} {W : World} (h : FulX kind d i q W) : W.cell? ⟨q, 0, none⟩ = some (.int .i64 kind) ∧ W.cell? ⟨q, 1, none⟩ = some (.int .i64 d) ∧ W.cell? ⟨q, 2, none⟩ = some (.string (causeB d i.id)) ∧ W.cell? ⟨q, 3, none⟩ = some (.string i.id) ∧ W.cell? ⟨q, 4, none⟩ = some (.string ⟨#[]⟩) ∧ W.cell? ⟨q, 5, none⟩ = some (.string i.cur) := by
 obtain ⟨T, h⟩ := h
 exact ⟨Lib.cell_of_heap h 0, Lib.cell_of_heap h 1, Lib.cell_of_heap h 2, Lib.cell_of_heap h 3, Lib.cell_of_heap h 4, Lib.cell_of_heap h 5⟩
def newX (n₀ : Nat) (v : Value) (W : World) : Prop := ∃ q, v = .pointer (some ⟨q, 0, none⟩) ∧ n₀ ≤ q ∧ ∃ cs, W.heap[q]? = some (.cells cs 47 (0, 0)) ∧ cs.size = 7
def fulX (n₀ : Nat) (kind d : Int) (i : Inst) (v : Value) (W : World) : Prop := ∃ q, v = .pointer (some ⟨q, 0, none⟩) ∧ n₀ ≤ q ∧ FulX kind d i q W
theorem newX.put {n₀ q : Nat} {v : Value} {W : World} (h : newX n₀ v W) {cs : Array Value} (hq : W.heap[q]? = some (.cells cs 47 (0, 0))) {vals : Array Value} (hv : vals.size = 7) : newX n₀ v (W.setRow q vals) := by
 obtain ⟨q', e, hq', cs', hc, hz⟩ := h
 by_cases ee : q' = q
 ·subst ee; exact ⟨q', e, hq', vals, setRow_heap _ _ _ _ _ _ hq, hv⟩
 ·exact ⟨q', e, hq', cs', (setRow_other _ _ _ _ ee).trans hc, hz⟩
theorem fulX.put {n₀ q : Nat} {kind d : Int} {i : Inst} {v : Value} {W : World} (h : fulX n₀ kind d i v W) {cs : Array Value} (hq : W.heap[q]? = some (.cells cs 47 (0, 0))) (T : Value) : fulX n₀ kind d i v (W.setRow q (efT kind d i T)) := by
 obtain ⟨q', e, hq', h⟩ := h; exact ⟨q', e, hq', h.put hq T⟩
theorem rangeAt_belowE {W W' : World} {b o : Nat} {cs : List Value} {n₀ : Nat} (h : W.rangeAt b o cs) (hn : b < n₀) (hb : Below n₀ W W') : W'.rangeAt b o cs :=
 fun j v hj => (hb.cell (by exact hn)).trans (h j v hj)
structure EfRd (W : World) (g : Nat) (d : Int) (i : Inst) (L : List EE) : Prop where
 lt : g < W.heap.size
 rd : ∀ k x, L[k]? = some x → W.rangeAt g (k * 7) (efkC x.1 d i x.2.2).toList
 tm : ∀ x ∈ L, W.heap[x.2.2]? = some (.cells #[.string ⟨#[97, 109, 111, 117, 110, 116]⟩, .string x.2.1] 82 (0, 0))
theorem EfRd.below {W W' : World} {g : Nat} {d : Int} {i : Inst} {L : List EE} (h : EfRd W g d i L) (hb : Below W.heap.size W W') : EfRd W' g d i L :=
 ⟨Nat.lt_of_lt_of_le h.lt hb.size, fun k y hy => rangeAt_belowE (h.rd k y hy) h.lt hb, fun x hx => bkeepK hb (h.tm x hx)⟩
theorem efkC_len (kind d : Int) (i : Inst) (B : Nat) : (efkC kind d i B).toList.length = 7 := rfl
theorem elC_get (d : Int) (i : Inst) : ∀ (L : List EE) (k : Nat) (x : EE), L[k]? = some x → ∀ (f : Nat) (u : Value), (efkC x.1 d i x.2.2).toList[f]? = some u → (elC d i L)[k * 7 + f]? = some u
 | [], _, _, h, _, _, _ => by simp at h
 | y :: r, 0, x, h, f, u, hu => by
   simp at h
   subst h
   have hf : f < (efkC y.1 d i y.2.2).toList.length := (List.getElem?_eq_some_iff.1 hu).1
   unfold elC
   rw [List.flatMap_cons, List.getElem?_append_left (by simpa using hf)]
   simpa using hu
 | y :: r, k + 1, x, h, f, u, hu => by
   have ih := elC_get d i r k x (by simpa using h) f u hu
   unfold elC at ih ⊢
   rw [List.flatMap_cons, List.getElem?_append_right (by rw [efkC_len]; omega), efkC_len]
   rw [← ih]
   congr 1
   omega
def EfSl (W : World) (v : Value) (d : Int) (i : Inst) (L : List EE) : Prop := ∃ A c, v = .slice A L.length c ∧ (L.length ≠ 0 → ∃ g, A = some ⟨g, 0, none⟩ ∧ EfRd W g d i L)
theorem EfSl.below {W W' : World} {v : Value} {d : Int} {i : Inst} {L : List EE} (h : EfSl W v d i L) (hb : Below W.heap.size W W') : EfSl W' v d i L := by
 obtain ⟨A, c, e, h⟩ := h
 exact ⟨A, c, e, fun hn => by obtain ⟨g, e2, h2⟩ := h hn; exact ⟨g, e2, h2.below hb⟩⟩
theorem EfSl.of_own {W : World} {n₀ : Nat} {v : Value} {d : Int} {i : Inst} {L : List EE} (h : W.ownsRow n₀ 47 7 v L.length (elC d i L)) (ht : TmAll n₀ L W) : EfSl W v d i L := by
 rcases h.2 with ⟨rfl, h0⟩ | ⟨g, cap, cur, rfl, hb, hg, hnc, hcm, _⟩
 ·exact ⟨none, 0, by rw [h0], fun hn => absurd h0 hn⟩
 ·refine ⟨_, _, rfl, fun _ => ⟨g, rfl, (Array.getElem?_eq_some_iff.1 hg).1, fun k x hk j u hj => ?_, fun x hx => (ht x hx).2⟩⟩
  have hc := h.cells (g := g) rfl (k * 7 + j) u (elC_get d i L k x hk j u hj)
  rwa [addr_add0] at hc
open Classical in
noncomputable def efxE (d : Int) (i : Inst) (b a : List ByteArray) : Int := if ¬ (i.ok ∧ threeS b = true ∧ threeS a = true) then 1 else if ¬ okDay d then 13 else 0
open Classical in
noncomputable def efxL (d : Int) (i : Inst) (b a : List ByteArray) : List (Int × ByteArray) := if efxE d i b a = 0 then chosen b a 3 else []
theorem efxE_zero {d : Int} {i : Inst} {b a : List ByteArray} (h : efxE d i b a = 0) : i.ok ∧ threeS b = true ∧ threeS a = true ∧ okDay d := by
 unfold efxE at h
 split at h
 ·omega
 ·split at h
  ·omega
  ·rename_i h1 h2
   have a1 := Classical.not_not.1 h1
   exact ⟨a1.1, a1.2.1, a1.2.2, Classical.not_not.1 h2⟩
def EfPost (w : World) (d : Int) (i : Inst) (b a : List ByteArray) (e : Ending) (w' : World) : Prop :=
 ∃ (v : Value) (L : List EE), e = .returned (.tuple #[v, .int .i64 (efxE d i b a)]) ∧ EfSl w' v d i L ∧ L.map (fun x => (x.1, x.2.1)) = efxL d i b a ∧ Below w.heap.size w w'
theorem EfSl.nil (W : World) (d : Int) (i : Inst) : EfSl W (.slice none 0 0) d i [] := ⟨none, 0, rfl, fun h => absurd rfl h⟩
theorem three_can {b : List ByteArray} (h : threeS b = true) : b.length = 3 ∧ ∀ x ∈ b, Can x := by
 unfold threeS at h
 rw [Bool.and_eq_true, decide_eq_true_eq, Bool.not_eq_true'] at h
 refine ⟨h.1, fun x hx => ?_⟩
 have h2 := List.any_eq_false.1 h.2 x hx
 unfold oddS at h2
 unfold Can
 simpa using h2
section
variable (d : Int) (i : Inst) (B A : Option Addr) (b a : List ByteArray) (cb ca : Nat) (hbl : b.length ≤ 1000) (hal : a.length ≤ 1000) (hbz : ∀ x ∈ b, x.size ≤ 13) (haz : ∀ x ∈ a, x.size ≤ 13) (w : World) (hB : RdS w B b) (hA : RdS w A a)
include hbl hal hbz haz hB hA
theorem rvEffects_all (hi : i.small) (ht : Tabs w) : Calls Tryz.prog 9 #[.int .i64 d, i.enc, .slice B b.length cb, .slice A a.length ca] w (EfPost w d i b a) := by
 by_cases h1 : i.ok ∧ threeS b = true ∧ threeS a = true
 case neg =>
  have e1 : efxE d i b a = 1 := by unfold efxE; rw [if_pos h1]
  refine (rvEffects_bad d i hi B A b a cb ca hbl hal (fun x hx => Nat.le_trans (hbz x hx) (by omega)) (fun x hx => Nat.le_trans (haz x hx) (by omega)) h1 w hB hA ht).mono ?_
  rintro e w' ⟨rfl, hb⟩
  exact ⟨_, [], by rw [e1], EfSl.nil _ _ _, by unfold efxL; rw [if_neg (by rw [e1]; omega)]; rfl, hb⟩
 obtain ⟨hok, hb3, ha3⟩ := h1
 have B3 := three_can hb3
 have A3 := three_can ha3
 by_cases h2 : okDay d
 case neg =>
  have e1 : efxE d i b a = 13 := by unfold efxE; rw [if_neg (fun x => x ⟨hok, hb3, ha3⟩), if_pos h2]
  refine (rvEffects_day d h2 i hi hok B A b a cb ca B3.1 A3.1 (fun x hx => ⟨B3.2 x hx, hbz x hx⟩) (fun x hx => ⟨A3.2 x hx, haz x hx⟩) w hB hA ht).mono ?_
  rintro e w' ⟨rfl, hb⟩
  exact ⟨_, [], by rw [e1], EfSl.nil _ _ _, by unfold efxL; rw [if_neg (by rw [e1]; omega)]; rfl, hb⟩
 have e1 : efxE d i b a = 0 := by unfold efxE; rw [if_neg (fun x => x ⟨hok, hb3, ha3⟩), if_neg (fun x => x h2)]
 refine (rvEffects_ok d h2 i hi hok B A b a cb ca B3.1 A3.1 (fun x hx => ⟨B3.2 x hx, hbz x hx⟩) (fun x hx => ⟨A3.2 x hx, haz x hx⟩) w hB hA ht).mono ?_
 rintro e w' ⟨v, L, rfl, ho, hm, ht', hb⟩
 exact ⟨v, L, by rw [e1], EfSl.of_own ho ht', by unfold efxL; rw [if_pos e1]; exact hm, hb⟩
end
end Go.Proofs.YtbkmhmaldljgmaaGreatDoor
