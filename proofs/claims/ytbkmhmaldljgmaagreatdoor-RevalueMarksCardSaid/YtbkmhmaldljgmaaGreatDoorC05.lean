/-
  The walk of (magnitude).plus.
  The walks of slices.Clone at magnitudes and of (magnitude).minus.
  The walk of (magnitude).times.
  The walk of (magnitude).single.
  Plain facts for (magnitude).divide.
  More plain facts for (magnitude).divide: the two ways behind the subtraction.
  The walk of (magnitude).divide: the two short ways.
  The walk of trancheref01.times.
-/
import Derived.Test.YtbkmhmaldljgmaaGreatDoorC02
import Derived.Laws.CopyOwn
import Derived.Laws.MakeOwn
import Derived.RegionTactic
import Derived.BigQuiet
import Derived.Deep.QuietTactic
set_option linter.unusedVariables false
set_option linter.unusedSimpArgs false
set_option maxHeartbeats 16000000
set_option maxRecDepth 100000
namespace Go.Proofs.YtbkmhmaldljgmaaGreatDoor
open Go.RowKit Tr
theorem Tryz.info_u64 : (Tryz.prog.info? 128).map (fun i => (i.zero, i.size, i.bytes)) = some (some (.int .u64 0), 1, 8) := by kernel_rfl
def zrow (c : Nat) : Array Value := ((List.replicate c 0).map U).toArray
theorem OwnM.made (w : World) (n c : Nat) (h : n ≤ c) : OwnM (w.alloc (.cells (zrow c) 128)) w.heap.size (List.replicate n 0) ((List.replicate (c - n) 0).map U) := by
 refine (heap_alloc_new w _).trans ?_
 unfold zrow
 rw [← List.map_append, List.replicate_append_replicate, show n + (c - n) = c by omega]
theorem madeZeros (c : Nat) : madeCells #[Value.int .u64 0] c = zrow c := by
 unfold zrow
 apply Array.toList_inj.1
 rw [toList_madeCells_one]; simp [U]
theorem RdM.srcs {w w' : World} {A : Option Addr} {l : List Nat} (h : RdM w A l) (hb : Below w.heap.size w w') (hpos : 0 < (l.map U).length) : ∃ ad, A = some ad ∧ ∀ j v, (l.map U)[j]? = some v → w'.cell? (ad.add j) = some v := by
 obtain ⟨ad, rfl, h1, h2⟩ := h.below hb (by rintro rfl; simp at hpos)
 refine ⟨ad, rfl, fun j v hv => ?_⟩
 rw [List.getElem?_map] at hv
 cases hj : l[j]? with
 | none => rw [hj] at hv; cases hv
 | some x =>
   rw [hj] at hv
   have hjl : j < l.length := by
    rcases Nat.lt_or_ge j l.length with h | h
    ·exact h
    ·rw [List.getElem?_eq_none h] at hj; cases hj
   rw [h2 j hjl]
   have : gt l j = x := by simp [gt, hj]
   rw [this]; injection hv with hv; rw [← hv]; rfl
theorem make_run (x y : Int) (n c : Nat) (hx : x = n) (hy : y = c) (hnc : n ≤ c) (hc : c ≤ 4294967296) (W : World) :
 (Instr.makeSlice 98 (.int .i64 x) (.int .i64 y)).run Tryz.prog W = .ok (.slice (some ⟨W.heap.size, 0, none⟩) n c) (W.alloc (.cells (zrow c) 128)) := by
 obtain ⟨i0, hi, hz0, hz1, hz2⟩ := info_parts Tryz.info_u64
 subst hx hy
 have h := run_make (P := Tryz.prog) W 98 128 i0 (.int .u64 0) Tryz.underlying98 hi hz0 .i64 .i64 n c (by omega) (by omega) (by rw [hz2]; omega) (by omega)
 rw [h, hz1]
 simp only [Int.toNat_natCast, Nat.mul_one]
 rw [show (Value.int IntKind.u64 0).cells = #[.int .u64 0] from rfl, madeZeros]
def PlusR (l m : List Nat) (k : Nat) (p : List Nat) (q : Nat) : Prop := p.length = k ∧ Dig p ∧ mval p + 1000000000 ^ k * q = mval (l.take k) + mval (m.take k)
theorem gt_mid {p l : List Nat} {k : Nat} (h : p.length = k) : gt (p ++ l.drop k) k = gt l k := by
 subst h
 unfold gt
 rw [List.getD_eq_getElem?_getD, List.getD_eq_getElem?_getD, List.getElem?_append_right (Nat.le_refl _)]; simp
theorem gt_set {l : List Nat} {k x : Nat} (h : k < l.length) : gt (l.set k x) k = x := by simp [gt, h]
theorem PlusR.step {l m : List Nat} {k q : Nat} {p : List Nat} (h : PlusR l m k p q) (hl : Dig l) (hm : Dig m) (hq : q ≤ 1) :
 (gt l k + q + gt m k) / 1000000000 ≤ 1 ∧ PlusR l m (k + 1) (p ++ [(gt l k + q + gt m k) % 1000000000]) ((gt l k + q + gt m k) / 1000000000) := by
 have d1 := hl.get k
 have d2 := hm.get k
 change gt l k < _ at d1
 change gt m k < _ at d2
 refine ⟨by omega, by simp [h.1], h.2.1.snoc (by omega), ?_⟩
 rw [mval_snoc, h.1, mval_take_succ', mval_take_succ']
 change _ = mval (l.take k) + 1000000000 ^ k * gt l k + (mval (m.take k) + 1000000000 ^ k * gt m k)
 have h3 := h.2.2
 generalize hx : gt l k + q + gt m k = x
 rw [Nat.pow_succ]
 have e1 : 1000000000 ^ k * (x % 1000000000) + 1000000000 ^ k * 1000000000 * (x / 1000000000) = 1000000000 ^ k * x := by
  rw [Nat.mul_assoc, ← Nat.mul_add]; congr 1; omega
 rw [Nat.add_assoc, e1, ← hx, Nat.mul_add, Nat.mul_add]; omega
theorem gt_beyond {m : List Nat} {k : Nat} (h : m.length ≤ k) : gt m k = 0 := getD_ge h
theorem PlusR.done {l m : List Nat} {p : List Nat} {q : Nat} (h : PlusR l m l.length p q) (hlen : m.length ≤ l.length) : mval (p ++ [q]) = mval l + mval m ∧ (q = 0 → mval p = mval l + mval m) := by
 have h3 := h.2.2
 rw [List.take_of_length_le (Nat.le_refl _), List.take_of_length_le hlen] at h3
 refine ⟨by rw [mval_snoc, h.1]; exact h3, ?_⟩
 rintro rfl; omega
theorem PlusR.norm {l m : List Nat} {p : List Nat} {q : Nat} (h : PlusR l m l.length p q) (hlen : m.length ≤ l.length) (hn : Norm l) (hq : q = 0) : Norm p := by
 rcases Classical.em (l = []) with h0 | h0
 ·subst h0; have := h.1; obtain rfl := List.eq_nil_of_length_eq_zero this; exact norm_nil
 ·have h1 := mval_ge_of_norm hn h0
  refine norm_of_ge h.2.1 ?_ (fun e => h0 (List.eq_nil_of_length_eq_zero (by rw [← h.1, e]; rfl)))
  rw [h.1, (h.done hlen).2 hq]; omega
def Sum (l m r : List Nat) : Prop := Dig r ∧ (Norm l → Norm m → Norm r) ∧ mval r = mval l + mval m
theorem plus_ge (A A' : Option Addr) (l m : List Nat) (c c' : Nat) (w : World) (b1 : l.length ≤ 1073741824) (hlen : m.length ≤ l.length)
 (hl : Dig l) (hm : Dig m) (hr : RdM w A l) (hr' : RdM w A' m) :
 Calls Tryz.prog 82 #[.slice A l.length c, .slice A' m.length c'] w (MagPost w (Sum l m)) := by
 have HR := Lib.hid hr
 have HR' := Lib.hid hr'
 have hlt : decide (l.length < m.length) = false := by simp; omega
 have hmk := fun W => make_run (l.length : Int) ((l.length : Int) + 1) l.length (l.length + 1) rfl (by omega) (by omega) (by omega) W
 have HL := Lib.hid hl
 have HM := Lib.hid hm
 clear hr hr' hl hm
 go_enter Tryz.func82, Tryz.ntmps82
 go_wp2_with (refine wpList_copy_splice rfl (.tmp 21) (.tmp 22) 98 98 rfl 128 Tryz.underlying98 (by kernel_rfl) (some ⟨w.heap.size, 0, none⟩) A l.length (l.length + 1) l.length c rfl rfl w.heap.size 0 ((List.replicate (l.length + 1) 0).map U) 128 (heap_alloc_new w _) (l.map U) (by simp) (fun hp => ⟨rfl, HR.out.srcs (.alloc (Below.refl _ _) (Nat.le_refl _) _) hp⟩) (by simp) (by simp [U, Value.oneCell']) w.heap.size w (.alloc (Below.refl _ _) (Nat.le_refl _) _) (Nat.le_refl _) ?_; intro w1 HB hb1)
 have hown : OwnM w1 w.heap.size l [U 0] := by
  refine HB.out.trans ?_
  simp [splice, List.replicate_succ', U]
 clear HB
 have hl0 := HL.out
 have hm0 := HM.out
 go_loopw [6, 26] (fun cy i wr => ∃ (k q : Nat) (p : List Nat), k ≤ l.length ∧ i = .int .i64 (k : Int) ∧ cy = .int .u64 (q : Int) ∧ q ≤ 1 ∧ PlusR l m k p q ∧ OwnM wr w.heap.size (p ++ l.drop k) [U 0] ∧ Below w.heap.size w wr) (fun _ i _ => l.length - (intOf i).toNat)
 case atStart => exact ⟨0, 0, [], Nat.zero_le _, rfl, rfl, by omega, ⟨rfl, Dig.nil, by simp [mval]⟩, by simpa using hown, hb1⟩
 case round =>
  obtain ⟨k, q, p, hk, rfl, rfl, hq, hp, hO, hB⟩ := hrel
  have HP := Lib.hid hp
  have HO := Lib.hid hO
  have HBl := Lib.hid hB
  have hpl := hp.1
  by_cases hlt : k < l.length
  ·have hc := hO.cell (k := k) (by simp; omega)
   rw [gt_mid hpl] at hc
   have hf := hO.frozen k
   have d1 := hl0.get k
   change gt l k < _ at d1
   have d2 := hm0.get k
   change gt m k < _ at d2
   clear hp hO hB hpl
   by_cases hlm : k < m.length
   ·obtain ⟨ad, rfl, hab, hcell⟩ := HR'.out (by rintro rfl; simp at hlm)
    have hO2 : OwnM (wr.setCell ⟨w.heap.size, k, none⟩ (.int .u64 ((gt l k : Int) + (q : Int)))) w.heap.size ((p ++ l.drop k).set k (gt l k + q)) [U 0] := HO.out.set (by have := HP.out.1; simp; omega) _
    have hB2 : Below w.heap.size w (wr.setCell ⟨w.heap.size, k, none⟩ (.int .u64 ((gt l k : Int) + (q : Int)))) := HBl.out.setCell (p := ⟨w.heap.size, k, none⟩) (Nat.le_refl _) _
    have hc2 := hO2.cell (k := k) (by have := HP.out.1; simp; omega)
    have hf2 := hO2.frozen k
    have hcm2 : (wr.setCell ⟨w.heap.size, k, none⟩ (.int .u64 ((gt l k : Int) + (q : Int)))).cell? (ad.add k) = some (.int .u64 (gt m k)) := (hB2.cell (by rw [add_block]; exact hab)).trans (hcell k hlm)
    rw [gt_set (by have := HP.out.1; simp; omega)] at hc2
    have HO2 := Lib.hid hO2
    have HB2 := Lib.hid hB2
    clear hO2 hB2 hcell
    go_wp2_with fail
    generalize wr.setCell ⟨w.heap.size, k, none⟩ (.int .u64 ((gt l k : Int) + (q : Int))) = w2 at HO2 HB2 hc2 hf2 hcm2 ⊢
    rw [Int.natCast_add] at hc2
    clear hc hf
    go_region
    go_wp2_with fail
    have hst := HP.out.step hl0 hm0 hq
    refine ⟨⟨k + 1, (gt l k + q + gt m k) / 1000000000, p ++ [(gt l k + q + gt m k) % 1000000000], by omega, by go_num, ?_, hst.1, hst.2, ?_, ?_⟩, ?_⟩
    ·congr 1
    ·have h5 := (((HO2.out.set' (k := k) (z := (gt l k : Int) + (q : Int) + (gt m k : Int)) (by have := HP.out.1; simp; omega) (gt l k + q + gt m k) (by omega)).set' (k := k) (z := ((gt l k : Int) + (q : Int) + (gt m k : Int)) % 1000000000) (by have := HP.out.1; simp; omega) ((gt l k + q + gt m k) % 1000000000) (by omega))).drew
     rw [set_set, set_set, set_mid HP.out.1 hlt] at h5
     exact h5
    ·exact ((HB2.out.setCell (p := ⟨w.heap.size, k, none⟩) (Nat.le_refl _) _).setCell (p := ⟨w.heap.size, k, none⟩) (Nat.le_refl _) _).drew
    ·simp [intOf]; omega
   ·go_wp2_with fail
    have hst := HP.out.step hl0 hm0 hq
    rw [gt_beyond (by omega : m.length ≤ k), Nat.add_zero] at hst
    refine ⟨⟨k + 1, (gt l k + q) / 1000000000, p ++ [(gt l k + q) % 1000000000], by omega, by go_num, ?_, hst.1, hst.2, ?_, ?_⟩, ?_⟩
    ·congr 1
    ·have h5 := (HO.out.set' (k := k) (z := (gt l k : Int) + (q : Int)) (by have := HP.out.1; simp; omega) (gt l k + q) (by omega)).set' (k := k) (z := ((gt l k : Int) + (q : Int)) % 1000000000) (by have := HP.out.1; simp; omega) ((gt l k + q) % 1000000000) (by omega)
     rw [set_set, set_mid HP.out.1 hlt] at h5
     exact h5
    ·exact (HBl.out.setCell (p := ⟨w.heap.size, k, none⟩) (Nat.le_refl _) _).setCell (p := ⟨w.heap.size, k, none⟩) (Nat.le_refl _) _
    ·simp [intOf]; omega
  ·obtain rfl : k = l.length := by omega
   have hO' : OwnM wr w.heap.size p [U 0] := by simpa using hO
   have HO' := Lib.hid hO'
   rcases Nat.eq_zero_or_pos q with h0 | h0
   ·subst h0
    clear hp hO hB hpl hO'
    go_wp2_with fail
    go_ret
    refine ⟨_, p, l.length + 1, by rw [HP.out.1]; rfl, by rw [HP.out.1]; omega, ⟨HP.out.2.1, fun nl _ => HP.out.norm hlen nl rfl, (HP.out.done hlen).2 rfl⟩, Fresh.some_ (Nat.le_refl _), HO'.out.rd, HBl.out⟩
   ·have hq0 : decide ((0 : Int) < (q : Int)) = true := by simp; omega
    have hc := hO'.cell_sp
    have hf := hO'.frozen l.length
    rw [hpl] at hc
    have hgs := hO'.lt
    clear hp hO hB hpl hO'
    go_wp2_with fail
    go_ret
    have h5 := (HO'.out.push (z := (q : Int)) q rfl).alloc (.cells #[.int .u64 q] 128)
    rw [HP.out.1] at h5
    refine ⟨_, p ++ [q], l.length + 1, by rw [List.length_append, HP.out.1]; rfl, by rw [List.length_append, HP.out.1]; simp, ⟨HP.out.2.1.snoc (by omega), fun _ _ => norm_snoc (by omega), (HP.out.done hlen).1⟩, Fresh.some_ (Nat.le_refl _), h5.rd, ?_⟩
    exact (HBl.out.setCell (p := ⟨w.heap.size, l.length, none⟩) (Nat.le_refl _) _).alloc (by have := HBl.out.size; simpa using this) _
theorem plus_lt (A A' : Option Addr) (l m : List Nat) (c c' : Nat) (w : World) (b1 : l.length ≤ 1073741824) (hlen' : m.length < l.length)
 (hl : Dig l) (hm : Dig m) (hr : RdM w A l) (hr' : RdM w A' m) :
 Calls Tryz.prog 82 #[.slice A' m.length c', .slice A l.length c] w (MagPost w (Sum m l)) := by
 have hlen : m.length ≤ l.length := by omega
 have HR := Lib.hid hr
 have HR' := Lib.hid hr'
 have hlt : decide (m.length < l.length) = true := by simp; omega
 have hmk := fun W => make_run (l.length : Int) ((l.length : Int) + 1) l.length (l.length + 1) rfl (by omega) (by omega) (by omega) W
 have HL := Lib.hid hl
 have HM := Lib.hid hm
 clear hr hr' hl hm
 go_enter Tryz.func82, Tryz.ntmps82
 go_wp2_with (refine wpList_copy_splice rfl (.tmp 21) (.tmp 22) 98 98 rfl 128 Tryz.underlying98 (by kernel_rfl) (some ⟨w.heap.size, 0, none⟩) A l.length (l.length + 1) l.length c rfl rfl w.heap.size 0 ((List.replicate (l.length + 1) 0).map U) 128 (heap_alloc_new w _) (l.map U) (by simp) (fun hp => ⟨rfl, HR.out.srcs (.alloc (Below.refl _ _) (Nat.le_refl _) _) hp⟩) (by simp) (by simp [U, Value.oneCell']) w.heap.size w (.alloc (Below.refl _ _) (Nat.le_refl _) _) (Nat.le_refl _) ?_; intro w1 HB hb1)
 have hown : OwnM w1 w.heap.size l [U 0] := by
  refine HB.out.trans ?_
  simp [splice, List.replicate_succ', U]
 clear HB
 have hl0 := HL.out
 have hm0 := HM.out
 go_loopw [6, 26] (fun cy i wr => ∃ (k q : Nat) (p : List Nat), k ≤ l.length ∧ i = .int .i64 (k : Int) ∧ cy = .int .u64 (q : Int) ∧ q ≤ 1 ∧ PlusR l m k p q ∧ OwnM wr w.heap.size (p ++ l.drop k) [U 0] ∧ Below w.heap.size w wr) (fun _ i _ => l.length - (intOf i).toNat)
 case atStart => exact ⟨0, 0, [], Nat.zero_le _, rfl, rfl, by omega, ⟨rfl, Dig.nil, by simp [mval]⟩, by simpa using hown, hb1⟩
 case round =>
  obtain ⟨k, q, p, hk, rfl, rfl, hq, hp, hO, hB⟩ := hrel
  have HP := Lib.hid hp
  have HO := Lib.hid hO
  have HBl := Lib.hid hB
  have hpl := hp.1
  by_cases hlt : k < l.length
  ·have hc := hO.cell (k := k) (by simp; omega)
   rw [gt_mid hpl] at hc
   have hf := hO.frozen k
   have d1 := hl0.get k
   change gt l k < _ at d1
   have d2 := hm0.get k
   change gt m k < _ at d2
   clear hp hO hB hpl
   by_cases hlm : k < m.length
   ·obtain ⟨ad, rfl, hab, hcell⟩ := HR'.out (by rintro rfl; simp at hlm)
    have hO2 : OwnM (wr.setCell ⟨w.heap.size, k, none⟩ (.int .u64 ((gt l k : Int) + (q : Int)))) w.heap.size ((p ++ l.drop k).set k (gt l k + q)) [U 0] := HO.out.set (by have := HP.out.1; simp; omega) _
    have hB2 : Below w.heap.size w (wr.setCell ⟨w.heap.size, k, none⟩ (.int .u64 ((gt l k : Int) + (q : Int)))) := HBl.out.setCell (p := ⟨w.heap.size, k, none⟩) (Nat.le_refl _) _
    have hc2 := hO2.cell (k := k) (by have := HP.out.1; simp; omega)
    have hf2 := hO2.frozen k
    have hcm2 : (wr.setCell ⟨w.heap.size, k, none⟩ (.int .u64 ((gt l k : Int) + (q : Int)))).cell? (ad.add k) = some (.int .u64 (gt m k)) := (hB2.cell (by rw [add_block]; exact hab)).trans (hcell k hlm)
    rw [gt_set (by have := HP.out.1; simp; omega)] at hc2
    have HO2 := Lib.hid hO2
    have HB2 := Lib.hid hB2
    clear hO2 hB2 hcell
    go_wp2_with fail
    generalize wr.setCell ⟨w.heap.size, k, none⟩ (.int .u64 ((gt l k : Int) + (q : Int))) = w2 at HO2 HB2 hc2 hf2 hcm2 ⊢
    rw [Int.natCast_add] at hc2
    clear hc hf
    go_region
    go_wp2_with fail
    have hst := HP.out.step hl0 hm0 hq
    refine ⟨⟨k + 1, (gt l k + q + gt m k) / 1000000000, p ++ [(gt l k + q + gt m k) % 1000000000], by omega, by go_num, ?_, hst.1, hst.2, ?_, ?_⟩, ?_⟩
    ·congr 1
    ·have h5 := (((HO2.out.set' (k := k) (z := (gt l k : Int) + (q : Int) + (gt m k : Int)) (by have := HP.out.1; simp; omega) (gt l k + q + gt m k) (by omega)).set' (k := k) (z := ((gt l k : Int) + (q : Int) + (gt m k : Int)) % 1000000000) (by have := HP.out.1; simp; omega) ((gt l k + q + gt m k) % 1000000000) (by omega))).drew
     rw [set_set, set_set, set_mid HP.out.1 hlt] at h5
     exact h5
    ·exact ((HB2.out.setCell (p := ⟨w.heap.size, k, none⟩) (Nat.le_refl _) _).setCell (p := ⟨w.heap.size, k, none⟩) (Nat.le_refl _) _).drew
    ·simp [intOf]; omega
   ·go_wp2_with fail
    have hst := HP.out.step hl0 hm0 hq
    rw [gt_beyond (by omega : m.length ≤ k), Nat.add_zero] at hst
    refine ⟨⟨k + 1, (gt l k + q) / 1000000000, p ++ [(gt l k + q) % 1000000000], by omega, by go_num, ?_, hst.1, hst.2, ?_, ?_⟩, ?_⟩
    ·congr 1
    ·have h5 := (HO.out.set' (k := k) (z := (gt l k : Int) + (q : Int)) (by have := HP.out.1; simp; omega) (gt l k + q) (by omega)).set' (k := k) (z := ((gt l k : Int) + (q : Int)) % 1000000000) (by have := HP.out.1; simp; omega) ((gt l k + q) % 1000000000) (by omega)
     rw [set_set, set_mid HP.out.1 hlt] at h5
     exact h5
    ·exact (HBl.out.setCell (p := ⟨w.heap.size, k, none⟩) (Nat.le_refl _) _).setCell (p := ⟨w.heap.size, k, none⟩) (Nat.le_refl _) _
    ·simp [intOf]; omega
  ·obtain rfl : k = l.length := by omega
   have hO' : OwnM wr w.heap.size p [U 0] := by simpa using hO
   have HO' := Lib.hid hO'
   rcases Nat.eq_zero_or_pos q with h0 | h0
   ·subst h0
    clear hp hO hB hpl hO'
    go_wp2_with fail
    go_ret
    refine ⟨_, p, l.length + 1, by rw [HP.out.1]; rfl, by rw [HP.out.1]; omega, ⟨HP.out.2.1, fun _ nl => HP.out.norm hlen nl rfl, ((HP.out.done hlen).2 rfl).trans (Nat.add_comm _ _)⟩, Fresh.some_ (Nat.le_refl _), HO'.out.rd, HBl.out⟩
   ·have hq0 : decide ((0 : Int) < (q : Int)) = true := by simp; omega
    have hc := hO'.cell_sp
    have hf := hO'.frozen l.length
    rw [hpl] at hc
    have hgs := hO'.lt
    clear hp hO hB hpl hO'
    go_wp2_with fail
    go_ret
    have h5 := (HO'.out.push (z := (q : Int)) q rfl).alloc (.cells #[.int .u64 q] 128)
    rw [HP.out.1] at h5
    refine ⟨_, p ++ [q], l.length + 1, by rw [List.length_append, HP.out.1]; rfl, by rw [List.length_append, HP.out.1]; simp, ⟨HP.out.2.1.snoc (by omega), fun _ _ => norm_snoc (by omega), ((HP.out.done hlen).1).trans (Nat.add_comm _ _)⟩, Fresh.some_ (Nat.le_refl _), h5.rd, ?_⟩
    exact (HBl.out.setCell (p := ⟨w.heap.size, l.length, none⟩) (Nat.le_refl _) _).alloc (by have := HBl.out.size; simpa using this) _
theorem plus_any (A A' : Option Addr) (l m : List Nat) (c c' : Nat) (w : World) (b1 : l.length ≤ 1073741824) (b2 : m.length ≤ 1073741824)
 (hl : Dig l) (hm : Dig m) (hr : RdM w A l) (hr' : RdM w A' m) :
 Calls Tryz.prog 82 #[.slice A l.length c, .slice A' m.length c'] w (MagPost w (Sum l m)) := by
 rcases Nat.lt_or_ge l.length m.length with h | h
 ·exact plus_lt A' A m l c' c w b2 h hm hl hr' hr
 ·exact plus_ge A A' l m c c' w b1 h hl hm hr hr'
def ClonePost (w : World) (A : Option Addr) (l : List Nat) (e : Ending) (w' : World) : Prop :=
 ∃ v, e = .returned v ∧ (A = none → v = .slice none 0 0) ∧ w'.ownsRow w.heap.size 128 1 v l.length (l.map U) ∧ Below w.heap.size w w'
theorem cloneM_any (A : Option Addr) (l : List Nat) (c : Nat) (w : World) (b1 : l.length ≤ 1073741824) (hr : RdM w A l) (hA : A = none → c = 0) :
 Calls Tryz.prog 139 #[.slice A l.length c] w (ClonePost w A l) := by
 obtain ⟨i0, hi, hz0, hz1, hz2⟩ := info_parts Tryz.info_u64
 have HR := Lib.hid hr
 clear hr
 cases A with
 | none =>
   have hl : l = [] := by
    rcases Classical.em (l = []) with h | h
    ·exact h
    ·obtain ⟨ad, h, _⟩ := HR.out h; cases h
   subst hl
   obtain rfl := hA rfl
   have hnil := fun W => Lib.run_eql_slice_nil (P := Tryz.prog) W 98 128 none 0 0 0 0 Tryz.underlying98
   go_enter Tryz.func139, Tryz.ntmps139
   go_wp2_with fail
   go_ret
   exact ⟨_, rfl, fun _ => rfl, World.ownsRow_nil _ _ _ _, Below.refl _ _⟩
 | some ad =>
   have hnil := fun W => Lib.run_eql_slice_nil (P := Tryz.prog) W 98 128 (some ad) l.length c 0 0 Tryz.underlying98
   have hsrc : ∀ j u, (l.map U)[j]? = some u → (w.alloc (.cells #[] 128)).cell? (ad.add j) = some u := by
    intro j u hu
    have hpos : 0 < (l.map U).length := by
     rcases Nat.eq_zero_or_pos (l.map U).length with h | h
     ·rw [List.eq_nil_of_length_eq_zero h] at hu; simp at hu
     ·exact h
    obtain ⟨ad', h1, h2⟩ := HR.out.srcs (.alloc (Below.refl _ _) (Nat.le_refl _) (.cells #[] 128)) hpos
    have h3 : ad' = ad := (Option.some.inj h1).symm
    rw [← h3]
    exact h2 j u hu
   have HS := Lib.hid hsrc
   clear hsrc hA
   go_enter Tryz.func139, Tryz.ntmps139
   go_wp2_with (at_builtin; refine wpList_append_own _ rfl _ _ 98 rfl w.heap.size 128 i0 (.int .u64 0) 1 8 Tryz.underlying98 hi hz0 hz1 hz2 rfl (by decide) _ _ _ rfl (World.ownsRow_lit w #[] 0 (Nat.le_refl _) (by omega) rfl) ad l.length c (l.map U) rfl (by simp) HS.out (by simp [U, Value.oneCell']) (by unfold maxLen; omega) (by omega) (by simp) ?_; intro v' w1 hown hgrow _)
   go_ret
   refine ⟨v', rfl, (fun h => by cases h), by simpa using hown, ?_⟩
   exact ((Below.refl _ _).alloc (Nat.le_refl _) _).grown hgrow (by simp) (fun k hk => Nat.le_of_eq (Option.some.inj hk))
def MinusR (l m : List Nat) (k : Nat) (p : List Nat) (b : Nat) : Prop := p.length = k ∧ Dig p ∧ mval p + mval (m.take k) = mval (l.take k) + 1000000000 ^ k * b
theorem MinusR.step {l m : List Nat} {k b : Nat} {p : List Nat} (h : MinusR l m k p b) (c x : Nat) (hx : x < 1000000000) (hc : x + (b + gt m k) = gt l k + 1000000000 * c) :
 MinusR l m (k + 1) (p ++ [x]) c := by
 refine ⟨by simp [h.1], h.2.1.snoc hx, ?_⟩
 rw [mval_snoc, h.1, mval_take_succ', mval_take_succ']
 change _ + (mval (m.take k) + 1000000000 ^ k * gt m k) = mval (l.take k) + 1000000000 ^ k * gt l k + _
 have h3 := h.2.2
 have e := congrArg (1000000000 ^ k * ·) hc
 simp only [Nat.mul_add] at e
 rw [Nat.pow_succ, Nat.mul_assoc]; omega
theorem MinusR.done {l m : List Nat} {p : List Nat} {b : Nat} (h : MinusR l m l.length p b) (hlen : m.length ≤ l.length) (hle : mval m ≤ mval l) : mval p = mval l - mval m := by
 have h3 := h.2.2
 rw [List.take_of_length_le (Nat.le_refl _), List.take_of_length_le hlen] at h3
 have h4 := mval_lt h.2.1
 rw [h.1] at h4
 rcases Nat.eq_zero_or_pos b with h0 | h0
 ·subst h0; omega
 ·have : 1000000000 ^ l.length * 1 ≤ 1000000000 ^ l.length * b := Nat.mul_le_mul_left _ h0
  omega
def Diff (l m r : List Nat) : Prop := Dig r ∧ Norm r ∧ mval r = mval l - mval m
theorem minus_any (A A' : Option Addr) (l m : List Nat) (c c' : Nat) (w : World) (b1 : l.length ≤ 1073741824) (hlen : m.length ≤ l.length)
 (hl : Dig l) (hm : Dig m) (hle : mval m ≤ mval l) (hr : RdM w A l) (hr' : RdM w A' m) (hA : A = none → c = 0) :
 Calls Tryz.prog 84 #[.slice A l.length c, .slice A' m.length c'] w (MagPost w (Diff l m)) := by
 have HR := Lib.hid hr
 have HR' := Lib.hid hr'
 have HL := Lib.hid hl
 have HM := Lib.hid hm
 have HC := Lib.hid (cloneM_any A l c w b1 hr hA)
 clear hr hr' hl hm hA
 go_enter Tryz.func84, Tryz.ntmps84
 go_wp2_with fail
 refine HC.out.mono ?_
 rintro e w1 ⟨v, rfl, hv, hown, hb1⟩
 clear HC
 rcases Nat.eq_zero_or_pos l.length with hz | hz
 ·obtain rfl : l = [] := List.eq_nil_of_length_eq_zero hz
  obtain rfl : m = [] := List.eq_nil_of_length_eq_zero (by simpa using hlen)
  obtain ⟨A2, c2, rfl, hn2⟩ : ∃ A2 c2, v = .slice A2 0 c2 ∧ Hid (Fresh w A2 c2) := by
   rcases hown.2 with ⟨h', _⟩ | ⟨g', cap', cur, h', hg', _⟩
   ·exact ⟨_, _, h', fun _ => rfl, (fun ad h => by cases h)⟩
   ·exact ⟨_, _, h', Fresh.some_ hg'⟩
  clear hv hown
  have HB1 := Lib.hid hb1
  clear hb1
  go_wp2_with fail
  go_loopw [13] (fun i wr => i = .int .i64 0 ∧ Hid (wr = w1)) (fun _ _ => 0)
  case atStart => exact ⟨rfl, rfl⟩
  case round =>
   obtain ⟨rfl, HW⟩ := hrel
   obtain rfl := HW.out
   clear HW
   go_wp2_with fail
   refine (cut_any A2 [] c2 _ (by simp) (by simp) (RdM.nil _ _)).mono ?_
   rintro e w' ⟨rfl, rfl⟩
   go_wp2_with fail
   go_ret
   exact ⟨_, [], c2, rfl, by simp, ⟨Dig.nil, norm_nil, rfl⟩, hn2.out, RdM.nil _ _, HB1.out⟩
 obtain ⟨g, cap, sp, rfl, hg, hcap, hcm, hO1⟩ := OwnM.of_owns hown hz
 clear hown hv
 have hl0 := HL.out
 have hm0 := HM.out
 have hB1 := Lib.hid hb1
 clear hb1
 unfold maxLen at hcm
 go_wp2_with fail
 go_loopw [6, 13] (fun cy i wr => ∃ (k q : Nat) (p : List Nat), k ≤ l.length ∧ i = .int .i64 (k : Int) ∧ cy = .int .u64 (q : Int) ∧ q ≤ 1 ∧ MinusR l m k p q ∧ OwnM wr g (p ++ l.drop k) sp ∧ Below w.heap.size w wr) (fun _ i _ => l.length - (intOf i).toNat)
 case atStart => exact ⟨0, 0, [], Nat.zero_le _, rfl, rfl, by omega, ⟨rfl, Dig.nil, by simp [mval]⟩, by simpa using hO1, hB1.out⟩
 case round =>
  obtain ⟨k, q, p, hk, rfl, rfl, hq, hp, hO, hB⟩ := hrel
  have HP := Lib.hid hp
  have HO := Lib.hid hO
  have HBl := Lib.hid hB
  have hpl := hp.1
  by_cases hlt : k < l.length
  ·have hc := hO.cell (k := k) (by simp; omega)
   rw [gt_mid hpl] at hc
   have hf := hO.frozen k
   have d1 := hl0.get k
   change gt l k < _ at d1
   have d2 := hm0.get k
   change gt m k < _ at d2
   clear hp hO hB hpl
   by_cases hlm : k < m.length
   ·obtain ⟨ad, rfl, hab, hcell⟩ := HR'.out (by rintro rfl; simp at hlm)
    have hcm2 : wr.cell? (ad.add k) = some (.int .u64 (gt m k)) := (HBl.out.cell (by rw [add_block]; exact hab)).trans (hcell k hlm)
    clear hcell
    by_cases hs : gt l k < q + gt m k
    ·go_wp2_with fail
     have hst := HP.out.step 1 (gt l k + 1000000000 - (q + gt m k)) (by omega) (by omega)
     refine ⟨⟨k + 1, 1, p ++ [gt l k + 1000000000 - (q + gt m k)], by omega, by go_num, rfl, by omega, hst, ?_, ?_⟩, by simp [intOf]; omega⟩
     ·have h5 := (HO.out.set' (k := k) (z := (gt l k : Int) + 1000000000) (by have := HP.out.1; simp; omega) (gt l k + 1000000000) (by omega)).set' (k := k) (z := (gt l k : Int) + 1000000000 - ((q : Int) + (gt m k : Int))) (by have := HP.out.1; simp; omega) (gt l k + 1000000000 - (q + gt m k)) (by omega)
      rw [set_set, set_mid HP.out.1 hlt] at h5
      exact h5
     ·exact (HBl.out.setCell (p := ⟨g, k, none⟩) hg _).setCell (p := ⟨g, k, none⟩) hg _
    ·go_wp2_with fail
     have hst := HP.out.step 0 (gt l k - (q + gt m k)) (by omega) (by omega)
     refine ⟨⟨k + 1, 0, p ++ [gt l k - (q + gt m k)], by omega, by go_num, rfl, by omega, hst, ?_, ?_⟩, by simp [intOf]; omega⟩
     ·have h5 := HO.out.set' (k := k) (z := (gt l k : Int) - ((q : Int) + (gt m k : Int))) (by have := HP.out.1; simp; omega) (gt l k - (q + gt m k)) (by omega)
      rw [set_mid HP.out.1 hlt] at h5
      exact h5
     ·exact HBl.out.setCell (p := ⟨g, k, none⟩) hg _
   ·have d3 := gt_beyond (by omega : m.length ≤ k)
    have HD3 := Lib.hid d3
    clear d3 d2
    by_cases hs : gt l k < q
    ·go_wp2_with fail
     have hst := HP.out.step 1 (gt l k + 1000000000 - q) (by omega) (by rw [HD3.out]; omega)
     refine ⟨⟨k + 1, 1, p ++ [gt l k + 1000000000 - q], by omega, by go_num, rfl, by omega, hst, ?_, ?_⟩, by simp [intOf]; omega⟩
     ·have h5 := (HO.out.set' (k := k) (z := (gt l k : Int) + 1000000000) (by have := HP.out.1; simp; omega) (gt l k + 1000000000) (by omega)).set' (k := k) (z := (gt l k : Int) + 1000000000 - (q : Int)) (by have := HP.out.1; simp; omega) (gt l k + 1000000000 - q) (by omega)
      rw [set_set, set_mid HP.out.1 hlt] at h5
      exact h5
     ·exact (HBl.out.setCell (p := ⟨g, k, none⟩) hg _).setCell (p := ⟨g, k, none⟩) hg _
    ·go_wp2_with fail
     have hst := HP.out.step 0 (gt l k - q) (by omega) (by rw [HD3.out]; omega)
     refine ⟨⟨k + 1, 0, p ++ [gt l k - q], by omega, by go_num, rfl, by omega, hst, ?_, ?_⟩, by simp [intOf]; omega⟩
     ·have h5 := HO.out.set' (k := k) (z := (gt l k : Int) - (q : Int)) (by have := HP.out.1; simp; omega) (gt l k - q) (by omega)
      rw [set_mid HP.out.1 hlt] at h5
      exact h5
     ·exact HBl.out.setCell (p := ⟨g, k, none⟩) hg _
  ·obtain rfl : k = l.length := by omega
   have hO' : OwnM wr g p sp := by simpa using hO
   have HO' := Lib.hid hO'
   clear hp hO hB hpl hO'
   go_wp2_with fail
   have hc2 := cut_any (some ⟨g, 0, none⟩) p cap wr (by rw [HP.out.1]; omega) (by rw [HP.out.1]; omega) HO'.out.rd
   rw [HP.out.1] at hc2
   refine hc2.mono ?_
   rintro e w' ⟨rfl, rfl⟩
   clear hc2
   go_wp2_with fail
   go_ret
   refine ⟨_, cutz p, cap, rfl, by have := cutz_length_le p; have := HP.out.1; omega, ⟨HP.out.2.1.cutz, norm_cutz p, ?_⟩, Fresh.some_ hg, ?_, HBl.out⟩
   ·rw [mval_cutz]; exact HP.out.done hlen hle
   ·rw [cutz_prefix]; exact HO'.out.rd.take _
theorem mval_set (o : List Nat) (j v : Nat) (h : j < o.length) : mval (o.set j v) + 1000000000 ^ j * gt o j = mval o + 1000000000 ^ j * v := by
 have e := split_at o j h
 have e2 : o.set j v = o.take j ++ v :: o.drop (j + 1) := by
  conv => lhs; rw [e]
  rw [set_append_mid _ _ _ _ _ (by simp; omega)]
 have e3 : mval o = mval (o.take j) + 1000000000 ^ j * (gt o j + 1000000000 * mval (o.drop (j + 1))) := by
  conv => lhs; rw [e]
  rw [mval_append, List.length_take_of_le (by omega)]; rfl
 rw [e2, mval_append, List.length_take_of_le (by omega), mval_cons, e3, Nat.mul_add, Nat.mul_add]; omega
theorem gt_set_other {l : List Nat} {k j x : Nat} (h : j ≠ k) : gt (l.set k x) j = gt l j := by
 unfold gt
 rw [List.getD_eq_getElem?_getD, List.getD_eq_getElem?_getD, List.getElem?_set_ne (by omega)]
theorem gt_zero_of_lt {o : List Nat} {j : Nat} (h : mval o < 1000000000 ^ j) : gt o j = 0 := by
 rcases Nat.lt_or_ge j o.length with hj | hj
 ·rcases Nat.eq_zero_or_pos (gt o j) with h0 | h0
  ·exact h0
  ·exfalso
   have e3 : mval o = mval (o.take j) + 1000000000 ^ j * (gt o j + 1000000000 * mval (o.drop (j + 1))) := by
    conv => lhs; rw [split_at o j hj]
    rw [mval_append, List.length_take_of_le (by omega)]; rfl
   have : 1000000000 ^ j * 1 ≤ 1000000000 ^ j * (gt o j + 1000000000 * mval (o.drop (j + 1))) := Nat.mul_le_mul_left _ (by omega)
   omega
 ·exact getD_ge hj
def RowR (l n : List Nat) (i : Nat) (o : List Nat) : Prop := o.length = l.length + n.length ∧ Dig o ∧ mval o = mval (l.take i) * mval n
def ColR (n o0 : List Nat) (i x k : Nat) (o : List Nat) (q : Nat) : Prop :=
 o.length = o0.length ∧ Dig o ∧ mval o + 1000000000 ^ (i + k) * q = mval o0 + 1000000000 ^ i * (x * mval (n.take k)) ∧ (∀ j, i + k ≤ j → gt o j = gt o0 j) ∧ (k = 0 → q = 0)
theorem ColR.start {n o : List Nat} {i x : Nat} (h : Dig o) : ColR n o i x 0 o 0 := ⟨rfl, h, by simp [mval], fun _ _ => rfl, fun _ => rfl⟩
theorem ColR.step {n o0 o : List Nat} {i x k q : Nat} (h : ColR n o0 i x k o q) (hj : i + k < o.length) (hx : x < 1000000000) (hy : gt n k < 1000000000) (hq : q < 1000000000) :
 (q + (gt o (i + k) + x * gt n k)) / 1000000000 < 1000000000 ∧ ColR n o0 i x (k + 1) (o.set (i + k) ((q + (gt o (i + k) + x * gt n k)) % 1000000000)) ((q + (gt o (i + k) + x * gt n k)) / 1000000000) := by
 obtain ⟨h1, h2, h3, h4, _⟩ := h
 have hg := h2.get (i + k)
 change gt o (i + k) < _ at hg
 have hxy : x * gt n k ≤ 999999999 * 999999999 := Nat.mul_le_mul (by omega) (by omega)
 refine ⟨by omega, by simp [h1], h2.set _ _ (Nat.mod_lt _ (by omega)), ?_, fun j hj2 => ?_, fun e => by omega⟩
 ·have hs := mval_set o (i + k) ((q + (gt o (i + k) + x * gt n k)) % 1000000000) hj
  rw [mval_take_succ']
  change _ = mval o0 + 1000000000 ^ i * (x * (mval (n.take k) + 1000000000 ^ k * gt n k))
  generalize hT : q + (gt o (i + k) + x * gt n k) = T at hs ⊢
  have e1 : 1000000000 ^ (i + k) * (T % 1000000000) + 1000000000 ^ (i + (k + 1)) * (T / 1000000000) = 1000000000 ^ (i + k) * T := by
   rw [← Nat.add_assoc, Nat.pow_succ, Nat.mul_assoc, ← Nat.mul_add]; congr 1; omega
  have e2 : 1000000000 ^ (i + k) * T = 1000000000 ^ (i + k) * q + (1000000000 ^ (i + k) * gt o (i + k) + 1000000000 ^ (i + k) * (x * gt n k)) := by
   rw [← hT, Nat.mul_add, Nat.mul_add]
  have e3 : 1000000000 ^ i * (x * (mval (n.take k) + 1000000000 ^ k * gt n k)) = 1000000000 ^ i * (x * mval (n.take k)) + 1000000000 ^ (i + k) * (x * gt n k) := by
   rw [Nat.mul_add, Nat.mul_add, Nat.pow_add, Nat.mul_assoc, Nat.mul_left_comm x]
  rw [e3]
  omega
 ·rw [gt_set_other (by omega)]; exact h4 j (by omega)
theorem ColR.done {l n o0 o : List Nat} {i q : Nat} (h0 : RowR l n i o0) (h : ColR n o0 i (gt l i) n.length o q) (hi : i < l.length) (hl : Dig l) (hn : Dig n) (hq : q < 1000000000) :
 gt o (i + n.length) = 0 ∧ (0 < n.length → RowR l n (i + 1) (o.set (i + n.length) q)) ∧ (n.length = 0 → RowR l n (i + 1) o) := by
 obtain ⟨a1, a2, a3⟩ := h0
 obtain ⟨b1, b2, b3, b4, b5⟩ := h
 rw [List.take_of_length_le (Nat.le_refl _)] at b3
 have hv : mval (l.take (i + 1)) * mval n = mval (l.take i) * mval n + 1000000000 ^ i * (gt l i * mval n) := by
  rw [mval_take_succ']
  change (mval (l.take i) + 1000000000 ^ i * gt l i) * mval n = _
  rw [Nat.add_mul, Nat.mul_assoc]
 have hlt : mval o0 < 1000000000 ^ (i + n.length) := by
  have e1 := mval_lt (hl.take i)
  rw [List.length_take_of_le (by omega)] at e1
  have e2 := mval_lt hn
  rw [a3, Nat.pow_add]
  rcases Nat.eq_zero_or_pos (mval n) with hz | hz
  ·rw [hz, Nat.mul_zero]; exact Nat.mul_pos (Nat.pow_pos (by omega)) (Nat.pow_pos (by omega))
  ·exact Nat.mul_lt_mul_of_lt_of_le' e1 (Nat.le_of_lt e2) hz
 have hz0 : gt o (i + n.length) = 0 := by rw [b4 _ (Nat.le_refl _)]; exact gt_zero_of_lt hlt
 refine ⟨hz0, fun hpos => ⟨by simp [b1, a1], b2.set _ _ hq, ?_⟩, fun hz => ?_⟩
 ·have hs := mval_set o (i + n.length) q (by rw [b1, a1]; omega)
  rw [hz0, Nat.mul_zero, Nat.add_zero] at hs
  rw [hs, b3, a3, hv]
 ·have hn0 : n = [] := List.eq_nil_of_length_eq_zero hz
  subst hn0
  refine ⟨by rw [b1, a1], b2, ?_⟩
  have hq0 := b5 rfl
  have e0 : mval [] = 0 := rfl
  rw [hq0, e0] at b3
  rw [e0] at a3 ⊢
  simp only [Nat.mul_zero, Nat.add_zero] at *
  omega
def Prod (l m r : List Nat) : Prop := Dig r ∧ Norm r ∧ mval r = mval l * mval m
theorem times_any (A A' : Option Addr) (l n : List Nat) (c c' : Nat) (w : World) (b1 : l.length ≤ 536870912) (b2 : n.length ≤ 536870912)
 (hl : Dig l) (hn : Dig n) (hr : RdM w A l) (hr' : RdM w A' n) :
 Calls Tryz.prog 220 #[.slice A l.length c, .slice A' n.length c'] w (OwnPost w (Prod l n)) := by
 have HR := Lib.hid hr
 have HR' := Lib.hid hr'
 have HL := Lib.hid hl
 have HN := Lib.hid hn
 have hmk := fun W => make_run ((l.length : Int) + (n.length : Int)) ((l.length : Int) + (n.length : Int)) (l.length + n.length) (l.length + n.length) (by omega) (by omega) (by omega) (by omega) W
 clear hr hr' hl hn
 go_enter Tryz.func220, Tryz.ntmps220
 go_wp2_with fail
 clear hmk
 have hl0 := HL.out
 have hn0 := HN.out
 have hO0 : OwnM (w.alloc (.cells (zrow (l.length + n.length)) 128)) w.heap.size (List.replicate (l.length + n.length) 0) [] := by
  have := OwnM.made w (l.length + n.length) (l.length + n.length) (Nat.le_refl _)
  simpa using this
 have hB0 : Below w.heap.size w (w.alloc (.cells (zrow (l.length + n.length)) 128)) := (Below.refl _ _).alloc (Nat.le_refl _) _
 generalize w.alloc (.cells (zrow (l.length + n.length)) 128) = w1 at hO0 hB0 ⊢
 go_loopw [19] (fun i wr => ∃ (k : Nat) (o : List Nat), k ≤ l.length ∧ i = .int .i64 (k : Int) ∧ RowR l n k o ∧ OwnM wr w.heap.size o [] ∧ Below w.heap.size w wr) (fun i _ => l.length - (intOf i).toNat)
 case atStart => exact ⟨0, _, Nat.zero_le _, rfl, ⟨by simp, Dig.replicate _, by simp [mval_replicate_zero, mval]⟩, hO0, hB0⟩
 case round =>
  obtain ⟨i, o0, hi, rfl, hRow, hO, hB⟩ := hrel
  have HRow := Lib.hid hRow
  have HO := Lib.hid hO
  have HB := Lib.hid hB
  have hol := hRow.1
  clear hRow hO hB hO0 hB0
  by_cases hlt : i < l.length
  ·obtain ⟨ad, rfl, hab, hcell⟩ := HR.out (by rintro rfl; simp at hlt)
   have hci : wr.cell? (ad.add i) = some (.int .u64 (gt l i)) := (HB.out.cell (by rw [add_block]; exact hab)).trans (hcell i hlt)
   have d1 := hl0.get i
   change gt l i < _ at d1
   clear hcell
   go_wp2_with fail
   clear hci
   obtain ⟨wo, rfl⟩ : ∃ wo : World, wo = wr := ⟨_, rfl⟩
   go_loopw [8, 26] (fun cy kk wq => ∃ (k q : Nat) (o : List Nat), k ≤ n.length ∧ kk = .int .i64 (k : Int) ∧ cy = .int .u64 (q : Int) ∧ q < 1000000000 ∧ ColR n o0 i (gt l i) k o q ∧ OwnM wq w.heap.size o [] ∧ Below w.heap.size w wq) (fun _ kk _ => n.length - (intOf kk).toNat)
   case atStart => exact ⟨0, 0, o0, Nat.zero_le _, rfl, rfl, by omega, ColR.start HRow.out.2.1, HO.out, HB.out⟩
   case round =>
    obtain ⟨k, q, o, hk, rfl, rfl, hq, hCol, hO2, hB2⟩ := hrel
    have HCol := Lib.hid hCol
    have HO2 := Lib.hid hO2
    have HB2 := Lib.hid hB2
    have hol2 := hCol.1.trans hol
    by_cases hlk : k < n.length
    ·obtain ⟨ad', rfl, hab', hcell'⟩ := HR'.out (by rintro rfl; simp at hlk)
     have hck : wr.cell? (ad'.add k) = some (.int .u64 (gt n k)) := (hB2.cell (by rw [add_block]; exact hab')).trans (hcell' k hlk)
     have d2 := hn0.get k
     change gt n k < _ at d2
     have hco := hO2.cell (k := i + k) (by omega)
     have hfo := hO2.frozen (i + k)
     have d3 := hCol.2.1.get (i + k)
     change gt o (i + k) < _ at d3
     have d4 : gt l i * gt n k ≤ 999999999 * 999999999 := Nat.mul_le_mul (by omega) (by omega)
     have HOL := Lib.hid hol2
     have hol3 : i + k < o.length := by omega
     clear hcell' hCol hO2 hB2 hol2
     go_wp2_with fail
     have hst := HCol.out.step hol3 d1 d2 hq
     refine ⟨⟨k + 1, (q + (gt o (i + k) + gt l i * gt n k)) / 1000000000, o.set (i + k) ((q + (gt o (i + k) + gt l i * gt n k)) % 1000000000), by omega, by go_num, ?_, hst.1, hst.2, ?_, ?_⟩, by simp [intOf]; omega⟩
     ·congr 1
     ·exact HO2.out.set' hol3 _ (by omega)
     ·exact HB2.out.setCell (p := ⟨w.heap.size, i + k, none⟩) (Nat.le_refl _) _
    ·obtain rfl : k = n.length := by omega
     have hd := ColR.done HRow.out hCol hlt hl0 hn0 hq
     have HD := Lib.hid hd
     have HOL := Lib.hid hol2
     rcases Nat.eq_zero_or_pos n.length with hz | hz
     ·have HZ := Lib.hid hz
      have hz0 : decide ((0 : Int) < (n.length : Int)) = false := by simp only [decide_eq_false_iff_not]; omega
      have hz1 : n.length ≤ 0 := by omega
      clear hCol hO2 hB2 hol2 hd hz
      go_wp2_with fail
      refine ⟨⟨i + 1, o, by omega, by go_num, HD.out.2.2 HZ.out, HO2.out, HB2.out⟩, by simp [intOf]; omega⟩
     ·have hco := hO2.cell (k := i + n.length) (by omega)
      rw [hd.1] at hco
      have hfo := hO2.frozen (i + n.length)
      have hol3 : i + n.length < o.length := by omega
      clear hCol hO2 hB2 hol2 hd
      go_wp2_with fail
      refine ⟨⟨i + 1, o.set (i + n.length) q, by omega, by go_num, HD.out.2.1 hz, ?_, ?_⟩, by simp [intOf]; omega⟩
      ·exact HO2.out.set' hol3 _ (by simp)
      ·exact HB2.out.setCell (p := ⟨w.heap.size, i + n.length, none⟩) (Nat.le_refl _) _
  ·obtain rfl : i = l.length := by omega
   go_wp2_with fail
   have hc2 := cut_any (some ⟨w.heap.size, 0, none⟩) o0 (l.length + n.length) wr (by omega) (by omega) HO.out.rd
   rw [hol] at hc2
   refine hc2.mono ?_
   rintro e w' ⟨rfl, rfl⟩
   clear hc2
   go_wp2_with fail
   go_ret
   obtain ⟨z, hz⟩ := (cutz_spec _ o0 rfl).2.2
   have hzl : o0.length = (cutz o0).length + z := by
    have := congrArg List.length hz
    simpa using this
   refine ⟨w.heap.size, cutz o0, (List.replicate z 0).map U, ?_, by simp; omega, ⟨HRow.out.2.1.cutz, norm_cutz o0, ?_⟩, ?_, Nat.le_refl _, HB.out⟩
   ·have : l.length + n.length = (cutz o0).length + ((List.replicate z 0).map U).length := by simp; omega
    rw [← this]; rfl
   ·rw [mval_cutz, HRow.out.2.2, List.take_of_length_le (Nat.le_refl _)]
   ·have h := HO.out
    unfold OwnM at h ⊢
    rw [h]
    conv => lhs; rw [hz]
    simp
def SingleR (l : List Nat) (d k : Nat) (s : List Nat) (r : Nat) : Prop := k + s.length = l.length ∧ Dig s ∧ r < d ∧ mval (l.drop k) = d * mval s + r
theorem SingleR.step {l : List Nat} {d j r : Nat} {s : List Nat} (h : SingleR l d (j + 1) s r) (hd : d ≤ 1000000000) (hl : Dig l) :
 SingleR l d j ((r * 1000000000 + gt l j) / d :: s) ((r * 1000000000 + gt l j) % d) := by
 obtain ⟨h1, h2, h3, h4⟩ := h
 have hg := hl.get j
 change gt l j < _ at hg
 have hT : r * 1000000000 + gt l j < d * 1000000000 := by
  have : (r + 1) * 1000000000 ≤ d * 1000000000 := Nat.mul_le_mul_right _ (by omega)
  omega
 refine ⟨by simp; omega, h2.cons ((Nat.div_lt_iff_lt_mul (by omega)).2 (by omega)), Nat.mod_lt _ (by omega), ?_⟩
 have hj : j < l.length := by omega
 rw [List.drop_eq_getElem_cons hj, mval_cons, mval_cons, h4, ← getD_lt hj]
 change gt l j + _ = _
 generalize hTT : r * 1000000000 + gt l j = T
 have := Nat.div_add_mod T d
 rw [Nat.mul_add d, Nat.mul_add 1000000000, Nat.mul_left_comm]
 generalize d * (T / d) = x at *
 generalize d * (1000000000 * mval s) = y at *
 have e : d * mval s * 1000000000 = d * (1000000000 * mval s) := by rw [Nat.mul_assoc, Nat.mul_comm (mval s)]
 omega
def SinglePost (w : World) (l : List Nat) (d : Nat) (e : Ending) (w' : World) : Prop :=
 ∃ (A : Option Addr) (r : List Nat) (c x : Nat), e = .returned (.tuple #[.slice A r.length c, .int .u64 (x : Int)]) ∧ r.length ≤ c ∧ (Dig r ∧ Norm r ∧ mval l = d * mval r + x ∧ x < d) ∧ A ≠ none ∧ RdM w' A r ∧ Below w.heap.size w w'
theorem set_zeros (j : Nat) (s : List Nat) (x : Nat) : (List.replicate (j + 1) 0 ++ s).set j x = List.replicate j 0 ++ x :: s := by
 rw [List.replicate_succ', List.append_assoc]
 exact set_append_mid _ _ _ _ _ (by simp)
theorem single_any (A : Option Addr) (l : List Nat) (c d : Nat) (w : World) (b1 : l.length ≤ 536870912) (hd : 0 < d) (hd' : d < 1000000000)
 (hl : Dig l) (hr : RdM w A l) :
 Calls Tryz.prog 259 #[.slice A l.length c, .int .u64 (d : Int)] w (SinglePost w l d) := by
 have HR := Lib.hid hr
 have HL := Lib.hid hl
 have hmk := fun W => make_run (l.length : Int) (l.length : Int) l.length l.length rfl rfl (Nat.le_refl _) (by omega) W
 clear hr hl
 go_enter Tryz.func259, Tryz.ntmps259
 go_wp2_with fail
 clear hmk
 have hO0 : OwnM (w.alloc (.cells (zrow l.length) 128)) w.heap.size (List.replicate l.length 0 ++ []) [] := by
  have := OwnM.made w l.length l.length (Nat.le_refl _)
  simpa using this
 have hB0 : Below w.heap.size w (w.alloc (.cells (zrow l.length) 128)) := (Below.refl _ _).alloc (Nat.le_refl _) _
 generalize w.alloc (.cells (zrow l.length) 128) = w1 at hO0 hB0 ⊢
 go_loopw [7, 8] (fun rr i wr => ∃ (k r : Nat) (s : List Nat), k ≤ l.length ∧ i = .int .i64 ((k : Int) - 1) ∧ rr = .int .u64 (r : Int) ∧ r < d ∧ SingleR l d k s r ∧ OwnM wr w.heap.size (List.replicate k 0 ++ s) [] ∧ Below w.heap.size w wr) (fun _ i _ => (intOf i + 1).toNat)
 case atStart => exact ⟨l.length, 0, [], Nat.le_refl _, rfl, rfl, hd, ⟨by simp, Dig.nil, hd, by simp [mval]⟩, hO0, hB0⟩
 case round =>
  obtain ⟨k, r, s, hk, rfl, rfl, hrd, hS, hO, hB⟩ := hrel
  have HS := Lib.hid hS
  have HO := Lib.hid hO
  have HB := Lib.hid hB
  have hsl := hS.1
  rcases Nat.eq_zero_or_pos k with h0 | h0
  ·subst h0
   clear hS hO hB hO0 hB0 hsl
   go_wp2_with fail
   have hO' : OwnM wr w.heap.size s [] := by simpa using HO.out
   have hsl : s.length = l.length := by have := HS.out.1; omega
   have hc2 := cut_any (some ⟨w.heap.size, 0, none⟩) s l.length wr (by omega) (by omega) hO'.rd
   rw [hsl] at hc2
   refine hc2.mono ?_
   rintro e w' ⟨rfl, rfl⟩
   clear hc2 hsl hO'
   go_wp2_with fail
   go_ret2
   refine ⟨some ⟨w.heap.size, 0, none⟩, cutz s, l.length, r, rfl, by have := cutz_length_le s; have := HS.out.1; omega, ⟨HS.out.2.1.cutz, norm_cutz s, ?_, hrd⟩, by simp, ?_, HB.out⟩
   ·rw [mval_cutz]; have := HS.out.2.2.2; simpa using this
   ·have hO' : OwnM wr w.heap.size s [] := by simpa using HO.out
    rw [cutz_prefix]; exact hO'.rd.take _
  ·obtain ⟨j, rfl⟩ : ∃ j, k = j + 1 := ⟨k - 1, by omega⟩
   obtain ⟨ad, rfl, hab, hcell⟩ := HR.out (by rintro rfl; simp at hk)
   have hci : wr.cell? (ad.add j) = some (.int .u64 (gt l j)) := (HB.out.cell (by rw [add_block]; exact hab)).trans (hcell j (by omega))
   have hco := hO.cell (k := j) (by simp; omega)
   have hfo := hO.frozen j
   have d1 := HL.out.get j
   change gt l j < _ at d1
   have hi : ((j + 1 : Nat) : Int) - 1 = (j : Int) := by omega
   rw [hi]
   have hne : ((d : Int) == 0) = false := by simp; omega
   clear hcell hS hO hB hO0 hB0 hsl
   go_wp2_with fail
   have hst := HS.out.step (by omega) HL.out
   have h5 := HO.out.set' (k := j) (z := ((r : Int) * 1000000000 + (gt l j : Int)) / (d : Int)) (by simp; omega) ((r * 1000000000 + gt l j) / d) (by rw [Int.natCast_ediv]; rfl)
   rw [set_zeros] at h5
   refine ⟨⟨j, (r * 1000000000 + gt l j) % d, _, by omega, rfl, ?_, hst.2.2.1, hst, h5, ?_⟩, by simp [intOf]⟩
   ·congr 1
   ·exact HB.out.setCell (p := ⟨w.heap.size, j, none⟩) (Nat.le_refl _) _
theorem mval_split (A : List Nat) (i : Nat) (h : i ≤ A.length) : mval A = mval (A.take i) + 1000000000 ^ i * mval (A.drop i) := by
 conv => lhs; rw [← List.take_append_drop i A]
 rw [mval_append, List.length_take_of_le h]
theorem take_set_ge {X : List Nat} {i p v : Nat} (h : i ≤ p) : (X.set p v).take i = X.take i := by
 rw [List.take_set]; exact List.set_eq_of_length_le (by rw [List.length_take]; omega)
theorem mval_drop_succ (A : List Nat) (i : Nat) (h : i < A.length) : mval (A.drop i) = gt A i + 1000000000 * mval (A.drop (i + 1)) := by
 rw [List.drop_eq_getElem_cons h, mval_cons, ← getD_lt h]; rfl
def SubR (A b : List Nat) (i g j : Nat) (X : List Nat) (o : Nat) : Prop :=
 X.length = A.length ∧ Dig X ∧ (∀ p, i + j ≤ p → gt X p = gt A p) ∧ X.take i = A.take i ∧ mval X + 1000000000 ^ i * (g * mval (b.take j)) = mval A + 1000000000 ^ (i + j) * o
theorem SubR.start {A b : List Nat} {i g : Nat} (h : Dig A) : SubR A b i g 0 A 0 := ⟨rfl, h, fun _ _ => rfl, rfl, by simp [mval]⟩
theorem SubR.step {A b X : List Nat} {i g j o a' o' : Nat} (h : SubR A b i g j X o) (hp : i + j < A.length) (ha' : a' < 1000000000)
 (e : a' + (g * gt b j + o) = gt X (i + j) + o' * 1000000000) : SubR A b i g (j + 1) (X.set (i + j) a') o' := by
 obtain ⟨h1, h2, h3, h4, h5⟩ := h
 refine ⟨by simp [h1], h2.set _ _ ha', fun p hp2 => by rw [gt_set_other (by omega)]; exact h3 p (by omega), by rw [take_set_ge (by omega)]; exact h4, ?_⟩
 have hs := mval_set X (i + j) a' (by omega)
 rw [mval_take_succ']
 change _ + 1000000000 ^ i * (g * (mval (b.take j) + 1000000000 ^ j * gt b j)) = _
 have e3 : 1000000000 ^ i * (g * (mval (b.take j) + 1000000000 ^ j * gt b j)) = 1000000000 ^ i * (g * mval (b.take j)) + 1000000000 ^ (i + j) * (g * gt b j) := by
  rw [Nat.mul_add, Nat.mul_add, Nat.pow_add, Nat.mul_assoc, Nat.mul_left_comm g]
 have e4 := congrArg (1000000000 ^ (i + j) * ·) e
 simp only [Nat.mul_add] at e4
 have e5 : 1000000000 ^ (i + (j + 1)) * o' = 1000000000 ^ (i + j) * (o' * 1000000000) := by
  rw [← Nat.add_assoc, Nat.pow_succ, Nat.mul_assoc, Nat.mul_comm 1000000000]
 rw [e3, e5]
 omega
def AddR (X b : List Nat) (i j : Nat) (Y : List Nat) (c : Nat) : Prop :=
 Y.length = X.length ∧ Dig Y ∧ (∀ p, i + j ≤ p → gt Y p = gt X p) ∧ Y.take i = X.take i ∧ mval Y + 1000000000 ^ (i + j) * c = mval X + 1000000000 ^ i * mval (b.take j)
theorem AddR.start {X b : List Nat} {i : Nat} (h : Dig X) : AddR X b i 0 X 0 := ⟨rfl, h, fun _ _ => rfl, rfl, by simp [mval]⟩
theorem AddR.step {X b Y : List Nat} {i j c : Nat} (h : AddR X b i j Y c) (hp : i + j < X.length) (hb : Dig b) (hc : c ≤ 1) :
 (gt Y (i + j) + (gt b j + c)) / 1000000000 ≤ 1 ∧ AddR X b i (j + 1) (Y.set (i + j) ((gt Y (i + j) + (gt b j + c)) % 1000000000)) ((gt Y (i + j) + (gt b j + c)) / 1000000000) := by
 obtain ⟨h1, h2, h3, h4, h5⟩ := h
 have d1 := hb.get j
 change gt b j < _ at d1
 have d2 := h2.get (i + j)
 change gt Y (i + j) < _ at d2
 refine ⟨by omega, by simp [h1], h2.set _ _ (Nat.mod_lt _ (by omega)), fun p hp2 => by rw [gt_set_other (by omega)]; exact h3 p (by omega), by rw [take_set_ge (by omega)]; exact h4, ?_⟩
 generalize hT : gt Y (i + j) + (gt b j + c) = T
 have hs := mval_set Y (i + j) (T % 1000000000) (by omega)
 rw [mval_take_succ']
 change _ = mval X + 1000000000 ^ i * (mval (b.take j) + 1000000000 ^ j * gt b j)
 have e1 : 1000000000 ^ (i + j) * (T % 1000000000) + 1000000000 ^ (i + (j + 1)) * (T / 1000000000) = 1000000000 ^ (i + j) * T := by
  rw [← Nat.add_assoc, Nat.pow_succ, Nat.mul_assoc, ← Nat.mul_add]; congr 1; omega
 have e2 : 1000000000 ^ (i + j) * T = 1000000000 ^ (i + j) * gt Y (i + j) + (1000000000 ^ (i + j) * gt b j + 1000000000 ^ (i + j) * c) := by
  rw [← hT, Nat.mul_add, Nat.mul_add]
 have e3 : 1000000000 ^ i * (mval (b.take j) + 1000000000 ^ j * gt b j) = 1000000000 ^ i * mval (b.take j) + 1000000000 ^ (i + j) * gt b j := by
  rw [Nat.mul_add, Nat.pow_add, Nat.mul_assoc]
 rw [e3]
 omega
def DivR (a0 b : List Nat) (t : Nat) (A Q : List Nat) : Prop :=
 A.length = a0.length ∧ Dig A ∧ Dig Q ∧ t + Q.length + b.length = a0.length ∧ mval a0 = mval b * (1000000000 ^ t * mval Q) + mval A ∧ mval (A.drop t) < mval b
theorem window {A b : List Nat} {i : Nat} (hA : Dig A) (hi : i + b.length < A.length) (hk : 2 ≤ b.length) (hb : Dig b) (hlt : mval (A.drop (i + 1)) < mval b) :
 mval (A.drop i) < 1000000000 * mval b ∧
 mval (A.drop i) = ((gt A (i + b.length) * 1000000000 + gt A (i + b.length - 1)) * 1000000000 + gt A (i + b.length - 2)) * 1000000000 ^ (b.length - 2) + mval ((A.drop i).take (b.length - 2)) ∧
 mval ((A.drop i).take (b.length - 2)) < 1000000000 ^ (b.length - 2) ∧
 mval (A.drop i) = mval ((A.drop i).take b.length) + 1000000000 ^ b.length * gt A (i + b.length) ∧
 mval ((A.drop i).take b.length) < 1000000000 ^ b.length := by
 have hbl := mval_lt hb
 have hg := hA.get i
 change gt A i < _ at hg
 have h0 := mval_drop_succ A i (by omega)
 have hR : mval (A.drop i) < 1000000000 * mval b := by omega
 have gd : ∀ p, gt (A.drop i) p = gt A (i + p) := by
  intro p; unfold gt; rw [List.getD_eq_getElem?_getD, List.getD_eq_getElem?_getD, List.getElem?_drop]
 have hD : Dig (A.drop i) := hA.drop i
 have hlen : (A.drop i).length = A.length - i := by simp
 generalize hW : A.drop i = W at *
 have hW1 : mval (W.drop (b.length + 1)) = 0 := by
  have e := mval_split W (b.length + 1) (by omega)
  rcases Nat.eq_zero_or_pos (mval (W.drop (b.length + 1))) with h | h
  ·exact h
  ·exfalso
   have : 1000000000 ^ (b.length + 1) * 1 ≤ 1000000000 ^ (b.length + 1) * mval (W.drop (b.length + 1)) := Nat.mul_le_mul_left _ h
   rw [Nat.pow_succ] at this e
   omega
 have e1 := mval_split W (b.length + 1) (by omega)
 rw [hW1, Nat.mul_zero, Nat.add_zero, mval_take_succ'] at e1
 have e1' : mval W = mval (W.take b.length) + 1000000000 ^ b.length * gt W b.length := e1
 obtain ⟨k, hk2⟩ : ∃ k, b.length = k + 2 := ⟨b.length - 2, by omega⟩
 have l1 := mval_lt (hD.take (b.length - 2))
 have l2 := mval_lt (hD.take b.length)
 rw [List.length_take_of_le (by omega)] at l1 l2
 refine ⟨hR, ?_, l1, by rw [e1', gd], l2⟩
 rw [e1', hk2]
 have e2 : mval (W.take (k + 2)) = mval (W.take k) + 1000000000 ^ k * gt W k + 1000000000 ^ (k + 1) * gt W (k + 1) := by
  rw [mval_take_succ', mval_take_succ']; rfl
 rw [e2, gd, gd, gd, show i + (k + 2) - 1 = i + (k + 1) by omega, show i + (k + 2) - 2 = i + k by omega, show k + 2 - 2 = k by omega]
 generalize gt A (i + (k + 2)) = x
 generalize gt A (i + (k + 1)) = y
 generalize gt A (i + k) = z
 have p1 : (1000000000 : Nat) ^ (k + 1) = 1000000000 ^ k * 1000000000 := Nat.pow_succ ..
 have p2 : (1000000000 : Nat) ^ (k + 2) = 1000000000 ^ k * 1000000000 * 1000000000 := by rw [Nat.pow_succ, Nat.pow_succ]
 rw [p1, p2]
 generalize (1000000000 : Nat) ^ k = P
 have q1 : ((x * 1000000000 + y) * 1000000000 + z) * P = P * 1000000000 * 1000000000 * x + P * 1000000000 * y + P * z := by
  rw [Nat.add_mul, Nat.add_mul, Nat.add_mul, Nat.mul_comm _ P, Nat.mul_comm z P]
  have a1 : P * (x * 1000000000 * 1000000000) = P * 1000000000 * 1000000000 * x := by
   rw [Nat.mul_assoc P, Nat.mul_assoc P, Nat.mul_assoc x, Nat.mul_comm x]
  have a2 : y * 1000000000 * P = P * 1000000000 * y := by rw [Nat.mul_comm (y * 1000000000), Nat.mul_comm y, Nat.mul_assoc]
  omega
 omega
theorem divisor {b : List Nat} (hk : 2 ≤ b.length) (hb : Dig b) :
 mval b = (gt b (b.length - 1) * 1000000000 + gt b (b.length - 2)) * 1000000000 ^ (b.length - 2) + mval (b.take (b.length - 2)) ∧ mval (b.take (b.length - 2)) < 1000000000 ^ (b.length - 2) := by
 have l1 := mval_lt (hb.take (b.length - 2))
 rw [List.length_take_of_le (by omega)] at l1
 refine ⟨?_, l1⟩
 obtain ⟨k, hk2⟩ : ∃ k, b.length = k + 2 := ⟨b.length - 2, by omega⟩
 have e0 : mval b = mval (b.take (k + 2)) := by rw [List.take_of_length_le (by omega)]
 have e2 : mval (b.take (k + 2)) = mval (b.take k) + 1000000000 ^ k * gt b k + 1000000000 ^ (k + 1) * gt b (k + 1) := by
  rw [mval_take_succ', mval_take_succ']; rfl
 rw [e0, e2, hk2, show k + 2 - 1 = k + 1 by omega, show k + 2 - 2 = k by omega]
 have p1 : (1000000000 : Nat) ^ (k + 1) = 1000000000 ^ k * 1000000000 := Nat.pow_succ ..
 rw [p1]
 generalize (1000000000 : Nat) ^ k = P
 generalize gt b (k + 1) = x
 generalize gt b k = y
 have a2 : x * 1000000000 * P = P * 1000000000 * x := by rw [Nat.mul_comm (x * 1000000000), Nat.mul_comm x, Nat.mul_assoc]
 rw [Nat.add_mul, a2, Nat.mul_comm y P]
 omega
theorem top_pos {b : List Nat} (hn : Norm b) (hk : 2 ≤ b.length) : 0 < gt b (b.length - 1) := by
 rcases Nat.eq_zero_or_pos (gt b (b.length - 1)) with h | h
 ·exfalso
  have hne : b ≠ [] := by rintro rfl; simp at hk
  apply hn
  rw [List.getLast?_eq_getElem?]
  unfold gt at h
  rw [List.getD_eq_getElem?_getD] at h
  rw [List.getElem?_eq_getElem (by omega)] at h ⊢
  simpa using h
 ·exact h
theorem DivR.step {a0 b A Q X : List Nat} {i g : Nat} (h : DivR a0 b (i + 1) A Q) (hg : g = mval (A.drop i) / mval b) (hX : Dig X) (hl : X.length = A.length) (ht : X.take i = A.take i)
 (e : mval X + 1000000000 ^ i * (g * mval b) = mval A) (hk : 0 < b.length) (hR : mval (A.drop i) < 1000000000 * mval b) : DivR a0 b i X (g :: Q) := by
 obtain ⟨h1, h2, h3, h4, h5, h6⟩ := h
 have hb : 0 < mval b := by omega
 have hgb : g < 1000000000 := by rw [hg]; exact (Nat.div_lt_iff_lt_mul hb).2 hR
 refine ⟨by omega, hX, h3.cons hgb, by simp; omega, ?_, ?_⟩
 ·rw [h5, ← e, mval_cons, Nat.pow_succ, Nat.mul_add, Nat.mul_add]
  have a1 : mval b * (1000000000 ^ i * g) = 1000000000 ^ i * (g * mval b) := by rw [Nat.mul_left_comm, Nat.mul_comm g]
  have a2 : 1000000000 ^ i * 1000000000 * mval Q = 1000000000 ^ i * (1000000000 * mval Q) := Nat.mul_assoc ..
  rw [a1, a2]; omega
 ·have e1 := mval_split A i (by omega)
  have e2 := mval_split X i (by omega)
  rw [ht] at e2
  have e3 : 1000000000 ^ i * mval (X.drop i) + 1000000000 ^ i * (g * mval b) = 1000000000 ^ i * mval (A.drop i) := by omega
  rw [← Nat.mul_add] at e3
  have e4 := Nat.eq_of_mul_eq_mul_left (Nat.pow_pos (by omega)) e3
  have e5 := Nat.div_add_mod (mval (A.drop i)) (mval b)
  have e6 := Nat.mod_lt (mval (A.drop i)) hb
  rw [← hg, Nat.mul_comm] at e5
  omega
theorem drop_of_gt {X A : List Nat} {p : Nat} (hl : X.length = A.length) (h : ∀ q, p ≤ q → gt X q = gt A q) : X.drop p = A.drop p := by
 apply List.ext_getElem (by simp [hl])
 intro n h1 h2
 rw [List.getElem_drop, List.getElem_drop]
 have := h (p + n) (by omega)
 unfold gt at this
 rw [getD_lt (by simp at h1; omega), getD_lt (by simp at h2; omega)] at this
 exact this
theorem window_of {A X : List Nat} {i k : Nat} (hl : X.length = A.length) (hX : Dig X) (hi : i + k < A.length) (hz : mval (A.drop (i + k + 1)) = 0) (h : ∀ q, i + k ≤ q → gt X q = gt A q) :
 ∃ low, low < 1000000000 ^ k ∧ mval (X.drop i) = low + 1000000000 ^ k * gt A (i + k) := by
 have e1 := mval_split (X.drop i) k (by simp; omega)
 rw [List.drop_drop, drop_of_gt hl h, mval_drop_succ A (i + k) hi, hz] at e1
 have l1 := mval_lt ((hX.drop i).take k)
 rw [List.length_take_of_le (by simp; omega)] at l1
 exact ⟨_, l1, by rw [e1]; simp⟩
theorem drop_zero {A b : List Nat} {i : Nat} (hA : Dig A) (hi : i + b.length < A.length) (hb : Dig b) (hlt : mval (A.drop (i + 1)) < mval b) : mval (A.drop (i + b.length + 1)) = 0 := by
 have hbl := mval_lt hb
 have hg := hA.get i
 change gt A i < _ at hg
 have h0 := mval_drop_succ A i (by omega)
 have e := mval_split (A.drop i) (b.length + 1) (by simp; omega)
 rw [List.drop_drop] at e
 rcases Nat.eq_zero_or_pos (mval (A.drop (i + b.length + 1))) with h | h
 ·exact h
 ·exfalso
  have : 1000000000 ^ (b.length + 1) * 1 ≤ 1000000000 ^ (b.length + 1) * mval (A.drop (i + b.length + 1)) := Nat.mul_le_mul_left _ h
  rw [Nat.add_assoc i] at *
  rw [Nat.pow_succ] at this e
  omega
section
variable {A b X : List Nat} {i g o : Nat}
theorem SubR.win (h : SubR A b i g b.length X o) (hi : i + b.length < A.length) : mval (X.drop i) + g * mval b = mval (A.drop i) + 1000000000 ^ b.length * o := by
 obtain ⟨h1, h2, h3, h4, h5⟩ := h
 rw [List.take_of_length_le (Nat.le_refl _)] at h5
 have e1 := mval_split A i (by omega)
 have e2 := mval_split X i (by omega)
 rw [h4] at e2
 have e3 : 1000000000 ^ i * mval (X.drop i) + 1000000000 ^ i * (g * mval b) = 1000000000 ^ i * mval (A.drop i) + 1000000000 ^ i * (1000000000 ^ b.length * o) := by
  rw [← Nat.mul_assoc (1000000000 ^ i) (1000000000 ^ b.length), ← Nat.pow_add]; omega
 rw [← Nat.mul_add, ← Nat.mul_add] at e3
 exact Nat.eq_of_mul_eq_mul_left (Nat.pow_pos (by omega)) e3
theorem SubR.fits (h : SubR A b i g b.length X o) (hi : i + b.length < A.length) (hA : Dig A) (ho : o ≤ gt A (i + b.length)) :
 Dig (X.set (i + b.length) (gt A (i + b.length) - o)) ∧ (X.set (i + b.length) (gt A (i + b.length) - o)).length = A.length ∧ (X.set (i + b.length) (gt A (i + b.length) - o)).take i = A.take i ∧
 mval (X.set (i + b.length) (gt A (i + b.length) - o)) + 1000000000 ^ i * (g * mval b) = mval A := by
 obtain ⟨h1, h2, h3, h4, h5⟩ := h
 rw [List.take_of_length_le (Nat.le_refl _)] at h5
 have hg := hA.get (i + b.length)
 change gt A (i + b.length) < _ at hg
 refine ⟨h2.set _ _ (by omega), by simp [h1], by rw [take_set_ge (by omega)]; exact h4, ?_⟩
 have hs := mval_set X (i + b.length) (gt A (i + b.length) - o) (by omega)
 rw [h3 _ (Nat.le_refl _)] at hs
 have e : 1000000000 ^ (i + b.length) * gt A (i + b.length) = 1000000000 ^ (i + b.length) * (gt A (i + b.length) - o) + 1000000000 ^ (i + b.length) * o := by
  rw [← Nat.mul_add]; congr 1; omega
 omega
theorem SubR.le (h : SubR A b i g b.length X o) (hi : i + b.length < A.length) (hA : Dig A) (ho : o ≤ gt A (i + b.length)) (hb : 0 < mval b) : g ≤ mval (A.drop i) / mval b := by
 obtain ⟨f1, f2, f3, f4⟩ := h.fits hi hA ho
 generalize X.set (i + b.length) (gt A (i + b.length) - o) = Z at *
 have e1 := mval_split A i (by omega)
 have e2 := mval_split Z i (by omega)
 rw [f3] at e2
 have e3 : 1000000000 ^ i * mval (Z.drop i) + 1000000000 ^ i * (g * mval b) = 1000000000 ^ i * mval (A.drop i) := by omega
 rw [← Nat.mul_add] at e3
 have e4 := Nat.eq_of_mul_eq_mul_left (Nat.pow_pos (by omega)) e3
 exact (Nat.le_div_iff_mul_le hb).2 (by omega)
theorem SubR.over (h : SubR A b i g b.length X o) (hi : i + b.length < A.length) (hz : mval (A.drop (i + b.length + 1)) = 0) (ho : gt A (i + b.length) < o) (hb : 0 < mval b) : mval (A.drop i) / mval b < g := by
 obtain ⟨low, hl, hw⟩ := window_of h.1 h.2.1 hi hz h.2.2.1
 have e := h.win hi
 rw [hw] at e
 have : 1000000000 ^ b.length * (gt A (i + b.length) + 1) ≤ 1000000000 ^ b.length * o := Nat.mul_le_mul_left _ ho
 rw [Nat.mul_add] at this
 exact (Nat.div_lt_iff_lt_mul hb).2 (by omega)
theorem SubR.back {Y : List Nat} {c : Nat} (h : SubR A b i g b.length X o) (hY : AddR X b i b.length Y c) (hi : i + b.length < A.length) (_hA : Dig A) (hb : Dig b) (hz : mval (A.drop (i + b.length + 1)) = 0)
 (hg : g = mval (A.drop i) / mval b + 1) (hbp : 0 < mval b) :
 gt Y (i + b.length) = gt A (i + b.length) ∧ gt A (i + b.length) + c = o ∧ Dig (Y.set (i + b.length) 0) ∧ (Y.set (i + b.length) 0).length = A.length ∧ (Y.set (i + b.length) 0).take i = A.take i ∧
 mval (Y.set (i + b.length) 0) + 1000000000 ^ i * ((g - 1) * mval b) = mval A := by
 obtain ⟨y1, y2, y3, y4, y5⟩ := hY
 have hw := h.win hi
 obtain ⟨x1, x2, x3, x4, x5⟩ := h
 rw [List.take_of_length_le (Nat.le_refl _)] at x5 y5
 have hYA : ∀ q, i + b.length ≤ q → gt Y q = gt A q := fun q hq => (y3 q hq).trans (x3 q hq)
 obtain ⟨low, hl, hwY⟩ := window_of (y1.trans x1) y2 hi hz hYA
 have hYt := y4.trans x4
 have e1 := mval_split X i (by omega)
 have e2 := mval_split Y i (by omega)
 rw [y4] at e2
 have e3 : 1000000000 ^ i * mval (Y.drop i) + 1000000000 ^ i * (1000000000 ^ b.length * c) = 1000000000 ^ i * mval (X.drop i) + 1000000000 ^ i * mval b := by
  rw [← Nat.mul_assoc (1000000000 ^ i) (1000000000 ^ b.length), ← Nat.pow_add]; omega
 rw [← Nat.mul_add, ← Nat.mul_add] at e3
 have e4 := Nat.eq_of_mul_eq_mul_left (Nat.pow_pos (by omega)) e3
 have e5 := Nat.div_add_mod (mval (A.drop i)) (mval b)
 have e6 := Nat.mod_lt (mval (A.drop i)) hbp
 have hbl := mval_lt hb
 have hgm : g * mval b = mval b * (mval (A.drop i) / mval b) + mval b := by rw [hg, Nat.add_mul, Nat.one_mul, Nat.mul_comm]
 generalize hq : mval (A.drop i) / mval b = q at *
 generalize hrho : mval (A.drop i) % mval b = rho at *
 have e7 : low + 1000000000 ^ b.length * gt A (i + b.length) + 1000000000 ^ b.length * c = rho + 1000000000 ^ b.length * o := by omega
 have hxc : gt A (i + b.length) + c = o := by
  rw [Nat.add_assoc, ← Nat.mul_add] at e7
  have hP : 0 < 1000000000 ^ b.length := Nat.pow_pos (by omega)
  have d1 : (low + 1000000000 ^ b.length * (gt A (i + b.length) + c)) / 1000000000 ^ b.length = gt A (i + b.length) + c := by
   rw [Nat.add_mul_div_left _ _ hP, Nat.div_eq_of_lt hl, Nat.zero_add]
  have d2 : (rho + 1000000000 ^ b.length * o) / 1000000000 ^ b.length = o := by
   rw [Nat.add_mul_div_left _ _ hP, Nat.div_eq_of_lt (by omega), Nat.zero_add]
  rw [← d1, e7, d2]
 refine ⟨hYA _ (Nat.le_refl _), hxc, y2.set _ _ (by omega), by simp [y1, x1], by rw [take_set_ge (by omega)]; exact hYt, ?_⟩
 have hs := mval_set Y (i + b.length) 0 (by omega)
 rw [hYA _ (Nat.le_refl _), Nat.mul_zero, Nat.add_zero] at hs
 have g1 : g - 1 = q := by omega
 have a1 : 1000000000 ^ i * (g * mval b) = 1000000000 ^ i * (q * mval b) + 1000000000 ^ i * mval b := by
  rw [← Nat.mul_add]; congr 1; rw [hgm, Nat.mul_comm]
 have a2 : 1000000000 ^ (i + b.length) * o = 1000000000 ^ (i + b.length) * gt A (i + b.length) + 1000000000 ^ (i + b.length) * c := by rw [← Nat.mul_add, hxc]
 rw [g1]
 omega
end
theorem DivR.done {a0 b A Q : List Nat} (h : DivR a0 b 0 A Q) (hb : Dig b) : mval a0 = mval b * mval Q + mval (A.take b.length) ∧ mval (A.take b.length) < mval b := by
 obtain ⟨h1, h2, h3, h4, h5, h6⟩ := h
 rw [List.drop_zero] at h6
 have hbl := mval_lt hb
 have e := mval_split A b.length (by omega)
 have hz : mval (A.drop b.length) = 0 := by
  rcases Nat.eq_zero_or_pos (mval (A.drop b.length)) with h | h
  ·exact h
  ·have : 1000000000 ^ b.length * 1 ≤ 1000000000 ^ b.length * mval (A.drop b.length) := Nat.mul_le_mul_left _ h
   omega
 rw [hz, Nat.mul_zero, Nat.add_zero] at e
 rw [← e]
 exact ⟨by rw [h5]; simp, h6⟩
theorem DivR.start {r b : List Nat} (hr : Dig r) (hb : Dig b) (hn : Norm b) (hk : 2 ≤ b.length) (hl : b.length ≤ r.length) : DivR (r ++ [0, 0]) b (r.length + 2 - b.length) (r ++ [0, 0]) [] := by
 have hd : Dig (r ++ [0, 0]) := hr.append (by intro x hx; simp at hx; omega)
 refine ⟨rfl, hd, Dig.nil, by simp; omega, by simp [mval], ?_⟩
 have e : (r ++ [0, 0]).drop (r.length + 2 - b.length) = r.drop (r.length + 2 - b.length) ++ [0, 0] := by
  rw [List.drop_append_of_le_length (by omega)]
 rw [e, mval_append]
 have l1 := mval_lt (hr.drop (r.length + 2 - b.length))
 have hge := mval_ge_of_norm hn (by rintro rfl; simp at hk)
 have : (1000000000 : Nat) ^ (r.drop (r.length + 2 - b.length)).length ≤ 1000000000 ^ (b.length - 1) := Nat.pow_le_pow_right (by omega) (by simp; omega)
 have e2 : mval [0, 0] = 0 := rfl
 rw [e2, Nat.mul_zero, Nat.add_zero]
 omega
end Go.Proofs.YtbkmhmaldljgmaaGreatDoor
namespace Go.Proofs.YtbkmhmaldljgmaaGreatDoor
open Go.RowKit Tr
def Mg (w : World) (A : Option Addr) (c : Nat) (l : List Nat) : Prop := l.length ≤ c ∧ (A = none → c = 0) ∧ RdM w A l
theorem Mg.below {w w' : World} {A : Option Addr} {c : Nat} {l : List Nat} (h : Mg w A c l) (hb : Below w.heap.size w w') : Mg w' A c l := ⟨h.1, h.2.1, h.2.2.below hb⟩
def Quot (l n q r : List Nat) : Prop := Dig q ∧ Norm q ∧ Dig r ∧ Norm r ∧ mval l = mval n * mval q + mval r ∧ mval r < mval n
def DivPost (w : World) (l n : List Nat) (e : Ending) (w' : World) : Prop :=
 ∃ (A1 : Option Addr) (q : List Nat) (c1 : Nat) (A2 : Option Addr) (r : List Nat) (c2 : Nat), e = .returned (.tuple #[.slice A1 q.length c1, .slice A2 r.length c2]) ∧
  Quot l n q r ∧ Mg w' A1 c1 q ∧ Mg w' A2 c2 r ∧ Below w.heap.size w w'
theorem divide_less (A A' : Option Addr) (l n : List Nat) (c c' : Nat) (w : World) (b1 : l.length ≤ 536870000) (b2 : n.length ≤ 536870000)
 (hl : Dig l) (hn : Dig n) (nl : Norm l) (nn : Norm n) (hr : Mg w A c l) (hr' : Mg w A' c' n) (hlt : mval l < mval n) :
 Calls Tryz.prog 215 #[.slice A l.length c, .slice A' n.length c'] w (DivPost w l n) := by
 have HC := Lib.hid (compare_any A A' l n c c' w (by omega) (by omega) hl hn nl nn hr.2.2 hr'.2.2)
 have HR := Lib.hid hr
 have HL := Lib.hid hl
 have HNl := Lib.hid nl
 clear hl hn nl nn hr hr'
 go_enter Tryz.func215, Tryz.ntmps215
 go_wp2_with fail
 refine HC.out.mono ?_
 rintro e w1 ⟨r, rfl, hs, q, rfl⟩
 have hr0 := hs.1.2 hlt
 clear HC hs
 go_wp2_with fail
 go_ret2
 exact ⟨none, [], 0, A, l, c, rfl, ⟨Dig.nil, norm_nil, HL.out, HNl.out, by simp [mval], hlt⟩, ⟨by simp, fun _ => rfl, RdM.nil _ _⟩, HR.out.below (below_drewN (Below.refl _ _) _), below_drewN (Below.refl _ _) _⟩
theorem divide_one (A A' : Option Addr) (l : List Nat) (d : Nat) (c c' : Nat) (w : World) (b1 : l.length ≤ 536870000)
 (hl : Dig l) (hd : 0 < d) (hd' : d < 1000000000) (nl : Norm l) (hr : Mg w A c l) (hr' : Mg w A' c' [d]) (hle : d ≤ mval l) :
 Calls Tryz.prog 215 #[.slice A l.length c, .slice A' 1 c'] w (DivPost w l [d]) := by
 have HC := Lib.hid (compare_any A A' l [d] c c' w (by omega) (by simp) hl (by intro x hx; simp at hx; omega) nl (norm_snoc (l := []) (by omega)) hr.2.2 hr'.2.2)
 have HR := Lib.hid hr
 have HL := Lib.hid hl
 obtain ⟨ad, rfl, hab, hcell⟩ := hr'.2.2 (by simp)
 have hc0 := hcell 0 (by simp)
 rw [show ad.add 0 = ad from by simp [Addr.add], show gt [d] 0 = d from rfl] at hc0
 clear hl nl hr hr' hcell
 go_enter Tryz.func215, Tryz.ntmps215
 go_wp2_with fail
 refine HC.out.mono ?_
 rintro e w1 ⟨r, rfl, hs, q, rfl⟩
 have hr0 : decide (r < 0) = false := by
  have := hs.1; rw [mval_single] at this; simp only [decide_eq_false_iff_not]; omega
 clear HC hs
 go_wp2_with fail
 refine (single_any A l c d _ (by omega) hd hd' HL.out (HR.out.2.2.below (below_drewN (Below.refl _ _) _))).mono ?_
 rintro e w2 ⟨A2, s, c2, x, rfl, hsc, hs, hA2, hrd, hb2⟩
 have HS := Lib.hid hs
 have HRD := Lib.hid hrd
 have HB2 := Lib.hid hb2
 have HA2 := Lib.hid hA2
 have hx := hs.2.2.2
 clear hs hrd hb2 hA2
 go_wp2_with fail
 have hrb : RdM (w2.alloc (.cells #[.int .u64 (x : Int)] 128)) (some ⟨w2.heap.size, 0, none⟩) [x] := by
  refine OwnM.rd (sp := []) ?_
  exact heap_alloc_new w2 _
 refine (cut_any (some ⟨w2.heap.size, 0, none⟩) [x] 1 _ (by simp) (by simp) hrb).mono ?_
 rintro e w3 ⟨rfl, rfl⟩
 go_wp2_with fail
 go_ret2
 have hcz : mval (cutz [x]) = x := by rw [mval_cutz, mval_single]
 refine ⟨A2, s, c2, some ⟨w2.heap.size, 0, none⟩, cutz [x], 1, rfl, ⟨HS.out.1, HS.out.2.1, Dig.cutz (by intro y hy; simp at hy; omega), norm_cutz _, ?_, ?_⟩, ⟨hsc, (fun h => absurd h HA2.out), HRD.out.below ((Below.refl _ _).alloc (Nat.le_refl _) _)⟩, ⟨cutz_length_le [x], (fun h => by cases h), ?_⟩, ?_⟩
 ·rw [hcz, mval_single]; exact HS.out.2.2.1
 ·rw [hcz, mval_single]; exact hx
 ·have := hrb.take (cutz [x]).length
  rw [← cutz_prefix] at this; exact this
 ·exact ((below_drewN (Below.refl _ _) _).trans HB2.out).alloc (by have := HB2.out.size; simpa using this) _
theorem Tryz.info_int : (Tryz.prog.info? 3).map (fun i => (i.zero, i.size, i.bytes)) = some (some (.int .i64 0), 1, 8) := by kernel_rfl
def V (x : Nat) : Value := .int .i64 (x : Int)
def OwnN (w : World) (g : Nat) (l : List Nat) : Prop := w.heap[g]? = some (.cells (l.map V).toArray 3 (0, 0))
section
variable {w w' : World} {g : Nat} {l : List Nat}
theorem OwnN.lt (h : OwnN w g l) : g < w.heap.size := by
 rcases Nat.lt_or_ge g w.heap.size with hlt | hge
 ·exact hlt
 ·unfold OwnN at h; rw [Array.getElem?_eq_none hge] at h; cases h
theorem OwnN.cell (h : OwnN w g l) {k : Nat} (hk : k < l.length) : w.cell? ⟨g, k, none⟩ = some (.int .i64 (gt l k)) := by
 rw [cell_of_row w g k _ _ (0, 0) h]
 simp [gt, V, hk]
theorem OwnN.frozen (h : OwnN w g l) (k : Nat) : w.frozen? ⟨g, k, none⟩ = false := by
 unfold OwnN at h
 simp [World.frozen?, h]
theorem OwnN.set (h : OwnN w g l) {k : Nat} (hk : k < l.length) (x : Nat) : OwnN (w.setCell ⟨g, k, none⟩ (.int .i64 (x : Int))) g (l.set k x) := by
 unfold OwnN at h ⊢
 simp only [World.setCell, Array.getElem?_modify, h, if_true, Option.map_some]
 congr 2
 rw [List.setIfInBounds_toArray, List.map_set]; rfl
end
def zrowN (c : Nat) : Array Value := ((List.replicate c 0).map V).toArray
theorem OwnN.made (w : World) (c : Nat) : OwnN (w.alloc (.cells (zrowN c) 3)) w.heap.size (List.replicate c 0) := heap_alloc_new w _
theorem madeZerosN (c : Nat) : madeCells #[Value.int .i64 0] c = zrowN c := by
 unfold zrowN
 apply Array.toList_inj.1
 rw [toList_madeCells_one]; simp [V]
theorem make_runN (x y : Int) (n c : Nat) (hx : x = n) (hy : y = c) (hnc : n ≤ c) (hc : c ≤ 4294967296) (W : World) :
 (Instr.makeSlice 66 (.int .i64 x) (.int .i64 y)).run Tryz.prog W = .ok (.slice (some ⟨W.heap.size, 0, none⟩) n c) (W.alloc (.cells (zrowN c) 3)) := by
 obtain ⟨i0, hi, hz0, hz1, hz2⟩ := info_parts Tryz.info_int
 subst hx hy
 have h := run_make (P := Tryz.prog) W 66 3 i0 (.int .i64 0) Tryz.underlying66 hi hz0 .i64 .i64 n c (by omega) (by omega) (by rw [hz2]; omega) (by omega)
 rw [h, hz1]
 simp only [Int.toNat_natCast, Nat.mul_one]
 rw [show (Value.int IntKind.i64 0).cells = #[.int .i64 0] from rfl, madeZerosN]
theorem ColR.row {l n o0 o : List Nat} {i k : Nat} (h0 : RowR l n i o0) (h : ColR n o0 i (gt l i) k o 0) (hk : n.length ≤ k) : RowR l n (i + 1) o := by
 obtain ⟨a1, a2, a3⟩ := h0
 obtain ⟨b1, b2, b3, b4, b5⟩ := h
 rw [List.take_of_length_le hk] at b3
 refine ⟨b1.trans a1, b2, ?_⟩
 rw [mval_take_succ']
 change _ = (mval (l.take i) + 1000000000 ^ i * gt l i) * mval n
 rw [Nat.add_mul, Nat.mul_assoc, ← a3]
 omega
end Go.Proofs.YtbkmhmaldljgmaaGreatDoor
