/-
  The walk of (magnitude).plus.
  The walks of slices.Clone at magnitudes and of (magnitude).minus.
  The walk of (magnitude).times.
-/
import Derived.Test.YtdnmpgoigagjmaaGreatDoorA02
import Derived.Laws.CopyOwn
import Derived.Laws.MakeOwn
import Derived.RegionTactic
set_option linter.unusedVariables false
set_option linter.unusedSimpArgs false
namespace Go.Proofs.YtdnmpgoigagjmaaGreatDoor
open Go.RowKit Tr
theorem Tryz.info_u64 : (Tryz.prog.info? 146).map (fun i => (i.zero, i.size, i.bytes)) = some (some (.int .u64 0), 1, 8) := by kernel_rfl
def zrow (c : Nat) : Array Value := ((List.replicate c 0).map U).toArray
theorem OwnM.made (w : World) (n c : Nat) (h : n ≤ c) : OwnM (w.alloc (.cells (zrow c) 146)) w.heap.size (List.replicate n 0) ((List.replicate (c - n) 0).map U) := by
 refine (heap_alloc_new w _).trans ?_
 unfold zrow
 rw [← List.map_append, List.replicate_append_replicate, show n + (c - n) = c by omega]
theorem madeZeros (c : Nat) : madeCells #[Value.int .u64 0] c = zrow c := by
 unfold zrow
 apply Array.toList_inj.1
 rw [toList_madeCells_one]; simp [U]
theorem RdM.srcs {w w' : World} {A : Option Addr} {l : List Nat} (h : RdM w A l) (hb : Below w.heap.size w w') (hpos : 0 < (l.map U).length) : ∃ ad, A = some ad ∧ ∀ j v, (l.map U)[j]? = some v → w'.cell? (ad.add j) = some v := by
 obtain ⟨ad, rfl, h1, h2⟩ := h.below hb (by rintro rfl; simp at hpos)
 refine ⟨ad, rfl, fun j v hv => ?_⟩
 rw [List.getElem?_map] at hv
 cases hj : l[j]? with
 | none => rw [hj] at hv; cases hv
 | some x =>
   rw [hj] at hv
   have hjl : j < l.length := by
    rcases Nat.lt_or_ge j l.length with h | h
    ·exact h
    ·rw [List.getElem?_eq_none h] at hj; cases hj
   rw [h2 j hjl]
   have : gt l j = x := by simp [gt, hj]
   rw [this]; injection hv with hv; rw [← hv]; rfl
theorem make_run (x y : Int) (n c : Nat) (hx : x = n) (hy : y = c) (hnc : n ≤ c) (hc : c ≤ 4294967296) (W : World) :
 (Instr.makeSlice 106 (.int .i64 x) (.int .i64 y)).run Tryz.prog W = .ok (.slice (some ⟨W.heap.size, 0, none⟩) n c) (W.alloc (.cells (zrow c) 146)) := by
 obtain ⟨i0, hi, hz0, hz1, hz2⟩ := info_parts Tryz.info_u64
 subst hx hy
 have h := run_make (P := Tryz.prog) W 106 146 i0 (.int .u64 0) Tryz.underlying106 hi hz0 .i64 .i64 n c (by omega) (by omega) (by rw [hz2]; omega) (by omega)
 rw [h, hz1]
 simp only [Int.toNat_natCast, Nat.mul_one]
 rw [show (Value.int IntKind.u64 0).cells = #[.int .u64 0] from rfl, madeZeros]
def PlusR (l m : List Nat) (k : Nat) (p : List Nat) (q : Nat) : Prop := p.length = k ∧ Dig p ∧ mval p + 1000000000 ^ k * q = mval (l.take k) + mval (m.take k)
theorem gt_mid {p l : List Nat} {k : Nat} (h : p.length = k) : gt (p ++ l.drop k) k = gt l k := by
 subst h
 unfold gt
 rw [List.getD_eq_getElem?_getD, List.getD_eq_getElem?_getD, List.getElem?_append_right (Nat.le_refl _)]; simp
theorem gt_set {l : List Nat} {k x : Nat} (h : k < l.length) : gt (l.set k x) k = x := by simp [gt, h]
theorem PlusR.step {l m : List Nat} {k q : Nat} {p : List Nat} (h : PlusR l m k p q) (hl : Dig l) (hm : Dig m) (hq : q ≤ 1) :
 (gt l k + q + gt m k) / 1000000000 ≤ 1 ∧ PlusR l m (k + 1) (p ++ [(gt l k + q + gt m k) % 1000000000]) ((gt l k + q + gt m k) / 1000000000) := by
 have d1 := hl.get k
 have d2 := hm.get k
 change gt l k < _ at d1
 change gt m k < _ at d2
 refine ⟨by omega, by simp [h.1], h.2.1.snoc (by omega), ?_⟩
 rw [mval_snoc, h.1, mval_take_succ', mval_take_succ']
 change _ = mval (l.take k) + 1000000000 ^ k * gt l k + (mval (m.take k) + 1000000000 ^ k * gt m k)
 have h3 := h.2.2
 generalize hx : gt l k + q + gt m k = x
 rw [Nat.pow_succ]
 have e1 : 1000000000 ^ k * (x % 1000000000) + 1000000000 ^ k * 1000000000 * (x / 1000000000) = 1000000000 ^ k * x := by
  rw [Nat.mul_assoc, ← Nat.mul_add]; congr 1; omega
 rw [Nat.add_assoc, e1, ← hx, Nat.mul_add, Nat.mul_add]; omega
theorem gt_beyond {m : List Nat} {k : Nat} (h : m.length ≤ k) : gt m k = 0 := getD_ge h
theorem PlusR.done {l m : List Nat} {p : List Nat} {q : Nat} (h : PlusR l m l.length p q) (hlen : m.length ≤ l.length) : mval (p ++ [q]) = mval l + mval m ∧ (q = 0 → mval p = mval l + mval m) := by
 have h3 := h.2.2
 rw [List.take_of_length_le (Nat.le_refl _), List.take_of_length_le hlen] at h3
 refine ⟨by rw [mval_snoc, h.1]; exact h3, ?_⟩
 rintro rfl; omega
theorem PlusR.norm {l m : List Nat} {p : List Nat} {q : Nat} (h : PlusR l m l.length p q) (hlen : m.length ≤ l.length) (hn : Norm l) (hq : q = 0) : Norm p := by
 rcases Classical.em (l = []) with h0 | h0
 ·subst h0; have := h.1; obtain rfl := List.eq_nil_of_length_eq_zero this; exact norm_nil
 ·have h1 := mval_ge_of_norm hn h0
  refine norm_of_ge h.2.1 ?_ (fun e => h0 (List.eq_nil_of_length_eq_zero (by rw [← h.1, e]; rfl)))
  rw [h.1, (h.done hlen).2 hq]; omega
def Sum (l m r : List Nat) : Prop := Dig r ∧ (Norm l → Norm m → Norm r) ∧ mval r = mval l + mval m
set_option maxHeartbeats 1000000 in
set_option maxRecDepth 100000 in
theorem plus_ge (A A' : Option Addr) (l m : List Nat) (c c' : Nat) (w : World) (b1 : l.length ≤ 1073741824) (hlen : m.length ≤ l.length)
 (hl : Dig l) (hm : Dig m) (hr : RdM w A l) (hr' : RdM w A' m) :
 Calls Tryz.prog 130 #[.slice A l.length c, .slice A' m.length c'] w (MagPost w (Sum l m)) := by
 have HR := Lib.hid hr
 have HR' := Lib.hid hr'
 have hlt : decide (l.length < m.length) = false := by simp; omega
 have hmk := fun W => make_run (l.length : Int) ((l.length : Int) + 1) l.length (l.length + 1) rfl (by omega) (by omega) (by omega) W
 have HL := Lib.hid hl
 have HM := Lib.hid hm
 clear hr hr' hl hm
 go_enter Tryz.func130, Tryz.ntmps130
 go_wp2_with (refine wpList_copy_splice rfl (.tmp 21) (.tmp 22) 106 106 rfl 146 Tryz.underlying106 (by kernel_rfl) (some ⟨w.heap.size, 0, none⟩) A l.length (l.length + 1) l.length c rfl rfl w.heap.size 0 ((List.replicate (l.length + 1) 0).map U) 146 (heap_alloc_new w _) (l.map U) (by simp) (fun hp => ⟨rfl, HR.out.srcs (.alloc (Below.refl _ _) (Nat.le_refl _) _) hp⟩) (by simp) (by simp [U, Value.oneCell']) w.heap.size w (.alloc (Below.refl _ _) (Nat.le_refl _) _) (Nat.le_refl _) ?_; intro w1 HB hb1)
 have hown : OwnM w1 w.heap.size l [U 0] := by
  refine HB.out.trans ?_
  simp [splice, List.replicate_succ', U]
 clear HB
 have hl0 := HL.out
 have hm0 := HM.out
 go_loopw [6, 26] (fun cy i wr => ∃ (k q : Nat) (p : List Nat), k ≤ l.length ∧ i = .int .i64 (k : Int) ∧ cy = .int .u64 (q : Int) ∧ q ≤ 1 ∧ PlusR l m k p q ∧ OwnM wr w.heap.size (p ++ l.drop k) [U 0] ∧ Below w.heap.size w wr) (fun _ i _ => l.length - (intOf i).toNat)
 case atStart => exact ⟨0, 0, [], Nat.zero_le _, rfl, rfl, by omega, ⟨rfl, Dig.nil, by simp [mval]⟩, by simpa using hown, hb1⟩
 case round =>
  obtain ⟨k, q, p, hk, rfl, rfl, hq, hp, hO, hB⟩ := hrel
  have HP := Lib.hid hp
  have HO := Lib.hid hO
  have HBl := Lib.hid hB
  have hpl := hp.1
  by_cases hlt : k < l.length
  ·have hc := hO.cell (k := k) (by simp; omega)
   rw [gt_mid hpl] at hc
   have hf := hO.frozen k
   have d1 := hl0.get k
   change gt l k < _ at d1
   have d2 := hm0.get k
   change gt m k < _ at d2
   clear hp hO hB hpl
   by_cases hlm : k < m.length
   ·obtain ⟨ad, rfl, hab, hcell⟩ := HR'.out (by rintro rfl; simp at hlm)
    have hO2 : OwnM (wr.setCell ⟨w.heap.size, k, none⟩ (.int .u64 ((gt l k : Int) + (q : Int)))) w.heap.size ((p ++ l.drop k).set k (gt l k + q)) [U 0] := HO.out.set (by have := HP.out.1; simp; omega) _
    have hB2 : Below w.heap.size w (wr.setCell ⟨w.heap.size, k, none⟩ (.int .u64 ((gt l k : Int) + (q : Int)))) := HBl.out.setCell (p := ⟨w.heap.size, k, none⟩) (Nat.le_refl _) _
    have hc2 := hO2.cell (k := k) (by have := HP.out.1; simp; omega)
    have hf2 := hO2.frozen k
    have hcm2 : (wr.setCell ⟨w.heap.size, k, none⟩ (.int .u64 ((gt l k : Int) + (q : Int)))).cell? (ad.add k) = some (.int .u64 (gt m k)) := (hB2.cell (by rw [add_block]; exact hab)).trans (hcell k hlm)
    rw [gt_set (by have := HP.out.1; simp; omega)] at hc2
    have HO2 := Lib.hid hO2
    have HB2 := Lib.hid hB2
    clear hO2 hB2 hcell
    go_wp2_with fail
    generalize wr.setCell ⟨w.heap.size, k, none⟩ (.int .u64 ((gt l k : Int) + (q : Int))) = w2 at HO2 HB2 hc2 hf2 hcm2 ⊢
    rw [Int.natCast_add] at hc2
    clear hc hf
    go_region
    go_wp2_with fail
    have hst := HP.out.step hl0 hm0 hq
    refine ⟨⟨k + 1, (gt l k + q + gt m k) / 1000000000, p ++ [(gt l k + q + gt m k) % 1000000000], by omega, by go_num, ?_, hst.1, hst.2, ?_, ?_⟩, ?_⟩
    ·congr 1
    ·have h5 := (((HO2.out.set' (k := k) (z := (gt l k : Int) + (q : Int) + (gt m k : Int)) (by have := HP.out.1; simp; omega) (gt l k + q + gt m k) (by omega)).set' (k := k) (z := ((gt l k : Int) + (q : Int) + (gt m k : Int)) % 1000000000) (by have := HP.out.1; simp; omega) ((gt l k + q + gt m k) % 1000000000) (by omega))).drew
     rw [set_set, set_set, set_mid HP.out.1 hlt] at h5
     exact h5
    ·exact ((HB2.out.setCell (p := ⟨w.heap.size, k, none⟩) (Nat.le_refl _) _).setCell (p := ⟨w.heap.size, k, none⟩) (Nat.le_refl _) _).drew
    ·simp [intOf]; omega
   ·go_wp2_with fail
    have hst := HP.out.step hl0 hm0 hq
    rw [gt_beyond (by omega : m.length ≤ k), Nat.add_zero] at hst
    refine ⟨⟨k + 1, (gt l k + q) / 1000000000, p ++ [(gt l k + q) % 1000000000], by omega, by go_num, ?_, hst.1, hst.2, ?_, ?_⟩, ?_⟩
    ·congr 1
    ·have h5 := (HO.out.set' (k := k) (z := (gt l k : Int) + (q : Int)) (by have := HP.out.1; simp; omega) (gt l k + q) (by omega)).set' (k := k) (z := ((gt l k : Int) + (q : Int)) % 1000000000) (by have := HP.out.1; simp; omega) ((gt l k + q) % 1000000000) (by omega)
     rw [set_set, set_mid HP.out.1 hlt] at h5
     exact h5
    ·exact (HBl.out.setCell (p := ⟨w.heap.size, k, none⟩) (Nat.le_refl _) _).setCell (p := ⟨w.heap.size, k, none⟩) (Nat.le_refl _) _
    ·simp [intOf]; omega
  ·obtain rfl : k = l.length := by omega
   have hO' : OwnM wr w.heap.size p [U 0] := by simpa using hO
   have HO' := Lib.hid hO'
   rcases Nat.eq_zero_or_pos q with h0 | h0
   ·subst h0
    clear hp hO hB hpl hO'
    go_wp2_with fail
    go_ret
    refine ⟨_, p, l.length + 1, by rw [HP.out.1]; rfl, by rw [HP.out.1]; omega, ⟨HP.out.2.1, fun nl _ => HP.out.norm hlen nl rfl, (HP.out.done hlen).2 rfl⟩, Fresh.some_ (Nat.le_refl _), HO'.out.rd, HBl.out⟩
   ·have hq0 : decide ((0 : Int) < (q : Int)) = true := by simp; omega
    have hc := hO'.cell_sp
    have hf := hO'.frozen l.length
    rw [hpl] at hc
    have hgs := hO'.lt
    clear hp hO hB hpl hO'
    go_wp2_with fail
    go_ret
    have h5 := (HO'.out.push (z := (q : Int)) q rfl).alloc (.cells #[.int .u64 q] 146)
    rw [HP.out.1] at h5
    refine ⟨_, p ++ [q], l.length + 1, by rw [List.length_append, HP.out.1]; rfl, by rw [List.length_append, HP.out.1]; simp, ⟨HP.out.2.1.snoc (by omega), fun _ _ => norm_snoc (by omega), (HP.out.done hlen).1⟩, Fresh.some_ (Nat.le_refl _), h5.rd, ?_⟩
    exact (HBl.out.setCell (p := ⟨w.heap.size, l.length, none⟩) (Nat.le_refl _) _).alloc (by have := HBl.out.size; simpa using this) _
set_option maxHeartbeats 1000000 in
set_option maxRecDepth 100000 in
theorem plus_lt (A A' : Option Addr) (l m : List Nat) (c c' : Nat) (w : World) (b1 : l.length ≤ 1073741824) (hlen' : m.length < l.length)
 (hl : Dig l) (hm : Dig m) (hr : RdM w A l) (hr' : RdM w A' m) :
 Calls Tryz.prog 130 #[.slice A' m.length c', .slice A l.length c] w (MagPost w (Sum m l)) := by
 have hlen : m.length ≤ l.length := by omega
 have HR := Lib.hid hr
 have HR' := Lib.hid hr'
 have hlt : decide (m.length < l.length) = true := by simp; omega
 have hmk := fun W => make_run (l.length : Int) ((l.length : Int) + 1) l.length (l.length + 1) rfl (by omega) (by omega) (by omega) W
 have HL := Lib.hid hl
 have HM := Lib.hid hm
 clear hr hr' hl hm
 go_enter Tryz.func130, Tryz.ntmps130
 go_wp2_with (refine wpList_copy_splice rfl (.tmp 21) (.tmp 22) 106 106 rfl 146 Tryz.underlying106 (by kernel_rfl) (some ⟨w.heap.size, 0, none⟩) A l.length (l.length + 1) l.length c rfl rfl w.heap.size 0 ((List.replicate (l.length + 1) 0).map U) 146 (heap_alloc_new w _) (l.map U) (by simp) (fun hp => ⟨rfl, HR.out.srcs (.alloc (Below.refl _ _) (Nat.le_refl _) _) hp⟩) (by simp) (by simp [U, Value.oneCell']) w.heap.size w (.alloc (Below.refl _ _) (Nat.le_refl _) _) (Nat.le_refl _) ?_; intro w1 HB hb1)
 have hown : OwnM w1 w.heap.size l [U 0] := by
  refine HB.out.trans ?_
  simp [splice, List.replicate_succ', U]
 clear HB
 have hl0 := HL.out
 have hm0 := HM.out
 go_loopw [6, 26] (fun cy i wr => ∃ (k q : Nat) (p : List Nat), k ≤ l.length ∧ i = .int .i64 (k : Int) ∧ cy = .int .u64 (q : Int) ∧ q ≤ 1 ∧ PlusR l m k p q ∧ OwnM wr w.heap.size (p ++ l.drop k) [U 0] ∧ Below w.heap.size w wr) (fun _ i _ => l.length - (intOf i).toNat)
 case atStart => exact ⟨0, 0, [], Nat.zero_le _, rfl, rfl, by omega, ⟨rfl, Dig.nil, by simp [mval]⟩, by simpa using hown, hb1⟩
 case round =>
  obtain ⟨k, q, p, hk, rfl, rfl, hq, hp, hO, hB⟩ := hrel
  have HP := Lib.hid hp
  have HO := Lib.hid hO
  have HBl := Lib.hid hB
  have hpl := hp.1
  by_cases hlt : k < l.length
  ·have hc := hO.cell (k := k) (by simp; omega)
   rw [gt_mid hpl] at hc
   have hf := hO.frozen k
   have d1 := hl0.get k
   change gt l k < _ at d1
   have d2 := hm0.get k
   change gt m k < _ at d2
   clear hp hO hB hpl
   by_cases hlm : k < m.length
   ·obtain ⟨ad, rfl, hab, hcell⟩ := HR'.out (by rintro rfl; simp at hlm)
    have hO2 : OwnM (wr.setCell ⟨w.heap.size, k, none⟩ (.int .u64 ((gt l k : Int) + (q : Int)))) w.heap.size ((p ++ l.drop k).set k (gt l k + q)) [U 0] := HO.out.set (by have := HP.out.1; simp; omega) _
    have hB2 : Below w.heap.size w (wr.setCell ⟨w.heap.size, k, none⟩ (.int .u64 ((gt l k : Int) + (q : Int)))) := HBl.out.setCell (p := ⟨w.heap.size, k, none⟩) (Nat.le_refl _) _
    have hc2 := hO2.cell (k := k) (by have := HP.out.1; simp; omega)
    have hf2 := hO2.frozen k
    have hcm2 : (wr.setCell ⟨w.heap.size, k, none⟩ (.int .u64 ((gt l k : Int) + (q : Int)))).cell? (ad.add k) = some (.int .u64 (gt m k)) := (hB2.cell (by rw [add_block]; exact hab)).trans (hcell k hlm)
    rw [gt_set (by have := HP.out.1; simp; omega)] at hc2
    have HO2 := Lib.hid hO2
    have HB2 := Lib.hid hB2
    clear hO2 hB2 hcell
    go_wp2_with fail
    generalize wr.setCell ⟨w.heap.size, k, none⟩ (.int .u64 ((gt l k : Int) + (q : Int))) = w2 at HO2 HB2 hc2 hf2 hcm2 ⊢
    rw [Int.natCast_add] at hc2
    clear hc hf
    go_region
    go_wp2_with fail
    have hst := HP.out.step hl0 hm0 hq
    refine ⟨⟨k + 1, (gt l k + q + gt m k) / 1000000000, p ++ [(gt l k + q + gt m k) % 1000000000], by omega, by go_num, ?_, hst.1, hst.2, ?_, ?_⟩, ?_⟩
    ·congr 1
    ·have h5 := (((HO2.out.set' (k := k) (z := (gt l k : Int) + (q : Int) + (gt m k : Int)) (by have := HP.out.1; simp; omega) (gt l k + q + gt m k) (by omega)).set' (k := k) (z := ((gt l k : Int) + (q : Int) + (gt m k : Int)) % 1000000000) (by have := HP.out.1; simp; omega) ((gt l k + q + gt m k) % 1000000000) (by omega))).drew
     rw [set_set, set_set, set_mid HP.out.1 hlt] at h5
     exact h5
    ·exact ((HB2.out.setCell (p := ⟨w.heap.size, k, none⟩) (Nat.le_refl _) _).setCell (p := ⟨w.heap.size, k, none⟩) (Nat.le_refl _) _).drew
    ·simp [intOf]; omega
   ·go_wp2_with fail
    have hst := HP.out.step hl0 hm0 hq
    rw [gt_beyond (by omega : m.length ≤ k), Nat.add_zero] at hst
    refine ⟨⟨k + 1, (gt l k + q) / 1000000000, p ++ [(gt l k + q) % 1000000000], by omega, by go_num, ?_, hst.1, hst.2, ?_, ?_⟩, ?_⟩
    ·congr 1
    ·have h5 := (HO.out.set' (k := k) (z := (gt l k : Int) + (q : Int)) (by have := HP.out.1; simp; omega) (gt l k + q) (by omega)).set' (k := k) (z := ((gt l k : Int) + (q : Int)) % 1000000000) (by have := HP.out.1; simp; omega) ((gt l k + q) % 1000000000) (by omega)
     rw [set_set, set_mid HP.out.1 hlt] at h5
     exact h5
    ·exact (HBl.out.setCell (p := ⟨w.heap.size, k, none⟩) (Nat.le_refl _) _).setCell (p := ⟨w.heap.size, k, none⟩) (Nat.le_refl _) _
    ·simp [intOf]; omega
  ·obtain rfl : k = l.length := by omega
   have hO' : OwnM wr w.heap.size p [U 0] := by simpa using hO
   have HO' := Lib.hid hO'
   rcases Nat.eq_zero_or_pos q with h0 | h0
   ·subst h0
    clear hp hO hB hpl hO'
    go_wp2_with fail
    go_ret
    refine ⟨_, p, l.length + 1, by rw [HP.out.1]; rfl, by rw [HP.out.1]; omega, ⟨HP.out.2.1, fun _ nl => HP.out.norm hlen nl rfl, ((HP.out.done hlen).2 rfl).trans (Nat.add_comm _ _)⟩, Fresh.some_ (Nat.le_refl _), HO'.out.rd, HBl.out⟩
   ·have hq0 : decide ((0 : Int) < (q : Int)) = true := by simp; omega
    have hc := hO'.cell_sp
    have hf := hO'.frozen l.length
    rw [hpl] at hc
    have hgs := hO'.lt
    clear hp hO hB hpl hO'
    go_wp2_with fail
    go_ret
    have h5 := (HO'.out.push (z := (q : Int)) q rfl).alloc (.cells #[.int .u64 q] 146)
    rw [HP.out.1] at h5
    refine ⟨_, p ++ [q], l.length + 1, by rw [List.length_append, HP.out.1]; rfl, by rw [List.length_append, HP.out.1]; simp, ⟨HP.out.2.1.snoc (by omega), fun _ _ => norm_snoc (by omega), ((HP.out.done hlen).1).trans (Nat.add_comm _ _)⟩, Fresh.some_ (Nat.le_refl _), h5.rd, ?_⟩
    exact (HBl.out.setCell (p := ⟨w.heap.size, l.length, none⟩) (Nat.le_refl _) _).alloc (by have := HBl.out.size; simpa using this) _
theorem plus_any (A A' : Option Addr) (l m : List Nat) (c c' : Nat) (w : World) (b1 : l.length ≤ 1073741824) (b2 : m.length ≤ 1073741824)
 (hl : Dig l) (hm : Dig m) (hr : RdM w A l) (hr' : RdM w A' m) :
 Calls Tryz.prog 130 #[.slice A l.length c, .slice A' m.length c'] w (MagPost w (Sum l m)) := by
 rcases Nat.lt_or_ge l.length m.length with h | h
 ·exact plus_lt A' A m l c' c w b2 h hm hl hr' hr
 ·exact plus_ge A A' l m c c' w b1 h hl hm hr hr'
end Go.Proofs.YtdnmpgoigagjmaaGreatDoor
namespace Go.Proofs.YtdnmpgoigagjmaaGreatDoor
open Go.RowKit Tr
def ClonePost (w : World) (A : Option Addr) (l : List Nat) (e : Ending) (w' : World) : Prop :=
 ∃ v, e = .returned v ∧ (A = none → v = .slice none 0 0) ∧ w'.ownsRow w.heap.size 146 1 v l.length (l.map U) ∧ Below w.heap.size w w'
set_option maxHeartbeats 400000 in
theorem cloneM_any (A : Option Addr) (l : List Nat) (c : Nat) (w : World) (b1 : l.length ≤ 1073741824) (hr : RdM w A l) (hA : A = none → c = 0) :
 Calls Tryz.prog 173 #[.slice A l.length c] w (ClonePost w A l) := by
 obtain ⟨i0, hi, hz0, hz1, hz2⟩ := info_parts Tryz.info_u64
 have HR := Lib.hid hr
 clear hr
 cases A with
 | none =>
   have hl : l = [] := by
    rcases Classical.em (l = []) with h | h
    ·exact h
    ·obtain ⟨ad, h, _⟩ := HR.out h; cases h
   subst hl
   obtain rfl := hA rfl
   have hnil := fun W => Lib.run_eql_slice_nil (P := Tryz.prog) W 106 146 none 0 0 0 0 Tryz.underlying106
   go_enter Tryz.func173, Tryz.ntmps173
   go_wp2_with fail
   go_ret
   exact ⟨_, rfl, fun _ => rfl, World.ownsRow_nil _ _ _ _, Below.refl _ _⟩
 | some ad =>
   have hnil := fun W => Lib.run_eql_slice_nil (P := Tryz.prog) W 106 146 (some ad) l.length c 0 0 Tryz.underlying106
   have hsrc : ∀ j u, (l.map U)[j]? = some u → (w.alloc (.cells #[] 146)).cell? (ad.add j) = some u := by
    intro j u hu
    have hpos : 0 < (l.map U).length := by
     rcases Nat.eq_zero_or_pos (l.map U).length with h | h
     ·rw [List.eq_nil_of_length_eq_zero h] at hu; simp at hu
     ·exact h
    obtain ⟨ad', h1, h2⟩ := HR.out.srcs (.alloc (Below.refl _ _) (Nat.le_refl _) (.cells #[] 146)) hpos
    have h3 : ad' = ad := (Option.some.inj h1).symm
    rw [← h3]
    exact h2 j u hu
   have HS := Lib.hid hsrc
   clear hsrc hA
   go_enter Tryz.func173, Tryz.ntmps173
   go_wp2_with (at_builtin; refine wpList_append_own _ rfl _ _ 106 rfl w.heap.size 146 i0 (.int .u64 0) 1 8 Tryz.underlying106 hi hz0 hz1 hz2 rfl (by decide) _ _ _ rfl (World.ownsRow_lit w #[] 0 (Nat.le_refl _) (by omega) rfl) ad l.length c (l.map U) rfl (by simp) HS.out (by simp [U, Value.oneCell']) (by unfold maxLen; omega) (by omega) (by simp) ?_; intro v' w1 hown hgrow _)
   go_ret
   refine ⟨v', rfl, (fun h => by cases h), by simpa using hown, ?_⟩
   exact ((Below.refl _ _).alloc (Nat.le_refl _) _).grown hgrow (by simp) (fun k hk => Nat.le_of_eq (Option.some.inj hk))
def MinusR (l m : List Nat) (k : Nat) (p : List Nat) (b : Nat) : Prop := p.length = k ∧ Dig p ∧ mval p + mval (m.take k) = mval (l.take k) + 1000000000 ^ k * b
theorem MinusR.step {l m : List Nat} {k b : Nat} {p : List Nat} (h : MinusR l m k p b) (c x : Nat) (hx : x < 1000000000) (hc : x + (b + gt m k) = gt l k + 1000000000 * c) :
 MinusR l m (k + 1) (p ++ [x]) c := by
 refine ⟨by simp [h.1], h.2.1.snoc hx, ?_⟩
 rw [mval_snoc, h.1, mval_take_succ', mval_take_succ']
 change _ + (mval (m.take k) + 1000000000 ^ k * gt m k) = mval (l.take k) + 1000000000 ^ k * gt l k + _
 have h3 := h.2.2
 have e := congrArg (1000000000 ^ k * ·) hc
 simp only [Nat.mul_add] at e
 rw [Nat.pow_succ, Nat.mul_assoc]; omega
theorem MinusR.done {l m : List Nat} {p : List Nat} {b : Nat} (h : MinusR l m l.length p b) (hlen : m.length ≤ l.length) (hle : mval m ≤ mval l) : mval p = mval l - mval m := by
 have h3 := h.2.2
 rw [List.take_of_length_le (Nat.le_refl _), List.take_of_length_le hlen] at h3
 have h4 := mval_lt h.2.1
 rw [h.1] at h4
 rcases Nat.eq_zero_or_pos b with h0 | h0
 ·subst h0; omega
 ·have : 1000000000 ^ l.length * 1 ≤ 1000000000 ^ l.length * b := Nat.mul_le_mul_left _ h0
  omega
def Diff (l m r : List Nat) : Prop := Dig r ∧ Norm r ∧ mval r = mval l - mval m
set_option maxHeartbeats 1000000 in
set_option maxRecDepth 100000 in
theorem minus_any (A A' : Option Addr) (l m : List Nat) (c c' : Nat) (w : World) (b1 : l.length ≤ 1073741824) (hlen : m.length ≤ l.length)
 (hl : Dig l) (hm : Dig m) (hle : mval m ≤ mval l) (hr : RdM w A l) (hr' : RdM w A' m) (hA : A = none → c = 0) :
 Calls Tryz.prog 131 #[.slice A l.length c, .slice A' m.length c'] w (MagPost w (Diff l m)) := by
 have HR := Lib.hid hr
 have HR' := Lib.hid hr'
 have HL := Lib.hid hl
 have HM := Lib.hid hm
 have HC := Lib.hid (cloneM_any A l c w b1 hr hA)
 clear hr hr' hl hm hA
 go_enter Tryz.func131, Tryz.ntmps131
 go_wp2_with fail
 refine HC.out.mono ?_
 rintro e w1 ⟨v, rfl, hv, hown, hb1⟩
 clear HC
 rcases Nat.eq_zero_or_pos l.length with hz | hz
 ·obtain rfl : l = [] := List.eq_nil_of_length_eq_zero hz
  obtain rfl : m = [] := List.eq_nil_of_length_eq_zero (by simpa using hlen)
  obtain ⟨A2, c2, rfl, hn2⟩ : ∃ A2 c2, v = .slice A2 0 c2 ∧ Hid (Fresh w A2 c2) := by
   rcases hown.2 with ⟨h', _⟩ | ⟨g', cap', cur, h', hg', _⟩
   ·exact ⟨_, _, h', fun _ => rfl, (fun ad h => by cases h)⟩
   ·exact ⟨_, _, h', Fresh.some_ hg'⟩
  clear hv hown
  have HB1 := Lib.hid hb1
  clear hb1
  go_wp2_with fail
  go_loopw [13] (fun i wr => i = .int .i64 0 ∧ Hid (wr = w1)) (fun _ _ => 0)
  case atStart => exact ⟨rfl, rfl⟩
  case round =>
   obtain ⟨rfl, HW⟩ := hrel
   obtain rfl := HW.out
   clear HW
   go_wp2_with fail
   refine (cut_any A2 [] c2 _ (by simp) (by simp) (RdM.nil _ _)).mono ?_
   rintro e w' ⟨rfl, rfl⟩
   go_wp2_with fail
   go_ret
   exact ⟨_, [], c2, rfl, by simp, ⟨Dig.nil, norm_nil, rfl⟩, hn2.out, RdM.nil _ _, HB1.out⟩
 obtain ⟨g, cap, sp, rfl, hg, hcap, hcm, hO1⟩ := OwnM.of_owns hown hz
 clear hown hv
 have hl0 := HL.out
 have hm0 := HM.out
 have hB1 := Lib.hid hb1
 clear hb1
 unfold maxLen at hcm
 go_wp2_with fail
 go_loopw [6, 13] (fun cy i wr => ∃ (k q : Nat) (p : List Nat), k ≤ l.length ∧ i = .int .i64 (k : Int) ∧ cy = .int .u64 (q : Int) ∧ q ≤ 1 ∧ MinusR l m k p q ∧ OwnM wr g (p ++ l.drop k) sp ∧ Below w.heap.size w wr) (fun _ i _ => l.length - (intOf i).toNat)
 case atStart => exact ⟨0, 0, [], Nat.zero_le _, rfl, rfl, by omega, ⟨rfl, Dig.nil, by simp [mval]⟩, by simpa using hO1, hB1.out⟩
 case round =>
  obtain ⟨k, q, p, hk, rfl, rfl, hq, hp, hO, hB⟩ := hrel
  have HP := Lib.hid hp
  have HO := Lib.hid hO
  have HBl := Lib.hid hB
  have hpl := hp.1
  by_cases hlt : k < l.length
  ·have hc := hO.cell (k := k) (by simp; omega)
   rw [gt_mid hpl] at hc
   have hf := hO.frozen k
   have d1 := hl0.get k
   change gt l k < _ at d1
   have d2 := hm0.get k
   change gt m k < _ at d2
   clear hp hO hB hpl
   by_cases hlm : k < m.length
   ·obtain ⟨ad, rfl, hab, hcell⟩ := HR'.out (by rintro rfl; simp at hlm)
    have hcm2 : wr.cell? (ad.add k) = some (.int .u64 (gt m k)) := (HBl.out.cell (by rw [add_block]; exact hab)).trans (hcell k hlm)
    clear hcell
    by_cases hs : gt l k < q + gt m k
    ·go_wp2_with fail
     have hst := HP.out.step 1 (gt l k + 1000000000 - (q + gt m k)) (by omega) (by omega)
     refine ⟨⟨k + 1, 1, p ++ [gt l k + 1000000000 - (q + gt m k)], by omega, by go_num, rfl, by omega, hst, ?_, ?_⟩, by simp [intOf]; omega⟩
     ·have h5 := (HO.out.set' (k := k) (z := (gt l k : Int) + 1000000000) (by have := HP.out.1; simp; omega) (gt l k + 1000000000) (by omega)).set' (k := k) (z := (gt l k : Int) + 1000000000 - ((q : Int) + (gt m k : Int))) (by have := HP.out.1; simp; omega) (gt l k + 1000000000 - (q + gt m k)) (by omega)
      rw [set_set, set_mid HP.out.1 hlt] at h5
      exact h5
     ·exact (HBl.out.setCell (p := ⟨g, k, none⟩) hg _).setCell (p := ⟨g, k, none⟩) hg _
    ·go_wp2_with fail
     have hst := HP.out.step 0 (gt l k - (q + gt m k)) (by omega) (by omega)
     refine ⟨⟨k + 1, 0, p ++ [gt l k - (q + gt m k)], by omega, by go_num, rfl, by omega, hst, ?_, ?_⟩, by simp [intOf]; omega⟩
     ·have h5 := HO.out.set' (k := k) (z := (gt l k : Int) - ((q : Int) + (gt m k : Int))) (by have := HP.out.1; simp; omega) (gt l k - (q + gt m k)) (by omega)
      rw [set_mid HP.out.1 hlt] at h5
      exact h5
     ·exact HBl.out.setCell (p := ⟨g, k, none⟩) hg _
   ·have d3 := gt_beyond (by omega : m.length ≤ k)
    have HD3 := Lib.hid d3
    clear d3 d2
    by_cases hs : gt l k < q
    ·go_wp2_with fail
     have hst := HP.out.step 1 (gt l k + 1000000000 - q) (by omega) (by rw [HD3.out]; omega)
     refine ⟨⟨k + 1, 1, p ++ [gt l k + 1000000000 - q], by omega, by go_num, rfl, by omega, hst, ?_, ?_⟩, by simp [intOf]; omega⟩
     ·have h5 := (HO.out.set' (k := k) (z := (gt l k : Int) + 1000000000) (by have := HP.out.1; simp; omega) (gt l k + 1000000000) (by omega)).set' (k := k) (z := (gt l k : Int) + 1000000000 - (q : Int)) (by have := HP.out.1; simp; omega) (gt l k + 1000000000 - q) (by omega)
      rw [set_set, set_mid HP.out.1 hlt] at h5
      exact h5
     ·exact (HBl.out.setCell (p := ⟨g, k, none⟩) hg _).setCell (p := ⟨g, k, none⟩) hg _
    ·go_wp2_with fail
     have hst := HP.out.step 0 (gt l k - q) (by omega) (by rw [HD3.out]; omega)
     refine ⟨⟨k + 1, 0, p ++ [gt l k - q], by omega, by go_num, rfl, by omega, hst, ?_, ?_⟩, by simp [intOf]; omega⟩
     ·have h5 := HO.out.set' (k := k) (z := (gt l k : Int) - (q : Int)) (by have := HP.out.1; simp; omega) (gt l k - q) (by omega)
      rw [set_mid HP.out.1 hlt] at h5
      exact h5
     ·exact HBl.out.setCell (p := ⟨g, k, none⟩) hg _
  ·obtain rfl : k = l.length := by omega
   have hO' : OwnM wr g p sp := by simpa using hO
   have HO' := Lib.hid hO'
   clear hp hO hB hpl hO'
   go_wp2_with fail
   have hc2 := cut_any (some ⟨g, 0, none⟩) p cap wr (by rw [HP.out.1]; omega) (by rw [HP.out.1]; omega) HO'.out.rd
   rw [HP.out.1] at hc2
   refine hc2.mono ?_
   rintro e w' ⟨rfl, rfl⟩
   clear hc2
   go_wp2_with fail
   go_ret
   refine ⟨_, cutz p, cap, rfl, by have := cutz_length_le p; have := HP.out.1; omega, ⟨HP.out.2.1.cutz, norm_cutz p, ?_⟩, Fresh.some_ hg, ?_, HBl.out⟩
   ·rw [mval_cutz]; exact HP.out.done hlen hle
   ·rw [cutz_prefix]; exact HO'.out.rd.take _
end Go.Proofs.YtdnmpgoigagjmaaGreatDoor
namespace Go.Proofs.YtdnmpgoigagjmaaGreatDoor
open Go.RowKit Tr
theorem mval_set (o : List Nat) (j v : Nat) (h : j < o.length) : mval (o.set j v) + 1000000000 ^ j * gt o j = mval o + 1000000000 ^ j * v := by
 have e := split_at o j h
 have e2 : o.set j v = o.take j ++ v :: o.drop (j + 1) := by
  conv => lhs; rw [e]
  rw [set_append_mid _ _ _ _ _ (by simp; omega)]
 have e3 : mval o = mval (o.take j) + 1000000000 ^ j * (gt o j + 1000000000 * mval (o.drop (j + 1))) := by
  conv => lhs; rw [e]
  rw [mval_append, List.length_take_of_le (by omega)]; rfl
 rw [e2, mval_append, List.length_take_of_le (by omega), mval_cons, e3, Nat.mul_add, Nat.mul_add]; omega
theorem gt_set_other {l : List Nat} {k j x : Nat} (h : j ≠ k) : gt (l.set k x) j = gt l j := by
 unfold gt
 rw [List.getD_eq_getElem?_getD, List.getD_eq_getElem?_getD, List.getElem?_set_ne (by omega)]
theorem gt_zero_of_lt {o : List Nat} {j : Nat} (h : mval o < 1000000000 ^ j) : gt o j = 0 := by
 rcases Nat.lt_or_ge j o.length with hj | hj
 ·rcases Nat.eq_zero_or_pos (gt o j) with h0 | h0
  ·exact h0
  ·exfalso
   have e3 : mval o = mval (o.take j) + 1000000000 ^ j * (gt o j + 1000000000 * mval (o.drop (j + 1))) := by
    conv => lhs; rw [split_at o j hj]
    rw [mval_append, List.length_take_of_le (by omega)]; rfl
   have : 1000000000 ^ j * 1 ≤ 1000000000 ^ j * (gt o j + 1000000000 * mval (o.drop (j + 1))) := Nat.mul_le_mul_left _ (by omega)
   omega
 ·exact getD_ge hj
def RowR (l n : List Nat) (i : Nat) (o : List Nat) : Prop := o.length = l.length + n.length ∧ Dig o ∧ mval o = mval (l.take i) * mval n
def ColR (n o0 : List Nat) (i x k : Nat) (o : List Nat) (q : Nat) : Prop :=
 o.length = o0.length ∧ Dig o ∧ mval o + 1000000000 ^ (i + k) * q = mval o0 + 1000000000 ^ i * (x * mval (n.take k)) ∧ (∀ j, i + k ≤ j → gt o j = gt o0 j) ∧ (k = 0 → q = 0)
theorem ColR.start {n o : List Nat} {i x : Nat} (h : Dig o) : ColR n o i x 0 o 0 := ⟨rfl, h, by simp [mval], fun _ _ => rfl, fun _ => rfl⟩
theorem ColR.step {n o0 o : List Nat} {i x k q : Nat} (h : ColR n o0 i x k o q) (hj : i + k < o.length) (hx : x < 1000000000) (hy : gt n k < 1000000000) (hq : q < 1000000000) :
 (q + (gt o (i + k) + x * gt n k)) / 1000000000 < 1000000000 ∧ ColR n o0 i x (k + 1) (o.set (i + k) ((q + (gt o (i + k) + x * gt n k)) % 1000000000)) ((q + (gt o (i + k) + x * gt n k)) / 1000000000) := by
 obtain ⟨h1, h2, h3, h4, _⟩ := h
 have hg := h2.get (i + k)
 change gt o (i + k) < _ at hg
 have hxy : x * gt n k ≤ 999999999 * 999999999 := Nat.mul_le_mul (by omega) (by omega)
 refine ⟨by omega, by simp [h1], h2.set _ _ (Nat.mod_lt _ (by omega)), ?_, fun j hj2 => ?_, fun e => by omega⟩
 ·have hs := mval_set o (i + k) ((q + (gt o (i + k) + x * gt n k)) % 1000000000) hj
  rw [mval_take_succ']
  change _ = mval o0 + 1000000000 ^ i * (x * (mval (n.take k) + 1000000000 ^ k * gt n k))
  generalize hT : q + (gt o (i + k) + x * gt n k) = T at hs ⊢
  have e1 : 1000000000 ^ (i + k) * (T % 1000000000) + 1000000000 ^ (i + (k + 1)) * (T / 1000000000) = 1000000000 ^ (i + k) * T := by
   rw [← Nat.add_assoc, Nat.pow_succ, Nat.mul_assoc, ← Nat.mul_add]; congr 1; omega
  have e2 : 1000000000 ^ (i + k) * T = 1000000000 ^ (i + k) * q + (1000000000 ^ (i + k) * gt o (i + k) + 1000000000 ^ (i + k) * (x * gt n k)) := by
   rw [← hT, Nat.mul_add, Nat.mul_add]
  have e3 : 1000000000 ^ i * (x * (mval (n.take k) + 1000000000 ^ k * gt n k)) = 1000000000 ^ i * (x * mval (n.take k)) + 1000000000 ^ (i + k) * (x * gt n k) := by
   rw [Nat.mul_add, Nat.mul_add, Nat.pow_add, Nat.mul_assoc, Nat.mul_left_comm x]
  rw [e3]
  omega
 ·rw [gt_set_other (by omega)]; exact h4 j (by omega)
theorem ColR.done {l n o0 o : List Nat} {i q : Nat} (h0 : RowR l n i o0) (h : ColR n o0 i (gt l i) n.length o q) (hi : i < l.length) (hl : Dig l) (hn : Dig n) (hq : q < 1000000000) :
 gt o (i + n.length) = 0 ∧ (0 < n.length → RowR l n (i + 1) (o.set (i + n.length) q)) ∧ (n.length = 0 → RowR l n (i + 1) o) := by
 obtain ⟨a1, a2, a3⟩ := h0
 obtain ⟨b1, b2, b3, b4, b5⟩ := h
 rw [List.take_of_length_le (Nat.le_refl _)] at b3
 have hv : mval (l.take (i + 1)) * mval n = mval (l.take i) * mval n + 1000000000 ^ i * (gt l i * mval n) := by
  rw [mval_take_succ']
  change (mval (l.take i) + 1000000000 ^ i * gt l i) * mval n = _
  rw [Nat.add_mul, Nat.mul_assoc]
 have hlt : mval o0 < 1000000000 ^ (i + n.length) := by
  have e1 := mval_lt (hl.take i)
  rw [List.length_take_of_le (by omega)] at e1
  have e2 := mval_lt hn
  rw [a3, Nat.pow_add]
  rcases Nat.eq_zero_or_pos (mval n) with hz | hz
  ·rw [hz, Nat.mul_zero]; exact Nat.mul_pos (Nat.pow_pos (by omega)) (Nat.pow_pos (by omega))
  ·exact Nat.mul_lt_mul_of_lt_of_le' e1 (Nat.le_of_lt e2) hz
 have hz0 : gt o (i + n.length) = 0 := by rw [b4 _ (Nat.le_refl _)]; exact gt_zero_of_lt hlt
 refine ⟨hz0, fun hpos => ⟨by simp [b1, a1], b2.set _ _ hq, ?_⟩, fun hz => ?_⟩
 ·have hs := mval_set o (i + n.length) q (by rw [b1, a1]; omega)
  rw [hz0, Nat.mul_zero, Nat.add_zero] at hs
  rw [hs, b3, a3, hv]
 ·have hn0 : n = [] := List.eq_nil_of_length_eq_zero hz
  subst hn0
  refine ⟨by rw [b1, a1], b2, ?_⟩
  have hq0 := b5 rfl
  have e0 : mval [] = 0 := rfl
  rw [hq0, e0] at b3
  rw [e0] at a3 ⊢
  simp only [Nat.mul_zero, Nat.add_zero] at *
  omega
def Prod (l m r : List Nat) : Prop := Dig r ∧ Norm r ∧ mval r = mval l * mval m
set_option maxHeartbeats 2000000 in
set_option maxRecDepth 100000 in
theorem times_any (A A' : Option Addr) (l n : List Nat) (c c' : Nat) (w : World) (b1 : l.length ≤ 536870912) (b2 : n.length ≤ 536870912)
 (hl : Dig l) (hn : Dig n) (hr : RdM w A l) (hr' : RdM w A' n) :
 Calls Tryz.prog 104 #[.slice A l.length c, .slice A' n.length c'] w (OwnPost w (Prod l n)) := by
 have HR := Lib.hid hr
 have HR' := Lib.hid hr'
 have HL := Lib.hid hl
 have HN := Lib.hid hn
 have hmk := fun W => make_run ((l.length : Int) + (n.length : Int)) ((l.length : Int) + (n.length : Int)) (l.length + n.length) (l.length + n.length) (by omega) (by omega) (by omega) (by omega) W
 clear hr hr' hl hn
 go_enter Tryz.func104, Tryz.ntmps104
 go_wp2_with fail
 clear hmk
 have hl0 := HL.out
 have hn0 := HN.out
 have hO0 : OwnM (w.alloc (.cells (zrow (l.length + n.length)) 146)) w.heap.size (List.replicate (l.length + n.length) 0) [] := by
  have := OwnM.made w (l.length + n.length) (l.length + n.length) (Nat.le_refl _)
  simpa using this
 have hB0 : Below w.heap.size w (w.alloc (.cells (zrow (l.length + n.length)) 146)) := (Below.refl _ _).alloc (Nat.le_refl _) _
 generalize w.alloc (.cells (zrow (l.length + n.length)) 146) = w1 at hO0 hB0 ⊢
 go_loopw [19] (fun i wr => ∃ (k : Nat) (o : List Nat), k ≤ l.length ∧ i = .int .i64 (k : Int) ∧ RowR l n k o ∧ OwnM wr w.heap.size o [] ∧ Below w.heap.size w wr) (fun i _ => l.length - (intOf i).toNat)
 case atStart => exact ⟨0, _, Nat.zero_le _, rfl, ⟨by simp, Dig.replicate _, by simp [mval_replicate_zero, mval]⟩, hO0, hB0⟩
 case round =>
  obtain ⟨i, o0, hi, rfl, hRow, hO, hB⟩ := hrel
  have HRow := Lib.hid hRow
  have HO := Lib.hid hO
  have HB := Lib.hid hB
  have hol := hRow.1
  clear hRow hO hB hO0 hB0
  by_cases hlt : i < l.length
  ·obtain ⟨ad, rfl, hab, hcell⟩ := HR.out (by rintro rfl; simp at hlt)
   have hci : wr.cell? (ad.add i) = some (.int .u64 (gt l i)) := (HB.out.cell (by rw [add_block]; exact hab)).trans (hcell i hlt)
   have d1 := hl0.get i
   change gt l i < _ at d1
   clear hcell
   go_wp2_with fail
   clear hci
   obtain ⟨wo, rfl⟩ : ∃ wo : World, wo = wr := ⟨_, rfl⟩
   go_loopw [8, 26] (fun cy kk wq => ∃ (k q : Nat) (o : List Nat), k ≤ n.length ∧ kk = .int .i64 (k : Int) ∧ cy = .int .u64 (q : Int) ∧ q < 1000000000 ∧ ColR n o0 i (gt l i) k o q ∧ OwnM wq w.heap.size o [] ∧ Below w.heap.size w wq) (fun _ kk _ => n.length - (intOf kk).toNat)
   case atStart => exact ⟨0, 0, o0, Nat.zero_le _, rfl, rfl, by omega, ColR.start HRow.out.2.1, HO.out, HB.out⟩
   case round =>
    obtain ⟨k, q, o, hk, rfl, rfl, hq, hCol, hO2, hB2⟩ := hrel
    have HCol := Lib.hid hCol
    have HO2 := Lib.hid hO2
    have HB2 := Lib.hid hB2
    have hol2 := hCol.1.trans hol
    by_cases hlk : k < n.length
    ·obtain ⟨ad', rfl, hab', hcell'⟩ := HR'.out (by rintro rfl; simp at hlk)
     have hck : wr.cell? (ad'.add k) = some (.int .u64 (gt n k)) := (hB2.cell (by rw [add_block]; exact hab')).trans (hcell' k hlk)
     have d2 := hn0.get k
     change gt n k < _ at d2
     have hco := hO2.cell (k := i + k) (by omega)
     have hfo := hO2.frozen (i + k)
     have d3 := hCol.2.1.get (i + k)
     change gt o (i + k) < _ at d3
     have d4 : gt l i * gt n k ≤ 999999999 * 999999999 := Nat.mul_le_mul (by omega) (by omega)
     have HOL := Lib.hid hol2
     have hol3 : i + k < o.length := by omega
     clear hcell' hCol hO2 hB2 hol2
     go_wp2_with fail
     have hst := HCol.out.step hol3 d1 d2 hq
     refine ⟨⟨k + 1, (q + (gt o (i + k) + gt l i * gt n k)) / 1000000000, o.set (i + k) ((q + (gt o (i + k) + gt l i * gt n k)) % 1000000000), by omega, by go_num, ?_, hst.1, hst.2, ?_, ?_⟩, by simp [intOf]; omega⟩
     ·congr 1
     ·exact HO2.out.set' hol3 _ (by omega)
     ·exact HB2.out.setCell (p := ⟨w.heap.size, i + k, none⟩) (Nat.le_refl _) _
    ·obtain rfl : k = n.length := by omega
     have hd := ColR.done HRow.out hCol hlt hl0 hn0 hq
     have HD := Lib.hid hd
     have HOL := Lib.hid hol2
     rcases Nat.eq_zero_or_pos n.length with hz | hz
     ·have HZ := Lib.hid hz
      have hz0 : decide ((0 : Int) < (n.length : Int)) = false := by simp only [decide_eq_false_iff_not]; omega
      have hz1 : n.length ≤ 0 := by omega
      clear hCol hO2 hB2 hol2 hd hz
      go_wp2_with fail
      refine ⟨⟨i + 1, o, by omega, by go_num, HD.out.2.2 HZ.out, HO2.out, HB2.out⟩, by simp [intOf]; omega⟩
     ·have hco := hO2.cell (k := i + n.length) (by omega)
      rw [hd.1] at hco
      have hfo := hO2.frozen (i + n.length)
      have hol3 : i + n.length < o.length := by omega
      clear hCol hO2 hB2 hol2 hd
      go_wp2_with fail
      refine ⟨⟨i + 1, o.set (i + n.length) q, by omega, by go_num, HD.out.2.1 hz, ?_, ?_⟩, by simp [intOf]; omega⟩
      ·exact HO2.out.set' hol3 _ (by simp)
      ·exact HB2.out.setCell (p := ⟨w.heap.size, i + n.length, none⟩) (Nat.le_refl _) _
  ·obtain rfl : i = l.length := by omega
   go_wp2_with fail
   have hc2 := cut_any (some ⟨w.heap.size, 0, none⟩) o0 (l.length + n.length) wr (by omega) (by omega) HO.out.rd
   rw [hol] at hc2
   refine hc2.mono ?_
   rintro e w' ⟨rfl, rfl⟩
   clear hc2
   go_wp2_with fail
   go_ret
   obtain ⟨z, hz⟩ := (cutz_spec _ o0 rfl).2.2
   have hzl : o0.length = (cutz o0).length + z := by
    have := congrArg List.length hz
    simpa using this
   refine ⟨w.heap.size, cutz o0, (List.replicate z 0).map U, ?_, by simp; omega, ⟨HRow.out.2.1.cutz, norm_cutz o0, ?_⟩, ?_, Nat.le_refl _, HB.out⟩
   ·have : l.length + n.length = (cutz o0).length + ((List.replicate z 0).map U).length := by simp; omega
    rw [← this]; rfl
   ·rw [mval_cutz, HRow.out.2.2, List.take_of_length_le (Nat.le_refl _)]
   ·have h := HO.out
    unfold OwnM at h ⊢
    rw [h]
    conv => lhs; rw [hz]
    simp
end Go.Proofs.YtdnmpgoigagjmaaGreatDoor
