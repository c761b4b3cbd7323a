/-
  The walks of trancheref02.Long, tranchelaw11.long over fractions in memory; two boxes of fractions swapped; what is left, summed up.
  Signs and sizes of interest, coupons, present values.
  Sizes of flows and coupons.
-/
import Derived.Test.YteennkgpeiafaaaGreatDoorE36
set_option linter.unusedVariables false
set_option linter.unusedSimpArgs false
set_option maxHeartbeats 16000000
set_option maxRecDepth 100000
namespace Go.Proofs.YteennkgpeiafaaaGreatDoor
open Go.RowKit Tr Go.Shelf
def fcV (l : List (ByteArray × ByteArray)) : List Value := l.flatMap fun f => [.string f.1, .string f.2]
theorem fcV_get : ∀ (l : List (ByteArray × ByteArray)) (j : Nat) (q : ByteArray × ByteArray), l[j]? = some q → (fcV l)[j * 2]? = some (.string q.1) ∧ (fcV l)[j * 2 + 1]? = some (.string q.2)
 | [], j, p, h => by simp at h
 | x :: r, 0, p, h => by
   simp at h; subst h
   simp [fcV]
 | x :: r, j + 1, p, h => by
   simp at h
   have := fcV_get r j p h
   simp only [fcV, List.flatMap_cons] at this ⊢
   rw [show (j + 1) * 2 = j * 2 + 2 from by omega]
   simpa using this
theorem add_cells {b n : Nat} {ad : Addr} (had : ad = ⟨b, 0, none⟩) : ad.add n = ⟨b, n, none⟩ := by
 rw [had, add_noneF _ rfl]; simp
open Classical in
noncomputable def propB (P : Prop) : Bool := decide P
theorem propB_iff {P : Prop} : propB P = true ↔ P := by unfold propB; simp
theorem propB_no {P : Prop} (h : ¬ P) : propB P = false := by unfold propB; simp [h]
def Short13 (l : List (ByteArray × ByteArray)) : Prop := ∀ q ∈ l, q.1.size ≤ 13 ∧ q.2.size ≤ 13
theorem rfLong_ex (l : List (ByteArray × ByteArray)) (N b : Nat) (hN : l.length = N) (hm : N ≤ 1000000) (w : World) (hk : w.heap[b]? = some (.cells (fcV l).toArray 25 (0, 0))) :
 Calls Tryz.prog 56 #[.slice (some ⟨b, 0, none⟩) N N] w fun e w' => e = .returned (.bool (!propB (Short13 l))) ∧ w = w' := by
 obtain ⟨ad, had⟩ : ∃ ad : Addr, ad = ⟨b, 0, none⟩ := ⟨_, rfl⟩
 rw [← had]
 have HC : Hid (∀ (k : Nat) (q : ByteArray × ByteArray), l[k]? = some q → w.cell? (ad.add (k * 2)) = some (.string q.1) ∧ w.cell? ⟨(ad.add (k * 2)).block, (ad.add (k * 2)).off + 1, none⟩ = some (.string q.2)) := fun k q hq => by
  rw [add_cells had]
  obtain ⟨e0, e1⟩ := fcV_get l k q hq
  refine ⟨?_, ?_⟩
  ·rw [Lib.cell_of_heap hk (k * 2), List.getElem?_toArray]; exact e0
  ·show w.cell? ⟨b, k * 2 + 1, none⟩ = _
   rw [Lib.cell_of_heap hk (k * 2 + 1), List.getElem?_toArray]; exact e1
 have HN := hI hN
 clear hk had hN
 go_enter Tryz.func56, Tryz.ntmps56
 go_wp2_with fail
 go_loop [3] (fun v => ∃ k : Nat, v = .int .i64 (k : Int) ∧ k ≤ N ∧ Short13 (l.take k)) (fun v => N - (intOf v).toNat)
 case atStart => exact ⟨0, rfl, by omega, fun q hq => by simp at hq⟩
 case round =>
  obtain ⟨k, rfl, hk, hs⟩ := hrel
  have HS := hI hs
  clear hs
  rcases Nat.lt_or_ge k N with hlt | hge
  ·obtain ⟨⟨x, y⟩, hq⟩ : ∃ q, l[k]? = some q := ⟨_, List.getElem?_eq_getElem (by rw [HN.out]; exact hlt)⟩
   obtain ⟨c0, c1⟩ := HC.out k _ hq
   simp only at c0 c1
   have HTK := hI (take_snocF hq)
   have HMM := hI (List.mem_of_getElem? hq)
   have hcx : decide ((k : Int) < (N : Int)) = true := by simp; omega
   have hki : (k : Int) < (N : Int) := by omega
   clear hq
   by_cases h1 : 13 < x.size
   ·have t1 : decide ((13 : Int) < (x.size : Int)) = true := decide_eq_true (by omega)
    have HNS : Hid (propB (Short13 l) = false) := propB_no (fun h => by have := (h _ HMM.out).1; simp only at this; omega)
    clear h1
    go_wp2_with fail
    go_ret
    exact ⟨by rw [HNS.out]; rfl, rfl⟩
   have t1 : decide ((13 : Int) < (x.size : Int)) = false := decide_eq_false (by omega)
   by_cases h2 : 13 < y.size
   ·have t2 : decide ((13 : Int) < (y.size : Int)) = true := decide_eq_true (by omega)
    have HNS : Hid (propB (Short13 l) = false) := propB_no (fun h => by have := (h _ HMM.out).2; simp only at this; omega)
    clear h1 h2
    go_wp2_with fail
    go_ret
    exact ⟨by rw [HNS.out]; rfl, rfl⟩
   have t2 : decide ((13 : Int) < (y.size : Int)) = false := decide_eq_false (by omega)
   have HXY : Hid (x.size ≤ 13 ∧ y.size ≤ 13) := ⟨by omega, by omega⟩
   clear h1 h2
   go_wp2_with fail
   refine ⟨⟨k + 1, by go_num, by omega, fun q hq => ?_⟩, by simp [intOf]; omega⟩
   rw [HTK.out, List.mem_append, List.mem_singleton] at hq
   rcases hq with hq | rfl
   ·exact HS.out q hq
   ·exact HXY.out
  ·have hcx : decide ((k : Int) < (N : Int)) = false := by simp; omega
   have hcx2 : decide (k < N) = false := decide_eq_false (by omega)
   have HYS : Hid (propB (Short13 l) = true) := propB_iff.2 (fun q hq => HS.out q (by rw [List.take_of_length_le (by rw [HN.out]; exact hge)]; exact hq))
   go_wp2_with fail
   go_ret
   exact ⟨by rw [HYS.out]; rfl, rfl⟩
theorem long11_ex (l : List (ByteArray × ByteArray)) (N b : Nat) (hN : l.length = N) (hm : N ≤ 1000000) (w : World) (hk : w.heap[b]? = some (.cells (fcV l).toArray 25 (0, 0))) :
 Calls Tryz.prog 11 #[.slice (some ⟨b, 0, none⟩) N N] w fun e w' => e = .returned (.bool (!propB (Short13 l))) ∧ w = w' := by
 have HR := hI (rfLong_ex l N b hN hm w hk)
 clear hk
 go_enter Tryz.func11, Tryz.ntmps11
 go_wp2_with fail
 refine HR.out.mono ?_
 rintro e w1 ⟨rfl, rfl⟩
 go_wp2_with fail
 go_ret
 exact ⟨rfl, rfl⟩
theorem run_neq_self (a b : ByteArray) (w : World) : (binOp .neq 25 (.agg #[.string a, .string b]) (.agg #[.string a, .string b])).run Tryz.prog w = .ok (.bool false) w := by
 rw [run_neq_frac]; simp
theorem rsum_take {l : List Rat} {k : Nat} {x : Rat} (h : l[k]? = some x) : rsum (l.take (k + 1)) = rsum (l.take k) + x := by
 rw [take_snocF h, rsum_append]
 have : rsum [x] = x := by rw [rsum_cons]; exact Rat.add_zero x
 rw [this]
theorem rsum_bd : ∀ (l : List Rat) (B : Nat), (∀ x ∈ l, BdQ x B) → BdQ (rsum l) ((B + 1) * l.length + 1)
 | [], B, _ => BdQ.zero (by omega)
 | x :: r, B, h => by
   have ih := rsum_bd r B fun y hy => h y (List.mem_cons_of_mem _ hy)
   rw [rsum_cons, List.length_cons]
   refine (BdQ.add (h x (List.mem_cons_self ..)) ih).mono ?_
   rw [Nat.mul_add, Nat.mul_one]
   omega
theorem num_nn {q : Rat} (h : 0 ≤ q) : 0 ≤ cmpI q.num 0 := by
 have := (cmpz q).2.2
 refine Int.not_lt.1 fun k => ?_
 exact absurd (this.1 k) (Rat.not_lt.2 h)
theorem coupQ_bd {i : Inst} (h : BdI i) {k : Nat} (hk : k < (perL i).length) : BdQ (coupQ i k) 59 := by
 obtain ⟨p, hp⟩ : ∃ p, (perL i)[k]? = some p := ⟨_, List.getElem?_eq_getElem hk⟩
 have ho := h.per (List.mem_of_getElem? hp)
 rw [coupQ_eq hp]
 exact intQ_bd h ho.1 ho.2
theorem cmp_ge {p q : Rat} (h : q ≤ p) : 0 ≤ cmpI (p - q).num 0 := num_nn (by grind)
theorem presQ_bd {i : Inst} (h : BdI i) (hc : (perL i).length ≤ 15) {d : Int} (h1 : i.issued ≤ d) (h2 : d ≤ i.matures) {y : Rat} (hb : BdQ y 60) (hy : 0 < 1 + y) : BdQ (if d = i.matures then 0 else presQ i d y) 3000 := by
 by_cases hd : d = i.matures
 ·rw [if_pos hd]; exact BdQ.zero (by omega)
 rw [if_neg hd]
 obtain ⟨k, p, hk, hp, hp1, hp2⟩ := at_life (i := i) h1 (by omega)
 have hkl := (List.getElem?_eq_some_iff.1 hp).1
 have hin := per_in h hp
 have ho := h.per (List.mem_of_getElem? hp)
 obtain ⟨⟨a0, a1⟩, ⟨b0, b1⟩⟩ := ho
 obtain ⟨t0, t1⟩ := left_ok h hp hp1 hp2
 have hg : BdQ (1 + y) 70 := (BdQ.add (BdQ.int (z := 1) (k := 1) (by decide) (by omega)) hb).mono (by omega)
 have hlq : BdQ (Rat.divInt (p.2 - d) (p.2 - p.1)) 6 := BdQ.divInt (by omega) (by omega) (by omega)
 have hbb : BdQ (1 + y * Rat.divInt (p.2 - d) (p.2 - p.1)) 70 := (BdQ.add (BdQ.int (z := 1) (k := 1) (by decide) (by omega)) (BdQ.mul hb hlq)).mono (by omega)
 have hb0 : 1 + y * Rat.divInt (p.2 - d) (p.2 - p.1) ≠ 0 := by have := by_pos hy t0 t1; grind
 have hx := amt_at hkl
 rw [presQ_some hk hp hx]
 refine (BdQ.quo (BdQ.add (pv_bd hg (by grind) ((amtL i).drop (k + 1)) (fun x hx => amt_bd h (List.mem_of_mem_drop hx))) (amt_bd h (List.mem_of_getElem? hx))) hbb hb0).mono ?_
 rw [List.length_drop, amtL_len]
 omega
theorem flows_bd {i : Inst} (h : BdI i) : ∀ x ∈ (flowsL i).map Prod.snd, BdQ x 80 := by
 intro x hx
 obtain ⟨f, hf, rfl⟩ := List.mem_map.1 hx
 exact amt_bd h (flows_mem hf).2.1
theorem coups_bd {i : Inst} (h : BdI i) : ∀ x ∈ (List.range (perL i).length).map (coupQ i), BdQ x 59 := by
 intro x hx
 obtain ⟨k, hk, rfl⟩ := List.mem_map.1 hx
 exact coupQ_bd h (List.mem_range.1 hk)
end Go.Proofs.YteennkgpeiafaaaGreatDoor
