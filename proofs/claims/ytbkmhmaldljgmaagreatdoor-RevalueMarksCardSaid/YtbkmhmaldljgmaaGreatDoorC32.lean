/-
  Plain: the changes of measures, applied.
-/
import Derived.Test.YtbkmhmaldljgmaaGreatDoorC31
set_option linter.unusedVariables false
set_option linter.unusedSimpArgs false
set_option maxHeartbeats 16000000
set_option maxRecDepth 100000
namespace Go.Proofs.YtbkmhmaldljgmaaGreatDoor
open Go.RowKit Tr Go.Shelf
theorem I_nil {z : Int} (h : I z = ⟨#[]⟩) : z = 0 := by
 have h1 := vl_I z
 rw [h] at h1
 rw [← h1]; decide
theorem isS_false {c : ByteArray} (h : isS c = false) : c = ⟨#[]⟩ := by unfold isS at h; simpa using h
theorem isS_true {c : ByteArray} (h : isS c = true) : c ≠ ⟨#[]⟩ := by unfold isS at h; simpa using h
theorem list3 {α : Type} {l : List α} (h : l.length = 3) : ∃ x y z, l = [x, y, z] := by
 match l, h with
 | [x, y, z], _ => exact ⟨x, y, z, rfl⟩
theorem chosen3 (b a : List ByteArray) : chosen b a 3 = (if isS (chK b a 0) = true then [(17, chK b a 0)] else []) ++ (if isS (chK b a 1) = true then [(18, chK b a 1)] else []) ++ (if isS (chK b a 2) = true then [(19, chK b a 2)] else []) := by
 unfold chosen
 simp [List.range_succ]
theorem stA_at (P : List ByteArray) (k : Nat) (kd : Int) (h : kd = 17 + (k : Int)) (c : ByteArray) : stA P (kd, c) = P.set k (I (vl (P.getD k ⟨#[]⟩) + vl c)) := by
 unfold stA
 simp only
 rw [show (kd - 17).toNat = k from by omega]
theorem chg {x y : ByteArray} (hx : Can x) (hy : Can y) : (if isS (I (vl y - vl x)) = true then I (vl x + vl (I (vl y - vl x))) else x) = y := by
 cases h : isS (I (vl y - vl x)) with
 | true =>
   rw [if_pos rfl, vl_I, show vl x + (vl y - vl x) = vl y from by omega]
   exact hy
 | false =>
   rw [if_neg (fun h => Bool.false_ne_true h)]
   have h0 := I_nil (isS_false h)
   have e : vl x = vl y := by omega
   have h1 : I (vl x) = x := hx
   have h2 : I (vl y) = y := hy
   rw [← h1, e, h2]
theorem applN_chosen {b a : List ByteArray} (hb : threeS b = true) (ha : threeS a = true) : applN b (chosen b a 3) (chosen b a 3).length = a := by
 obtain ⟨hb3, hbc⟩ := three_can hb
 obtain ⟨ha3, hac⟩ := three_can ha
 obtain ⟨b0, b1, b2, rfl⟩ := list3 hb3
 obtain ⟨a0, a1, a2, rfl⟩ := list3 ha3
 have e0 : chK [b0, b1, b2] [a0, a1, a2] 0 = I (vl a0 - vl b0) := rfl
 have e1 : chK [b0, b1, b2] [a0, a1, a2] 1 = I (vl a1 - vl b1) := rfl
 have e2 : chK [b0, b1, b2] [a0, a1, a2] 2 = I (vl a2 - vl b2) := rfl
 have g0 := chg (hbc b0 (by simp)) (hac a0 (by simp))
 have g1 := chg (hbc b1 (by simp)) (hac a1 (by simp))
 have g2 := chg (hbc b2 (by simp)) (hac a2 (by simp))
 unfold applN
 rw [List.take_length, chosen3, e0, e1, e2, List.foldl_append, List.foldl_append]
 have f0 : ∀ P : List ByteArray, P.getD 0 ⟨#[]⟩ = b0 → List.foldl stA P (if isS (I (vl a0 - vl b0)) = true then [(17, I (vl a0 - vl b0))] else []) = if isS (I (vl a0 - vl b0)) = true then P.set 0 (I (vl b0 + vl (I (vl a0 - vl b0)))) else P := fun P hP => by
  split
  ·rw [List.foldl_cons, List.foldl_nil, stA_at _ 0 17 rfl, hP]
  ·rfl
 have f1 : ∀ P : List ByteArray, P.getD 1 ⟨#[]⟩ = b1 → List.foldl stA P (if isS (I (vl a1 - vl b1)) = true then [(18, I (vl a1 - vl b1))] else []) = if isS (I (vl a1 - vl b1)) = true then P.set 1 (I (vl b1 + vl (I (vl a1 - vl b1)))) else P := fun P hP => by
  split
  ·rw [List.foldl_cons, List.foldl_nil, stA_at _ 1 18 rfl, hP]
  ·rfl
 have f2 : ∀ P : List ByteArray, P.getD 2 ⟨#[]⟩ = b2 → List.foldl stA P (if isS (I (vl a2 - vl b2)) = true then [(19, I (vl a2 - vl b2))] else []) = if isS (I (vl a2 - vl b2)) = true then P.set 2 (I (vl b2 + vl (I (vl a2 - vl b2)))) else P := fun P hP => by
  split
  ·rw [List.foldl_cons, List.foldl_nil, stA_at _ 2 19 rfl, hP]
  ·rfl
 rw [f0 _ rfl]
 generalize isS (I (vl a0 - vl b0)) = t0 at *
 generalize isS (I (vl a1 - vl b1)) = t1 at *
 generalize isS (I (vl a2 - vl b2)) = t2 at *
 generalize I (vl b0 + vl (I (vl a0 - vl b0))) = r0 at *
 generalize I (vl b1 + vl (I (vl a1 - vl b1))) = r1 at *
 generalize I (vl b2 + vl (I (vl a2 - vl b2))) = r2 at *
 subst g0 g1 g2
 cases t0 <;> cases t1 <;> cases t2 <;> (rw [f1 _ rfl, f2 _ rfl]; rfl)
theorem chosen_ok {b a : List ByteArray} (hb : ∀ x ∈ b, x.size ≤ 13) (ha : ∀ x ∈ a, x.size ≤ 13) : MOk (chosen b a 3) := by
 have hz : ∀ k, (chK b a k).size ≤ 1000 := fun k => by
  unfold chK
  refine Nat.le_trans (I_size_le (k := 14) ?_) (by omega)
  have hx : (at3 b k).size ≤ 13 := by
   unfold at3; rw [List.getD_eq_getElem?_getD]
   cases h : b[k]? with
   | none => exact Nat.zero_le _
   | some x => exact hb x (List.mem_of_getElem? h)
  have hy : (at3 a k).size ≤ 13 := by
   unfold at3; rw [List.getD_eq_getElem?_getD]
   cases h : a[k]? with
   | none => exact Nat.zero_le _
   | some x => exact ha x (List.mem_of_getElem? h)
  have h1 := vl_lt (at3 b k)
  have h2 := vl_lt (at3 a k)
  have h3 : 10 ^ (at3 b k).size ≤ 10 ^ 13 := Nat.pow_le_pow_right (by omega) hx
  have h4 : 10 ^ (at3 a k).size ≤ 10 ^ 13 := Nat.pow_le_pow_right (by omega) hy
  omega
 have z0 := hz 0
 have z1 := hz 1
 have z2 := hz 2
 refine ⟨?_, ?_, chosen_len b a 3⟩
 ·rw [chosen3]
  intro x hx
  rw [List.mem_append, List.mem_append] at hx
  rcases hx with (hx | hx) | hx
  ·split at hx
   ·rename_i h; rw [List.mem_singleton] at hx; subst hx; exact ⟨by dsimp only; omega, by dsimp only; omega, isS_true h, z0⟩
   ·cases hx
  ·split at hx
   ·rename_i h; rw [List.mem_singleton] at hx; subst hx; exact ⟨by dsimp only; omega, by dsimp only; omega, isS_true h, z1⟩
   ·cases hx
  ·split at hx
   ·rename_i h; rw [List.mem_singleton] at hx; subst hx; exact ⟨by dsimp only; omega, by dsimp only; omega, isS_true h, z2⟩
   ·cases hx
 ·rw [chosen3]
  generalize isS (chK b a 0) = t0
  generalize isS (chK b a 1) = t1
  generalize isS (chK b a 2) = t2
  generalize chK b a 0 = c0
  generalize chK b a 1 = c1
  generalize chK b a 2 = c2
  intro j x y hx hy
  have key : ∀ (l : List (Int × ByteArray)), (∀ p ∈ l.zip l.tail, p.1.1 < p.2.1) → l[j]? = some x → l[j + 1]? = some y → x.1 < y.1 := fun l hl h1 h2 => by
   refine hl (x, y) (List.mem_of_getElem? (i := j) ?_)
   rw [List.getElem?_zip_eq_some]
   exact ⟨h1, by rw [List.getElem?_tail]; exact h2⟩
  refine key _ ?_ hx hy
  cases t0 <;> cases t1 <;> cases t2 <;> simp
theorem chosen_same (b : List ByteArray) : chosen b b 3 = [] := by
 have h : ∀ k, isS (chK b b k) = false := fun k => by
  unfold chK
  rw [Int.sub_self, ← zero_eq]
  rfl
 rw [chosen3, h, h, h]
 rfl
theorem twoI_of {w : World} {A1 A2 : Option Addr} {l : List ByteArray} (h1 : RdS w A1 l) (h2 : RdS w A2 l) (hl : l.length = 3) : TwoI w A1 A2 (fun k => l.getD k ⟨#[]⟩) 3 := fun _ => by
 have hne : l ≠ [] := fun e => by rw [e] at hl; cases hl
 obtain ⟨a1, e1, _, h1⟩ := h1 hne
 obtain ⟨a2, e2, _, h2⟩ := h2 hne
 refine ⟨a1, a2, e1, e2, fun k hk => ?_⟩
 have hx : l[k]? = some (l.getD k ⟨#[]⟩) := by
  rw [List.getD_eq_getElem?_getD, List.getElem?_eq_getElem (by rw [hl]; exact hk)]; rfl
 exact ⟨h1 k _ hx, h2 k _ hx⟩
end Go.Proofs.YtbkmhmaldljgmaaGreatDoor
