/-
  Plain law: the sum of rounded numbers is near the rounded sum (less than the number of them).
-/
import Derived.Test.YtpgjmdggblnfkaaGreatDoorE20
set_option linter.unusedVariables false
set_option linter.unusedSimpArgs false
namespace Go.Proofs.YtpgjmdggblnfkaaGreatDoor

theorem rnd_int (q : Rat) : 2 * (rnd q * q.den - q.num).natAbs ≤ q.den := by
  have hp : (0 : Int) < q.den := by have := q.den_pos; omega
  have h1 := Int.emod_nonneg q.num (b := (q.den : Int)) (by omega)
  have h2 := Int.emod_lt_of_pos q.num hp
  have h3 := Int.emod_add_mul_ediv q.num q.den
  have h4 : (q.num / q.den + 1) * (q.den : Int) = q.den * (q.num / q.den) + q.den := by
    rw [Int.add_mul, Int.one_mul, Int.mul_comm]
  have h5 : (q.num / q.den) * (q.den : Int) = q.den * (q.num / q.den) := Int.mul_comm _ _
  unfold rnd
  split
  · rw [h4]; omega
  · rw [h5]; omega

theorem rnd_rat (q : Rat) : (rnd q : Rat) * 2 ≤ q * 2 + 1 ∧ q * 2 ≤ (rnd q : Rat) * 2 + 1 := by
  have h := rnd_int q
  have hp : (0 : Rat) < (q.den : Rat) := by have := q.den_pos; exact_mod_cast this
  have hq : q * (q.den : Rat) = (q.num : Rat) := by
    have h0 : (q.den : Rat) ≠ 0 := fun e => by rw [e] at hp; exact absurd hp (by decide)
    have := Rat.num_divInt_den q
    rw [Rat.divInt_eq_div, Rat.div_def, show (((q.den : Nat) : Int) : Rat) = (q.den : Rat) from rfl] at this
    conv => lhs; lhs; rw [← this]
    rw [Rat.mul_assoc, Rat.inv_mul_cancel _ h0, Rat.mul_one]
  have a1 : 2 * (rnd q * (q.den : Int) - q.num) ≤ q.den := by omega
  have a2 : 0 ≤ 2 * (rnd q * (q.den : Int) - q.num) + (q.den : Int) := by omega
  have b1 : (2 : Rat) * ((rnd q : Rat) * (q.den : Rat) - (q.num : Rat)) ≤ (q.den : Rat) := by exact_mod_cast a1
  have b2 : 0 ≤ (2 : Rat) * ((rnd q : Rat) * (q.den : Rat) - (q.num : Rat)) + (q.den : Rat) := by exact_mod_cast a2
  rw [← hq] at b1 b2
  generalize (rnd q : Rat) = r at *
  generalize (q.den : Rat) = d at *
  constructor
  · apply Rat.le_of_mul_le_mul_right (c := d) _ hp
    grind
  · apply Rat.le_of_mul_le_mul_right (c := d) _ hp
    grind
def rsum : List Rat → Rat
  | [] => 0
  | q :: l => q + rsum l
def isum : List Int → Int
  | [] => 0
  | q :: l => q + isum l
theorem sums_rat (l : List Rat) : (isum (l.map rnd) : Rat) * 2 ≤ rsum l * 2 + (l.length : Rat) ∧ rsum l * 2 ≤ (isum (l.map rnd) : Rat) * 2 + (l.length : Rat) := by
  induction l with
  | nil => simp only [rsum, isum, List.map_nil, List.length_nil]; constructor <;> grind
  | cons q l ih =>
    have h := rnd_rat q
    have e : ((isum ((q :: l).map rnd) : Int) : Rat) = (rnd q : Rat) + (isum (l.map rnd) : Rat) := by
      simp only [List.map_cons, isum]; push_cast; rfl
    rw [e]
    simp only [rsum, List.length_cons]
    have e2 : ((l.length + 1 : Nat) : Rat) = (l.length : Rat) + 1 := by push_cast; rfl
    rw [e2]
    grind
theorem sums_close (l : List Rat) (h : l ≠ []) : (isum (l.map rnd) - rnd (rsum l)).natAbs < l.length := by
  match l, h with
  | [q], _ =>
    have e : rsum [q] = q := by simp only [rsum]; exact Rat.add_zero q
    rw [e]
    simp only [List.map_cons, List.map_nil, isum, List.length_cons, List.length_nil]
    omega
  | q :: p :: l, _ =>
    generalize hL : q :: p :: l = L
    have hlen : 2 ≤ L.length := by rw [← hL]; simp
    have h1 := sums_rat L
    have h2 := rnd_rat (rsum L)
    have k1 : ((isum (L.map rnd) : Int) : Rat) * 2 ≤ (rnd (rsum L) : Rat) * 2 + 1 + (L.length : Rat) := by grind
    have k2 : (rnd (rsum L) : Rat) * 2 ≤ ((isum (L.map rnd) : Int) : Rat) * 2 + 1 + (L.length : Rat) := by grind
    have m1 : isum (L.map rnd) * 2 ≤ rnd (rsum L) * 2 + 1 + (L.length : Int) := by exact_mod_cast k1
    have m2 : rnd (rsum L) * 2 ≤ isum (L.map rnd) * 2 + 1 + (L.length : Int) := by exact_mod_cast k2
    omega
end Go.Proofs.YtpgjmdggblnfkaaGreatDoor
