/-
  The walks of trancheref01.Div (short numbers, a positive divisor), Gcd (short numbers).
-/
import Derived.Test.YtdnmpgoigagjmaaGreatDoorA14
import Derived.BigQuiet
set_option linter.unusedVariables false
set_option linter.unusedSimpArgs false
namespace Go.Proofs.YtdnmpgoigagjmaaGreatDoor
open Go.RowKit Tr
theorem floor_fix (x y : Int) (hy : 0 < y) : (x.tmod y < 0 ∧ x / y = x.tdiv y - 1 ∧ x % y = x.tmod y + y) ∨ (0 ≤ x.tmod y ∧ x / y = x.tdiv y ∧ x % y = x.tmod y) := by
 have h1 := Int.tmod_eq_emod (a := x) (b := y)
 have h2 := Int.tdiv_eq_ediv (a := x) (b := y)
 have h3 := Int.emod_nonneg x (b := y) (by omega)
 have h4 := Int.emod_lt_of_pos x hy
 have h5 : y.sign = 1 := Int.sign_eq_one_of_pos hy
 by_cases c : 0 ≤ x ∨ y ∣ x
 ·rw [if_pos c] at h1 h2; right; omega
 ·rw [if_neg c] at h1 h2; left; omega
set_option maxHeartbeats 4000000 in
set_option maxRecDepth 100000 in
theorem rDiv_short (a b : ByteArray) (ha : a.size ≤ 1000000) (hb : b.size ≤ 1000000) (hx : (vl a).natAbs < 100000000000000000) (hy : (vl b).natAbs < 100000000000000000) (hp : 0 < vl b) (w : World) :
 Calls Tryz.prog 293 #[.string a, .string b] w fun e w' => e = .returned (.tuple #[.string (I (vl a / vl b)), .string (I (vl a % vl b)), .int .i64 0]) ∧ Below w.heap.size w w' := by
 have HA := Lib.hid (rshort_yes a ha ((digits_length_le_iff 17 _).2 hx))
 have HB := Lib.hid (rshort_yes b hb ((digits_length_le_iff 17 _).2 hy))
 clear ha hb
 generalize vl a = x at *
 generalize vl b = y at *
 have hy0 : (y == 0) = false := by rw [beq_eq_false_iff_ne]; omega
 have hq : (x.tdiv y).natAbs ≤ x.natAbs := by rw [Int.natAbs_tdiv]; exact Nat.div_le_self _ _
 have hr : (x.tmod y).natAbs < y.natAbs := by rw [Int.natAbs_tmod]; exact Nat.mod_lt _ (by omega)
 rcases floor_fix x y hp with ⟨h1, h2, h3⟩ | ⟨h1, h2, h3⟩
 ·have H2 := Lib.hid h2
  have H3 := Lib.hid h3
  have hy1 : decide (y < 0) = false := by simp; omega
  clear h2 h3
  go_enter Tryz.func293, Tryz.ntmps293
  go_wp2_with fail
  refine (HA.out _).mono ?_
  rintro e w1 ⟨rfl, rfl⟩
  go_wp2_with fail
  refine (HB.out _).mono ?_
  rintro e w1 ⟨rfl, rfl⟩
  go_wp2_with fail
  go_quiet (fail)
  go_wp2_with fail
  all_goals
   refine (rOf_any _ (by omega) _).mono ?_
   rintro e w1 ⟨rfl, rfl⟩
   go_wp2_with fail
   refine (rOf_any _ (by omega) _).mono ?_
   rintro e w1 ⟨rfl, rfl⟩
   go_wp2_with fail
   go_ret3
   refine ⟨?_, below_drewN (Below.refl _ _) _⟩
   rw [H2.out, H3.out]
   first | rfl | (rename_i hz _; rw [hz]; rfl) | (rename_i hz; rw [hz]; rfl) | (simp only [*]; rfl)
 ·have H2 := Lib.hid h2
  have H3 := Lib.hid h3
  have hy1 : decide (y < 0) = false := by simp; omega
  clear h2 h3
  go_enter Tryz.func293, Tryz.ntmps293
  go_wp2_with fail
  refine (HA.out _).mono ?_
  rintro e w1 ⟨rfl, rfl⟩
  go_wp2_with fail
  refine (HB.out _).mono ?_
  rintro e w1 ⟨rfl, rfl⟩
  go_wp2_with fail
  go_quiet (fail)
  go_wp2_with fail
  all_goals
   refine (rOf_any _ (by omega) _).mono ?_
   rintro e w1 ⟨rfl, rfl⟩
   go_wp2_with fail
   refine (rOf_any _ (by omega) _).mono ?_
   rintro e w1 ⟨rfl, rfl⟩
   go_wp2_with fail
   go_ret3
   refine ⟨?_, below_drewN (Below.refl _ _) _⟩
   rw [H2.out, H3.out]
   first | rfl | (rename_i hz _; rw [hz]; rfl) | (rename_i hz; rw [hz]; rfl) | (simp only [*]; rfl)
set_option maxHeartbeats 4000000 in
set_option maxRecDepth 100000 in
theorem rGcd_short (a b : ByteArray) (ha : a.size ≤ 1000000) (hb : b.size ≤ 1000000) (hx : (vl a).natAbs < 100000000000000000) (hy : (vl b).natAbs < 100000000000000000) (w : World) :
 Calls Tryz.prog 291 #[.string a, .string b] w fun e w' => e = .returned (.string (I (Nat.gcd (vl a).natAbs (vl b).natAbs : Nat))) ∧ Below w.heap.size w w' := by
 have HA := rdigits_any a ha
 have HB := rdigits_any b hb
 generalize vl a = x at *
 generalize vl b = y at *
 have e1 : ∀ z : Int, bs (digits z.natAbs) = I (z.natAbs : Int) := fun z => by unfold I; rw [can_nat]
 rw [e1] at HA HB
 have HA := Lib.hid HA
 have HB := Lib.hid HB
 generalize x.natAbs = m at *
 generalize y.natAbs = n at *
 clear ha hb e1
 go_enter Tryz.func291, Tryz.ntmps291
 go_wp2_with fail
 refine (HA.out _).mono ?_
 rintro e w1 ⟨rfl, rfl⟩
 go_wp2_with fail
 refine (HB.out _).mono ?_
 rintro e w1 ⟨rfl, rfl⟩
 go_wp2_with fail
 clear HA HB
 go_loopw [9, 10] (fun v9 v10 w1 => ∃ (p q : Nat), v9 = .string (I (p : Int)) ∧ v10 = .string (I (q : Int)) ∧ p < 100000000000000000 ∧ q < 100000000000000000 ∧ Nat.gcd p q = Nat.gcd m n ∧ Below w.heap.size w w1) (fun _ v10 _ => (vl (match v10 with | .string s => s | _ => ⟨#[]⟩)).natAbs)
 case atStart => exact ⟨m, n, rfl, rfl, hx, hy, rfl, Below.refl _ _⟩
 case round =>
  obtain ⟨p, q, rfl, rfl, hp, hq, hg, hB⟩ := hrel
  have HB := Lib.hid hB
  have HG := Lib.hid hg
  clear hB hg
  rcases Nat.eq_zero_or_pos q with h0 | h0
  ·subst h0
   have e0 : ((I ((0 : Nat) : Int)).toList == []) = true := by rw [Lib.toList_data]; rfl
   have e1 : ((I 0).toList == []) = true := by rw [Lib.toList_data]; rfl
   have HR : Hid ((p : Nat) = Nat.gcd m n) := by rw [Hid, ← HG.out]; simp
   go_wp2_with fail
   go_ret
   exact ⟨by rw [← HR.out]; rfl, HB.out⟩
  ·have e0 : ((I (q : Int)).toList == []) = false := by
    rw [Lib.toList_data]
    rw [beq_eq_false_iff_ne]
    intro e
    have := can_eq_nil.1 (show can (q : Int) = [] from e)
    omega
   have z1 : (I (p : Int)).size ≤ 1000000 := Nat.le_trans (I_size_le (k := 17) (by simpa using hp)) (by decide)
   have z2 : (I (q : Int)).size ≤ 1000000 := Nat.le_trans (I_size_le (k := 17) (by simpa using hq)) (by decide)
   have HD := fun W => rDiv_short (I (p : Int)) (I (q : Int)) z1 z2 (by rw [vl_I]; simpa using hp) (by rw [vl_I]; simpa using hq) (by rw [vl_I]; omega) W
   rw [vl_I, vl_I] at HD
   have e2 : ((p : Int) % (q : Int)) = ((p % q : Nat) : Int) := by simp
   rw [e2] at HD
   have HD := Lib.hid HD
   clear e2 z1 z2
   go_wp2_with fail
   refine (HD.out _).mono ?_
   rintro e w2 ⟨rfl, b2⟩
   have HB2 := Lib.hid b2
   clear b2
   go_wp2_with fail
   refine ⟨⟨q, p % q, rfl, rfl, hq, ?_, ?_, HB.out.trans (HB2.out.mono HB.out.size)⟩, ?_⟩
   ·exact Nat.lt_trans (Nat.mod_lt _ h0) hq
   ·rw [← HG.out, Nat.gcd_comm p q, Nat.gcd_rec q p, Nat.gcd_comm]
   ·show (vl (I ((p % q : Nat) : Int))).natAbs < (vl (I (q : Int))).natAbs
    rw [vl_I, vl_I, Int.natAbs_natCast, Int.natAbs_natCast]; exact Nat.mod_lt _ h0
end Go.Proofs.YtdnmpgoigagjmaaGreatDoor
