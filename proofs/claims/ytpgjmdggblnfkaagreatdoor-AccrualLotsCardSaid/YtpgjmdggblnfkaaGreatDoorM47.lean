/-
  The walks of trancheref06.Leap, Length, Parts, digits.
-/
import Derived.Test.YtpgjmdggblnfkaaGreatDoorL13
import Derived.Test.YtpgjmdggblnfkaaGreatDoorM21
import Derived.Test.YtpgjmdggblnfkaaGreatDoorM20
import Derived.Test.YtpgjmdggblnfkaaGreatDoorLA6
import Derived.Lib.SlBytesRow
set_option linter.unusedVariables false
set_option linter.unusedSimpArgs false
set_option maxHeartbeats 16000000
set_option maxRecDepth 100000
namespace Go.Proofs.YtpgjmdggblnfkaaGreatDoor
open Go.RowKit Tr Go.Shelf
theorem rLeap6_any (y : Int) (h0 : 0 ≤ y) (h1 : y ≤ 100000) (w : World) :
 Calls Tryz.prog 216 #[.int .i64 y] w fun e w' => e = .returned (.bool (leapB y)) ∧ w = w' := by
 have e4 : y.tmod 4 = y % 4 := Int.tmod_eq_emod_of_nonneg h0
 have e100 : y.tmod 100 = y % 100 := Int.tmod_eq_emod_of_nonneg h0
 have e400 : y.tmod 400 = y % 400 := Int.tmod_eq_emod_of_nonneg h0
 go_enter Tryz.func216, Tryz.ntmps216
 go_wp2_with fail
 all_goals (go_ret; refine ⟨?_, rfl⟩; first | (simp [leapB, *]; done) | (simp [leapB, *]; omega))
theorem rLength6_any (y : Int) (m : Nat) (h0 : 0 ≤ y) (h1 : y ≤ 100000) (m0 : 1 ≤ m) (m1 : m ≤ 12) (w : World) :
 Calls Tryz.prog 217 #[.int .i64 y, .int .i64 (m : Int)] w fun e w' => e = .returned (.int .i64 (lenB (leapB y) m)) ∧ w = w' := by
 have HL := Lib.hid (fun W => rLeap6_any y h0 h1 W)
 by_cases h2 : m = 2
 ·subst h2
  rw [show ((2 : Nat) : Int) = 2 from rfl]
  go_enter Tryz.func217, Tryz.ntmps217
  go_wp2_with fail
  refine (HL.out _).mono ?_
  rintro e w1 ⟨rfl, rfl⟩
  cases hl : leapB y
  all_goals (go_wp2_with fail; go_ret; exact ⟨by rw [hl]; rfl, rfl⟩)
 ·obtain rfl | rfl | rfl | rfl | rfl | rfl | rfl | rfl | rfl | rfl | rfl : m = 1 ∨ m = 3 ∨ m = 4 ∨ m = 5 ∨ m = 6 ∨ m = 7 ∨ m = 8 ∨ m = 9 ∨ m = 10 ∨ m = 11 ∨ m = 12 := by omega
  ·rw [show ((1 : Nat) : Int) = 1 from rfl]
   go_enter Tryz.func217, Tryz.ntmps217
   go_wp2_with fail
   go_ret
   exact ⟨by cases leapB y <;> rfl, rfl⟩
  ·rw [show ((3 : Nat) : Int) = 3 from rfl]
   go_enter Tryz.func217, Tryz.ntmps217
   go_wp2_with fail
   go_ret
   exact ⟨by cases leapB y <;> rfl, rfl⟩
  ·rw [show ((4 : Nat) : Int) = 4 from rfl]
   go_enter Tryz.func217, Tryz.ntmps217
   go_wp2_with fail
   go_ret
   exact ⟨by cases leapB y <;> rfl, rfl⟩
  ·rw [show ((5 : Nat) : Int) = 5 from rfl]
   go_enter Tryz.func217, Tryz.ntmps217
   go_wp2_with fail
   go_ret
   exact ⟨by cases leapB y <;> rfl, rfl⟩
  ·rw [show ((6 : Nat) : Int) = 6 from rfl]
   go_enter Tryz.func217, Tryz.ntmps217
   go_wp2_with fail
   go_ret
   exact ⟨by cases leapB y <;> rfl, rfl⟩
  ·rw [show ((7 : Nat) : Int) = 7 from rfl]
   go_enter Tryz.func217, Tryz.ntmps217
   go_wp2_with fail
   go_ret
   exact ⟨by cases leapB y <;> rfl, rfl⟩
  ·rw [show ((8 : Nat) : Int) = 8 from rfl]
   go_enter Tryz.func217, Tryz.ntmps217
   go_wp2_with fail
   go_ret
   exact ⟨by cases leapB y <;> rfl, rfl⟩
  ·rw [show ((9 : Nat) : Int) = 9 from rfl]
   go_enter Tryz.func217, Tryz.ntmps217
   go_wp2_with fail
   go_ret
   exact ⟨by cases leapB y <;> rfl, rfl⟩
  ·rw [show ((10 : Nat) : Int) = 10 from rfl]
   go_enter Tryz.func217, Tryz.ntmps217
   go_wp2_with fail
   go_ret
   exact ⟨by cases leapB y <;> rfl, rfl⟩
  ·rw [show ((11 : Nat) : Int) = 11 from rfl]
   go_enter Tryz.func217, Tryz.ntmps217
   go_wp2_with fail
   go_ret
   exact ⟨by cases leapB y <;> rfl, rfl⟩
  ·rw [show ((12 : Nat) : Int) = 12 from rfl]
   go_enter Tryz.func217, Tryz.ntmps217
   go_wp2_with fail
   go_ret
   exact ⟨by cases leapB y <;> rfl, rfl⟩
def RPartsPost (d : Int) (w : World) (e : Ending) (w' : World) : Prop := ∃ (y : Int) (m : Nat) (dd : Int), e = .returned (.tuple #[.int .i64 y, .int .i64 (m : Int), .int .i64 dd, .int .i64 0]) ∧ VDate y m dd ∧ dayOf y m dd = d ∧ w = w'
theorem rParts6_no (d : Int) (hd : ¬ okDay d) (w : World) :
 Calls Tryz.prog 180 #[.int .i64 d] w fun e w' => e = .returned (.tuple #[.int .i64 0, .int .i64 0, .int .i64 0, .int .i64 13]) ∧ w = w' := by
 have H := Lib.hid (fun W => rday_no d hd W)
 clear hd
 go_enter Tryz.func180, Tryz.ntmps180
 go_wp2_with fail
 refine (H.out _).mono ?_
 rintro e w1 ⟨rfl, rfl⟩
 go_wp2_with fail
 refine bodyPost_ret (v := .tuple #[.int .i64 0, .int .i64 0, .int .i64 0, .int .i64 13]) (by simp [results, Tryz.results180, go_sem]) rfl ?_
 exact ⟨rfl, rfl⟩
theorem rParts6_any (d : Int) (hd : okDay d) (w : World) :
 Calls Tryz.prog 180 #[.int .i64 d] w (RPartsPost d w) := by
 have H := Lib.hid (fun W => rday_yes d hd W)
 have HLP := Lib.hid (fun (y : Int) (h0 : 1900 ≤ y) (h1 : y ≤ 2200) W => rLeap6_any y (by omega) (by omega) W)
 have HLN := Lib.hid (fun (y : Int) (h0 : 1900 ≤ y) (h1 : y ≤ 2200) (m : Nat) (m0 : 1 ≤ m) (m1 : m ≤ 12) W => rLength6_any y m (by omega) (by omega) m0 m1 W)
 unfold okDay at hd
 go_enter Tryz.func180, Tryz.ntmps180
 go_wp2_with fail
 refine (H.out _).mono ?_
 rintro e w1 ⟨rfl, rfl⟩
 go_wp2_with fail
 go_loop [6, 7, 9] (fun v6 v7 _ => ∃ y : Int, v6 = .int .i64 (d + 25567 - bg y) ∧ v7 = .int .i64 y ∧ 1900 ≤ y ∧ y ≤ 2199 ∧ bg y ≤ d + 25567) (fun _ v7 _ => 2200 - (intOf v7).toNat)
 case atStart => exact ⟨1900, by rw [show bg 1900 = 0 from by decide]; congr 1; omega, rfl, by omega, by omega, by rw [show bg 1900 = 0 from by decide]; omega⟩
 case round =>
  obtain ⟨y, rfl, rfl, y0, y1, hb⟩ := hrel
  have hbg := bg_bd y0 (by omega)
  have hsu := bg_succ y
  have hbg2 := bg_bd (y := y + 1) (by omega) (by omega)
  have HB := Lib.hid hb
  go_wp2_with fail
  refine (HLP.out y y0 (by omega) _).mono ?_
  rintro e w2 ⟨rfl, rfl⟩
  cases hl : leapB y
  ·rw [hl] at hsu
   replace hsu : bg (y + 1) = bg y + 365 := hsu
   rcases Int.lt_or_le (d + 25567) (bg (y + 1)) with hc | hc
   ·have hcx : decide (d + 25567 - bg y < 365) = true := decide_eq_true (by omega)
    have hcc : d + 25567 - bg y < cumB (leapB y) 12 := by rw [cum12, hl]; show _ < (365 : Int); omega
    clear hl hsu hc hbg2
    go_wp2_with fail
    go_loop [6, 8] (fun v6 v8 => ∃ k : Nat, v8 = .int .i64 (k : Int) ∧ v6 = .int .i64 (d + 25567 - bg y - cumB (leapB y) (k - 1)) ∧ 1 ≤ k ∧ k ≤ 12 ∧ 0 ≤ d + 25567 - bg y - cumB (leapB y) (k - 1)) (fun _ v8 => 13 - (intOf v8).toNat)
    case atStart => exact ⟨1, rfl, by simp [cumB], by omega, by omega, by simp [cumB]; omega⟩
    case round =>
     clear hcx
     obtain ⟨k, rfl, rfl, k0, k1, hn⟩ := hrel
     have hst := cum_step (leapB y) k0
     have hlk := lenB_pos (leapB y) k
     have hcb := cum_bd (leapB y) (m := k - 1) (by omega)
     have hcb2 := cum_mono (leapB y) (m := k) (k := 12) k1
     go_wp2_with fail
     refine (HLN.out y y0 (by omega) k k0 k1 _).mono ?_
     rintro e w4 ⟨rfl, rfl⟩
     by_cases hl : lenB (leapB y) k ≤ d + 25567 - bg y - cumB (leapB y) (k - 1)
     ·have hl' : decide (d + 25567 - bg y - cumB (leapB y) (k - 1) ≥ lenB (leapB y) k) = true := decide_eq_true hl
      have hk12 : k ≤ 11 := by
       rcases Nat.lt_or_ge k 12 with h | h
       ·omega
       ·have : k = 12 := by omega
        subst this; omega
      go_wp2_with fail
      refine (HLN.out y y0 (by omega) k k0 k1 _).mono ?_
      rintro e w5 ⟨rfl, rfl⟩
      go_wp2_with fail
      refine ⟨⟨k + 1, by simp, ?_, by omega, by omega, ?_⟩, by simp [intOf]; omega⟩
      ·rw [show k + 1 - 1 = k from rfl, hst]; congr 1; omega
      ·rw [show k + 1 - 1 = k from rfl, hst]; omega
     ·have hl' : decide (d + 25567 - bg y - cumB (leapB y) (k - 1) ≥ lenB (leapB y) k) = false := decide_eq_false hl
      go_wp2_with fail
      refine bodyPost_ret (v := .tuple #[.int .i64 y, .int .i64 (k : Int), .int .i64 (d + 25567 - bg y - cumB (leapB y) (k - 1) + 1), .int .i64 0]) (by simp [results, Tryz.results180, go_sem]) rfl ?_
      refine ⟨y, k, _, rfl, ⟨y0, y1, k0, k1, by omega, by omega⟩, by unfold dayOf; omega, rfl⟩
   ·have hcx : decide (d + 25567 - bg y < 365) = false := decide_eq_false (by omega)
    have hy2 : y + 1 ≤ 2199 := by
     rcases Int.lt_or_le (y + 1) 2200 with h | h
     ·omega
     ·have := bg_mono h
      rw [show bg 2200 = 109573 from by decide] at this
      omega
    clear hl hbg2
    go_wp2_with fail
    refine ⟨⟨y + 1, by congr 1; omega, rfl, by omega, hy2, hc⟩, by simp [intOf]; omega⟩
  ·rw [hl] at hsu
   replace hsu : bg (y + 1) = bg y + 366 := hsu
   rcases Int.lt_or_le (d + 25567) (bg (y + 1)) with hc | hc
   ·have hcx : decide (d + 25567 - bg y < 366) = true := decide_eq_true (by omega)
    have hcc : d + 25567 - bg y < cumB (leapB y) 12 := by rw [cum12, hl]; show _ < (366 : Int); omega
    clear hl hsu hc hbg2
    go_wp2_with fail
    go_loop [6, 8] (fun v6 v8 => ∃ k : Nat, v8 = .int .i64 (k : Int) ∧ v6 = .int .i64 (d + 25567 - bg y - cumB (leapB y) (k - 1)) ∧ 1 ≤ k ∧ k ≤ 12 ∧ 0 ≤ d + 25567 - bg y - cumB (leapB y) (k - 1)) (fun _ v8 => 13 - (intOf v8).toNat)
    case atStart => exact ⟨1, rfl, by simp [cumB], by omega, by omega, by simp [cumB]; omega⟩
    case round =>
     clear hcx
     obtain ⟨k, rfl, rfl, k0, k1, hn⟩ := hrel
     have hst := cum_step (leapB y) k0
     have hlk := lenB_pos (leapB y) k
     have hcb := cum_bd (leapB y) (m := k - 1) (by omega)
     have hcb2 := cum_mono (leapB y) (m := k) (k := 12) k1
     go_wp2_with fail
     refine (HLN.out y y0 (by omega) k k0 k1 _).mono ?_
     rintro e w4 ⟨rfl, rfl⟩
     by_cases hl : lenB (leapB y) k ≤ d + 25567 - bg y - cumB (leapB y) (k - 1)
     ·have hl' : decide (d + 25567 - bg y - cumB (leapB y) (k - 1) ≥ lenB (leapB y) k) = true := decide_eq_true hl
      have hk12 : k ≤ 11 := by
       rcases Nat.lt_or_ge k 12 with h | h
       ·omega
       ·have : k = 12 := by omega
        subst this; omega
      go_wp2_with fail
      refine (HLN.out y y0 (by omega) k k0 k1 _).mono ?_
      rintro e w5 ⟨rfl, rfl⟩
      go_wp2_with fail
      refine ⟨⟨k + 1, by simp, ?_, by omega, by omega, ?_⟩, by simp [intOf]; omega⟩
      ·rw [show k + 1 - 1 = k from rfl, hst]; congr 1; omega
      ·rw [show k + 1 - 1 = k from rfl, hst]; omega
     ·have hl' : decide (d + 25567 - bg y - cumB (leapB y) (k - 1) ≥ lenB (leapB y) k) = false := decide_eq_false hl
      go_wp2_with fail
      refine bodyPost_ret (v := .tuple #[.int .i64 y, .int .i64 (k : Int), .int .i64 (d + 25567 - bg y - cumB (leapB y) (k - 1) + 1), .int .i64 0]) (by simp [results, Tryz.results180, go_sem]) rfl ?_
      refine ⟨y, k, _, rfl, ⟨y0, y1, k0, k1, by omega, by omega⟩, by unfold dayOf; omega, rfl⟩
   ·have hcx : decide (d + 25567 - bg y < 366) = false := decide_eq_false (by omega)
    have hy2 : y + 1 ≤ 2199 := by
     rcases Int.lt_or_le (y + 1) 2200 with h | h
     ·omega
     ·have := bg_mono h
      rw [show bg 2200 = 109573 from by decide] at this
      omega
    clear hl hbg2
    go_wp2_with fail
    refine ⟨⟨y + 1, by congr 1; omega, rfl, by omega, hy2, hc⟩, by simp [intOf]; omega⟩
theorem same_digits : ∀ (s t : List UInt8), s.length = t.length → s.all isDigit = true → t.all isDigit = true → dval s = dval t → s = t
 | [], [], _, _, _, _ => rfl
 | [], _ :: _, h, _, _, _ => by simp at h
 | _ :: _, [], h, _, _, _ => by simp at h
 | c :: s, d :: t, h, hs, ht, hv => by
   simp only [List.length_cons, Nat.add_right_cancel_iff] at h
   simp only [List.all_cons, Bool.and_eq_true] at hs ht
   have hc := (isDigit_iff c).1 hs.1
   have hd := (isDigit_iff d).1 ht.1
   have a1 := dval_lt s hs.2
   have a2 := dval_lt t ht.2
   rw [dval_cons, dval_cons, h] at hv
   rw [h] at a1
   have e1 : c.toNat - 48 = d.toNat - 48 := by
    generalize 10 ^ t.length = P at *
    rcases Nat.lt_trichotomy (c.toNat - 48) (d.toNat - 48) with k | k | k
    ·obtain ⟨j, hj⟩ : ∃ j, d.toNat - 48 = (c.toNat - 48) + 1 + j := ⟨d.toNat - 48 - (c.toNat - 48) - 1, by omega⟩
     rw [hj, Nat.add_mul, Nat.add_mul] at hv
     omega
    ·exact k
    ·obtain ⟨j, hj⟩ : ∃ j, c.toNat - 48 = (d.toNat - 48) + 1 + j := ⟨c.toNat - 48 - (d.toNat - 48) - 1, by omega⟩
     rw [hj, Nat.add_mul, Nat.add_mul] at hv
     omega
   rw [e1] at hv
   have e2 : c = d := UInt8.toNat.inj (by omega)
   rw [e2, same_digits s t h hs.2 ht.2 (by omega)]
theorem itoa_digits (n : Nat) : (Lib.itoa (n : Int)).all isDigit = true ∧ dval (Lib.itoa (n : Int)) = n := by
 rcases Nat.eq_zero_or_pos n with rfl | h
 ·constructor <;> kernel_rfl
 ·rw [itoa_nat h]; exact ⟨all_digits n, dval_digits n⟩
theorem dval_append (a b : List UInt8) : dval (a ++ b) = dval a * 10 ^ b.length + dval b := by
 induction a with
 | nil => simp [dval_nil]
 | cons c a ih => rw [List.cons_append, dval_cons, dval_cons, ih, List.length_append, Nat.pow_add, Nat.add_mul, Nat.mul_assoc]; omega
theorem dval_zeros : ∀ k : Nat, dval (List.replicate k (48 : UInt8)) = 0
 | 0 => rfl
 | k + 1 => by rw [List.replicate_succ, dval_cons, dval_zeros k]; simp
theorem two_pad {n : Nat} (h : n < 100) : padR 2 n = two n := by
 have hl := itoa_len h
 have hi := itoa_digits n
 refine same_digits _ _ ?_ (padR_all 2 n) ?_ ?_
 ·rw [padR_length]; unfold two; simp; omega
 ·unfold two
  rw [List.all_append, hi.1, Bool.and_true, List.all_replicate]
  split <;> rfl
 ·rw [padR_dval]
  unfold two
  rw [dval_append, dval_zeros, hi.2]
  omega
theorem four_pad {y : Nat} (h0 : 1900 ≤ y) (h1 : y ≤ 2199) : padR 4 y = Lib.itoa (y : Int) := by
 have hi := itoa_digits y
 have hz : (digits y).length = 4 := by
  have a1 := (digits_length_le_iff 4 y).2 (by omega)
  have a2 : ¬ (digits y).length ≤ 3 := fun h => by have := (digits_length_le_iff 3 y).1 h; omega
  omega
 refine same_digits _ _ ?_ (padR_all 4 y) hi.1 ?_
 ·rw [padR_length, itoa_nat (by omega), hz]
 ·rw [padR_dval, hi.2]; omega
theorem conv_one (W : World) (q : Nat) : Sem.run Tryz.prog (convert 137 9 (.slice (some ⟨W.heap.size, 0, none⟩) 1 1)) (W.alloc (.cells #[.int .u8 (48 + (q : Int) % 10)] 5)) = .ok (.string (bs [dchar (q % 10)])) (W.alloc (.cells #[.int .u8 (48 + (q : Int) % 10)] 5)) := by
 have hk := heap_alloc_new W (.cells #[.int .u8 (48 + (q : Int) % 10)] 5)
 refine Lib.run_convert_whole (P := Tryz.prog) (W.alloc (.cells #[.int .u8 (48 + (q : Int) % 10)] 5)) 137 5 9 Tryz.underlying137 Tryz.underlying5 Tryz.underlying9 W.heap.size 0 (bs [dchar (q % 10)]) ?_ 1
 intro i hi
 have h0 : i = 0 := by rw [bs_size] at hi; simp at hi; exact hi
 subst h0
 rw [Lib.cell_of_heap hk]
 show some (Value.int .u8 (48 + (q : Int) % 10)) = some (Value.int .u8 (((dchar (q % 10)).toNat : Nat) : Int))
 rw [toNat_dchar (Nat.mod_lt _ (by decide))]
 congr 2
theorem rdigits6_any (n : Nat) (c : Nat) (hn : n < 100000) (hc : c ≤ 4) (w : World) :
 Calls Tryz.prog 181 #[.int .i64 (n : Int), .int .i64 (c : Int)] w fun e w' => e = .returned (.string (bs (padR c n))) ∧ Below w.heap.size w w' := by
 go_enter Tryz.func181, Tryz.ntmps181
 go_wp2_with fail
 go_loopw [0, 5, 6] (fun v0 v5 v6 wr => ∃ j : Nat, v0 = .int .i64 ((n / 10 ^ j : Nat) : Int) ∧ v5 = .string (bs (padR j n)) ∧ v6 = .int .i64 (j : Int) ∧ j ≤ c ∧ Below w.heap.size w wr) (fun _ _ v6 _ => c - (intOf v6).toNat)
 case atStart => exact ⟨0, by simp, rfl, rfl, by omega, Below.refl _ _⟩
 case round =>
  obtain ⟨j, rfl, rfl, rfl, hj, hB⟩ := hrel
  have HB := Lib.hid hB
  clear hB
  have hz : (bs (padR j n)).size ≤ 4 := by rw [bs_size, padR_length]; omega
  rcases Nat.lt_or_ge j c with hlt | hge
  ·have hcx : decide ((j : Int) < (c : Int)) = true := by simp; omega
   have hq : n / 10 ^ j ≤ n := Nat.div_le_self _ _
   obtain ⟨q, hqq⟩ : ∃ q : Nat, n / 10 ^ j = q := ⟨_, rfl⟩
   rw [hqq] at hq ⊢
   have HQ := Lib.hid hqq
   clear hqq
   have e1 : ((q : Int)).tmod 10 = (q : Int) % 10 := by rw [Int.tmod_eq_emod_of_nonneg (by omega)]
   have e2 : ((q : Int)).tdiv 10 = ((q / 10 : Nat) : Int) := by rw [Int.tdiv_eq_ediv_of_nonneg (by omega)]; omega
   have hcv := conv_one wr q
   have hz1 : (bs [dchar (q % 10)]).size = 1 := rfl
   go_wp2_with fail
   go_roundw
   case rel =>
    refine ⟨j + 1, ?_, ?_, by go_num, by omega, HB.out.alloc HB.out.size _⟩
    ·rw [Nat.pow_succ, ← Nat.div_div_eq_div_mul, HQ.out]; rfl
    ·rw [show padR (j + 1) n = [dchar (q % 10)] ++ padR j n from by rw [← HQ.out]; rfl, bs_cat]
   case measure => simp [intOf]; omega
  ·have hcx : decide ((j : Int) < (c : Int)) = false := by simp; omega
   have hjc : j = c := by omega
   subst hjc
   go_wp2_with fail
   go_ret
   exact ⟨rfl, HB.out⟩
theorem rPrint6_no (d : Int) (hd : ¬ okDay d) (w : World) :
 Calls Tryz.prog 133 #[.int .i64 d] w fun e w' => e = .returned (.tuple #[.string ⟨#[]⟩, .int .i64 13]) ∧ w = w' := by
 have H := Lib.hid (fun W => rParts6_no d hd W)
 clear hd
 go_enter Tryz.func133, Tryz.ntmps133
 go_wp2_with fail
 refine (H.out _).mono ?_
 rintro e w1 ⟨rfl, rfl⟩
 go_wp2_with fail
 go_ret2
 exact ⟨rfl, rfl⟩
theorem dtext_pad {y m q : Nat} (h0 : 1900 ≤ y) (h1 : y ≤ 2199) (hm : m < 100) (hq : q < 100) : bs (padR 4 y) ++ ⟨#[45]⟩ ++ bs (padR 2 m) ++ ⟨#[45]⟩ ++ bs (padR 2 q) = dtext (y : Int) m q := by
 rw [four_pad h0 h1, two_pad hm, two_pad hq]
 unfold dtext
 rw [bs_cat, bs_cat, bs_cat, bs_cat]
 rfl
theorem rPrint6_any (d : Int) (hd : okDay d) (w : World) :
 Calls Tryz.prog 133 #[.int .i64 d] w fun e w' => e = .returned (.tuple #[.string (ptext d), .int .i64 0]) ∧ Below w.heap.size w w' := by
 have H := Lib.hid (fun W => rParts6_any d hd W)
 clear hd
 go_enter Tryz.func133, Tryz.ntmps133
 go_wp2_with fail
 refine (H.out _).mono ?_
 rintro e w1 ⟨y, m, dd, rfl, hv, hdo, rfl⟩
 obtain ⟨yn, rfl⟩ : ∃ yn : Nat, y = (yn : Int) := ⟨y.toNat, by have := hv.1; omega⟩
 obtain ⟨q, rfl⟩ : ∃ q : Nat, dd = (q : Int) := ⟨dd.toNat, by have := hv.2.2.2.2.1; omega⟩
 have b5 := lenB_pos (leapB (yn : Int)) m
 have g1 : 1900 ≤ yn := by have := hv.1; omega
 have g2 : yn ≤ 2199 := by have := hv.2.1; omega
 have g3 : m < 100 := by have := hv.2.2.2.1; omega
 have g4 : q < 100 := by have := hv.2.2.2.2.2; omega
 have HE : Hid (bs (padR 4 yn) ++ ⟨#[45]⟩ ++ bs (padR 2 m) ++ ⟨#[45]⟩ ++ bs (padR 2 q) = ptext d) := (dtext_pad g1 g2 g3 g4).trans (ptext_eq hv hdo).symm
 have Y := Lib.hid (fun W => rdigits6_any yn 4 (by omega) (by omega) W)
 have M := Lib.hid (fun W => rdigits6_any m 2 (by omega) (by omega) W)
 have Q := Lib.hid (fun W => rdigits6_any q 2 (by omega) (by omega) W)
 have z1 : (bs (padR 4 yn)).size = 4 := by rw [bs_size, padR_length]
 have z2 : (bs (padR 2 m)).size = 2 := by rw [bs_size, padR_length]
 have z3 : (bs (padR 2 q)).size = 2 := by rw [bs_size, padR_length]
 clear hv hdo b5 g1 g2 g3 g4 H
 generalize bs (padR 4 yn) = s1 at *
 generalize bs (padR 2 m) = s2 at *
 generalize bs (padR 2 q) = s3 at *
 go_wp2_with fail
 refine (Y.out _).mono ?_
 rintro e w2 ⟨rfl, b2⟩
 go_wp2_with fail
 refine (M.out _).mono ?_
 rintro e w3 ⟨rfl, b3⟩
 have b3 := b2.trans (b3.mono b2.size)
 go_wp2_with fail
 refine (Q.out _).mono ?_
 rintro e w4 ⟨rfl, b4⟩
 have b4 := b3.trans (b4.mono b3.size)
 go_wp2_with fail
 go_ret2
 exact ⟨by rw [← HE.out]; rfl, b4⟩
end Go.Proofs.YtpgjmdggblnfkaaGreatDoor
