/-
  The walks of trancheref06.Leap, Length, Parts, digits.
  revalue.Cause and trancheref40.Cause.
-/
import Derived.Test.YtbkmhmaldljgmaaGreatDoorC02
import Derived.Test.YtbkmhmaldljgmaaGreatDoorC04
import Derived.Deep.DeepCutAuto
import Derived.Test.YtbkmhmaldljgmaaGreatDoorC14
import Derived.Test.YtbkmhmaldljgmaaGreatDoorC13
import Derived.Test.YtbkmhmaldljgmaaGreatDoorC19
import Derived.Lib.SlBytesRow
import Derived.Test.YtbkmhmaldljgmaaGreatDoorC18
set_option linter.unusedVariables false
set_option linter.unusedSimpArgs false
set_option maxHeartbeats 16000000
set_option maxRecDepth 100000
namespace Go.Proofs.YtbkmhmaldljgmaaGreatDoor
open Go.RowKit Tr Go.Shelf
theorem dval_append (a b : List UInt8) : dval (a ++ b) = dval a * 10 ^ b.length + dval b := by
 induction a with
 | nil => simp [dval_nil]
 | cons c a ih => rw [List.cons_append, dval_cons, dval_cons, ih, List.length_append, Nat.pow_add, Nat.add_mul, Nat.mul_assoc]; omega
noncomputable def causeE (d : Int) (id : ByteArray) : Int := open Classical in if ¬ okDay d then 13 else if nameOk id = true then 0 else 23
noncomputable def causeT (d : Int) (id : ByteArray) : ByteArray := open Classical in if causeE d id = 0 then causeB d id else ⟨#[]⟩
theorem cause_day {d : Int} (h : ¬ okDay d) (id : ByteArray) : causeE d id = 13 ∧ causeT d id = ⟨#[]⟩ := by
 have e : causeE d id = 13 := by unfold causeE; rw [if_pos h]
 exact ⟨e, by unfold causeT; rw [if_neg (by rw [e]; omega)]⟩
theorem cause_name {d : Int} (h : okDay d) {id : ByteArray} (hn : nameOk id = false) : causeE d id = 23 ∧ causeT d id = ⟨#[]⟩ := by
 have e : causeE d id = 23 := by unfold causeE; rw [if_neg (fun x => x h), if_neg (by rw [hn]; exact Bool.false_ne_true)]
 exact ⟨e, by unfold causeT; rw [if_neg (by rw [e]; omega)]⟩
theorem cause_ok {d : Int} (h : okDay d) {id : ByteArray} (hn : nameOk id = true) : causeE d id = 0 ∧ causeT d id = causeB d id := by
 have e : causeE d id = 0 := by unfold causeE; rw [if_neg (fun x => x h), if_pos hn]
 exact ⟨e, by unfold causeT; rw [if_pos e]⟩
theorem rvCause_any (d : Int) (id : ByteArray) (hi : id.size ≤ 1000) (w : World) (ht : Tabs w) :
 Calls Tryz.prog 13 #[.int .i64 d, .string id] w fun e w' => e = .returned (.tuple #[.string (causeT d id), .int .i64 (causeE d id)]) ∧ Below w.heap.size w w' := by
 by_cases hd : okDay d
 case neg =>
  have HP := hI (Print_no d hd w)
  rw [(cause_day hd id).1, (cause_day hd id).2]
  clear hd
  go_enter Tryz.func13, Tryz.ntmps13
  go_wp2_with fail
  refine HP.out.mono ?_
  rintro e w1 ⟨rfl, rfl⟩
  go_wp2_with fail
  refine bodyPost_ret (results_tmp2 rfl _ _ _) rfl ?_
  exact ⟨rfl, Below.refl _ _⟩
 have HP := hI (Print_any d hd w ht)
 have HN := hI (fun W => Name_any id (by omega) W)
 have hpz := ptext_size hd w
 cases hn : nameOk id with
 | false =>
   rw [hn] at HN
   rw [(cause_name hd hn).1, (cause_name hd hn).2]
   clear hd hn
   go_enter Tryz.func13, Tryz.ntmps13
   go_wp2_with fail
   refine HP.out.mono ?_
   rintro e w1 ⟨rfl, b1⟩
   go_wp2_with fail
   refine (HN.out w1).mono ?_
   rintro e w2 ⟨rfl, b2⟩
   go_wp2_with fail
   refine bodyPost_ret (results_tmp2 rfl _ _ _) rfl ?_
   exact ⟨rfl, b1.trans (b2.mono b1.size)⟩
 | true =>
   rw [hn] at HN
   rw [(cause_ok hd hn).1, (cause_ok hd hn).2]
   clear hd hn
   unfold causeB
   generalize ptext d = s at HP hpz
   go_enter Tryz.func13, Tryz.ntmps13
   go_wp2_with fail
   refine HP.out.mono ?_
   rintro e w1 ⟨rfl, b1⟩
   go_wp2_with fail
   refine (HN.out w1).mono ?_
   rintro e w2 ⟨rfl, b2⟩
   go_wp2_with fail
   refine bodyPost_ret (results_tmp2 rfl _ _ _) rfl ?_
   exact ⟨rfl, b1.trans (b2.mono b1.size)⟩
end Go.Proofs.YtbkmhmaldljgmaaGreatDoor
