/-
  fact.isCode, the check of a name.
-/
import Derived.Test.YtbkmhmaldljgmaaGreatDoorC26
import Derived.Test.YtbkmhmaldljgmaaGreatDoorC14
import Derived.Shelf.Strings.SlTrimAscii
import Derived.Lib.SlTrimSet
set_option linter.unusedVariables false
set_option linter.unusedSimpArgs false
set_option maxHeartbeats 16000000
set_option maxRecDepth 100000
namespace Go.Proofs.YtbkmhmaldljgmaaGreatDoor
open Go.RowKit Tr Go.Shelf Go.Maps
theorem dw_head {p : UInt8 → Bool} : ∀ (l : List UInt8) {a : UInt8} {r : List UInt8}, l.dropWhile p = a :: r → p a = false
 | [], _, _, h => by cases h
 | x :: l, a, r, h => by
   rw [List.dropWhile_cons] at h
   cases hx : p x with
   | true => rw [hx, if_pos rfl] at h; exact dw_head l h
   | false =>
     rw [hx] at h
     simp only [Bool.false_eq_true, if_false] at h
     injection h with h1 _
     rw [← h1]; exact hx
theorem dw_nil {p : UInt8 → Bool} : ∀ (l : List UInt8), l.dropWhile p = [] ↔ l.all p = true
 | [] => by simp
 | x :: l => by
   rw [List.dropWhile_cons, List.all_cons]
   cases hx : p x with
   | true => rw [if_pos rfl, dw_nil l]; simp
   | false => simp
theorem trimS_nilK (l cs : List UInt8) : Lib.trimS l cs = [] ↔ l.all (cs.contains ·) = true := by
 unfold Lib.trimS Lib.trimLeftS Lib.trimRightS
 rw [dw_nil]
 cases hd : l.reverse.dropWhile (cs.contains ·) with
 | nil =>
   have := (dw_nil l.reverse).1 hd
   rw [List.all_reverse] at this
   exact ⟨fun _ => this, fun _ => rfl⟩
 | cons a r =>
   have ha := dw_head _ hd
   constructor
   ·intro h
    rw [List.all_reverse, List.all_cons, ha] at h
    simp at h
   ·intro h
    exfalso
    have h2 := (dw_nil l.reverse).2 (by rw [List.all_reverse]; exact h)
    rw [h2] at hd; cases hd
def letters : ByteArray := ⟨#[65, 66, 67, 68, 69, 70, 71, 72, 73, 74, 75, 76, 77, 78, 79, 80, 81, 82, 83, 84, 85, 86, 87, 88, 89, 90]⟩
theorem letters_code (b : UInt8) : letters.data.toList.contains b = codeB b := by
 have key : ((List.range 256).all fun n => letters.data.toList.contains (UInt8.ofNat n) == codeB (UInt8.ofNat n)) = true := by kernel_rfl
 have h := List.all_eq_true.1 key b.toNat (List.mem_range.2 b.toNat_lt)
 rw [UInt8.ofNat_toNat] at h
 exact beq_iff_eq.1 h
theorem fcTrim_any (s : ByteArray) (hs : s.size ≤ 1000000) (w : World) : Calls Tryz.prog 131 #[.string s, .string letters] w fun e w' => e = .returned (.string ⟨(Lib.trimS s.data.toList letters.data.toList).toArray⟩) ∧ Below w.heap.size w w' :=
 Any.strings_Trim_ascii Tryz.lays160 (fun w => by kernel_rfl) (by kernel_rfl) s letters w (by omega) (by show 26 < _; omega) (fun j b hb => by
  have key : (letters.data.toList.all fun b => decide (b.toNat < 128)) = true := by kernel_rfl
  exact of_decide_eq_true (List.all_eq_true.1 key b (List.mem_of_getElem? hb)))
theorem fcIsCode_any (s : ByteArray) (hs : s.size ≤ 1000000) (w : World) : Calls Tryz.prog 250 #[.string s] w fun e w' => e = .returned (.bool (codeOk s)) ∧ Below w.heap.size w w' := by
 by_cases h3 : s.size = 3
 ·have e1 : ((s.size : Int) == 3) = true := beq_iff_eq.2 (by omega)
  have HT := hI (fcTrim_any s hs w)
  have HR : Hid ((Lib.trimS s.data.toList letters.data.toList).isEmpty = codeOk s) := by
   have h := trimS_nilK s.data.toList letters.data.toList
   rw [show (letters.data.toList.contains ·) = codeB from funext letters_code] at h
   have hc : codeOk s = s.data.toList.all codeB := by unfold codeOk; rw [decide_eq_true h3]; rfl
   rw [hc, Bool.eq_iff_iff, List.isEmpty_iff]
   exact h
  generalize hl : Lib.trimS s.data.toList letters.data.toList = l at HT HR
  generalize codeOk s = c at HR ⊢
  have hl2 : (⟨l.toArray⟩ : ByteArray).toList = l := by rw [Lib.toList_data]
  have HL := hI hl2
  clear hl2
  generalize (⟨l.toArray⟩ : ByteArray) = r at HT HL
  have hrr : r.toList.isEmpty = c := by rw [HL.out]; exact HR.out
  unfold letters at HT
  clear HL HR hl h3 hs
  go_enter Tryz.func250, Tryz.ntmps250
  go_wp2_with fail
  refine HT.out.mono ?_
  rintro e w1 ⟨rfl, b1⟩
  have HB := hI b1
  clear b1
  go_wp2_with fail
  go_ret
  exact ⟨rfl, HB.out⟩
 ·have e1 : ((s.size : Int) == 3) = false := beq_eq_false_iff_ne.2 (by omega)
  have hc : codeOk s = false := by unfold codeOk; rw [decide_eq_false h3]; rfl
  rw [hc]
  clear hc h3 hs
  go_enter Tryz.func250, Tryz.ntmps250
  go_wp2_with fail
  go_ret
  exact ⟨rfl, Below.refl _ _⟩
theorem fcName_any (s : ByteArray) (hs : s.size ≤ 1000000) (w : World) : Calls Tryz.prog 249 #[.string s] w fun e w' => e = .returned (.int .i64 (if nameOk s = true then 0 else 23)) ∧ Below w.heap.size w w' := by
 have HN := hI (Name_any s hs w)
 generalize nameOk s = b at HN ⊢
 go_enter Tryz.func249, Tryz.ntmps249
 go_wp2_with fail
 refine HN.out.mono ?_
 rintro e w1 ⟨rfl, b1⟩
 have HB := hI b1
 clear b1
 cases b
 all_goals
  go_wp2_with fail
  go_ret
  exact ⟨rfl, HB.out⟩
end Go.Proofs.YtbkmhmaldljgmaaGreatDoor
