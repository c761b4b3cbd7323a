/-
  Strings of bytes, their values, canonical strings: what the walks of the program and of the references share.
  The walk of integer.digits.
-/
import Derived.Test.YtbkmhmaldljgmaaGreatDoorC02
import Derived.Lib.Strings
import Derived.Test.YtbkmhmaldljgmaaGreatDoorC03
import Derived.Shelf.Strings.SlTrimAscii
set_option linter.unusedVariables false
set_option linter.unusedSimpArgs false
set_option maxHeartbeats 16000000
set_option maxRecDepth 100000
namespace Go.Proofs.YtbkmhmaldljgmaaGreatDoor
open Go.RowKit Tr
def bs (l : List UInt8) : ByteArray := ⟨l.toArray⟩
theorem bs_data (l : List UInt8) : (bs l).data.toList = l := rfl
theorem bs_of (s : ByteArray) : bs s.data.toList = s := rfl
theorem bs_size (l : List UInt8) : (bs l).size = l.length := by simp [bs, ByteArray.size]
def vl (s : ByteArray) : Int := val s.data.toList
def I (z : Int) : ByteArray := bs (can z)
theorem vl_I (z : Int) : vl (I z) = z := val_can z
theorem I_inj {a b : Int} (h : I a = I b) : a = b := by rw [← vl_I a, ← vl_I b, h]
theorem I_size (z : Int) : (I z).size = (can z).length := bs_size _
theorem vl_lt (a : ByteArray) : (vl a).natAbs < 10 ^ a.size := val_natAbs_lt a.data.toList
theorem can_length_le {z : Int} {k : Nat} (h : z.natAbs < 10 ^ k) : (can z).length ≤ k + 1 := by
 have := (digits_length_le_iff k z.natAbs).2 h
 unfold can
 split <;> simp <;> omega
theorem I_size_le {z : Int} {k : Nat} (h : z.natAbs < 10 ^ k) : (I z).size ≤ k + 1 := by rw [I_size]; exact can_length_le h
def Can (a : ByteArray) : Prop := I (vl a) = a
theorem pow_mono {a b : Nat} (h : a ≤ b) : (10 : Nat) ^ a ≤ 10 ^ b := Nat.pow_le_pow_right (by omega) h
theorem add_lt_pow {x y : Int} {a b k : Nat} (hx : x.natAbs < 10 ^ a) (hy : y.natAbs < 10 ^ b) (ha : a < k) (hb : b < k) : (x + y).natAbs < 10 ^ k := by
 obtain ⟨j, rfl⟩ : ∃ j, k = j + 1 := ⟨k - 1, by omega⟩
 have h1 := pow_mono (show a ≤ j by omega)
 have h2 := pow_mono (show b ≤ j by omega)
 rw [Nat.pow_succ]; omega
theorem mul_lt_pow {x y : Int} {a b : Nat} (hx : x.natAbs < 10 ^ a) (hy : y.natAbs < 10 ^ b) : (x * y).natAbs < 10 ^ (a + b) := by
 rw [Int.natAbs_mul, Nat.pow_add]
 exact Nat.mul_lt_mul'' hx hy
theorem neq_toList {a b : ByteArray} (h : a ≠ b) : (a.toList == b.toList) = false := by
 rw [beq_eq_false_iff_ne, Lib.toList_data, Lib.toList_data]
 intro e
 exact h (by rw [← bs_of a, ← bs_of b, e])
def cmpI (x y : Int) : Int := if x < y then -1 else if x = y then 0 else 1
theorem cmpI_lt {x y : Int} : cmpI x y < 0 ↔ x < y := by unfold cmpI; split <;> (try split) <;> omega
theorem cmpI_eq {x y : Int} : cmpI x y = 0 ↔ x = y := by unfold cmpI; split <;> (try split) <;> omega
theorem cmpI_gt {x y : Int} : 0 < cmpI x y ↔ y < x := by unfold cmpI; split <;> (try split) <;> omega
theorem cmpI_le {x y : Int} : cmpI x y ≤ 0 ↔ x ≤ y := by unfold cmpI; split <;> (try split) <;> omega
def byt (s : ByteArray) (j : Nat) : UInt8 := s.data.toList.getD j 0
theorem byt_get (a : ByteArray) (k : Nat) (h : k < a.size) : a[k]'h = byt a k := by
 have h' : k < a.data.toList.length := by rw [← Lib.size_eq]; exact h
 unfold byt
 rw [List.getD_eq_getElem?_getD, List.getElem?_eq_getElem h', Option.getD_some]
 rfl
theorem all_take_succ {s : ByteArray} {p : UInt8 → Bool} {j : Nat} (h : (s.data.toList.take j).all p = true) (hj : j < s.size) (hp : p (byt s j) = true) : (s.data.toList.take (j + 1)).all p = true := by
 have hj' : j < s.data.toList.length := by rw [← Lib.size_eq]; exact hj
 rw [List.take_succ_eq_append_getElem hj', List.all_append, h]
 simp only [List.all_cons, List.all_nil, Bool.and_true, Bool.true_and]
 unfold byt at hp
 rwa [List.getD_eq_getElem?_getD, List.getElem?_eq_getElem hj', Option.getD_some] at hp
theorem not_all {s : ByteArray} {p : UInt8 → Bool} {j : Nat} (hj : j < s.size) (hp : p (byt s j) = false) : s.data.toList.all p = false := by
 have hj' : j < s.data.toList.length := by rw [← Lib.size_eq]; exact hj
 unfold byt at hp
 rw [List.getD_eq_getElem?_getD, List.getElem?_eq_getElem hj', Option.getD_some] at hp
 rw [List.all_eq_false]
 exact ⟨_, List.getElem_mem hj', by rw [hp]; simp⟩
end Go.Proofs.YtbkmhmaldljgmaaGreatDoor
namespace Go.Proofs.YtbkmhmaldljgmaaGreatDoor
open Go.RowKit Tr Go.Shelf
def dset : ByteArray := ⟨#[48, 49, 50, 51, 52, 53, 54, 55, 56, 57]⟩
theorem dset_contains (c : UInt8) : dset.data.toList.contains c = isDigit c := by
 rw [Bool.eq_iff_iff, isDigit_iff]
 simp only [dset, List.contains_iff_mem]
 constructor
 ·intro h
  simp at h
  rcases h with h | h | h | h | h | h | h | h | h | h <;> subst h <;> decide
 ·intro h
  have : c = 48 ∨ c = 49 ∨ c = 50 ∨ c = 51 ∨ c = 52 ∨ c = 53 ∨ c = 54 ∨ c = 55 ∨ c = 56 ∨ c = 57 := by
   have e : ∀ (n : Nat) (m : UInt8), m.toNat = n → c.toNat = n → c = m := fun n m h1 h2 => UInt8.toNat_inj.1 (by omega)
   have h' : c.toNat = 48 ∨ c.toNat = 49 ∨ c.toNat = 50 ∨ c.toNat = 51 ∨ c.toNat = 52 ∨ c.toNat = 53 ∨ c.toNat = 54 ∨ c.toNat = 55 ∨ c.toNat = 56 ∨ c.toNat = 57 := by omega
   rcases h' with h | h | h | h | h | h | h | h | h | h
   ·exact .inl (e 48 _ rfl h)
   ·exact .inr (.inl (e 49 _ rfl h))
   ·exact .inr (.inr (.inl (e 50 _ rfl h)))
   ·exact .inr (.inr (.inr (.inl (e 51 _ rfl h))))
   ·exact .inr (.inr (.inr (.inr (.inl (e 52 _ rfl h)))))
   ·exact .inr (.inr (.inr (.inr (.inr (.inl (e 53 _ rfl h))))))
   ·exact .inr (.inr (.inr (.inr (.inr (.inr (.inl (e 54 _ rfl h)))))))
   ·exact .inr (.inr (.inr (.inr (.inr (.inr (.inr (.inl (e 55 _ rfl h))))))))
   ·exact .inr (.inr (.inr (.inr (.inr (.inr (.inr (.inr (.inl (e 56 _ rfl h)))))))))
   ·exact .inr (.inr (.inr (.inr (.inr (.inr (.inr (.inr (.inr (e 57 _ rfl h)))))))))
  simpa using this
theorem dropWhile_nil {p : UInt8 → Bool} {l : List UInt8} : l.dropWhile p = [] ↔ l.all p = true := by
 induction l with
 | nil => simp
 | cons c l ih => rw [List.dropWhile_cons]; by_cases h : p c = true <;> simp [h, ih]
theorem trimS_nil (l : List UInt8) : Lib.trimS l dset.data.toList = [] ↔ l.all isDigit = true := by
 have e : (fun c => dset.data.toList.contains c) = isDigit := funext dset_contains
 unfold Lib.trimS Lib.trimLeftS Lib.trimRightS
 rw [dropWhile_nil, e]
 constructor
 ·intro h
  have h2 : ((l.reverse.dropWhile isDigit).reverse).all isDigit = true := h
  rw [List.all_reverse] at h2
  have h3 : l.reverse.dropWhile isDigit = [] := by
   rcases hd : l.reverse.dropWhile isDigit with _ | ⟨c, t⟩
   ·rfl
   ·exfalso
    have h4 := List.head_dropWhile_not (p := isDigit) (l := l.reverse) (by rw [hd]; simp)
    rw [hd] at h2
    simp only [hd] at h4
    simp at h2 h4
    rw [h4] at h2; simp at h2
  rw [dropWhile_nil, List.all_reverse] at h3
  exact h3
 ·intro h
  rw [List.all_reverse]
  have h3 : l.reverse.dropWhile isDigit = [] := by rw [dropWhile_nil, List.all_reverse]; exact h
  rw [h3]; rfl
theorem trimPrefix_minus (s : List UInt8) : Lib.trimPrefix s [45] = (signOf s).2 ∧ Lib.hasPrefix s [45] = (signOf s).1 := by
 unfold Lib.trimPrefix Lib.hasPrefix
 cases s with
 | nil => simp [signOf]
 | cons c t =>
   by_cases h : c = 45
   ·subst h; simp [signOf]
   ·have h' : ((45 : UInt8) == c) = false := by simp; exact fun e => h e.symm
    simp [signOf, h, List.isPrefixOf, h']
theorem trim_laid (s : ByteArray) (w : World) (hs : s.size ≤ 9223372036854775807) :
 Calls Tryz.prog 131 #[.string s, .string ⟨#[48, 49, 50, 51, 52, 53, 54, 55, 56, 57]⟩] w fun e w' => e = .returned (.string ⟨(Lib.trimS s.data.toList dset.data.toList).toArray⟩) ∧ Below w.heap.size w w' :=
 Any.strings_Trim_laid Tryz.lays160 (by kernel_rfl) s dset w hs (by decide) (ascii_of_all (by decide))
theorem digits_any (a : ByteArray) (w : World) (hs : a.size ≤ 1099511627776) :
 Calls Tryz.prog 75 #[.string a] w fun e w' => e = .returned (.tuple #[.string (bs (digits (vl a).natAbs)), .bool (decide (vl a < 0))]) ∧ Below w.heap.size w w' := by
 go_enter Tryz.func75, Tryz.ntmps75
 go_wp2_with fail
 refine (Tryz.strings_CutPrefix a ⟨#[45]⟩ _).mono ?_
 rintro e w' ⟨rfl, rfl⟩
 have hp := trimPrefix_minus a.data.toList
 rw [show (⟨#[45]⟩ : ByteArray).data.toList = [45] from rfl, hp.1, hp.2]
 clear hp
 have hv : vl a = if (signOf a.data.toList).2.all isDigit then (if (signOf a.data.toList).1 then -(dval (signOf a.data.toList).2 : Int) else (dval (signOf a.data.toList).2 : Int)) else 0 := rfl
 have hsz : (signOf a.data.toList).2.length ≤ a.data.toList.length := by
  cases a.data.toList with
  | nil => simp [signOf]
  | cons c t => simp only [signOf]; split <;> simp
 rw [show a.data.toList.length = a.size from rfl] at hsz
 generalize (signOf a.data.toList).1 = neg at hv ⊢
 generalize (signOf a.data.toList).2 = t at hv hsz ⊢
 have HV := Lib.hid hv
 clear hv
 go_wp2_with fail
 refine (trim_laid ⟨t.toArray⟩ _ (by simp [ByteArray.size]; omega)).mono ?_
 rintro e w1 ⟨rfl, hb1⟩
 rw [show (⟨t.toArray⟩ : ByteArray).data.toList = t from rfl]
 by_cases ht : t.all isDigit = true
 ·rw [(trimS_nil t).2 ht]
  have HB1 := Lib.hid hb1
  have HT := Lib.hid ht
  clear hb1 ht
  go_wp2_with fail
  refine (Tryz.strings_TrimLeft_one ⟨t.toArray⟩ 48 (by decide) _).mono ?_
  rintro e w2 ⟨rfl, rfl⟩
  rw [show Lib.trimLeftB (⟨t.toArray⟩ : ByteArray).data.toList 48 = strip t from rfl]
  have hd := digits_dval t HT.out
  have hv := HV.out
  rw [if_pos HT.out] at hv
  have hn : (vl a).natAbs = dval t := by rw [hv]; split <;> omega
  have HN : Hid (digits (vl a).natAbs = strip t) := by rw [Hid, hn, hd.1]
  by_cases hz : strip t = []
  ·have h0 := hd.2.2 hz
   have HL : Hid (decide (vl a < 0) = false) := by
    rw [Hid, hv, h0]; cases neg <;> rfl
   rw [hz]
   rw [Hid, hz] at HN
   have HN' := Lib.hid HN
   clear HN hn hv hd h0 hz HV
   cases neg
   all_goals
    go_wp2_with fail
    go_ret2
    rw [HN'.out, HL.out]
    exact ⟨rfl, HB1.out⟩
  ·have h0 : dval t ≠ 0 := fun e => hz (hd.2.1 e)
   have HL : Hid (decide (vl a < 0) = neg) := by
    rw [Hid, hv]; cases neg <;> simp <;> omega
   obtain ⟨c, u, hu⟩ := List.exists_cons_of_ne_nil hz
   rw [hu]
   have HU := Lib.hid hu
   clear hn hv hd h0 hz HV hu
   cases neg
   all_goals
    go_wp2_with fail
    go_ret2
    rw [HN.out, HL.out, HU.out]
    exact ⟨rfl, HB1.out⟩
 ·have hv := HV.out
  rw [if_neg ht] at hv
  have hz : Lib.trimS t dset.data.toList ≠ [] := fun e => ht ((trimS_nil t).1 e)
  obtain ⟨c, u, hu⟩ := List.exists_cons_of_ne_nil hz
  rw [hu]
  have HV' := Lib.hid hv
  have HB1 := Lib.hid hb1
  clear hb1 hv hz hu ht HV
  go_wp2_with fail
  go_ret2
  rw [HV'.out]
  exact ⟨rfl, HB1.out⟩
end Go.Proofs.YtbkmhmaldljgmaaGreatDoor
