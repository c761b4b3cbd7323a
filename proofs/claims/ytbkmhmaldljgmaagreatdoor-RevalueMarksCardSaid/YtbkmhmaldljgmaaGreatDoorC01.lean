/-
  Magnitudes: groups of nine digits, the lowest one first. Plain Lean, no program.
  Decimal texts as integers: value, canonical text, digit lists. Plain Lean, no program.
  The guess of a group of a quotient, and what is done with it. Plain Lean, no program.
-/

set_option linter.unusedVariables false
set_option linter.unusedSimpArgs false
set_option maxHeartbeats 16000000
set_option maxRecDepth 100000
namespace Tr
def mval : List Nat → Nat
 | [] => 0
 | x :: t => x + 1000000000 * mval t
def Dig (l : List Nat) : Prop := ∀ x ∈ l, x < 1000000000
def Norm (l : List Nat) : Prop := l.getLast? ≠ some 0
def cutz (l : List Nat) : List Nat := (l.reverse.dropWhile (· == 0)).reverse
theorem getD_lt {l : List Nat} {k : Nat} (h : k < l.length) : l.getD k 0 = l[k] := by simp [List.getD_eq_getElem?_getD, h]
theorem getD_ge {l : List Nat} {k : Nat} (h : l.length ≤ k) : l.getD k 0 = 0 := by simp [List.getD_eq_getElem?_getD, h]
theorem mval_cons (x : Nat) (t : List Nat) : mval (x :: t) = x + 1000000000 * mval t := rfl
theorem mval_append (l m : List Nat) : mval (l ++ m) = mval l + 1000000000 ^ l.length * mval m := by
 induction l with
 | nil => simp [mval]
 | cons x l ih =>
   rw [List.cons_append, mval_cons, mval_cons, ih, List.length_cons, Nat.pow_succ, Nat.mul_add, Nat.mul_comm (1000000000 ^ l.length) 1000000000, Nat.mul_assoc]; omega
theorem mval_snoc (l : List Nat) (x : Nat) : mval (l ++ [x]) = mval l + 1000000000 ^ l.length * x := by
 rw [mval_append]; simp [mval]
theorem mval_single (x : Nat) : mval [x] = x := by simp [mval]
theorem Dig.nil : Dig [] := by intro x h; cases h
theorem Dig.append {l m : List Nat} (h : Dig l) (k : Dig m) : Dig (l ++ m) := by
 intro x hx; rcases List.mem_append.1 hx with hx | hx
 ·exact h x hx
 ·exact k x hx
theorem Dig.snoc {l : List Nat} {x : Nat} (h : Dig l) (k : x < 1000000000) : Dig (l ++ [x]) := h.append (by intro y hy; simp at hy; omega)
theorem Dig.cons {l : List Nat} {x : Nat} (h : Dig l) (k : x < 1000000000) : Dig (x :: l) := by
 intro y hy; rcases List.mem_cons.1 hy with rfl | hy
 ·exact k
 ·exact h y hy
theorem Dig.of_append_left {l m : List Nat} (h : Dig (l ++ m)) : Dig l := fun x hx => h x (List.mem_append.2 (.inl hx))
theorem Dig.take {l : List Nat} (h : Dig l) (k : Nat) : Dig (l.take k) := fun x hx => h x (List.mem_of_mem_take hx)
theorem Dig.drop {l : List Nat} (h : Dig l) (k : Nat) : Dig (l.drop k) := fun x hx => h x (List.mem_of_mem_drop hx)
theorem Dig.get {l : List Nat} (h : Dig l) (k : Nat) : l.getD k 0 < 1000000000 := by
 rw [List.getD_eq_getElem?_getD]
 cases hk : l[k]? with
 | none => simp
 | some y => exact h y (List.mem_of_getElem? hk)
theorem Dig.set {l : List Nat} (h : Dig l) (k x : Nat) (hx : x < 1000000000) : Dig (l.set k x) := by
 intro y hy
 rcases List.mem_or_eq_of_mem_set hy with hy | rfl
 ·exact h y hy
 ·exact hx
theorem mval_lt {l : List Nat} (h : Dig l) : mval l < 1000000000 ^ l.length := by
 induction l with
 | nil => simp [mval]
 | cons x l ih =>
   have h1 := h x (List.mem_cons_self)
   have h2 := ih (fun y hy => h y (List.mem_cons_of_mem _ hy))
   rw [mval_cons, List.length_cons, Nat.pow_succ]; omega
theorem mval_replicate_zero (n : Nat) : mval (List.replicate n 0) = 0 := by
 induction n with
 | zero => rfl
 | succ n ih => rw [List.replicate_succ, mval_cons, ih]
theorem Dig.replicate (n : Nat) : Dig (List.replicate n 0) := by
 intro x hx; have := List.eq_of_mem_replicate hx; omega
theorem cutz_snoc_zero (l : List Nat) : cutz (l ++ [0]) = cutz l := by simp [cutz]
theorem cutz_of_norm {l : List Nat} (h : Norm l) : cutz l = l := by
 unfold cutz
 have : l.reverse.dropWhile (· == 0) = l.reverse := by
  cases hr : l.reverse with
  | nil => rfl
  | cons x t =>
    have hx : l.getLast? = some x := by
     have := congrArg List.reverse hr
     simp at this; rw [this]; simp
    have hx0 : x ≠ 0 := fun e => h (by rw [hx, e])
    simp [hx0]
 rw [this, List.reverse_reverse]
theorem norm_nil : Norm [] := by simp [Norm]
theorem norm_snoc {l : List Nat} {x : Nat} (h : x ≠ 0) : Norm (l ++ [x]) := by simp [Norm]; exact h
theorem not_norm {l : List Nat} (h : ¬ Norm l) : ∃ m, l = m ++ [0] := by
 unfold Norm at h
 have h : l.getLast? = some 0 := Classical.not_not.1 h
 have hne : l ≠ [] := by rintro rfl; simp at h
 refine ⟨l.dropLast, ?_⟩
 have h2 := List.dropLast_concat_getLast hne
 rw [List.getLast?_eq_some_getLast hne] at h
 injection h with h
 rw [h] at h2; exact h2.symm
theorem cutz_spec : ∀ (n : Nat) (l : List Nat), l.length = n → Norm (cutz l) ∧ mval (cutz l) = mval l ∧ (∃ k, l = cutz l ++ List.replicate k 0) := by
 intro n
 induction n with
 | zero => intro l hl; obtain rfl := List.eq_nil_of_length_eq_zero hl; exact ⟨norm_nil, rfl, 0, rfl⟩
 | succ n ih =>
   intro l hl
   by_cases hn : Norm l
   ·rw [cutz_of_norm hn]; exact ⟨hn, rfl, 0, by simp⟩
   ·obtain ⟨m, rfl⟩ := not_norm hn
    obtain ⟨h1, h2, k, h3⟩ := ih m (by simpa using hl)
    rw [cutz_snoc_zero]
    refine ⟨h1, by rw [h2, mval_snoc]; simp, k + 1, ?_⟩
    rw [List.replicate_succ', ← List.append_assoc, ← h3]
theorem norm_cutz (l : List Nat) : Norm (cutz l) := (cutz_spec _ l rfl).1
theorem mval_cutz (l : List Nat) : mval (cutz l) = mval l := (cutz_spec _ l rfl).2.1
theorem cutz_prefix (l : List Nat) : cutz l = l.take (cutz l).length := by
 obtain ⟨k, hk⟩ := (cutz_spec _ l rfl).2.2
 generalize cutz l = c at hk ⊢
 rw [hk]; simp
theorem cutz_length_le (l : List Nat) : (cutz l).length ≤ l.length := by
 obtain ⟨k, hk⟩ := (cutz_spec _ l rfl).2.2
 have := congrArg List.length hk
 simp at this; omega
theorem Dig.cutz {l : List Nat} (h : Dig l) : Dig (cutz l) := by rw [cutz_prefix]; exact h.take _
theorem mval_ge_of_norm {l : List Nat} (hn : Norm l) (hne : l ≠ []) : 1000000000 ^ (l.length - 1) ≤ mval l := by
 obtain ⟨m, x, rfl⟩ : ∃ m x, l = m ++ [x] := ⟨l.dropLast, l.getLast hne, (List.dropLast_concat_getLast hne).symm⟩
 have hx : x ≠ 0 := by rintro rfl; simp [Norm] at hn
 rw [mval_snoc]
 simp only [List.length_append, List.length_cons, List.length_nil, Nat.zero_add, Nat.add_sub_cancel]
 have : 1000000000 ^ m.length * 1 ≤ 1000000000 ^ m.length * x := Nat.mul_le_mul_left _ (by omega)
 omega
theorem mval_eq_zero {l : List Nat} (hn : Norm l) : mval l = 0 ↔ l = [] := by
 constructor
 ·intro h
  rcases Classical.em (l = []) with h0 | h0
  ·exact h0
  ·have := mval_ge_of_norm hn h0
   have hp : 0 < 1000000000 ^ (l.length - 1) := Nat.pow_pos (by omega)
   omega
 ·rintro rfl; rfl
theorem mval_lt_of_length {l m : List Nat} (hl : Dig l) (hm : Norm m) (h : l.length < m.length) : mval l < mval m := by
 have h1 := mval_lt hl
 have hne : m ≠ [] := by rintro rfl; simp at h
 have h2 := mval_ge_of_norm hm hne
 have h3 : (1000000000 : Nat) ^ l.length ≤ 1000000000 ^ (m.length - 1) := Nat.pow_le_pow_right (by omega) (by omega)
 omega
theorem norm_of_ge {l : List Nat} (hd : Dig l) (h : 1000000000 ^ (l.length - 1) ≤ mval l) (hne : l ≠ []) : Norm l := by
 rcases Classical.em (Norm l) with h0 | h0
 ·exact h0
 ·exfalso
  obtain ⟨m, rfl⟩ := not_norm h0
  have h1 := mval_lt (l := m) hd.of_append_left
  rw [mval_snoc] at h
  simp only [List.length_append, List.length_cons, List.length_nil, Nat.zero_add, Nat.add_sub_cancel, Nat.mul_zero, Nat.add_zero] at h
  omega
theorem length_le_of_lt {l : List Nat} (hn : Norm l) {k : Nat} (h : mval l < 1000000000 ^ k) : l.length ≤ k := by
 rcases Classical.em (l = []) with h0 | h0
 ·subst h0; simp
 ·have h1 := mval_ge_of_norm hn h0
  have h2 : (1000000000 : Nat) ^ (l.length - 1) < 1000000000 ^ k := by omega
  have h3 := (Nat.pow_lt_pow_iff_right (show 1 < 1000000000 by omega)).1 h2
  omega
theorem mval_lt_of_top {l m : List Nat} (hl : Dig l) (k : Nat) (hk : k < l.length) (hlen : l.length = m.length)
 (hd : l.drop (k + 1) = m.drop (k + 1)) (hlt : l.getD k 0 < m.getD k 0) : mval l < mval m := by
 have e : ∀ (x : List Nat), k < x.length → mval x = mval (x.take k) + 1000000000 ^ k * (x.getD k 0 + 1000000000 * mval (x.drop (k + 1))) := by
  intro x hx
  conv => lhs; rw [← List.take_append_drop k x]
  rw [mval_append, List.length_take_of_le (by omega), List.drop_eq_getElem_cons hx, mval_cons, getD_lt hx]
 rw [e l hk, e m (by omega), hd]
 have h1 := mval_lt (hl.take k)
 rw [List.length_take_of_le (by omega)] at h1
 have h2 : 1000000000 ^ k * (l.getD k 0 + 1000000000 * mval (m.drop (k + 1)) + 1) ≤ 1000000000 ^ k * (m.getD k 0 + 1000000000 * mval (m.drop (k + 1))) :=
  Nat.mul_le_mul_left _ (by omega)
 rw [Nat.mul_add _ _ 1] at h2
 omega
theorem set_append_mid (l r : List Nat) (x y : Nat) (k : Nat) (h : l.length = k) : (l ++ x :: r).set k y = l ++ y :: r := by
 subst h; simp
theorem split_at (l : List Nat) (k : Nat) (h : k < l.length) : l = l.take k ++ l.getD k 0 :: l.drop (k + 1) := by
 conv => lhs; rw [← List.take_append_drop k l, List.drop_eq_getElem_cons h]
 rw [getD_lt h]
theorem take_succ_getD (l : List Nat) (k : Nat) (h : k < l.length) : l.take (k + 1) = l.take k ++ [l.getD k 0] := by
 rw [List.take_succ_eq_append_getElem h, getD_lt h]
theorem mval_take_succ (l : List Nat) (k : Nat) (h : k < l.length) : mval (l.take (k + 1)) = mval (l.take k) + 1000000000 ^ k * l.getD k 0 := by
 rw [take_succ_getD l k h, mval_snoc, List.length_take_of_le (by omega)]
theorem mval_take_succ' (l : List Nat) (k : Nat) : mval (l.take (k + 1)) = mval (l.take k) + 1000000000 ^ k * l.getD k 0 := by
 by_cases h : k < l.length
 ·exact mval_take_succ l k h
 ·rw [List.take_of_length_le (by omega), List.take_of_length_le (by omega), getD_ge (by omega)]; simp
def isDigit (c : UInt8) : Bool := 48 ≤ c && c ≤ 57
def dval (l : List UInt8) : Nat := l.foldl (fun n c => 10 * n + (c.toNat - 48)) 0
def dchar (d : Nat) : UInt8 := UInt8.ofNat (48 + d)
def digitsF : Nat → Nat → List UInt8
 | 0, _ => []
 | f + 1, n => if n = 0 then [] else digitsF f (n / 10) ++ [dchar (n % 10)]
def digits (n : Nat) : List UInt8 := digitsF n n
def signOf : List UInt8 → Bool × List UInt8
 | [] => (false, [])
 | c :: t => if c = 45 then (true, t) else (false, c :: t)
def val (s : List UInt8) : Int :=
 if (signOf s).2.all isDigit then (if (signOf s).1 then -(dval (signOf s).2 : Int) else (dval (signOf s).2 : Int)) else 0
def can (z : Int) : List UInt8 := if z < 0 then 45 :: digits z.natAbs else digits z.natAbs
theorem digitsF_enough : ∀ (f n : Nat), n ≤ f → ∀ g, n ≤ g → digitsF f n = digitsF g n := by
 intro f
 induction f with
 | zero => intro n h g hg; obtain rfl : n = 0 := by omega
           cases g <;> simp [digitsF]
 | succ f ih =>
   intro n h g hg
   cases g with
   | zero => obtain rfl : n = 0 := by omega
             simp [digitsF]
   | succ g =>
     simp only [digitsF]
     by_cases h0 : n = 0
     ·simp [h0]
     ·rw [if_neg h0, if_neg h0, ih (n / 10) (by omega) g (by omega)]
theorem digits_zero : digits 0 = [] := rfl
theorem digits_pos {n : Nat} (h : 0 < n) : digits n = digits (n / 10) ++ [dchar (n % 10)] := by
 unfold digits
 obtain ⟨m, rfl⟩ : ∃ m, n = m + 1 := ⟨n - 1, by omega⟩
 rw [digitsF, if_neg (by omega), digitsF_enough m ((m + 1) / 10) (by omega) ((m + 1) / 10) (Nat.le_refl _)]
theorem digits_ne_nil {n : Nat} (h : 0 < n) : digits n ≠ [] := by rw [digits_pos h]; simp
theorem digits_eq_nil {n : Nat} : digits n = [] ↔ n = 0 := by
 constructor
 ·intro h
  rcases Nat.eq_zero_or_pos n with h0 | h0
  ·exact h0
  ·exact absurd h (digits_ne_nil h0)
 ·rintro rfl; rfl
theorem toNat_dchar {d : Nat} (h : d < 10) : (dchar d).toNat = 48 + d := by
 unfold dchar; rw [UInt8.toNat_ofNat']; omega
theorem isDigit_iff (c : UInt8) : isDigit c = true ↔ 48 ≤ c.toNat ∧ c.toNat ≤ 57 := by
 simp [isDigit, UInt8.le_iff_toNat_le]
theorem isDigit_dchar {d : Nat} (h : d < 10) : isDigit (dchar d) = true := by
 rw [isDigit_iff, toNat_dchar h]; omega
theorem dchar_of {c : UInt8} (h : isDigit c = true) : dchar (c.toNat - 48) = c := by
 rw [isDigit_iff] at h
 apply UInt8.toNat_inj.1
 rw [toNat_dchar (by omega)]; omega
theorem dval_nil : dval [] = 0 := rfl
theorem dval_snoc (l : List UInt8) (c : UInt8) : dval (l ++ [c]) = 10 * dval l + (c.toNat - 48) := by
 simp [dval, List.foldl_append]
theorem foldl_dval (l : List UInt8) : ∀ a : Nat, l.foldl (fun n c => 10 * n + (c.toNat - 48)) a = a * 10 ^ l.length + dval l := by
 induction l with
 | nil => intro a; simp [dval]
 | cons c l ih =>
   intro a
   simp only [List.foldl_cons, List.length_cons, dval, Nat.mul_zero, Nat.zero_add]
   rw [ih, ih (c.toNat - 48), Nat.pow_succ, Nat.add_mul, Nat.mul_comm 10 a, Nat.mul_assoc, Nat.mul_comm 10 (10 ^ l.length)]
   omega
theorem dval_append (l m : List UInt8) : dval (l ++ m) = dval l * 10 ^ m.length + dval m := by
 unfold dval
 rw [List.foldl_append, foldl_dval m]; rfl
theorem dval_cons (c : UInt8) (l : List UInt8) : dval (c :: l) = (c.toNat - 48) * 10 ^ l.length + dval l := by
 have := dval_append [c] l
 simpa [dval] using this
theorem all_digits : ∀ n : Nat, (digits n).all isDigit = true := by
 intro n
 induction n using Nat.strongRecOn with
 | _ n ih =>
   rcases Nat.eq_zero_or_pos n with h0 | h0
   ·subst h0; rfl
   ·rw [digits_pos h0, List.all_append, ih (n / 10) (by omega)]
    simp [isDigit_dchar (show n % 10 < 10 by omega)]
theorem dval_digits : ∀ n : Nat, dval (digits n) = n := by
 intro n
 induction n using Nat.strongRecOn with
 | _ n ih =>
   rcases Nat.eq_zero_or_pos n with h0 | h0
   ·subst h0; rfl
   ·rw [digits_pos h0, dval_snoc, ih (n / 10) (by omega), toNat_dchar (by omega)]; omega
theorem digits_snoc (n d : Nat) (hd : d < 10) (h : 0 < n ∨ 0 < d) : digits (10 * n + d) = digits n ++ [dchar d] := by
 rw [digits_pos (by omega), show (10 * n + d) / 10 = n by omega, show (10 * n + d) % 10 = d by omega]
def strip (l : List UInt8) : List UInt8 := l.dropWhile (· == 48)
theorem strip_append_of_ne {l m : List UInt8} (h : strip l ≠ []) : strip (l ++ m) = strip l ++ m := by
 induction l with
 | nil => simp [strip] at h
 | cons c l ih =>
   unfold strip at h ih ⊢
   rw [List.cons_append, List.dropWhile_cons, List.dropWhile_cons]
   rw [List.dropWhile_cons] at h
   split
   ·rename_i hc; rw [if_pos hc] at h; exact ih h
   ·rfl
theorem strip_append_of_eq {l m : List UInt8} (h : strip l = []) : strip (l ++ m) = strip m := by
 induction l with
 | nil => rfl
 | cons c l ih =>
   unfold strip at h ih ⊢
   rw [List.dropWhile_cons] at h
   split at h
   ·rename_i hc; rw [List.cons_append, List.dropWhile_cons, if_pos hc]; exact ih h
   ·cases h
theorem digits_dval (l : List UInt8) (h : l.all isDigit = true) : digits (dval l) = strip l ∧ (dval l = 0 ↔ strip l = []) := by
 suffices H : ∀ (n : Nat) (l : List UInt8), l.length = n → l.all isDigit = true → digits (dval l) = strip l ∧ (dval l = 0 ↔ strip l = []) from H _ l rfl h
 intro n
 induction n with
 | zero => intro l hl _; obtain rfl := List.eq_nil_of_length_eq_zero hl; simp [dval, strip, digits_zero]
 | succ n ih =>
   intro l hl ha
   have hne : l ≠ [] := by rintro rfl; simp at hl
   obtain ⟨m, c, rfl⟩ : ∃ m c, l = m ++ [c] := ⟨l.dropLast, l.getLast hne, (List.dropLast_concat_getLast hne).symm⟩
   rw [List.all_append, Bool.and_eq_true] at ha
   have hc : isDigit c = true := by simpa using ha.2
   obtain ⟨h1, h2⟩ := ih m (by simpa using hl) ha.1
   have hc' := (isDigit_iff c).1 hc
   rw [dval_snoc]
   by_cases hz : strip m = []
   ·have h0 := h2.2 hz
    rw [h0, Nat.mul_zero, Nat.zero_add, strip_append_of_eq hz]
    by_cases hc0 : c = 48
    ·subst hc0; simp [strip, digits_zero]
    ·have hne0 : c.toNat ≠ 48 := fun e => hc0 (UInt8.toNat_inj.1 (by simpa using e))
     constructor
     ·rw [digits_pos (by omega), show (c.toNat - 48) / 10 = 0 by omega, show (c.toNat - 48) % 10 = c.toNat - 48 by omega, dchar_of hc, digits_zero]
      simp [strip, hc0]
     ·constructor
      ·omega
      ·simp [strip, hc0]
   ·have h0 : dval m ≠ 0 := fun e => hz (h2.1 e)
    rw [strip_append_of_ne hz, ← h1, digits_snoc _ _ (by omega) (by omega), dchar_of hc]
    exact ⟨rfl, by omega, by simp⟩
theorem val_can (z : Int) : val (can z) = z := by
 unfold can
 split
 ·rename_i h
  simp only [val, signOf, if_true, all_digits, dval_digits]; omega
 ·rename_i h
  have hs : signOf (digits z.natAbs) = (false, digits z.natAbs) := by
   have ha := all_digits z.natAbs
   cases hd : digits z.natAbs with
   | nil => rfl
   | cons c t =>
     rw [hd] at ha
     have : c ≠ 45 := by
      rintro rfl
      simp [isDigit] at ha
     simp [signOf, this]
  simp only [val, hs, all_digits, dval_digits, if_true]
  simp; omega
theorem can_nat (n : Nat) : can (n : Int) = digits n := by
 unfold can; rw [if_neg (by omega)]; simp
theorem can_neg_nat {n : Nat} (h : 0 < n) : can (-(n : Int)) = 45 :: digits n := by
 unfold can; rw [if_pos (by omega)]; simp
theorem digits_length_pos {n : Nat} (h : 0 < n) : (digits n).length = (digits (n / 10)).length + 1 := by
 rw [digits_pos h]; simp
theorem digits_length_le_iff : ∀ (k n : Nat), (digits n).length ≤ k ↔ n < 10 ^ k := by
 intro k
 induction k with
 | zero => intro n; simp [digits_eq_nil]
 | succ k ih =>
   intro n
   rcases Nat.eq_zero_or_pos n with h0 | h0
   ·subst h0; simp [digits_zero, Nat.pow_pos]
   ·rw [digits_length_pos h0, Nat.add_le_add_iff_right, ih, Nat.pow_succ]; omega
theorem dval_lt (l : List UInt8) (h : l.all isDigit = true) : dval l < 10 ^ l.length := by
 suffices H : ∀ (n : Nat) (l : List UInt8), l.length = n → l.all isDigit = true → dval l < 10 ^ n from H _ l rfl h
 intro n
 induction n with
 | zero => intro l hl _; obtain rfl := List.eq_nil_of_length_eq_zero hl; simp [dval]
 | succ n ih =>
   intro l hl ha
   have hne : l ≠ [] := by rintro rfl; simp at hl
   obtain ⟨m, c, rfl⟩ : ∃ m c, l = m ++ [c] := ⟨l.dropLast, l.getLast hne, (List.dropLast_concat_getLast hne).symm⟩
   rw [List.all_append, Bool.and_eq_true] at ha
   have hc : isDigit c = true := by simpa using ha.2
   have hc' := (isDigit_iff c).1 hc
   have := ih m (by simpa using hl) ha.1
   rw [dval_snoc, Nat.pow_succ]; omega
theorem val_natAbs_lt (s : List UInt8) : (val s).natAbs < 10 ^ s.length := by
 unfold val
 split
 ·rename_i h
  have h1 := dval_lt _ h
  have h2 : (signOf s).2.length ≤ s.length := by
   cases s with
   | nil => simp [signOf]
   | cons c t => simp only [signOf]; split <;> simp
  have h3 : (10 : Nat) ^ (signOf s).2.length ≤ 10 ^ s.length := Nat.pow_le_pow_right (by omega) h2
  split <;> omega
 ·simp [Nat.pow_pos]
section
variable {R V g top v1 v2 a2 vr rr P : Nat}
theorem knuth_first (hV : V = (v1 * 1000000000 + v2) * P + vr) (hR : R = (top * 1000000000 + a2) * P + rr) (hrr : rr < P) (ha2 : a2 < 1000000000)
 (hlt : R < 1000000000 * V) (h1 : 0 < v1) : R / V ≤ min (top / v1) (1000000000 - 1) := by
 have hP : 0 < P := by omega
 have hVpos : 0 < V := by
  rcases Nat.eq_zero_or_pos V with h | h
  ·subst h; omega
  ·exact h
 have hq : R / V * V ≤ R := Nat.div_mul_le_self R V
 generalize R / V = q at hq ⊢ <;> skip
 have hqb : q < 1000000000 := by
  rcases Nat.lt_or_ge q 1000000000 with h | h
  ·exact h
  ·have : 1000000000 * V ≤ q * V := Nat.mul_le_mul_right _ h
   omega
 have e1 : q * v1 * (1000000000 * P) ≤ q * V := by
  rw [Nat.mul_assoc]
  refine Nat.mul_le_mul_left _ ?_
  rw [hV, Nat.add_mul, Nat.mul_assoc]; omega
 have e2 : R < (top + 1) * (1000000000 * P) := by
  have h3 : (top * 1000000000 + a2 + 1) * P ≤ ((top + 1) * 1000000000) * P := Nat.mul_le_mul_right _ (by omega)
  rw [Nat.add_mul _ 1, Nat.one_mul] at h3
  rw [← Nat.mul_assoc]; omega
 have e3 : q * v1 < top + 1 := by
  have : q * v1 * (1000000000 * P) < (top + 1) * (1000000000 * P) := by omega
  exact Nat.lt_of_mul_lt_mul_right this
 have e4 : q ≤ top / v1 := (Nat.le_div_iff_mul_le h1).2 (by omega)
 omega
theorem knuth_down (hV : V = (v1 * 1000000000 + v2) * P + vr) (hR : R = (top * 1000000000 + a2) * P + rr) (hrr : rr < P)
 (hg : g * v1 ≤ top) (hc : (top - g * v1) * 1000000000 + a2 < g * v2) : R / V < g := by
 rcases Nat.lt_or_ge (R / V) g with h | h
 ·exact h
 exfalso
 have h1 : g * V ≤ R := Nat.le_trans (Nat.mul_le_mul_right V h) (Nat.div_mul_le_self R V)
 have h2 : g * (v1 * 1000000000 + v2) * P ≤ g * V := by
  rw [Nat.mul_assoc]; exact Nat.mul_le_mul_left _ (by omega)
 have h3 : g * (v1 * 1000000000 + v2) * P < (top * 1000000000 + a2 + 1) * P := by
  rw [Nat.add_mul _ 1 P]; omega
 have h4 := Nat.lt_of_mul_lt_mul_right h3
 have h5 : g * (v1 * 1000000000 + v2) = g * v1 * 1000000000 + g * v2 := by rw [Nat.mul_add, Nat.mul_assoc]
 rw [h5] at h4
 generalize g * v1 = x at *
 generalize g * v2 = y at *
 omega
theorem knuth_last (hV : V = (v1 * 1000000000 + v2) * P + vr) (hR : R = (top * 1000000000 + a2) * P + rr) (hvr : vr < P)
 (h1 : 0 < v1) (hv2 : v2 < 1000000000) (hg : g * v1 ≤ top) (hgb : g < 1000000000)
 (hc : 1000000000 ≤ top - g * v1 ∨ g * v2 ≤ (top - g * v1) * 1000000000 + a2) : g ≤ R / V + 1 := by
 have hb : 1000000000 * P ≤ V := by
  have : 1 * 1000000000 * P ≤ (v1 * 1000000000 + v2) * P := Nat.mul_le_mul_right _ (by omega)
  omega
 have hP : 0 < P := by omega
 have h2 : g * v2 ≤ (top - g * v1) * 1000000000 + a2 := by
  rcases hc with hc | hc
  ·have : g * v2 ≤ 1000000000 * 1000000000 := Nat.mul_le_mul (by omega) (by omega)
   omega
  ·exact hc
 have h5 : g * (v1 * 1000000000 + v2) = g * v1 * 1000000000 + g * v2 := by rw [Nat.mul_add, Nat.mul_assoc]
 have h6 : g * (v1 * 1000000000 + v2) ≤ top * 1000000000 + a2 := by
  rw [h5]
  generalize g * v1 = x at *
  generalize g * v2 = y at *
  omega
 have h7 : g * V ≤ R + V := by
  have e : g * V = g * (v1 * 1000000000 + v2) * P + g * vr := by rw [hV, Nat.mul_add, Nat.mul_assoc]
  have e1 : g * (v1 * 1000000000 + v2) * P ≤ (top * 1000000000 + a2) * P := Nat.mul_le_mul_right _ h6
  have e2 : g * vr ≤ 1000000000 * P := Nat.mul_le_mul (by omega) (by omega)
  omega
 rcases Nat.eq_zero_or_pos g with h0 | h0
 ·rw [h0]; exact Nat.zero_le _
 have h8 : (g - 1) * V ≤ R := by rw [Nat.sub_mul]; omega
 have h9 := (Nat.le_div_iff_mul_le (show 0 < V by omega)).2 h8
 omega
end
end Tr
