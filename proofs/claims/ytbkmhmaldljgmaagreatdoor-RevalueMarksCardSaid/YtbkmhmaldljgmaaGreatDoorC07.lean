/-
  What the library's variables hold; the walks of strconv.FormatUint.
  The walk of (number).text.
-/
import Derived.Test.YtbkmhmaldljgmaaGreatDoorC06
import Derived.Lib.ItoaMem
import Derived.BigCall
import Derived.BigGuard
set_option linter.unusedVariables false
set_option linter.unusedSimpArgs false
set_option maxHeartbeats 16000000
set_option maxRecDepth 100000
namespace Go.Proofs.YtbkmhmaldljgmaaGreatDoor
open Go.RowKit Tr Go.Shelf
structure Tabs (w : World) : Prop where
 pow10 : Lib.TabIs Tryz.prog w "internal/strconv.uint64pow10" .u64 Lib.pow10Tab
 syn : ∃ tp p, w.var? Tryz.prog "strconv.ErrSyntax" = some #[.iface tp p]
 rng : ∃ tp p, w.var? Tryz.prog "strconv.ErrRange" = some #[.iface tp p]
 maxLen : ∃ m : Int, w.cell? ⟨3, 0, none⟩ = some (.int .i64 m)
theorem cell_lt {w : World} {a : Addr} {v : Value} (h : w.cell? a = some v) : a.block < w.heap.size := by
 rcases Nat.lt_or_ge a.block w.heap.size with h' | h'
 ·exact h'
 ·simp [World.cell?, Array.getElem?_eq_none h'] at h
theorem keepc {W0 W W' : World} {p : Addr} {v : Value} (c : W0.cell? p = some v) (b : Below W.heap.size W W') (hW : W.heap = W0.heap := by rfl) : W'.cell? p = some v := by
 have h : W.cell? p = some v := by
  unfold World.cell? at *
  rw [hW]
  exact c
 exact (b.cell (cell_lt h)).trans h
theorem var_below {w w' : World} {P : Program} {name : String} {x : Array Value} (h : w.var? P name = some x) (hb : Below w.heap.size w w') : w'.var? P name = some x := by
 unfold World.var? at *
 cases hg : P.globalNamed name with
 | none => simp [hg] at h
 | some g =>
   simp only [hg, Option.bind_some] at h ⊢
   have hlt : g < w.heap.size := by
    rcases Nat.lt_or_ge g w.heap.size with h' | h'
    ·exact h'
    ·simp [Array.getElem?_eq_none h'] at h
   rw [hb.block g hlt]; exact h
theorem Tabs.below {w w' : World} (h : Tabs w) (hb : Below w.heap.size w w') : Tabs w' := by
 obtain ⟨h1, ⟨t2, p2, h2⟩, ⟨t3, p3, h3⟩, m, h4⟩ := h
 exact ⟨var_below h1 hb, ⟨t2, p2, var_below h2 hb⟩, ⟨t3, p3, var_below h3 hb⟩, m, (hb.cell (p := ⟨3, 0, none⟩) (cell_lt h4)).trans h4⟩
def dec (n : Nat) : List UInt8 := Lib.decDigits n
theorem dec_pos {n : Nat} (h : 0 < n) : dec n = digits n := by
 unfold dec
 induction n using Nat.strongRecOn with
 | _ n ih =>
   rw [Lib.decDigits, digits_pos h]
   by_cases h9 : n < 10
   ·rw [dif_pos h9, show n / 10 = 0 by omega, show n % 10 = n by omega]; rfl
   ·rw [dif_neg h9, ih (n / 10) (by omega) (by omega)]; rfl
theorem dec_zero : dec 0 = [48] := by unfold dec; rw [Lib.decDigits, dif_pos (by omega)]; rfl
theorem nDigits_le {u : Nat} (h1 : 1 ≤ u) (h2 : u < 18446744073709551616) : Lib.nDigits u ≤ 20 := by have := Lib.numDigits_eq u h1 h2; split at this <;> omega
theorem holds0 (w : World) (T : TypeId) (nd : Nat) (hs : nd ≤ 24) : Sort.Holds (fun (b : UInt8) => Value.int .u8 (b.toNat : Int)) (w.alloc (.cells Lib.zeros24 T)) w.heap.size 0 (Array.replicate nd (0 : UInt8)) := fun j hj => by
 have hj' : j < nd := by simpa using hj
 refine ⟨?_, World.frozen?_alloc_new _ _ _ _⟩
 rw [World.cell?_alloc_new, Lib.zeros24_at _ (by omega), getElem!_pos _ j hj]
 simp
theorem below_putRow {B : Nat} {a w : World} (h : Below B a w) {blk : Nat} (hb : B ≤ blk) (off : Nat) (d : Array UInt8) : Below B a (Sort.putRow (fun (b : UInt8) => Value.int .u8 (b.toNat : Int)) w blk off d) := by
 refine h.trans ⟨rfl, rfl, rfl, by simp [Sort.putRow, Sort.mapBlock], fun k hk => ?_⟩
 simp only [Sort.putRow, Sort.mapBlock, Array.getElem?_modify]
 rw [if_neg (by omega)]
theorem iformatUint_any (u : Nat) (hu64 : u < 9223372036854775808) (w : World) (ht : Tabs w) :
 Calls Tryz.prog 141 #[.int .u64 (u : Int), .int .i64 10] w fun e w' => e = .returned (.string (bs (dec u))) ∧ Below w.heap.size w w' := by
 by_cases hs : u < 100
 ·go_enter Tryz.func141, Tryz.ntmps141
  go_wp2_with (go_at_call 192; refine (Tryz.internal_strconv_small u hs _).mono ?_; rintro e w' ⟨rfl, rfl⟩)
  go_ret
  exact ⟨rfl, Below.refl _ _⟩
 ·have hu1 : 1 ≤ u := by omega
  have hnd20 := nDigits_le hu1 (by omega)
  have hal : Tryz.prog.arrayLen 236 = 24 := by simp [Program.arrayLen, Tryz.underlying236]
  have hsl1 : ∀ W, (Instr.sliceAt 236 (.pointer (some ⟨w.heap.size, 0, none⟩)) none (some (.int .i64 (Lib.nDigits u : Int))) none).run Tryz.prog W = .ok (.slice (some ⟨w.heap.size, 0, none⟩) (Lib.nDigits u) 24) W := fun W => by
   rw [run_sliceAt_array_h W 236 ⟨w.heap.size, 0, none⟩ (by simp [Program.arrayLen, Program.elem, Tryz.underlying236]) .i64 (Lib.nDigits u : Int) (by omega) (by rw [hal]; omega)]
   rw [hal]; rfl
  have hH0 := holds0 w 236 (Lib.nDigits u) (by omega)
  have hfmt := Tryz.internal_strconv_formatBase10 w.heap.size 0 24 u (Array.replicate (Lib.nDigits u) 0) (w.alloc (.cells Lib.zeros24 236)) hH0 (by rw [Array.size_replicate]; exact Lib.lt_pow_nDigits u) (by omega) (by rw [Array.size_replicate]; omega)
  rw [Array.size_replicate] at hfmt
  have HH0 := Lib.hid hH0
  have htab := Lib.tabIs_alloc ht.pow10 (.cells Lib.zeros24 236)
  have HTAB := Lib.hid htab
  clear hH0 hal htab
  go_enter Tryz.func141, Tryz.ntmps141
  go_wp2_with fail
  refine (Tryz.internal_strconv_numDigits u hu1 (by omega) _ HTAB.out).mono ?_
  rintro e w' ⟨rfl, rfl⟩
  go_wp2_with fail
  refine hfmt.mono ?_
  rintro e w' ⟨rfl, k, v', dk, rfl, hF⟩
  have hcv : (convert 111 9 (.slice (some ⟨w.heap.size, 0, none⟩) (Lib.nDigits u) 24)).run Tryz.prog ((Sort.putRow (fun (b : UInt8) => Value.int .u8 (b.toNat : Int)) (w.alloc (.cells Lib.zeros24 236)) w.heap.size 0 dk).drewN k) = .ok (.string ⟨(Lib.decDigits u).toArray⟩) ((Sort.putRow (fun (b : UInt8) => Value.int .u8 (b.toNat : Int)) (w.alloc (.cells Lib.zeros24 236)) w.heap.size 0 dk).drewN k) := by
   have h := run_convert_bytes_back (P := Tryz.prog) ((Sort.putRow (fun (b : UInt8) => Value.int .u8 (b.toNat : Int)) (w.alloc (.cells Lib.zeros24 236)) w.heap.size 0 dk).drewN k) 111 9 5 ⟨w.heap.size, 0, none⟩ 24 (Lib.decDigits u) Tryz.underlying111 Tryz.underlying5 Tryz.underlying9 (fun j hj => by
    rw [Lib.row_is_numeral hF j hj, Lib.add_plain, World.cell?_drewN]
    exact Sort.cell?_putRow (fun (b : UInt8) => Value.int .u8 (b.toNat : Int)) _ w.heap.size 0 _ dk HH0.out (by rw [hF.size, Array.size_replicate]) j (by rw [hF.size]; rw [Lib.decDigits_length] at hj; exact hj))
   rw [Lib.decDigits_length] at h
   exact h
  go_wp2_with fail
  go_ret
  exact ⟨rfl, below_drewN (below_putRow ((Below.refl _ _).alloc (Nat.le_refl _) _) (Nat.le_refl _) _ _) _⟩
theorem formatUint_any (u : Nat) (hu64 : u < 9223372036854775808) (w : World) (ht : Tabs w) :
 Calls Tryz.prog 88 #[.int .u64 (u : Int), .int .i64 10] w fun e w' => e = .returned (.string (bs (dec u))) ∧ Below w.heap.size w w' := by
 go_enter Tryz.func88, Tryz.ntmps88
 go_wp2_with fail
 refine (iformatUint_any u hu64 _ ht).mono ?_
 rintro e w1 ⟨rfl, hb⟩
 go_wp2_with fail
 go_ret
 exact ⟨rfl, hb⟩
def padk : Nat → Nat → List UInt8
 | 0, _ => []
 | k + 1, x => padk k (x / 10) ++ [dchar (x % 10)]
theorem digits_padk : ∀ (k a x : Nat), 0 < a → x < 10 ^ k → digits (10 ^ k * a + x) = digits a ++ padk k x
 | 0, a, x, _, hx => by
   have : x = 0 := by simpa using hx
   subst this; simp [padk]
 | k + 1, a, x, ha, hx => by
   have hp : 0 < 10 ^ k * a := Nat.mul_pos (Nat.pow_pos (by omega)) ha
   rw [Nat.pow_succ] at hx ⊢
   have e : 10 ^ k * 10 * a + x = 10 * (10 ^ k * a + x / 10) + x % 10 := by
    rw [Nat.mul_add, Nat.mul_comm (10 ^ k) 10, Nat.mul_assoc]; omega
   rw [e, digits_snoc _ _ (by omega) (by omega), digits_padk k a (x / 10) ha (by omega), padk, List.append_assoc]
theorem padk_eq : ∀ (k x : Nat), x < 10 ^ k → padk k x = List.replicate (k - (digits x).length) 48 ++ digits x
 | 0, x, hx => by
   have : x = 0 := by simpa using hx
   subst this; rfl
 | k + 1, x, hx => by
   rw [Nat.pow_succ] at hx
   rw [padk, padk_eq k (x / 10) (by omega)]
   rcases Nat.eq_zero_or_pos x with h0 | h0
   ·subst h0
    simp only [Nat.zero_div, Nat.zero_mod, digits_zero, List.length_nil, Nat.sub_zero, List.append_nil]
    rw [List.replicate_succ']; rfl
   ·rw [digits_pos h0, List.length_append, List.length_cons, List.length_nil, ← List.append_assoc]
    congr 3; omega
theorem padk9 {x : Nat} (h : x < 1000000000) : List.replicate (9 - (dec x).length) 48 ++ dec x = padk 9 x := by
 rw [padk_eq 9 x (by simpa using h)]
 rcases Nat.eq_zero_or_pos x with h0 | h0
 ·subst h0; rw [dec_zero]; rfl
 ·rw [dec_pos h0]
theorem dec_length_le {x : Nat} (h : x < 1000000000) : 1 ≤ (dec x).length ∧ (dec x).length ≤ 9 := by
 rcases Nat.eq_zero_or_pos x with h0 | h0
 ·subst h0; rw [dec_zero]; simp
 ·rw [dec_pos h0]
  refine ⟨?_, (digits_length_le_iff 9 x).2 (by simpa using h)⟩
  rcases hd : digits x with _ | ⟨c, t⟩
  ·exact absurd hd (digits_ne_nil h0)
  ·simp
theorem repeatL_eq (c : UInt8) : ∀ n, Lib.repeatL [c] n = List.replicate n c
 | 0 => rfl
 | n + 1 => by rw [Lib.repeatL, repeatL_eq c n, List.replicate_succ]; rfl
theorem digits_drop {l : List Nat} (hd : Dig l) {k : Nat} (hk : k < l.length) (hpos : 0 < mval (l.drop (k + 1))) : digits (mval (l.drop k)) = digits (mval (l.drop (k + 1))) ++ padk 9 (gt l k) := by
 have hg := hd.get k
 change gt l k < _ at hg
 rw [mval_drop_succ l k hk, ← digits_padk 9 _ _ hpos (by simpa using hg), Nat.add_comm]
theorem bs_append (a b : List UInt8) : bs a ++ bs b = bs (a ++ b) := by
 apply ByteArray.ext
 simp [bs]
def sg (neg : Bool) (n : Nat) : Int := if neg then -(n : Int) else (n : Int)
theorem top_pos' {b : List Nat} (hn : Norm b) (hk : 0 < b.length) : 0 < gt b (b.length - 1) := by
 rcases Nat.eq_zero_or_pos (gt b (b.length - 1)) with h | h
 ·exfalso
  apply hn
  rw [List.getLast?_eq_getElem?]
  unfold gt at h
  rw [List.getD_eq_getElem?_getD] at h
  rw [List.getElem?_eq_getElem (by omega)] at h ⊢
  simpa using h
 ·exact h
theorem digits_mval_length {l : List Nat} (h : Dig l) : (digits (mval l)).length ≤ 9 * l.length := by
 rw [digits_length_le_iff]
 have := mval_lt h
 rw [show (1000000000 : Nat) = 10 ^ 9 from rfl, ← Nat.pow_mul] at this
 exact this
theorem can_sg (neg : Bool) {n : Nat} (h : 0 < n) : can (sg neg n) = (if neg then [45] else []) ++ digits n := by
 cases neg
 ·exact can_nat n
 ·exact can_neg_nat h
theorem isBuilder_below {T e : TypeId} {B b : Nat} {bs : List Value} {w w' : World} (h : Lib.IsBuilder T e B b bs w) (hb : Below w.heap.size w w') : Lib.IsBuilder T e B b bs w' := by
 have H : ∀ p, Lib.BuilderAt T e B b p bs w → Lib.BuilderAt T e B b p bs w' := by
  intro p h
  obtain ⟨h1, v, h2, h3, h4⟩ := h
  have hlt : b < w.heap.size := by
   rcases Nat.lt_or_ge b w.heap.size with h' | h'
   ·exact h'
   ·rw [Array.getElem?_eq_none h'] at h2; cases h2
  exact ⟨h1, v, (hb.block b hlt).trans h2, ownsRow_below h3 hb, h4⟩
 rcases h with h | h
 ·exact .inl (H _ h)
 ·exact .inr (H _ h)
theorem text_any (neg : Bool) (A : Option Addr) (l : List Nat) (c : Nat) (w : World) (hd : Dig l) (hr : Mg w A c l) (b1 : l.length ≤ 536870912) (ht : Tabs w) :
 Calls Tryz.prog 50 #[.agg #[.bool neg, .slice A l.length c]] w fun e w' => e = .returned (.string (bs (can (sg neg (mval l))))) ∧ Below w.heap.size w w' := by
 have HD := Lib.hid hd
 have HR := Lib.hid hr
 have HT := Lib.hid ht
 clear hd hr ht
 go_enter Tryz.func50, Tryz.ntmps50
 go_wp2_with fail
 have hb1 : Below w.heap.size w (w.alloc (.cells #[.bool neg, .slice A l.length c] 100)) := (Below.refl _ _).alloc (Nat.le_refl _) _
 refine (cut_any A l c _ (by omega) HR.out.1 (HR.out.2.2.below hb1)).mono ?_
 rintro e w' ⟨rfl, rfl⟩
 have hcr : RdM w A (cutz l) := by rw [cutz_prefix]; exact HR.out.2.2.take _
 have hdc := HD.out.cutz
 have hmv : mval l = mval (cutz l) := (mval_cutz l).symm
 have hnm := norm_cutz l
 have hll := cutz_length_le l
 generalize cutz l = m at hcr hdc hnm hll hmv ⊢
 have HMV := Lib.hid hmv
 have HCR := Lib.hid hcr
 have HDC := Lib.hid hdc
 have HNM := Lib.hid hnm
 clear hcr hdc hnm hmv
 rcases Nat.eq_zero_or_pos m.length with h0 | h0
 ·obtain rfl : m = [] := List.eq_nil_of_length_eq_zero h0
  go_wp2_with fail
  go_ret
  refine ⟨?_, hb1⟩
  rw [HMV.out]
  cases neg <;> rfl
 ·have hne0 : ((m.length : Int) == 0) = false := by rw [beq_eq_false_iff_ne]; omega
  have HB1 := Lib.hid hb1
  obtain ⟨ad, rfl, hab, hcell⟩ := HCR.out (by rintro rfl; simp at h0)
  have HCELL := Lib.hid hcell
  clear hb1 hcell
  have hcn : (w.alloc (.cells #[.bool neg, .slice (some ad) l.length c] 100)).cell? ⟨w.heap.size, 0, none⟩ = some (.bool neg) := by simp [World.cell?_alloc_new]
  have hfr := Lib.fresh_isBuilder 138 5 (w.alloc (.cells #[.bool neg, .slice (some ad) l.length c] 100))
  simp only [World.size_alloc] at hfr
  have HFR := Lib.hid hfr
  clear hfr
  have hx := HDC.out.get (m.length - 1)
  change gt m (m.length - 1) < _ at hx
  cases neg
  case' false =>
   have HBD : Hid (∃ pre, pre = ([] : List UInt8) ∧ Lib.IsBuilder 138 5 (w.heap.size + 1) (w.heap.size + 1) (Lib.byteCells pre) ((w.alloc (.cells #[.bool false, .slice (some ad) l.length c] 100)).alloc (.cells #[.pointer none, .slice none 0 0] 138))) := ⟨[], rfl, HFR.out⟩
   have HB3 := Lib.hid (HB1.out.alloc (by simp) (.cells #[.pointer none, .slice none 0 0] 138))
   have hw3 : w.heap.size + 1 ≤ ((w.alloc (.cells #[.bool false, .slice (some ad) l.length c] 100)).alloc (.cells #[.pointer none, .slice none 0 0] 138)).heap.size := by simp
   have hcx : ((w.alloc (.cells #[.bool false, .slice (some ad) l.length c] 100)).alloc (.cells #[.pointer none, .slice none 0 0] 138)).cell? (ad.add (m.length - 1)) = some (.int .u64 (gt m (m.length - 1))) := (HB3.out.cell (by rw [add_block]; exact hab)).trans (HCELL.out _ (by omega))
   go_wp2_with fail
   generalize (w.alloc (.cells #[.bool false, .slice (some ad) l.length c] 100)).alloc (.cells #[.pointer none, .slice none 0 0] 138) = w3 at HBD HB3 hw3 hcx ⊢
  case' true =>
   go_wp2_with fail
   refine (writeByte_any (w.heap.size + 1) (w.heap.size + 1) [] 45 _ HFR.out (by simp) (by simp)).mono ?_
   rintro e w3 ⟨rfl, hbd, hb3⟩
   have HBD : Hid (∃ pre, pre = ([45] : List UInt8) ∧ Lib.IsBuilder 138 5 (w.heap.size + 1) (w.heap.size + 1) (Lib.byteCells pre) w3) := ⟨[45], rfl, .inr hbd⟩
   have HB3 := Lib.hid ((HB1.out.alloc (by simp) (.cells #[.pointer none, .slice none 0 0] 138)).trans (hb3.mono (by omega)))
   have hw3 : w.heap.size + 1 ≤ w3.heap.size := by have := hb3.size; simp at this; omega
   have hcx : w3.cell? (ad.add (m.length - 1)) = some (.int .u64 (gt m (m.length - 1))) := (HB3.out.cell (by rw [add_block]; exact hab)).trans (HCELL.out _ (by omega))
   clear hbd hb3
   go_wp2_with fail
  all_goals
   clear HB1 HFR hcn
   obtain ⟨pre, hpre, hbd⟩ := HBD.out
   have hprel : pre.length ≤ 1 := by rw [hpre]; simp
   have HPRE := Lib.hid hpre
   have HBDx := Lib.hid hbd
   clear HBD hpre hbd
   refine (formatUint_any (gt m (m.length - 1)) (by omega) _ (HT.out.below HB3.out)).mono ?_
   rintro e w4 ⟨rfl, hb4⟩
   have hB4 : Below w.heap.size w w4 := HB3.out.trans (hb4.mono HB3.out.size)
   have hbd4 := isBuilder_below HBDx.out hb4
   have hw4 : w.heap.size + 1 ≤ w4.heap.size := by have := hb4.size; omega
   have HB4 := Lib.hid hB4
   have HBD4 := Lib.hid hbd4
   clear hb4 hB4 hbd4 HB3 HBDx hcx
   have hdl := dec_length_le hx
   go_wp2_with fail
   refine (writeString_any (w.heap.size + 1) (w.heap.size + 1) (Lib.byteCells pre) (bs (dec (gt m (m.length - 1)))) _ HBD4.out (by rw [Lib.byteCells_length, bs_size]; omega) hw4).mono ?_
   rintro e w5 ⟨rfl, hbd5, hb5⟩
   have hB5 : Below w.heap.size w w5 := HB4.out.trans (hb5.mono (by omega))
   have hw5 : w.heap.size + 1 ≤ w5.heap.size := by have := hb5.size; omega
   have HB5 := Lib.hid hB5
   have HBD5 : Hid (Lib.IsBuilder 138 5 (w.heap.size + 1) (w.heap.size + 1) (Lib.byteCells (pre ++ digits (mval (m.drop (m.length - 1))))) w5) := by
    have e1 : mval (m.drop (m.length - 1)) = gt m (m.length - 1) := by
     rw [mval_drop_succ m _ (by omega), show m.length - 1 + 1 = m.length by omega, List.drop_length]; simp [mval]
    rw [e1, ← dec_pos (top_pos' HNM.out h0), Lib.byteCells, List.map_append]
    exact .inr hbd5
   clear hb5 hB5 hbd5 HB4 HBD4 hdl
   go_wp2_with fail
   go_loopw [5] (fun iv wr => ∃ k : Nat, k < m.length ∧ iv = .int .i64 ((k : Int) - 1) ∧ Lib.IsBuilder 138 5 (w.heap.size + 1) (w.heap.size + 1) (Lib.byteCells (pre ++ digits (mval (m.drop k)))) wr ∧ Below w.heap.size w wr ∧ w.heap.size + 1 ≤ wr.heap.size) (fun iv _ => (intOf iv + 1).toNat)
   case atStart => exact ⟨m.length - 1, by omega, by congr 1; omega, HBD5.out, HB5.out, hw5⟩
   case round =>
    obtain ⟨k, hk, rfl, hbd, hB, hwr⟩ := hrel
    have HBD := Lib.hid hbd
    have HB := Lib.hid hB
    clear hbd hB HBD5 HB5
    rcases Nat.eq_zero_or_pos k with hk0 | hk0
    ·subst hk0
     go_wp2_with fail
     refine (Tryz.Builder_String_any (w.heap.size + 1) (w.heap.size + 1) _ _ HBD.out hwr).mono ?_
     rintro e w9 ⟨rfl, hb9⟩
     go_wp2_with fail
     go_ret
     refine ⟨?_, HB.out.trans (hb9.mono (by omega))⟩
     have hmp : 0 < mval m := by
      rcases Nat.eq_zero_or_pos (mval m) with hz | hz
      ·have := (mval_eq_zero HNM.out).1 hz; rw [this] at h0; simp at h0
      ·exact hz
     rw [HMV.out, HPRE.out, can_sg _ hmp]
     rfl
    ·obtain ⟨j, rfl⟩ : ∃ j, k = j + 1 := ⟨k - 1, by omega⟩
     have hj : ((j + 1 : Nat) : Int) - 1 = (j : Int) := by omega
     rw [hj]
     clear hj
     have hcx : wr.cell? (ad.add j) = some (.int .u64 (gt m j)) := (HB.out.cell (by rw [add_block]; exact hab)).trans (HCELL.out _ (by omega))
     have hxj := HDC.out.get j
     change gt m j < _ at hxj
     go_wp2_with fail
     refine (formatUint_any (gt m j) (by omega) _ (HT.out.below HB.out)).mono ?_
     rintro e w6 ⟨rfl, hb6⟩
     have hB6 : Below w.heap.size w w6 := HB.out.trans (hb6.mono HB.out.size)
     have hbd6 := isBuilder_below HBD.out hb6
     have hw6 : w.heap.size + 1 ≤ w6.heap.size := by have := hb6.size; omega
     have HB6 := Lib.hid hB6
     have HBD6 := Lib.hid hbd6
     clear hb6 hB6 hbd6 HB HBD hcx
     have hdl := dec_length_le hxj
     have hbz : (bs (dec (gt m j))).size = (dec (gt m j)).length := bs_size _
     go_wp2_with fail
     have hr9 : (9 : Int) - ((dec (gt m j)).length : Int) = ((9 - (dec (gt m j)).length : Nat) : Int) := by omega
     rw [hr9]
     clear hr9
     refine (Tryz.strings_Repeat ⟨#[48]⟩ (9 - (dec (gt m j)).length) _ (by omega) (by simp [ByteArray.size]; omega)).mono ?_
     rintro e w7 ⟨rfl, hb7⟩
     rw [show (⟨#[48]⟩ : ByteArray).data.toList = [48] from rfl, repeatL_eq]
     have hrl : (List.replicate (9 - (dec (gt m j)).length) (48 : UInt8)).length ≤ 9 := by simp
     have HRP := Lib.hid (padk9 hxj)
     generalize List.replicate (9 - (dec (gt m j)).length) (48 : UInt8) = rp at hrl HRP ⊢
     rw [show (ByteArray.mk (List.toArray rp)) = bs rp from rfl]
     have hrz : (bs rp).size = rp.length := bs_size _
     have hB7 : Below w.heap.size w w7 := HB6.out.trans (hb7.mono HB6.out.size)
     have hbd7 := isBuilder_below HBD6.out hb7
     have hw7 : w.heap.size + 1 ≤ w7.heap.size := by have := hb7.size; omega
     have HB7 := Lib.hid hB7
     have HBD7 := Lib.hid hbd7
     clear hb7 hB7 hbd7 HB6 HBD6
     go_wp2_with fail
     rw [bs_append, HRP.out]
     have hdm := digits_mval_length (HDC.out.drop (j + 1))
     have hpl : (padk 9 (gt m j)).length ≤ 18 := by rw [← HRP.out]; simp; omega
     refine (writeString_any (w.heap.size + 1) (w.heap.size + 1) _ (bs (padk 9 (gt m j))) _ HBD7.out (by rw [Lib.byteCells_length, bs_size]; simp at hdm ⊢; omega) hw7).mono ?_
     rintro e w8 ⟨rfl, hbd8, hb8⟩
     have hB8 : Below w.heap.size w w8 := HB7.out.trans (hb8.mono (by omega))
     have hw8 : w.heap.size + 1 ≤ w8.heap.size := by have := hb8.size; omega
     have HB8 := Lib.hid hB8
     have HBD8 : Hid (Lib.IsBuilder 138 5 (w.heap.size + 1) (w.heap.size + 1) (Lib.byteCells (pre ++ digits (mval (m.drop j)))) w8) := by
      have hmp : 0 < mval (m.drop (j + 1)) := by
       rcases Nat.eq_zero_or_pos (mval (m.drop (j + 1))) with hz | hz
       ·exfalso
        have hnd : Norm (m.drop (j + 1)) := by
         unfold Norm
         rw [List.getLast?_drop, if_neg (by omega)]
         exact HNM.out
        have := congrArg List.length ((mval_eq_zero hnd).1 hz)
        simp at this; omega
       ·exact hz
      rw [digits_drop HDC.out (by omega) hmp, Lib.byteCells, ← List.append_assoc, List.map_append]
      exact .inr hbd8
     clear hb8 hB8 hbd8 HB7 HBD7 hdl hrz hbz hdm hpl
     go_wp2_with fail
     refine ⟨⟨j, by omega, rfl, HBD8.out, HB8.out, hw8⟩, by simp [intOf]⟩
end Go.Proofs.YtbkmhmaldljgmaaGreatDoor
