/-
  The walks of trancheref19.Great, CheckAll of no lots; tranchelaw39.great, fine of no lots.
  tranchelaw39.AccrualEffects returns true. (Printed by gen_law4.py.)
  The walks of trancheref19.Great, CheckAll; tranchelaw39.great, fine. (Printed by gen_ref22.py.)
-/
import Derived.Test.YtpgjmdggblnfkaaGreatDoorM26
import Derived.Test.YtpgjmdggblnfkaaGreatDoorM38
import Derived.Test.YtpgjmdggblnfkaaGreatDoorM44
import Derived.Test.YtpgjmdggblnfkaaGreatDoorLA1
set_option linter.unusedVariables false
set_option linter.unusedSimpArgs false
set_option maxHeartbeats 16000000
set_option maxRecDepth 100000
namespace Go.Proofs.YtpgjmdggblnfkaaGreatDoor
open Go.RowKit Tr Go.Shelf
theorem Inst.tiny.small {i : Inst} (h : i.tiny) : i.small := by
 obtain ⟨h1, h2, h3, h4, h5, h6, h7, h8, h9⟩ := h
 exact ⟨by omega, by omega, by omega, by omega, by omega, by omega, by omega, by omega, by omega⟩
theorem rGreat19_nil (w : World) : Calls Tryz.prog 66 #[.slice none 0 0] w fun e w' => e = .returned (.bool false) ∧ w = w' := by
 go_enter Tryz.func66, Tryz.ntmps66
 go_wp2_with fail
 refine wp_loop_rounds 1 ?_
 rw [rounds_succ]
 go_wp2_with fail
 go_ret
 exact ⟨rfl, rfl⟩
theorem rCheckAll19_nil (w : World) : Calls Tryz.prog 37 #[.slice none 0 0] w fun e w' => e = .returned (.int .i64 0) ∧ w = w' := by
 go_enter Tryz.func37, Tryz.ntmps37
 go_wp2_with fail
 refine wp_loop_rounds 1 ?_
 rw [rounds_succ]
 go_wp2_with fail
 go_ret
 exact ⟨rfl, rfl⟩
theorem great39_nil (i : Inst) (w : World) : Calls Tryz.prog 27 #[i.enc, .slice none 0 0] w (GreatPost w i.tiny) := by
 obtain ⟨W0, hW0, hB0, hz, hk⟩ := ibox i w
 obtain ⟨c0, c1, c2, c3, c4, c5, c6, c7, c8, c9, c10, c11, c12, c13, c14⟩ := cells15 hk
 have HB := Lib.hid hB0
 clear hB0 hz hk
 go_enter Tryz.func27, Tryz.ntmps27
 go_wp2_with fail
 refine (rGreat11_any i _).mono ?_
 rintro e w1 ⟨g, rfl, hg, b1⟩
 have HG := Lib.hid hg
 have HB1 := Lib.hid (HB.out.trans (b1.mono HB.out.size))
 clear hg b1 HB hW0 c0 c1 c2 c3 c4 c5 c6 c7 c8 c9 c10 c11 c12 c13 c14
 cases g
 ·go_wp2_with fail
  refine (rGreat19_nil _).mono ?_
  rintro e w2 ⟨rfl, rfl⟩
  go_wp2_with fail
  go_ret
  exact ⟨false, rfl, fun _ => HG.out trivial, HB1.out⟩
 ·go_wp2_with fail
  go_ret
  exact ⟨true, rfl, fun h => (by cases h), HB1.out⟩
def FinePost (w : World) (P : Prop) (e : Ending) (w' : World) : Prop := ∃ g : Bool, e = .returned (.bool g) ∧ (g = true → P) ∧ Below w.heap.size w w'
theorem fine39_nil (i : Inst) (d : Int) (w : World) : Calls Tryz.prog 7 #[i.enc, .slice none 0 0, .int .i64 d] w (FinePost w (i.tiny ∧ i.ok ∧ okDay d)) := by
 obtain ⟨W0, hW0, hB0, hz, hk⟩ := ibox i w
 have HK := Lib.hid hk
 obtain ⟨c0, c1, c2, c3, c4, c5, c6, c7, c8, c9, c10, c11, c12, c13, c14⟩ := cells15 hk
 have HB := Lib.hid hB0
 clear hB0 hz hk
 go_enter Tryz.func7, Tryz.ntmps7
 go_wp2_with fail
 refine (great39_nil i _).mono ?_
 rintro e w1 ⟨g, rfl, hg, b1⟩
 have HG := Lib.hid hg
 have HB1 := Lib.hid (HB.out.trans (b1.mono HB.out.size))
 have hk := (b1.block _ (Array.getElem?_eq_some_iff.1 HK.out).1).trans HK.out
 clear hg b1 HB hW0 c0 c1 c2 c3 c4 c5 c6 c7 c8 c9 c10 c11 c12 c13 c14 HK
 obtain ⟨c0, c1, c2, c3, c4, c5, c6, c7, c8, c9, c10, c11, c12, c13, c14⟩ := cells15 hk
 clear hk
 cases g
 ·have HT := Lib.hid (HG.out rfl)
  go_wp2_with fail
  refine (rCheck10_any i HT.out _).mono ?_
  rintro e w2 ⟨n, rfl, hn, b2⟩
  have HN := Lib.hid hn
  have HB2 := Lib.hid (HB1.out.trans (b2.mono HB1.out.size))
  clear hn b2 HB1 c0 c1 c2 c3 c4 c5 c6 c7 c8 c9 c10 c11 c12 c13 c14
  by_cases h0 : n = 0
  ·have HO := Lib.hid (HN.out.1 h0)
   subst h0
   go_wp2_with fail
   refine (rCheckAll19_nil _).mono ?_
   rintro e w3 ⟨rfl, rfl⟩
   by_cases h1 : -25567 ≤ d
   ·by_cases h2 : d ≤ 84005
    ·have t1 : decide (-25567 ≤ d) = true := decide_eq_true h1
     have t2 : decide (d ≤ 84005) = true := decide_eq_true h2
     have H1 := Lib.hid h1
     have H2 := Lib.hid h2
     clear h1 h2
     go_wp2_with fail
     go_ret
     exact ⟨true, rfl, fun _ => ⟨HT.out, HO.out, H1.out, H2.out⟩, HB2.out⟩
    ·have t1 : decide (-25567 ≤ d) = true := decide_eq_true h1
     have t2 : decide (d ≤ 84005) = false := decide_eq_false h2
     clear h1 h2
     go_wp2_with fail
     go_ret
     exact ⟨false, rfl, fun h => (by cases h), HB2.out⟩
   ·have t1 : decide (-25567 ≤ d) = false := decide_eq_false h1
    clear h1
    go_wp2_with fail
    go_ret
    exact ⟨false, rfl, fun h => (by cases h), HB2.out⟩
  ·have t0 : (n == 0) = false := beq_eq_false_iff_ne.2 h0
   clear h0
   go_wp2_with fail
   go_ret
   exact ⟨false, rfl, fun h => (by cases h), HB2.out⟩
 ·go_wp2_with fail
  go_ret
  exact ⟨false, rfl, fun h => (by cases h), HB1.out⟩
noncomputable abbrev effC (kk d : Int) (i : Inst) (B : Nat) : Array Value := #[.int .i64 kk, .int .i64 d, .string (causeB d i.id), .string i.id, .string ⟨#[]⟩, .string i.cur, .slice (some ⟨B, 0, none⟩) 1 1]
abbrev TruePost (w : World) (e : Ending) (w' : World) : Prop := e = .returned (.bool true) ∧ Below w.heap.size w w'
theorem AccrualEffects_any (i : Inst) (d k : Int) (hk0 : 0 ≤ k) (hk1 : k ≤ 255) (ch : ByteArray) (w : World) (ht : Tabs w) :
 Calls Tryz.prog 4 #[i.enc, .int .i64 d, .int .u8 k, .string ch] w (TruePost w) := by
 have HT := Lib.hid ht
 obtain ⟨W0, hW0, hB0, hz, hk⟩ := ibox i w
 have HK := Lib.hid hk
 obtain ⟨c0, c1, c2, c3, c4, c5, c6, c7, c8, c9, c10, c11, c12, c13, c14⟩ := cells15 hk
 have HB := Lib.hid hB0
 have HKK := Lib.hid (And.intro hk0 hk1)
 clear hB0 hz hk ht hk0 hk1
 go_enter Tryz.func4, Tryz.ntmps4
 go_wp2_with fail
 refine (fine39_nil i d _).mono ?_
 rintro e w1 ⟨g, rfl, hg, b1⟩
 have HG := Lib.hid hg
 have HB1 := Lib.hid (HB.out.trans (b1.mono HB.out.size))
 have HK1 := Lib.hid ((b1.block _ (Array.getElem?_eq_some_iff.1 HK.out).1).trans HK.out)
 clear hg b1 HB HK hW0 c0 c1 c2 c3 c4 c5 c6 c7 c8 c9 c10 c11 c12 c13 c14
 cases g
 case false =>
  go_wp2_with fail
  refine (awake_any _ (HT.out.below HB1.out)).mono ?_
  rintro e w2 ⟨rfl, b2⟩
  have HB2 := Lib.hid (HB1.out.trans (b2.mono HB1.out.size))
  clear b2
  go_wp2_with fail
  go_ret
  exact ⟨rfl, HB2.out⟩
 have HV := Lib.hid (HG.out rfl)
 clear HG
 by_cases hz : 13 < ch.size
 ·have t1 : decide ((13 : Int) < (ch.size : Int)) = true := decide_eq_true (by omega)
  clear hz
  go_wp2_with fail
  refine (awake_any _ (HT.out.below HB1.out)).mono ?_
  rintro e w2 ⟨rfl, b2⟩
  have HB2 := Lib.hid (HB1.out.trans (b2.mono HB1.out.size))
  clear b2
  go_wp2_with fail
  go_ret
  exact ⟨rfl, HB2.out⟩
 have t1 : decide ((13 : Int) < (ch.size : Int)) = false := decide_eq_false (by omega)
 have HZ := Lib.hid (show ch.size ≤ 13 by omega)
 clear hz
 by_cases hc : Can ch
 case neg =>
  have HC := Lib.hid hc
  clear hc
  go_wp2_with fail
  refine (Check_no ch _ (by have := HZ.out; omega) HC.out).mono ?_
  rintro e w2 ⟨rfl, b2⟩
  have HB2 := Lib.hid (HB1.out.trans (b2.mono HB1.out.size))
  clear b2 HB1
  go_wp2_with fail
  refine (awake_any _ (HT.out.below HB2.out)).mono ?_
  rintro e w3 ⟨rfl, b3⟩
  have HB3 := Lib.hid (HB2.out.trans (b3.mono HB2.out.size))
  clear b3
  go_wp2_with fail
  go_ret
  exact ⟨rfl, HB3.out⟩
 have HC := Lib.hid hc
 clear hc
 go_wp2_with fail
 refine (Check_yes ch _ (by have := HZ.out; omega) HC.out).mono ?_
 rintro e w2 ⟨rfl, b2⟩
 have HB2 := Lib.hid (HB1.out.trans (b2.mono HB1.out.size))
 have HK2 := Lib.hid ((b2.block _ (Array.getElem?_eq_some_iff.1 HK1.out).1).trans HK1.out)
 clear b2 HB1 HK1 t1
 have HT2 := Lib.hid (HT.out.below HB2.out)
 clear HT
 obtain ⟨q, hq⟩ : ∃ q, q = k % 3 := ⟨_, rfl⟩
 have hq2 : k.tmod 3 = q := by rw [hq]; exact Int.tmod_eq_emod_of_nonneg HKK.out.1
 have hq3 : q = 0 ∨ q = 1 ∨ q = 2 := by omega
 have HQ := Lib.hid hq3
 have hr : 0 ≤ k ∧ k ≤ 255 := HKK.out
 clear hq hq3 HKK
 obtain ⟨c0, c1, c2, c3, c4, c5, c6, c7, c8, c9, c10, c11, c12, c13, c14⟩ := cells15 HK2.out
 go_wp2_with fail
 obtain ⟨kk, hkk⟩ : ∃ kk, wrap64 (17 + q) = kk := ⟨_, rfl⟩
 rw [hkk]
 have hk17 : kk = 17 ∨ kk = 18 ∨ kk = 19 := by
  rcases HQ.out with h | h | h
  ·left; rw [← hkk, h]; kernel_rfl
  ·right; left; rw [← hkk, h]; kernel_rfl
  ·right; right; rw [← hkk, h]; kernel_rfl
 have HK17 := Lib.hid hk17
 clear hk17 hkk hq2 HQ hr c0 c1 c2 c3 c4 c5 c6 c7 c8 c9 c10 c11 c12 c13 c14
 obtain ⟨hv1, hv2, hv3⟩ := HV.out
 by_cases he : ch = ⟨#[]⟩
 ·refine (by subst he; exact Effect_none kk HK17.out d hv3 i hv1.small hv2 w2 HT2.out : Calls Tryz.prog 24 #[.int .i64 kk, .int .i64 d, i.enc, .string ch] w2 fun e w' => e = .returned (.tuple #[.agg effZero, .bool false, .int .i64 0]) ∧ Below w2.heap.size w2 w').mono ?_
  rintro e w3 ⟨rfl, b3⟩
  subst he
  have HB3 := Lib.hid (HB2.out.trans (b3.mono HB2.out.size))
  have HT3 := Lib.hid (HT2.out.below b3)
  clear b3 HT2 HB2 HK2 hv1 hv2 hv3 HV HZ HC
  go_wp2_with fail
  have HB4 := Lib.hid (HB3.out.alloc HB3.out.size (Obj.cells #[Value.int IntKind.i64 0, Value.int IntKind.i64 0, Value.string ⟨#[]⟩, Value.string ⟨#[]⟩, Value.string ⟨#[]⟩, Value.string ⟨#[]⟩, Value.slice none 0 0] 50))
  refine (awake_any _ (HT3.out.below ((Below.refl _ _).alloc (Nat.le_refl _) _))).mono ?_
  rintro e w4 ⟨rfl, b4⟩
  have HB5 := Lib.hid (HB4.out.trans (b4.mono HB4.out.size))
  clear b4 HB3 HB4 HT3
  go_wp2_with fail
  go_ret
  exact ⟨rfl, HB5.out⟩
 have hv0 : (ch.toList == []) = false := ne_nil he
 refine (Effect_some kk HK17.out d hv3 i hv1.small hv2 ch HC.out (by have := HZ.out; omega) he w2 HT2.out).mono ?_
 rintro e w3 ⟨B, rfl, hB, hBl, b3⟩
 have HB3 := Lib.hid (HB2.out.trans (b3.mono HB2.out.size))
 have HT3 := Lib.hid (HT2.out.below b3)
 have HK3 := Lib.hid ((b3.block _ (Array.getElem?_eq_some_iff.1 HK2.out).1).trans HK2.out)
 have HBB := Lib.hid hB
 have HBL := Lib.hid hBl
 have HD := Lib.hid hv3
 have z0 := hv1.1
 clear b3 HT2 HB2 HK2 hv1 hv2 hv3 HV HZ HC hB hBl
 go_wp2_with fail
 have HX := Lib.hid (heap_alloc_new w3 (Obj.cells (effC kk d i B) 50))
 have HB4 := Lib.hid (HB3.out.alloc HB3.out.size (Obj.cells (effC kk d i B) 50))
 have HT4 := Lib.hid (HT3.out.below ((Below.refl _ _).alloc (Nat.le_refl _) (Obj.cells (effC kk d i B) 50)))
 have HK4 := Lib.hid ((Below.heap_alloc w3 (Obj.cells (effC kk d i B) 50) _ (Array.getElem?_eq_some_iff.1 HK3.out).1).trans HK3.out)
 have HBB4 := Lib.hid ((Below.heap_alloc w3 (Obj.cells (effC kk d i B) 50) _ (Array.getElem?_eq_some_iff.1 HBB.out).1).trans HBB.out)
 generalize w3.alloc (Obj.cells (effC kk d i B) 50) = w4 at HX HB4 HT4 HK4 HBB4 ⊢
 generalize w3.heap.size = xb at HX HB4 HT4 HK4 HBB4 ⊢
 clear HB3 HT3 HK3 HBB HBL
 refine (Print_any d HD.out w4 HT4.out).mono ?_
 rintro e w5 ⟨rfl, b5⟩
 have HB5 := Lib.hid (HB4.out.trans (b5.mono HB4.out.size))
 have HT5 := Lib.hid (HT4.out.below b5)
 have hX := (b5.block _ (Array.getElem?_eq_some_iff.1 HX.out).1).trans HX.out
 have hK := (b5.block _ (Array.getElem?_eq_some_iff.1 HK4.out).1).trans HK4.out
 have HBB5 := Lib.hid ((b5.block _ (Array.getElem?_eq_some_iff.1 HBB4.out).1).trans HBB4.out)
 have z1 := ptext_size HD.out w
 clear b5 HB4 HT4 HX HK4 HBB4
 obtain ⟨c0, c1, c2, c3, c4, c5, c6, c7, c8, c9, c10, c11, c12, c13, c14⟩ := cells15 hK
 have x0 := Lib.cell_of_heap hX 0
 have x1 := Lib.cell_of_heap hX 1
 have x2 := Lib.cell_of_heap hX 2
 have x3 := Lib.cell_of_heap hX 3
 have x4 := Lib.cell_of_heap hX 4
 have x5 := Lib.cell_of_heap hX 5
 have x6 := Lib.cell_of_heap hX 6
 simp [effC] at x0 x1 x2 x3 x4 x5 x6
 unfold causeB at x2
 clear hX hK
 go_wp2_with fail
 have HE := Lib.hid (eqTerms_any B w5.heap.size ⟨#[97, 109, 111, 117, 110, 116]⟩ ch (w5.alloc (Obj.cells #[Value.string ⟨#[97, 109, 111, 117, 110, 116]⟩, Value.string ch] 57)) ((Below.heap_alloc w5 _ _ (Array.getElem?_eq_some_iff.1 HBB5.out).1).trans HBB5.out) (heap_alloc_new w5 _))
 have HB6 := Lib.hid (HB5.out.alloc HB5.out.size (Obj.cells #[Value.string ⟨#[97, 109, 111, 117, 110, 116]⟩, Value.string ch] 57))
 have HT6 := Lib.hid (HT5.out.below ((Below.refl _ _).alloc (Nat.le_refl _) (Obj.cells #[Value.string ⟨#[97, 109, 111, 117, 110, 116]⟩, Value.string ch] 57)))
 generalize w5.alloc (Obj.cells #[Value.string ⟨#[97, 109, 111, 117, 110, 116]⟩, Value.string ch] 57) = w6 at HE HB6 HT6 ⊢
 clear HB5 HT5 HBB5 c0 c1 c2 c3 c4 c5 c6 c7 c8 c9 c10 c11 c12 c13 c14 x0 x1 x2 x3 x4 x5 x6
 refine HE.out.mono ?_
 rintro e w7 ⟨rfl, b7⟩
 have HB7 := Lib.hid (HB6.out.trans (b7.mono HB6.out.size))
 have HT7 := Lib.hid (HT6.out.below b7)
 clear b7 HB6 HT6 HE
 go_wp2_with fail
 refine (awake_any _ HT7.out).mono ?_
 rintro e w8 ⟨rfl, b8⟩
 have HB8 := Lib.hid (HB7.out.trans (b8.mono HB7.out.size))
 clear b8 HB7 HT7
 go_wp2_with fail
 go_ret
 exact ⟨rfl, HB8.out⟩
theorem RdL.drewN {w : World} {A : Option Addr} {ls : List Lot} (h : RdL w A ls) (n : Nat) : RdL (w.drewN n) A ls := h.below (below_drewN (Below.refl _ _) n)
theorem take_snoc {α : Type} {ls : List α} {k : Nat} {l : α} (h : ls[k]? = some l) : ls.take (k + 1) = ls.take k ++ [l] := by
 obtain ⟨hlt, he⟩ := List.getElem?_eq_some_iff.1 h
 rw [List.take_succ_eq_append_getElem hlt, he]
theorem rGreat19_any (A : Option Addr) (ls : List Lot) (c : Nat) (hlm : ls.length ≤ 9223372036854775807) (w : World) (hR : RdL w A ls) :
 Calls Tryz.prog 66 #[.slice A ls.length c] w (GreatPost w ((ls.length ≤ 12 ∨ 999 ≤ ls.length) ∧ ∀ l ∈ ls, l.tiny)) := by
 have HR := Lib.hid hR
 clear hR
 by_cases h1 : 12 < ls.length ∧ ls.length < 999
 ·have t1 : decide ((12 : Int) < (ls.length : Int)) = true := decide_eq_true (by omega)
  have t2 : decide ((ls.length : Int) < 999) = true := decide_eq_true (by omega)
  clear h1
  go_enter Tryz.func66, Tryz.ntmps66
  go_wp2_with fail
  go_ret
  exact ⟨true, rfl, fun h => (by cases h), Below.refl _ _⟩
 by_cases h2 : 1002 < ls.length
 ·have t1 : decide ((12 : Int) < (ls.length : Int)) = true := decide_eq_true (by omega)
  have t2 : decide ((ls.length : Int) < 999) = false := decide_eq_false (by omega)
  have t3 : decide ((1002 : Int) < (ls.length : Int)) = true := decide_eq_true (by omega)
  clear h1 h2
  go_enter Tryz.func66, Tryz.ntmps66
  go_wp2_with fail
  go_ret
  exact ⟨true, rfl, fun h => (by cases h), Below.refl _ _⟩
 have H1 := Lib.hid (show (ls.length ≤ 12 ∨ 999 ≤ ls.length) by omega)
 have t3 : decide ((1002 : Int) < (ls.length : Int)) = false := decide_eq_false (by omega)
 have hlz : ls.length ≤ 1002 := by omega
 rcases Classical.em (12 < ls.length) with h3 | h3
 ·have t1 : decide ((12 : Int) < (ls.length : Int)) = true := decide_eq_true (by omega)
  have t2 : decide ((ls.length : Int) < 999) = false := decide_eq_false (by omega)
  clear h1 h2 hlm h3
  go_enter Tryz.func66, Tryz.ntmps66
  go_wp2_with fail
  go_loopw [3] (fun v wr => ∃ k : Nat, v = .int .i64 (k : Int) ∧ k ≤ ls.length ∧ (∀ l ∈ ls.take k, l.tiny) ∧ Below w.heap.size w wr) (fun v _ => ls.length - (intOf v).toNat)
  case atStart => exact ⟨0, rfl, by omega, fun l hl => by simp at hl, Below.refl _ _⟩
  case round =>
   obtain ⟨k, rfl, hk, hti, hb⟩ := hrel
   have HTI := Lib.hid hti
   have HB := Lib.hid hb
   clear hti hb
   rcases Nat.lt_or_ge k ls.length with hlt | hge
   ·obtain ⟨l, hl⟩ : ∃ l, ls[k]? = some l := ⟨_, List.getElem?_eq_getElem hlt⟩
    obtain ⟨ad, rfl, had, hcell⟩ := HR.out (by intro e; rw [e] at hlt; cases hlt)
    have hcx : decide ((k : Int) < (ls.length : Int)) = true := by simp; omega
    obtain ⟨c0, c1, c2, c3, c4, c5, c6⟩ := (hcell k l hl).below HB.out (by rw [add_block]; exact had)
    have HSN := Lib.hid (take_snoc hl)
    clear hcell hl
    go_wp2_with fail
    refine (rGreatOne_any l _).mono ?_
    rintro e w1 ⟨g, rfl, hg, b1⟩
    have HB1 := Lib.hid (HB.out.trans (b1.mono HB.out.size))
    clear b1 c0 c1 c2 c3 c4 c5 c6
    cases g
    ·have HG := Lib.hid (hg rfl)
     clear hg
     go_wp2_with fail
     go_roundw
     case rel =>
      refine ⟨k + 1, by go_num, by omega, fun x hx => ?_, HB1.out⟩
      rw [HSN.out, List.mem_append] at hx
      rcases hx with hx | hx
      ·exact HTI.out x hx
      ·rw [List.mem_singleton] at hx; subst hx; exact HG.out
     case measure => simp [intOf]; omega
    ·go_wp2_with fail
     go_ret
     exact ⟨true, rfl, fun h => (by cases h), HB1.out⟩
   ·have hcx : decide ((k : Int) < (ls.length : Int)) = false := by simp; omega
    go_wp2_with fail
    go_ret
    refine ⟨false, rfl, fun _ => ⟨H1.out, fun l hl => HTI.out l ?_⟩, HB.out⟩
    rw [List.take_of_length_le (by omega)]
    exact hl
 ·have t1 : decide ((12 : Int) < (ls.length : Int)) = false := decide_eq_false (by omega)
  clear h1 h2 hlm h3
  go_enter Tryz.func66, Tryz.ntmps66
  go_wp2_with fail
  go_loopw [3] (fun v wr => ∃ k : Nat, v = .int .i64 (k : Int) ∧ k ≤ ls.length ∧ (∀ l ∈ ls.take k, l.tiny) ∧ Below w.heap.size w wr) (fun v _ => ls.length - (intOf v).toNat)
  case atStart => exact ⟨0, rfl, by omega, fun l hl => by simp at hl, Below.refl _ _⟩
  case round =>
   obtain ⟨k, rfl, hk, hti, hb⟩ := hrel
   have HTI := Lib.hid hti
   have HB := Lib.hid hb
   clear hti hb
   rcases Nat.lt_or_ge k ls.length with hlt | hge
   ·obtain ⟨l, hl⟩ : ∃ l, ls[k]? = some l := ⟨_, List.getElem?_eq_getElem hlt⟩
    obtain ⟨ad, rfl, had, hcell⟩ := HR.out (by intro e; rw [e] at hlt; cases hlt)
    have hcx : decide ((k : Int) < (ls.length : Int)) = true := by simp; omega
    obtain ⟨c0, c1, c2, c3, c4, c5, c6⟩ := (hcell k l hl).below HB.out (by rw [add_block]; exact had)
    have HSN := Lib.hid (take_snoc hl)
    clear hcell hl
    go_wp2_with fail
    refine (rGreatOne_any l _).mono ?_
    rintro e w1 ⟨g, rfl, hg, b1⟩
    have HB1 := Lib.hid (HB.out.trans (b1.mono HB.out.size))
    clear b1 c0 c1 c2 c3 c4 c5 c6
    cases g
    ·have HG := Lib.hid (hg rfl)
     clear hg
     go_wp2_with fail
     go_roundw
     case rel =>
      refine ⟨k + 1, by go_num, by omega, fun x hx => ?_, HB1.out⟩
      rw [HSN.out, List.mem_append] at hx
      rcases hx with hx | hx
      ·exact HTI.out x hx
      ·rw [List.mem_singleton] at hx; subst hx; exact HG.out
     case measure => simp [intOf]; omega
    ·go_wp2_with fail
     go_ret
     exact ⟨true, rfl, fun h => (by cases h), HB1.out⟩
   ·have hcx : decide ((k : Int) < (ls.length : Int)) = false := by simp; omega
    go_wp2_with fail
    go_ret
    refine ⟨false, rfl, fun _ => ⟨H1.out, fun l hl => HTI.out l ?_⟩, HB.out⟩
    rw [List.take_of_length_le (by omega)]
    exact hl
theorem rCheckAll19_any (A : Option Addr) (ls : List Lot) (c : Nat) (hcap : ls.length ≤ c) (hl12 : ls.length ≤ 12) (hti : ∀ l ∈ ls, l.tiny) (w : World) (hR : RdL w A ls) :
 Calls Tryz.prog 37 #[.slice A ls.length c] w (ZeroPost w (LotsOk ls)) := by
 have HR := Lib.hid hR
 have HTI := Lib.hid hti
 clear hR hti
 have t0 : decide ((1000 : Int) < (ls.length : Int)) = false := decide_eq_false (by omega)
 go_enter Tryz.func37, Tryz.ntmps37
 go_wp2_with fail
 go_loopw [3, 4, 5, 6, 24] (fun v _ _ _ _ wr => ∃ k : Nat, v = .int .i64 (k : Int) ∧ k ≤ ls.length ∧ (∀ l ∈ ls.take k, l.ok) ∧ ((ls.take k).map Lot.id).Nodup ∧ Below w.heap.size w wr) (fun v _ _ _ _ _ => ls.length - (intOf v).toNat)
 case atStart => exact ⟨0, rfl, by omega, fun l hl => by simp at hl, by simp, Below.refl _ _⟩
 case round =>
  obtain ⟨k, rfl, hk, hok, hnd, hb⟩ := hrel
  have HOK := Lib.hid hok
  have HND := Lib.hid hnd
  have HB := Lib.hid hb
  clear hok hnd hb
  rcases Nat.lt_or_ge k ls.length with hlt | hge
  ·obtain ⟨l, hl⟩ : ∃ l, ls[k]? = some l := ⟨_, List.getElem?_eq_getElem hlt⟩
   have HR2 := Lib.hid HR.out
   obtain ⟨ad, rfl, had, hcell⟩ := HR.out (by intro e; rw [e] at hlt; cases hlt)
   have hcx : decide ((k : Int) < (ls.length : Int)) = true := by simp; omega
   have HCE := Lib.hid (hcell k l hl)
   have HAD := Lib.hid had
   obtain ⟨c0, c1, c2, c3, c4, c5, c6⟩ := (hcell k l hl).below HB.out (by rw [add_block]; exact had)
   have HSN := Lib.hid (take_snoc hl)
   have hlt1 := HTI.out l (List.mem_of_getElem? hl)
   have HC := Lib.hid (fun W => rCheck19_any l hlt1 W)
   clear hcell hl hlt1 had
   go_wp2_with fail
   refine (HC.out _).mono ?_
   rintro e w1 ⟨n, rfl, hn, b1⟩
   have HB1 := Lib.hid (HB.out.trans (b1.mono HB.out.size))
   clear b1 c0 c1 c2 c3 c4 c5 c6
   by_cases h0 : n = 0
   case neg =>
    have t1 : (n == 0) = false := beq_eq_false_iff_ne.2 h0
    have t2 : (n != 0) = true := by simp [bne, t1]
    have H0 := Lib.hid h0
    clear h0 hn
    go_wp2_with fail
    go_ret
    exact ⟨n, rfl, fun h => absurd h H0.out, HB1.out⟩
   have HG := Lib.hid (hn h0)
   clear hn
   subst h0
   obtain ⟨c0, c1, c2, c3, c4, c5, c6⟩ := HCE.out.below HB1.out (by rw [add_block]; exact HAD.out)
   have HF := Lib.hid (fun n => q_same (rFind_any (some ad) ls k c (by omega) (by omega) l.id (w1.drewN n) ((HR2.out.below HB1.out).drewN n)))
   have HFF := Lib.hid (findR_false (ls.take k) l.id 0)
   clear HC
   go_wp2_with fail
   generalize findR (ls.take k) l.id 0 = fr at HF HFF
   obtain ⟨fn, fb⟩ := fr
   go_quiet ((go_at_call 81; exact HF.out _))
   cases fb
   ·have HNE := Lib.hid (HFF.out rfl)
    go_wp2_with fail
    go_roundw
    case rel =>
     refine ⟨k + 1, by go_num, by omega, ?_, ?_, below_drewN HB1.out _⟩
     ·intro x hx
      rw [HSN.out, List.mem_append] at hx
      rcases hx with hx | hx
      ·exact HOK.out x hx
      ·rw [List.mem_singleton] at hx; subst hx; exact HG.out
     ·rw [HSN.out, List.map_append, List.map_cons, List.map_nil]
      refine List.nodup_append.2 ⟨HND.out, by simp, ?_⟩
      intro a ha b hb
      obtain ⟨x, hx, rfl⟩ := List.mem_map.1 ha
      rw [List.mem_singleton] at hb
      subst hb
      exact HNE.out x hx
    case measure => simp [intOf]; omega
   ·go_wp2_with fail
    go_ret
    exact ⟨5, rfl, fun h => (by cases h), below_drewN HB1.out _⟩
  ·have hcx : decide ((k : Int) < (ls.length : Int)) = false := by simp; omega
   have hkm : k = ls.length := by omega
   subst hkm
   go_wp2_with fail
   go_ret
   refine ⟨0, rfl, fun _ => ?_, HB.out⟩
   have h1 := HOK.out
   have h2 := HND.out
   rw [List.take_of_length_le (Nat.le_refl _)] at h1 h2
   exact ⟨by omega, fun l hl => ⟨(HTI.out l hl).sized, h1 l hl⟩, h2⟩
theorem great39_any (i : Inst) (A : Option Addr) (ls : List Lot) (c : Nat) (hlm : ls.length ≤ 9223372036854775807) (w : World) (hR : RdL w A ls) : Calls Tryz.prog 27 #[i.enc, .slice A ls.length c] w (GreatPost w (i.tiny ∧ ls.length ≤ 12 ∧ ∀ l ∈ ls, l.tiny)) := by
 have HR := Lib.hid hR
 obtain ⟨W0, hW0, hB0, hz, hk⟩ := ibox i w
 obtain ⟨c0, c1, c2, c3, c4, c5, c6, c7, c8, c9, c10, c11, c12, c13, c14⟩ := cells15 hk
 have HB := Lib.hid hB0
 clear hB0 hz hk hR
 go_enter Tryz.func27, Tryz.ntmps27
 go_wp2_with fail
 refine (rGreat11_any i _).mono ?_
 rintro e w1 ⟨g, rfl, hg, b1⟩
 have HG := Lib.hid hg
 have HB1 := Lib.hid (HB.out.trans (b1.mono HB.out.size))
 clear hg b1 HB hW0 c0 c1 c2 c3 c4 c5 c6 c7 c8 c9 c10 c11 c12 c13 c14
 cases g
 ·go_wp2_with fail
  refine (rGreat19_any A ls c hlm _ (HR.out.below HB1.out)).mono ?_
  rintro e w2 ⟨g2, rfl, hg2, b2⟩
  have HG2 := Lib.hid hg2
  have HB2 := Lib.hid (HB1.out.trans (b2.mono HB1.out.size))
  clear hg2 b2 HB1
  cases g2
  ·by_cases h12 : 12 < ls.length
   ·have t1 : decide ((12 : Int) < (ls.length : Int)) = true := decide_eq_true (by omega)
    clear h12
    go_wp2_with fail
    go_ret
    exact ⟨true, rfl, fun h => (by cases h), HB2.out⟩
   ·have t1 : decide ((12 : Int) < (ls.length : Int)) = false := decide_eq_false (by omega)
    have H12 := Lib.hid (show ls.length ≤ 12 by omega)
    clear h12
    go_wp2_with fail
    go_ret
    exact ⟨false, rfl, fun _ => ⟨HG.out trivial, H12.out, (HG2.out trivial).2⟩, HB2.out⟩
  ·go_wp2_with fail
   go_ret
   exact ⟨true, rfl, fun h => (by cases h), HB2.out⟩
 ·go_wp2_with fail
  go_ret
  exact ⟨true, rfl, fun h => (by cases h), HB1.out⟩
theorem fine39_any (i : Inst) (A : Option Addr) (ls : List Lot) (c : Nat) (hcap : ls.length ≤ c) (hlm : ls.length ≤ 9223372036854775807) (d : Int) (w : World) (hR : RdL w A ls) :
 Calls Tryz.prog 7 #[i.enc, .slice A ls.length c, .int .i64 d] w (FinePost w (i.tiny ∧ i.ok ∧ okDay d ∧ ls.length ≤ 12 ∧ (∀ l ∈ ls, l.tiny) ∧ LotsOk ls)) := by
 have HR := Lib.hid hR
 obtain ⟨W0, hW0, hB0, hz, hk⟩ := ibox i w
 have HK := Lib.hid hk
 obtain ⟨c0, c1, c2, c3, c4, c5, c6, c7, c8, c9, c10, c11, c12, c13, c14⟩ := cells15 hk
 have HB := Lib.hid hB0
 clear hB0 hz hk hR
 go_enter Tryz.func7, Tryz.ntmps7
 go_wp2_with fail
 refine (great39_any i A ls c hlm _ (HR.out.below HB.out)).mono ?_
 rintro e w1 ⟨g, rfl, hg, b1⟩
 have HG := Lib.hid hg
 have HB1 := Lib.hid (HB.out.trans (b1.mono HB.out.size))
 have hk := (b1.block _ (Array.getElem?_eq_some_iff.1 HK.out).1).trans HK.out
 clear hg b1 HB hW0 c0 c1 c2 c3 c4 c5 c6 c7 c8 c9 c10 c11 c12 c13 c14 HK
 obtain ⟨c0, c1, c2, c3, c4, c5, c6, c7, c8, c9, c10, c11, c12, c13, c14⟩ := cells15 hk
 clear hk
 cases g
 ·have HT := Lib.hid (HG.out rfl)
  go_wp2_with fail
  refine (rCheck10_any i HT.out.1 _).mono ?_
  rintro e w2 ⟨n, rfl, hn, b2⟩
  have HN := Lib.hid hn
  have HB2 := Lib.hid (HB1.out.trans (b2.mono HB1.out.size))
  clear hn b2 HB1 c0 c1 c2 c3 c4 c5 c6 c7 c8 c9 c10 c11 c12 c13 c14
  by_cases h0 : n = 0
  ·have HO := Lib.hid (HN.out.1 h0)
   subst h0
   go_wp2_with fail
   refine (rCheckAll19_any A ls c hcap HT.out.2.1 HT.out.2.2 _ (HR.out.below HB2.out)).mono ?_
   rintro e w3 ⟨m, rfl, hm, b3⟩
   have HM := Lib.hid hm
   have HB3 := Lib.hid (HB2.out.trans (b3.mono HB2.out.size))
   clear hm b3 HB2
   by_cases hm0 : m = 0
   case neg =>
    have t0 : (m == 0) = false := beq_eq_false_iff_ne.2 hm0
    clear hm0
    go_wp2_with fail
    go_ret
    exact ⟨false, rfl, fun h => (by cases h), HB3.out⟩
   have HLO := Lib.hid (HM.out hm0)
   subst hm0
   by_cases h1 : -25567 ≤ d
   ·by_cases h2 : d ≤ 84005
    ·have t1 : decide (-25567 ≤ d) = true := decide_eq_true h1
     have t2 : decide (d ≤ 84005) = true := decide_eq_true h2
     have H1 := Lib.hid h1
     have H2 := Lib.hid h2
     clear h1 h2
     go_wp2_with fail
     go_ret
     exact ⟨true, rfl, fun _ => ⟨HT.out.1, HO.out, ⟨H1.out, H2.out⟩, HT.out.2.1, HT.out.2.2, HLO.out⟩, HB3.out⟩
    ·have t1 : decide (-25567 ≤ d) = true := decide_eq_true h1
     have t2 : decide (d ≤ 84005) = false := decide_eq_false h2
     clear h1 h2
     go_wp2_with fail
     go_ret
     exact ⟨false, rfl, fun h => (by cases h), HB3.out⟩
   ·have t1 : decide (-25567 ≤ d) = false := decide_eq_false h1
    clear h1
    go_wp2_with fail
    go_ret
    exact ⟨false, rfl, fun h => (by cases h), HB3.out⟩
  ·have t0 : (n == 0) = false := beq_eq_false_iff_ne.2 h0
   clear h0
   go_wp2_with fail
   go_ret
   exact ⟨false, rfl, fun h => (by cases h), HB2.out⟩
 ·go_wp2_with fail
  go_ret
  exact ⟨false, rfl, fun h => (by cases h), HB1.out⟩
end Go.Proofs.YtpgjmdggblnfkaaGreatDoor
