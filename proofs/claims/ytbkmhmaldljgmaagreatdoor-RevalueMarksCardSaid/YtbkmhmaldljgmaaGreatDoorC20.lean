/-
  The walk of accrual.Plan on what is valid. (Printed by gen_acc11.py.)
  The walk of accrual.Effect where it refuses. (Printed by gen_acc13.py.)
  The walks of trancheref39.SameEffect on equal effects; of slices.Equal on equal integers.
-/
import Derived.Test.YtbkmhmaldljgmaaGreatDoorC18
import Derived.Laws.AppendOwn
import Derived.Test.YtbkmhmaldljgmaaGreatDoorC19
set_option linter.unusedVariables false
set_option linter.unusedSimpArgs false
set_option maxHeartbeats 16000000
set_option maxRecDepth 100000
namespace Go.Proofs.YtbkmhmaldljgmaaGreatDoor
open Go.RowKit Tr Go.Shelf
theorem Tryz.infoInt : (Tryz.prog.info? 23).map (fun i => (i.zero, i.size, i.bytes)) = some (some (.string ⟨#[]⟩), 1, 16) := by kernel_rfl
theorem Effect_e3 (kind : Int) (d : Int) (i : Inst) (ch : ByteArray) (hsm : i.small) (hcz : ch.size ≤ 1000) (hok : i.ok) (hch : Can ch) (hd : ¬ okDay d) (w : World) (ht : Tabs w) :
 Calls Tryz.prog 25 #[.int .i64 kind, .int .i64 d, i.enc, .string ch] w fun e w' => e = .returned (.tuple #[.agg effZero, .bool false, .int .i64 13]) ∧ Below w.heap.size w w' := by
 obtain ⟨W0, hW0', hB0, hz, k0, k1⟩ := box2 w (.cells i.cells 27) (.cells effZero 47)
 have hW0 := hW0'.symm
 obtain ⟨c0, c1, c2, c3, c4, c5, c6, c7, c8, c9, c10, c11, c12, c13, c14⟩ := cells15 k0
 have HT := hI ht
 have HB := hI hB0
 have HK0 : Hid (InstBox W0 w.heap.size i) := k0
 have HK1 := hI k1
 have HC1 := hI (iCheck_any i hsm.sized W0 (ht.below hB0))
 have HOK := hI hok
 have HC2 := hI (fun W => Check_yes ch W (by omega) hch)
 have HP := hI (fun W => Print_no d hd W)
 have hiz := hsm.id
 clear hW0' hz ht hB0 k0 k1 hsm hok hch hd
 unfold Inst.enc Inst.cells effZero at *
 go_enter Tryz.func25, Tryz.ntmps25
 go_wp2_with fail
 refine (HC1.out).mono ?_
 rintro e w1 ⟨n, rfl, hn, b⟩
 replace HB := hI (HB.out.trans (b.mono HB.out.size))
 replace HK0 := hI (HK0.out.below b)
 replace HK1 := hI ((b.block (w.heap.size + 1) (Array.getElem?_eq_some_iff.1 HK1.out).1).trans HK1.out)
 clear b
 have hn0 := hn.2 HOK.out
 subst hn0
 clear hn HOK HC1
 clear c0 c1 c2 c3 c4 c5 c6 c7 c8 c9 c10 c11 c12 c13 c14 hW0
 go_wp2_with fail
 refine (HC2.out _).mono ?_
 rintro e w2 ⟨rfl, b⟩
 replace HB := hI (HB.out.trans (b.mono HB.out.size))
 replace HK0 := hI (HK0.out.below b)
 replace HK1 := hI ((b.block (w.heap.size + 1) (Array.getElem?_eq_some_iff.1 HK1.out).1).trans HK1.out)
 clear b
 go_wp2_with fail
 refine (HP.out _).mono ?_
 rintro e w3 ⟨rfl, rfl⟩
 have g1 := HK1.out
 obtain ⟨r0, r1, r2, r3, r4, r5, r6⟩ := cells7 g1
 obtain ⟨f0, f1, f2, f3, f4, f5, f6⟩ := frozen7 g1
 clear g1
 go_wp2_with fail
 have q7 := set7 HK1.out (.int .i64 0) (.int .i64 0) (.string ⟨#[]⟩) (.string ⟨#[]⟩) (.string ⟨#[]⟩) (.string ⟨#[]⟩) (.slice none 0 0)
 have q8 := below7 (b := w.heap.size + 1) (by omega) HB.out (.int .i64 0) (.int .i64 0) (.string ⟨#[]⟩) (.string ⟨#[]⟩) (.string ⟨#[]⟩) (.string ⟨#[]⟩) (.slice none 0 0)
 generalize (((((((w3.setCell ⟨w.heap.size + 1, 0, none⟩ (.int .i64 0)).setCell ⟨w.heap.size + 1, 1, none⟩ (.int .i64 0)).setCell ⟨w.heap.size + 1, 2, none⟩ (.string ⟨#[]⟩)).setCell ⟨w.heap.size + 1, 3, none⟩ (.string ⟨#[]⟩)).setCell ⟨w.heap.size + 1, 4, none⟩ (.string ⟨#[]⟩)).setCell ⟨w.heap.size + 1, 5, none⟩ (.string ⟨#[]⟩)).setCell ⟨w.heap.size + 1, 6, none⟩ (.slice none 0 0)) = W9 at q7 q8 ⊢
 obtain ⟨m0, m1, m2, m3, m4, m5, m6⟩ := cells7 q7
 exact bodyPost_ret (v := .tuple #[.agg effZero, .bool false, .int .i64 13]) (by simp [results, Tryz.results25, go_sem, m0, m1, m2, m3, m4, m5, m6]) rfl ⟨rfl, q8⟩
def TwoI (w : World) (A1 A2 : Option Addr) (f : Nat → ByteArray) (n : Nat) : Prop := n ≠ 0 → ∃ a1 a2 : Addr, A1 = some a1 ∧ A2 = some a2 ∧ ∀ k, k < n → w.cell? (a1.add k) = some (.string (f k)) ∧ w.cell? (a2.add k) = some (.string (f k))
theorem eqInts_any (A1 A2 : Option Addr) (n c1 c2 : Nat) (f : Nat → ByteArray) (hn : n ≤ 1000000) (w : World) (h : TwoI w A1 A2 f n) :
 Calls Tryz.prog 11 #[.slice A1 n c1, .slice A2 n c2] w fun e w' => e = .returned (.bool true) ∧ Below w.heap.size w w' := by
 have H := hI h
 clear h
 have tn : ((n : Int) != (n : Int)) = false := by simp
 go_enter Tryz.func11, Tryz.ntmps11
 go_wp2_with fail
 go_loopw [5, 13] (fun _ v wr => ∃ k m : Nat, v = .int .i64 (k : Int) ∧ k ≤ n ∧ wr = w.drewN m) (fun _ v _ => n - (intOf v).toNat)
 case atStart => exact ⟨0, 0, rfl, by omega, rfl⟩
 case round =>
  obtain ⟨k, m, rfl, hk, rfl⟩ := hrel
  clear tn
  rcases Nat.lt_or_ge k n with hlt | hge
  ·obtain ⟨a1, a2, rfl, rfl, hc⟩ := H.out (by omega)
   obtain ⟨p, q⟩ := hc k hlt
   have hcx : decide ((k : Int) < (n : Int)) = true := by simp; omega
   have hb : (k : Int) < (n : Int) := by omega
   clear hc
   go_wp2_with fail
   go_quiet (fail)
   go_wp2_with fail
   go_roundw
   case rel => exact ⟨k + 1, m + nq, by go_num, by omega, by first | rfl | rw [World.drewN_drewN]⟩
   case measure => simp [intOf]; omega
  ·have hcx : decide ((k : Int) < (n : Int)) = false := by simp; omega
   go_wp2_with fail
   go_ret
   exact ⟨rfl, below_drewN (Below.refl _ _) _⟩
end Go.Proofs.YtbkmhmaldljgmaaGreatDoor
