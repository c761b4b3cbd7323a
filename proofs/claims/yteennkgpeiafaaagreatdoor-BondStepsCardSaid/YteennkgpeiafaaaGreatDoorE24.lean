/-
  trancheref10.Check returns 0 exactly for valid instruments. (Printed by gen_ref17.py.)
  The walks of trancheref02.Long over the numbers of an instrument, trancheref11.Great.
-/
import Derived.Test.YteennkgpeiafaaaGreatDoorE21
import Derived.Test.YteennkgpeiafaaaGreatDoorE22
import Derived.Test.YteennkgpeiafaaaGreatDoorE23
set_option linter.unusedVariables false
set_option linter.unusedSimpArgs false
set_option maxHeartbeats 16000000
set_option maxRecDepth 100000
namespace Go.Proofs.YteennkgpeiafaaaGreatDoor
open Go.RowKit Tr Go.Shelf
theorem rCheck10_any (i : Inst) (hs : i.tiny) (w : World) :
 Calls Tryz.prog 57 #[i.enc] w (ChkPost w i.ok) := by
 by_cases h2 : i.kind = 2
 ·exact rCheck10_a i hs h2 w
 by_cases h5 : i.kind = 5
 ·exact rCheck10_b i hs h5 w
 exact rCheck10_c i hs ⟨h2, h5⟩ w
def nums13 (i : Inst) : Prop := i.fn.size ≤ 13 ∧ i.fd.size ≤ 13 ∧ i.cn.size ≤ 13 ∧ i.cd.size ≤ 13 ∧ i.sn.size ≤ 13 ∧ i.sd.size ≤ 13
def LongPost (w : World) (P : Prop) (e : Ending) (w' : World) : Prop := ∃ g : Bool, e = .returned (.bool g) ∧ w = w' ∧ (g = false → P)
theorem rfLong_three (i : Inst) (b : Nat) (w : World) (hk : w.heap[b]? = some (.cells (numCells i) 25 (0, 0))) :
 Calls Tryz.prog 56 #[.slice (some ⟨b, 0, none⟩) 3 3] w (LongPost w (nums13 i)) := by
 have d0 := Lib.cell_of_heap hk 0
 have d1 := Lib.cell_of_heap hk 1
 have d2 := Lib.cell_of_heap hk 2
 have d3 := Lib.cell_of_heap hk 3
 have d4 := Lib.cell_of_heap hk 4
 have d5 := Lib.cell_of_heap hk 5
 simp at d0 d1 d2 d3 d4 d5
 clear hk
 go_enter Tryz.func56, Tryz.ntmps56
 go_wp2_with fail
 go_loop [3] (fun v => ∃ k : Nat, v = .int .i64 (k : Int) ∧ k ≤ 3 ∧ ∀ j, j < k → (nAt i j).size ≤ 13 ∧ (dAt i j).size ≤ 13) (fun v => 3 - (intOf v).toNat)
 case atStart => exact ⟨0, rfl, by omega, fun j hj => by omega⟩
 case round =>
  obtain ⟨k, rfl, hk, hj⟩ := hrel
  have HJ := Lib.hid hj
  clear hj
  rcases (show k = 0 ∨ k = 1 ∨ k = 2 ∨ k = 3 from by omega) with rfl | rfl | rfl | rfl
  ·by_cases h1 : 13 < i.fn.size
   ·have t1 : decide ((13 : Int) < (i.fn.size : Int)) = true := decide_eq_true (by omega)
    go_wp2_with fail
    go_ret
    exact ⟨true, rfl, rfl, fun h => by cases h⟩
   have t1 : decide ((13 : Int) < (i.fn.size : Int)) = false := decide_eq_false (by omega)
   by_cases h2 : 13 < i.fd.size
   ·have t2 : decide ((13 : Int) < (i.fd.size : Int)) = true := decide_eq_true (by omega)
    go_wp2_with fail
    go_ret
    exact ⟨true, rfl, rfl, fun h => by cases h⟩
   have t2 : decide ((13 : Int) < (i.fd.size : Int)) = false := decide_eq_false (by omega)
   go_wp2_with fail
   refine ⟨⟨1, rfl, by omega, fun j hj => ?_⟩, by simp [intOf]⟩
   have hjk : j = 0 := by omega
   subst hjk
   exact ⟨by show i.fn.size ≤ 13; omega, by show i.fd.size ≤ 13; omega⟩
  ·by_cases h1 : 13 < i.cn.size
   ·have t1 : decide ((13 : Int) < (i.cn.size : Int)) = true := decide_eq_true (by omega)
    go_wp2_with fail
    go_ret
    exact ⟨true, rfl, rfl, fun h => by cases h⟩
   have t1 : decide ((13 : Int) < (i.cn.size : Int)) = false := decide_eq_false (by omega)
   by_cases h2 : 13 < i.cd.size
   ·have t2 : decide ((13 : Int) < (i.cd.size : Int)) = true := decide_eq_true (by omega)
    go_wp2_with fail
    go_ret
    exact ⟨true, rfl, rfl, fun h => by cases h⟩
   have t2 : decide ((13 : Int) < (i.cd.size : Int)) = false := decide_eq_false (by omega)
   go_wp2_with fail
   refine ⟨⟨2, rfl, by omega, fun j hj => ?_⟩, by simp [intOf]⟩
   rcases Nat.lt_or_ge j 1 with h | h
   ·exact HJ.out j h
   have hjk : j = 1 := by omega
   subst hjk
   exact ⟨by show i.cn.size ≤ 13; omega, by show i.cd.size ≤ 13; omega⟩
  ·by_cases h1 : 13 < i.sn.size
   ·have t1 : decide ((13 : Int) < (i.sn.size : Int)) = true := decide_eq_true (by omega)
    go_wp2_with fail
    go_ret
    exact ⟨true, rfl, rfl, fun h => by cases h⟩
   have t1 : decide ((13 : Int) < (i.sn.size : Int)) = false := decide_eq_false (by omega)
   by_cases h2 : 13 < i.sd.size
   ·have t2 : decide ((13 : Int) < (i.sd.size : Int)) = true := decide_eq_true (by omega)
    go_wp2_with fail
    go_ret
    exact ⟨true, rfl, rfl, fun h => by cases h⟩
   have t2 : decide ((13 : Int) < (i.sd.size : Int)) = false := decide_eq_false (by omega)
   go_wp2_with fail
   refine ⟨⟨3, rfl, by omega, fun j hj => ?_⟩, by simp [intOf]⟩
   rcases Nat.lt_or_ge j 2 with h | h
   ·exact HJ.out j h
   have hjk : j = 2 := by omega
   subst hjk
   exact ⟨by show i.sn.size ≤ 13; omega, by show i.sd.size ≤ 13; omega⟩
  ·go_wp2_with fail
   go_ret
   have a0 := HJ.out 0 (by omega)
   have a1 := HJ.out 1 (by omega)
   have a2 := HJ.out 2 (by omega)
   exact ⟨false, rfl, rfl, fun _ => ⟨a0.1, a0.2, a1.1, a1.2, a2.1, a2.2⟩⟩
def GreatPost (w : World) (P : Prop) (e : Ending) (w' : World) : Prop := ∃ g : Bool, e = .returned (.bool g) ∧ (g = false → P) ∧ Below w.heap.size w w'
theorem rGreat11_any (i : Inst) (w : World) :
 Calls Tryz.prog 10 #[i.enc] w (GreatPost w i.tiny) := by
 obtain ⟨W0, hW0, hB0, hz, hk⟩ := ibox i w
 obtain ⟨c0, c1, c2, c3, c4, c5, c6, c7, c8, c9, c10, c11, c12, c13, c14⟩ := cells15 hk
 have HB := Lib.hid hB0
 have HK := Lib.hid hk
 clear hB0 hz hk
 go_enter Tryz.func10, Tryz.ntmps10
 go_wp2_with fail
 have hRC : RC w i W0.heap.size (W0.alloc (.cells (numCells i) 25)) := ⟨(Below.heap_alloc W0 _ _ (cell_lt c0)).trans HK.out, heap_alloc_new W0 _, HB.out.alloc HB.out.size _⟩
 generalize hW1 : W0.alloc (.cells (numCells i) 25) = W1 at hRC ⊢
 generalize W0.heap.size = b at hRC ⊢
 refine (rfLong_three i b W1 hRC.k1).mono ?_
 rintro e w1 ⟨g, rfl, rfl, hg⟩
 have HRC := Lib.hid hRC
 have HG := Lib.hid hg
 clear hg hW1 HB HK hW0 c0 c1 c2 c3 c4 c5 c6 c7 c8 c9 c10 c11 c12 c13 c14
 obtain ⟨c0, c1, c2, c3, c4, c5, c6, c7, c8, c9, c10, c11, c12, c13, c14⟩ := cells15 hRC.k0
 clear hRC
 cases g
 case true =>
  go_wp2_with fail
  go_ret
  exact ⟨true, rfl, fun h => (by cases h), HRC.out.bel⟩
 have HN := Lib.hid (HG.out rfl)
 clear HG
 by_cases h1 : 40 < i.id.size
 ·have t1 : decide ((40 : Int) < (i.id.size : Int)) = true := decide_eq_true (by omega)
  clear h1
  go_wp2_with fail
  go_ret
  exact ⟨true, rfl, fun h => (by cases h), HRC.out.bel⟩
 have t1 : decide ((40 : Int) < (i.id.size : Int)) = false := decide_eq_false (by omega)
 by_cases h2 : 40 < i.cur.size
 ·have t2 : decide ((40 : Int) < (i.cur.size : Int)) = true := decide_eq_true (by omega)
  clear h1 h2
  go_wp2_with fail
  go_ret
  exact ⟨true, rfl, fun h => (by cases h), HRC.out.bel⟩
 have t2 : decide ((40 : Int) < (i.cur.size : Int)) = false := decide_eq_false (by omega)
 by_cases h3 : 40 < i.other.size
 ·have t3 : decide ((40 : Int) < (i.other.size : Int)) = true := decide_eq_true (by omega)
  clear h1 h2 h3
  go_wp2_with fail
  go_ret
  exact ⟨true, rfl, fun h => (by cases h), HRC.out.bel⟩
 have t3 : decide ((40 : Int) < (i.other.size : Int)) = false := decide_eq_false (by omega)
 have ht : i.tiny := by
  obtain ⟨a1, a2, a3, a4, a5, a6⟩ := HN.out
  exact ⟨by omega, by omega, by omega, a1, a2, a3, a4, a5, a6⟩
 have HT := Lib.hid ht
 clear ht h1 h2 h3 HN
 go_wp2_with fail
 refine (rCheck10_any i HT.out _).mono ?_
 rintro e w2 ⟨n, rfl, hn, b2⟩
 have HB2 := Lib.hid (HRC.out.bel.trans (b2.mono HRC.out.bel.size))
 have hRC := HRC.out.below b2
 clear hn b2 HRC t1 t2 t3 c0 c1 c2 c3 c4 c5 c6 c7 c8 c9 c10 c11 c12 c13 c14
 obtain ⟨c0, c1, c2, c3, c4, c5, c6, c7, c8, c9, c10, c11, c12, c13, c14⟩ := cells15 hRC.k0
 clear hRC
 by_cases h0 : n = 0
 case neg =>
  have t0 : (n == 0) = false := beq_eq_false_iff_ne.2 h0
  clear h0
  go_wp2_with fail
  go_ret
  exact ⟨false, rfl, fun _ => HT.out, HB2.out⟩
 subst h0
 by_cases hk : i.kind = 2
 case neg =>
  have t0 : (i.kind == 2) = false := beq_eq_false_iff_ne.2 hk
  clear hk
  go_wp2_with fail
  go_ret
  exact ⟨false, rfl, fun _ => HT.out, HB2.out⟩
 have t0 : (i.kind == 2) = true := beq_iff_eq.2 hk
 clear hk
 go_wp2_with fail
 all_goals
  go_ret
  exact ⟨_, rfl, fun _ => HT.out, HB2.out⟩
end Go.Proofs.YteennkgpeiafaaaGreatDoor
