/-
  The walk of trancheref19.CheckAll: which answer. (Printed by gen_ref41.py.)
-/
import Derived.Test.YthmfkgcoocikjaaGreatDoorP30
set_option linter.unusedVariables false
set_option linter.unusedSimpArgs false
namespace Go.Proofs.YthmfkgcoocikjaaGreatDoor
open Go.RowKit Tr Go.Shelf
set_option maxHeartbeats 4000000 in
set_option maxRecDepth 100000 in
theorem rCheckAll19_ex (A : Option Addr) (ls : List Lot) (c : Nat) (hcap : ls.length ≤ c) (hlm : ls.length ≤ 9223372036854775807) (hti : ∀ l ∈ ls, l.tiny) (w : World) (hR : RdL w A ls) :
 Calls Tryz.prog 34 #[.slice A ls.length c] w fun e w' => e = .returned (.int .i64 (lall ls)) ∧ Below w.heap.size w w' := by
 have HR := Lib.hid hR
 have HTI := Lib.hid hti
 clear hR hti
 by_cases hgr : 1000 < ls.length
 ·have t0 : decide ((1000 : Int) < (ls.length : Int)) = true := decide_eq_true (by omega)
  have HG := Lib.hid (lall_great hgr)
  clear hgr
  go_enter Tryz.func34, Tryz.ntmps34
  go_wp2_with fail
  go_ret
  exact ⟨by rw [HG.out]; rfl, Below.refl _ _⟩
 have hlen : ls.length ≤ 1000 := by omega
 have t0 : decide ((1000 : Int) < (ls.length : Int)) = false := decide_eq_false (by omega)
 clear hgr
 go_enter Tryz.func34, Tryz.ntmps34
 go_wp2_with fail
 go_loopw [3, 4, 5, 6, 24] (fun v _ _ _ _ wr => ∃ k : Nat, v = .int .i64 (k : Int) ∧ k ≤ ls.length ∧ lallF (ls.take k) (ls.drop k) = lall ls ∧ Below w.heap.size w wr) (fun v _ _ _ _ _ => ls.length - (intOf v).toNat)
 case atStart => exact ⟨0, rfl, by omega, lall_start hlen, Below.refl _ _⟩
 case round =>
  obtain ⟨k, rfl, hk, hg, hb⟩ := hrel
  have HG := Lib.hid hg
  have HB := Lib.hid hb
  clear hg hb
  rcases Nat.lt_or_ge k ls.length with hlt | hge
  ·obtain ⟨l, hl⟩ : ∃ l, ls[k]? = some l := ⟨_, List.getElem?_eq_getElem hlt⟩
   have HR2 := Lib.hid HR.out
   obtain ⟨ad, rfl, had, hcell⟩ := HR.out (by intro e; rw [e] at hlt; cases hlt)
   have hcx : decide ((k : Int) < (ls.length : Int)) = true := by simp; omega
   have HCE := Lib.hid (hcell k l hl)
   have HAD := Lib.hid had
   obtain ⟨c0, c1, c2, c3, c4, c5, c6⟩ := (hcell k l hl).below HB.out (by rw [add_block]; exact had)
   have HSN := Lib.hid (take_snoc hl)
   have hlt1 := HTI.out l (List.mem_of_getElem? hl)
   have HAT := Lib.hid (lall_at hlen HG.out hl)
   have HC := Lib.hid (fun W => rCheck19_ex l hlt1 W)
   clear hcell hl hlt1 had
   go_wp2_with fail
   refine (HC.out _).mono ?_
   rintro e w1 ⟨rfl, b1⟩
   obtain ⟨n, hn⟩ : ∃ n, lchk l = n := ⟨_, rfl⟩
   rw [hn]
   rw [hn] at HAT
   have HB1 := Lib.hid (HB.out.trans (b1.mono HB.out.size))
   clear b1 c0 c1 c2 c3 c4 c5 c6
   by_cases h0 : n = 0
   case neg =>
    have t1 : (n == 0) = false := beq_eq_false_iff_ne.2 h0
    have t2 : (n != 0) = true := by simp [bne, t1]
    have H0 := Lib.hid h0
    clear h0 hn
    go_wp2_with fail
    go_ret
    exact ⟨by rw [HAT.out.1 H0.out]; rfl, HB1.out⟩
   clear hn
   subst h0
   obtain ⟨c0, c1, c2, c3, c4, c5, c6⟩ := HCE.out.below HB1.out (by rw [add_block]; exact HAD.out)
   have HF := Lib.hid (fun n => q_same (rFind_any (some ad) ls k c (by omega) (by omega) l.id (w1.drewN n) ((HR2.out.below HB1.out).drewN n)))
   have HFF := Lib.hid (findR_false (ls.take k) l.id 0)
   have HFT := Lib.hid (fun (h : ∀ x ∈ ls.take k, x.id ≠ l.id) => congrArg Prod.snd (findR_none h 0))
   clear HC
   go_wp2_with fail
   generalize findR (ls.take k) l.id 0 = fr at HF HFF HFT
   obtain ⟨fn, fb⟩ := fr
   go_quiet ((go_at_call 37; exact HF.out _))
   cases fb
   ·have HNE := Lib.hid (HFF.out rfl)
    go_wp2_with fail
    go_roundw
    case rel =>
     exact ⟨k + 1, by go_num, by omega, HAT.out.2.2 (by trivial) (fun h => by obtain ⟨x, hx, e⟩ := List.mem_map.1 h; exact HNE.out x hx e), below_drewN HB1.out _⟩
    case measure => simp [intOf]; omega
   ·go_wp2_with fail
    go_ret
    refine ⟨?_, below_drewN HB1.out _⟩
    rw [HAT.out.2.1 (by trivial) (Classical.byContradiction (fun hn => by
     have := HFT.out (fun x hx e => hn (List.mem_map.2 ⟨x, hx, e⟩))
     cases this))]
    rfl
  ·have hcx : decide ((k : Int) < (ls.length : Int)) = false := by simp; omega
   have hkm : k = ls.length := by omega
   subst hkm
   go_wp2_with fail
   go_ret
   exact ⟨by rw [lall_end HG.out]; rfl, HB.out⟩
end Go.Proofs.YthmfkgcoocikjaaGreatDoor
