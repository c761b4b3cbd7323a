/-
  The walk of accrual.Plan on what is valid. (Printed by gen_acc11.py.)
  The walks of accrual.checkOne on whatever is small; of Amortized and Plan where it refuses. (Printed by gen_acc12.py.)
  The walks of trancheref39.checkOne, Amortized. (Printed by gen_ref37.py.)
-/
import Derived.Test.YtpgjmdggblnfkaaGreatDoorM38
import Derived.Laws.AppendOwn
import Derived.Test.YtpgjmdggblnfkaaGreatDoorLA5
import Derived.Test.YtpgjmdggblnfkaaGreatDoorLA6
import Derived.Test.YtpgjmdggblnfkaaGreatDoorM39
import Derived.Test.YtpgjmdggblnfkaaGreatDoorM40
import Derived.Test.YtpgjmdggblnfkaaGreatDoorM26
set_option linter.unusedVariables false
set_option linter.unusedSimpArgs false
set_option maxHeartbeats 16000000
set_option maxRecDepth 100000
namespace Go.Proofs.YtpgjmdggblnfkaaGreatDoor
open Go.RowKit Tr Go.Shelf
theorem rnd_abs (q : Rat) : (rnd q).natAbs ≤ q.num.natAbs + 1 := by
 have hp : (1 : Int) ≤ (q.den : Int) := by have := q.den_pos; omega
 have h1 : (q.num / (q.den : Int)).natAbs ≤ q.num.natAbs := by
  rcases Int.lt_or_le q.num 0 with h | h
  ·have a1 : q.num / (q.den : Int) < 0 := Int.ediv_neg_of_neg_of_pos h (by omega)
   have a2 : q.num ≤ q.num / (q.den : Int) := by
    refine (Int.le_ediv_iff_mul_le (by omega)).2 ?_
    have := Int.mul_le_mul_of_nonpos_left (a := q.num) (b := (q.den : Int)) (c := 1) (by omega) hp
    omega
   omega
  ·have a1 : 0 ≤ q.num / (q.den : Int) := Int.ediv_nonneg h (by omega)
   have a2 : q.num / (q.den : Int) ≤ q.num := Int.ediv_le_self _ h
   omega
 unfold rnd
 split <;> omega
theorem rnd_size {q : Rat} {K : Nat} (h : BdQ q K) : (I (rnd q)).size ≤ K + 2 := by
 refine I_size_le (k := K + 1) ?_
 have h1 := rnd_abs q
 have h2 := h.1
 rw [Nat.pow_succ]
 have : 0 < 10 ^ K := Nat.pow_pos (by omega)
 omega
def prevN (i : Inst) (l : Lot) (ds : List Int) (k : Nat) : Int := if k = 0 then 0 else rnd (exactQ i l (ith ds (k - 1)))
def planN (i : Inst) (l : Lot) (ds : List Int) (k : Nat) : Int := rnd (exactQ i l (ith ds k)) - prevN i l ds k
def strI (z : Int) : Value := .string (I z)
def planV (i : Inst) (l : Lot) (ds : List Int) (n : Nat) : List Value := (List.range n).map fun k => strI (planN i l ds k)
theorem planV_succ (i : Inst) (l : Lot) (ds : List Int) (n : Nat) : planV i l ds (n + 1) = planV i l ds n ++ [strI (planN i l ds n)] := by
 unfold planV; rw [List.range_succ, List.map_append]; rfl
def Asc (ds : List Int) (n : Nat) : Prop := ∀ k, 0 < k → k < n → ith ds (k - 1) < ith ds k
theorem Asc.snoc {ds : List Int} {n : Nat} (h : Asc ds n) (h1 : n = 0 ∨ ith ds (n - 1) < ith ds n) : Asc ds (n + 1) := fun k hk hk' => by
 rcases Nat.lt_or_ge k n with h2 | h2
 ·exact h k hk h2
 ·have : k = n := by omega
  subst this
  rcases h1 with h1 | h1
  ·omega
  ·exact h1
def PlanPost (w : World) (i : Inst) (l : Lot) (ds : List Int) (e : Ending) (w' : World) : Prop :=
 Below w.heap.size w w' ∧ ((e = .returned (.tuple #[.slice none 0 0, .int .i64 8]) ∧ ¬ Asc ds ds.length) ∨
  ∃ v, e = .returned (.tuple #[v, .int .i64 0]) ∧ Asc ds ds.length ∧ w'.ownsRow w.heap.size 23 1 v ds.length (planV i l ds ds.length))
theorem Tryz.infoInt : (Tryz.prog.info? 23).map (fun i => (i.zero, i.size, i.bytes)) = some (some (.string ⟨#[]⟩), 1, 16) := by kernel_rfl
structure PlanI (w : World) (i : Inst) (l : Lot) (ds : List Int) (k : Nat) (v : Value) (wr : World) : Prop where
 own : wr.ownsRow (w.heap.size + 2) 23 1 v k (planV i l ds k)
 ib : InstBox wr w.heap.size i
 lb : LotBox wr (w.heap.size + 1) l
 bel : Below w.heap.size w wr
 asc : Asc ds k
theorem PlanI.below {w : World} {i : Inst} {l : Lot} {ds : List Int} {k : Nat} {v : Value} {W W' : World} (h : PlanI w i l ds k v W) (hb : Below W.heap.size W W') : PlanI w i l ds k v W' :=
 ⟨ownsRow_below h.own hb, h.ib.below hb, h.lb.below hb, h.bel.trans (hb.mono h.bel.size), h.asc⟩
theorem PlanI.sz {w : World} {i : Inst} {l : Lot} {ds : List Int} {k : Nat} {v : Value} {W : World} (h : PlanI w i l ds k v W) : w.heap.size + 1 < W.heap.size := h.lb.lt
theorem addr_succ {W : World} {ad : Addr} {k : Nat} {v : Value} (h : W.cell? (ad.add (k + 1)) = some v) : W.cell? ⟨ad.block, ad.off + (k + 1), none⟩ = some v := by simpa [Addr.add] using h
theorem Plan_ok (i : Inst) (l : Lot) (A : Option Addr) (ds : List Int) (c : Nat) (hl : ds.length ≤ 1000) (h : BOk i l) (hd : ∀ d ∈ ds, okDay d) (w : World) (hR : RdD w A ds) (ht : Tabs w) :
 Calls Tryz.prog 29 #[i.enc, l.enc, .slice A ds.length c] w (PlanPost w i l ds) := by
 obtain ⟨W0, hW0, hB0, k0, k1⟩ := ilbox i l w
 obtain ⟨c0, c1, c2, c3, c4, c5, c6, c7, c8, c9, c10, c11, c12, c13, c14⟩ := cells15 k0
 obtain ⟨o0, o1, o2, o3, o4, o5, o6⟩ := cells7 k1
 have HT := Lib.hid ht
 have HR := Lib.hid hR
 have HC1 := Lib.hid (checkOne_ok i l A ds c (by omega) h hd W0 (hR.below hB0) (ht.below hB0))
 have hex : ∀ k, k < ds.length → ExOk i (ith ds k) := fun k hk => ⟨h.small.fn, h.small.fd, hd _ (ith_mem hk), h.ok.mt⟩
 have HEX := Lib.hid (fun k (hk : k < ds.length) W hW => exact_any i l (ith ds k) (hex k hk) h.sized h.lok.opn W hW)
 have HRD := Lib.hid (fun k (hk : k < ds.length) W hW => roundQ (exact_bd i l (ith ds k) (hex k hk) h.sized h.lok.opn) (by unfold qB; omega) W hW)
 have hsz : ∀ k, k < ds.length → (I (rnd (exactQ i l (ith ds k)))).size ≤ 4000000 := fun k hk => by
  have := rnd_size (exact_bd i l (ith ds k) (hex k hk) h.sized h.lok.opn)
  unfold qB at this; omega
 have hsp : ∀ k, k ≤ ds.length → (I (prevN i l ds k)).size ≤ 4000000 := fun k hk => by
  unfold prevN
  split
  ·rw [show (I 0).size = 0 from rfl]; omega
  ·exact hsz _ (by omega)
 have HSB := Lib.hid (fun k (hk : k < ds.length) W hW => Sub_any (I (rnd (exactQ i l (ith ds k)))) (I (prevN i l ds k)) W (hsz k hk) (hsp k (by omega)) hW)
 have HOF := Lib.hid (fun W hW => Of_any 0 (by omega) (by omega) W hW)
 have HK0 := Lib.hid k0
 have HK1 := Lib.hid k1
 have HB0 := Lib.hid hB0
 clear h hR ht hB0 k0 k1 hex hd hsz hsp
 unfold Inst.enc Inst.cells Lot.enc Lot.cells at *
 go_enter Tryz.func29, Tryz.ntmps29
 go_wp2_with fail
 refine HC1.out.mono ?_
 rintro e w1 ⟨rfl, b1⟩
 have HB1 := Lib.hid (HB0.out.trans (b1.mono HB0.out.size))
 have HG0 := Lib.hid (HK0.out.below b1)
 have HG1 := Lib.hid (HK1.out.below b1)
 clear c0 c1 c2 c3 c4 c5 c6 c7 c8 c9 c10 c11 c12 c13 c14
 clear o0 o1 o2 o3 o4 o5 o6
 clear b1 HB0 HK0 HK1 hW0 HC1
 go_wp2_with fail
 refine (HOF.out _ (HT.out.below HB1.out)).mono ?_
 rintro e w2 ⟨rfl, b2⟩
 have HI : Hid (PlanI w i l ds 0 (.slice none 0 0) w2) := ⟨⟨rfl, .inl ⟨rfl, rfl⟩⟩, HG0.out.below b2, HG1.out.below b2, HB1.out.trans (b2.mono HB1.out.size), fun k _ hk => by omega⟩
 clear b2 HB1 HG0 HG1 HOF
 go_wp2_with fail
 go_loopw [9, 10, 24] (fun o b x wr => ∃ (k : Nat) (v : Value), o = v ∧ b = .string (I (prevN i l ds k)) ∧ x = .int .i64 (k : Int) ∧ k ≤ ds.length ∧ PlanI w i l ds k v wr) (fun _ _ x _ => ds.length - (intOf x).toNat)
 case atStart => exact ⟨0, _, rfl, rfl, rfl, by omega, HI.out⟩
 case round =>
  obtain ⟨k, v, rfl, rfl, rfl, hk, hi⟩ := hrel
  clear HI
  rcases Nat.lt_or_ge k ds.length with hlt | hge
  ·obtain ⟨ad, rfl, had, hcell⟩ := HR.out.below hi.bel (by intro e; rw [e] at hlt; cases hlt)
   have hcx : decide ((k : Int) < (ds.length : Int)) = true := by simp; omega
   have ck := hcell k hlt
   have HCE := Lib.hid (fun (k' : Nat) (e : k = k' + 1) => hcell k' (by omega))
   clear hcell
   have HI := Lib.hid hi
   obtain ⟨c0, c1, c2, c3, c4, c5, c6, c7, c8, c9, c10, c11, c12, c13, c14⟩ := cells15 hi.ib
   obtain ⟨o0, o1, o2, o3, o4, o5, o6⟩ := cells7 hi.lb
   clear hi
   rcases Nat.eq_zero_or_pos k with hk0 | hk0
   ·have t0 : decide ((0 : Int) < (k : Int)) = false := decide_eq_false (by omega)
    have t0' : decide (0 < k) = false := decide_eq_false (by omega)
    have HASC : Hid (k = 0 ∨ ith ds (k - 1) < ith ds k) := .inl hk0
    clear hk0
    go_wp2_with fail
    refine (HEX.out k hlt _ (HT.out.below HI.out.bel)).mono ?_
    rintro e w1 ⟨rfl, b1⟩
    have HI1 := Lib.hid (HI.out.below b1)
    clear b1 HI c0 c1 c2 c3 c4 c5 c6 c7 c8 c9 c10 c11 c12 c13 c14 o0 o1 o2 o3 o4 o5 o6
    go_wp2_with fail
    refine (HRD.out k hlt _ (HT.out.below HI1.out.bel)).mono ?_
    rintro e w2 ⟨rfl, b2⟩
    have HI2 := Lib.hid (HI1.out.below b2)
    clear b2 HI1
    go_wp2_with fail
    refine (HSB.out k hlt _ (HT.out.below HI2.out.bel)).mono ?_
    rintro e w3 ⟨rfl, b3⟩
    have HI3 := Lib.hid (HI2.out.below b3)
    clear b3 HI2
    have hpl : vl (I (rnd (exactQ i l (ith ds k)))) - vl (I (prevN i l ds k)) = planN i l ds k := by rw [vl_I, vl_I]; rfl
    rw [hpl]
    clear hpl
    obtain ⟨z, hz⟩ : ∃ z, z = planN i l ds k := ⟨_, rfl⟩
    rw [← hz]
    have HZ := Lib.hid hz
    clear hz
    have HS : Hid (∀ j u, [Value.string (I z)][j]? = some u → (w3.alloc (.cells #[.string (I z)] 23)).cell? ((⟨w3.heap.size, 0, none⟩ : Addr).add j) = some u) := cells_new w3 #[.string (I z)] 23
    obtain ⟨i0, hi, hz0, hz1, hz2⟩ := info_parts Tryz.infoInt
    have hs3 := HI3.out.sz
    have hkl : k ≤ 1000 := by omega
    go_wp2_with (at_builtin; refine wpList_append_own _ rfl _ _ 61 rfl (w.heap.size + 2) 23 i0 (.string ⟨#[]⟩) 1 16 Tryz.underlying61 hi hz0 hz1 hz2 rfl (by decide) _ _ _ rfl (HI3.out.own.alloc _) ⟨w3.heap.size, 0, none⟩ 1 1 [.string (I z)] rfl rfl HS.out (by simp [Value.oneCell']) (by unfold maxLen; omega) (by omega) (by simp; omega) ?_; intro v4 w4 hown4 hgrow4 _; have HO4 := Lib.hid hown4; have HG4 := Lib.hid hgrow4; clear hown4 hgrow4)
    go_roundw
    case rel =>
     have hI := HI3.out
     have hg := HG4.out
     have hlo := hI.own.lt
     refine ⟨k + 1, v4, rfl, ?_, by go_num, by omega, ?_, ?_, ?_, ?_, ?_⟩
     ·unfold prevN; rw [if_neg (by omega)]; rfl
     ·rw [planV_succ, ← HZ.out]; exact HO4.out
     ·exact (hg.block _ (by simp; omega) (fun e => by have := hlo _ e.symm; omega)).trans ((Below.heap_alloc w3 _ _ (by omega)).trans hI.ib)
     ·exact (hg.block _ (by simp; omega) (fun e => by have := hlo _ e.symm; omega)).trans ((Below.heap_alloc w3 _ _ (by omega)).trans hI.lb)
     ·exact (hI.bel.alloc hI.bel.size _).grown hg (by simp; omega) (fun k hk => by have := hlo k hk; omega)
     ·exact hI.asc.snoc HASC.out
    case measure => simp [intOf]; omega
   ·obtain ⟨k', rfl⟩ : ∃ k', k = k' + 1 := ⟨k - 1, by omega⟩
    have ck' := HCE.out k' rfl
    have ck := addr_succ ck
    have t0 : decide ((0 : Int) < ((k' + 1 : Nat) : Int)) = true := decide_eq_true (by omega)
    have t0' : decide (0 < k' + 1) = true := decide_eq_true (by omega)
    by_cases hq : ith ds (k' + 1) ≤ ith ds k'
    ·have t1 : decide (ith ds (k' + 1) ≤ ith ds k') = true := decide_eq_true hq
     have HQ := Lib.hid hq
     clear hq hk0
     go_wp2_with fail
     go_ret2
     refine ⟨HI.out.bel, .inl ⟨rfl, fun ha => ?_⟩⟩
     have := ha (k' + 1) (by omega) hlt
     have := HQ.out
     simp only [Nat.add_sub_cancel] at *
     omega
    have t1 : decide (ith ds (k' + 1) ≤ ith ds k') = false := decide_eq_false hq
    have HASC : Hid (k' + 1 = 0 ∨ ith ds (k' + 1 - 1) < ith ds (k' + 1)) := .inr (by simp only [Nat.add_sub_cancel]; omega)
    clear hk0 hq
    go_wp2_with fail
    refine (HEX.out (k' + 1) hlt _ (HT.out.below HI.out.bel)).mono ?_
    rintro e w1 ⟨rfl, b1⟩
    have HI1 := Lib.hid (HI.out.below b1)
    clear b1 HI c0 c1 c2 c3 c4 c5 c6 c7 c8 c9 c10 c11 c12 c13 c14 o0 o1 o2 o3 o4 o5 o6
    go_wp2_with fail
    refine (HRD.out (k' + 1) hlt _ (HT.out.below HI1.out.bel)).mono ?_
    rintro e w2 ⟨rfl, b2⟩
    have HI2 := Lib.hid (HI1.out.below b2)
    clear b2 HI1
    go_wp2_with fail
    refine (HSB.out (k' + 1) hlt _ (HT.out.below HI2.out.bel)).mono ?_
    rintro e w3 ⟨rfl, b3⟩
    have HI3 := Lib.hid (HI2.out.below b3)
    clear b3 HI2
    have hpl : vl (I (rnd (exactQ i l (ith ds (k' + 1))))) - vl (I (prevN i l ds (k' + 1))) = planN i l ds (k' + 1) := by rw [vl_I, vl_I]; rfl
    rw [hpl]
    clear hpl
    obtain ⟨z, hz⟩ : ∃ z, z = planN i l ds (k' + 1) := ⟨_, rfl⟩
    rw [← hz]
    have HZ := Lib.hid hz
    clear hz
    have HS : Hid (∀ j u, [Value.string (I z)][j]? = some u → (w3.alloc (.cells #[.string (I z)] 23)).cell? ((⟨w3.heap.size, 0, none⟩ : Addr).add j) = some u) := cells_new w3 #[.string (I z)] 23
    obtain ⟨i0, hi, hz0, hz1, hz2⟩ := info_parts Tryz.infoInt
    have hs3 := HI3.out.sz
    have hkl : (k' + 1) ≤ 1000 := by omega
    go_wp2_with (at_builtin; refine wpList_append_own _ rfl _ _ 61 rfl (w.heap.size + 2) 23 i0 (.string ⟨#[]⟩) 1 16 Tryz.underlying61 hi hz0 hz1 hz2 rfl (by decide) _ _ _ rfl (HI3.out.own.alloc _) ⟨w3.heap.size, 0, none⟩ 1 1 [.string (I z)] rfl rfl HS.out (by simp [Value.oneCell']) (by unfold maxLen; omega) (by omega) (by simp; omega) ?_; intro v4 w4 hown4 hgrow4 _; have HO4 := Lib.hid hown4; have HG4 := Lib.hid hgrow4; clear hown4 hgrow4)
    go_roundw
    case rel =>
     have hI := HI3.out
     have hg := HG4.out
     have hlo := hI.own.lt
     refine ⟨(k' + 1) + 1, v4, rfl, ?_, by go_num, by omega, ?_, ?_, ?_, ?_, ?_⟩
     ·unfold prevN; rw [if_neg (by omega)]; rfl
     ·rw [planV_succ, ← HZ.out]; exact HO4.out
     ·exact (hg.block _ (by simp; omega) (fun e => by have := hlo _ e.symm; omega)).trans ((Below.heap_alloc w3 _ _ (by omega)).trans hI.ib)
     ·exact (hg.block _ (by simp; omega) (fun e => by have := hlo _ e.symm; omega)).trans ((Below.heap_alloc w3 _ _ (by omega)).trans hI.lb)
     ·exact (hI.bel.alloc hI.bel.size _).grown hg (by simp; omega) (fun k hk => by have := hlo k hk; omega)
     ·exact hI.asc.snoc HASC.out
    case measure => simp [intOf]; omega
  ·have hcx : decide ((k : Int) < (ds.length : Int)) = false := by simp; omega
   have hkk : k = ds.length := by omega
   subst hkk
   have HI := Lib.hid hi
   clear hi
   go_wp2_with fail
   go_ret2
   refine ⟨HI.out.bel, .inr ⟨_, rfl, HI.out.asc, HI.out.own.1, ?_⟩⟩
   rcases HI.out.own.2 with h2 | ⟨g, cap, cur, h1, h2, h3⟩
   ·exact .inl h2
   ·exact .inr ⟨g, cap, cur, h1, by omega, h3⟩
open Classical in
noncomputable def achk (i : Inst) (l : Lot) (ds : List Int) : Int :=
 if ¬ (i.ok ∧ l.ok) then 1 else if l.inst ≠ i.id then 9 else if ¬ (∀ k, k < ds.length → okDay (ith ds k)) then 13 else 0
theorem achk_1 {i : Inst} {l : Lot} {ds : List Int} (h : ¬ (i.ok ∧ l.ok)) : achk i l ds = 1 := by unfold achk; rw [if_pos h]
theorem achk_9 {i : Inst} {l : Lot} {ds : List Int} (h1 : i.ok) (h2 : l.ok) (h : l.inst ≠ i.id) : achk i l ds = 9 := by unfold achk; rw [if_neg (fun x => x ⟨h1, h2⟩), if_pos h]
theorem achk_13 {i : Inst} {l : Lot} {ds : List Int} (h1 : i.ok) (h2 : l.ok) (h3 : l.inst = i.id) (h : ¬ (∀ k, k < ds.length → okDay (ith ds k))) : achk i l ds = 13 := by unfold achk; rw [if_neg (fun x => x ⟨h1, h2⟩), if_neg (fun x => x h3), if_pos h]
theorem achk_0 {i : Inst} {l : Lot} {ds : List Int} (h1 : i.ok) (h2 : l.ok) (h3 : l.inst = i.id) (h : ∀ k, k < ds.length → okDay (ith ds k)) : achk i l ds = 0 := by unfold achk; rw [if_neg (fun x => x ⟨h1, h2⟩), if_neg (fun x => x h3), if_neg (fun x => x h)]
theorem achk_zero {i : Inst} {l : Lot} {ds : List Int} (h : achk i l ds = 0) : i.ok ∧ l.ok ∧ l.inst = i.id ∧ ∀ k, k < ds.length → okDay (ith ds k) := by
 unfold achk at h
 split at h
 ·cases h
 rename_i a1
 split at h
 ·cases h
 rename_i a2
 split at h
 ·cases h
 rename_i a3
 simp only [Classical.not_not] at a1 a2 a3
 exact ⟨a1.1, a1.2, a2, a3⟩
theorem achk_val (i : Inst) (l : Lot) (ds : List Int) : achk i l ds = 0 ∨ achk i l ds = 1 ∨ achk i l ds = 9 ∨ achk i l ds = 13 := by
 unfold achk; split; exact .inr (.inl rfl); split; exact .inr (.inr (.inl rfl)); split; exact .inr (.inr (.inr rfl)); exact .inl rfl
theorem checkOne_any (i : Inst) (l : Lot) (A : Option Addr) (ds : List Int) (c : Nat) (hl : ds.length ≤ 1000000) (hi : i.sized) (hs : l.sized) (w : World) (hR : RdD w A ds) (ht : Tabs w) :
 Calls Tryz.prog 50 #[i.enc, l.enc, .slice A ds.length c] w fun e w' => e = .returned (.int .i64 (achk i l ds)) ∧ Below w.heap.size w w' := by
 obtain ⟨W0, hW0, hB0, k0, k1⟩ := ilbox i l w
 obtain ⟨c0, c1, c2, c3, c4, c5, c6, c7, c8, c9, c10, c11, c12, c13, c14⟩ := cells15 k0
 obtain ⟨o0, o1, o2, o3, o4, o5, o6⟩ := cells7 k1
 have HT := Lib.hid ht
 have HB0 := Lib.hid hB0
 have HK0 := Lib.hid k0
 have HK1 := Lib.hid k1
 have HC1 := Lib.hid (iCheck_any i hi W0 (ht.below hB0))
 have HC2 := Lib.hid (fun W hW => lCheck_any l hs W hW)
 have HR := Lib.hid (fun W (hb : Below w.heap.size w W) => hR.below hb)
 have HV := Lib.hid (fun (k : Nat) (hk : k < ds.length) (W : World) => avalid_any (ith ds k) W)
 have heq := str_eq l.inst i.id
 clear hR ht hB0 k0 k1 hi hs
 unfold Inst.enc Inst.cells Lot.enc Lot.cells at *
 go_enter Tryz.func50, Tryz.ntmps50
 go_wp2_with fail
 refine HC1.out.mono ?_
 rintro e w1 ⟨n, rfl, hn, b1⟩
 have HN := Lib.hid hn
 have HB1 := Lib.hid (HB0.out.trans (b1.mono HB0.out.size))
 have g0 := HK0.out.below b1
 have g1 := HK1.out.below b1
 clear c0 c1 c2 c3 c4 c5 c6 c7 c8 c9 c10 c11 c12 c13 c14 o0 o1 o2 o3 o4 o5 o6
 obtain ⟨c0, c1, c2, c3, c4, c5, c6, c7, c8, c9, c10, c11, c12, c13, c14⟩ := cells15 g0
 obtain ⟨o0, o1, o2, o3, o4, o5, o6⟩ := cells7 g1
 have HG0 := Lib.hid g0
 have HG1 := Lib.hid g1
 clear b1 g0 g1 HK0 HK1 HB0 HC1 hW0 hn
 by_cases h1 : n = 0
 case neg =>
  have t1 : (n == 0) = false := beq_eq_false_iff_ne.2 h1
  have t1' : (n != 0) = true := by rw [bne, t1]; rfl
  have H := Lib.hid h1
  clear h1
  go_wp2_with fail
  go_ret
  exact ⟨by rw [achk_1 (fun h => H.out (HN.out.2 h.1))]; rfl, HB1.out⟩
 have H1 := Lib.hid (HN.out.1 h1)
 subst h1
 go_wp2_with fail
 refine (HC2.out _ (HT.out.below HB1.out)).mono ?_
 rintro e w2 ⟨rfl, b2⟩
 have HB2 := Lib.hid (HB1.out.trans (b2.mono HB1.out.size))
 have g0 := HG0.out.below b2
 have g1 := HG1.out.below b2
 clear o0 o1 o2 o3 o4 o5 o6 c0 c1 c2 c3 c4 c5 c6 c7 c8 c9 c10 c11 c12 c13 c14
 have c0 := Lib.cell_of_heap g0 0
 have o1 := Lib.cell_of_heap g1 1
 simp at c0 o1
 clear b2 g0 g1 HG0 HG1 HB1 HC2 HN
 by_cases h2 : lchk l = 0
 case neg =>
  have t1 : (lchk l == 0) = false := beq_eq_false_iff_ne.2 h2
  have t1' : (lchk l != 0) = true := by rw [bne, t1]; rfl
  have H := Lib.hid h2
  clear h2
  go_wp2_with fail
  go_ret
  exact ⟨by rw [achk_1 (fun h => H.out (lchk_zero.2 h.2))]; rfl, HB2.out⟩
 have H2 := Lib.hid (lchk_zero.1 h2)
 rw [h2]
 clear h2
 by_cases h3 : l.inst = i.id
 case neg =>
  have H := Lib.hid h3
  rw [decide_eq_false h3] at heq
  clear h3
  go_wp2_with fail
  go_ret
  exact ⟨by rw [achk_9 H1.out H2.out H.out]; rfl, HB2.out⟩
 have H3 := Lib.hid h3
 rw [decide_eq_true h3] at heq
 clear h3
 go_wp2_with fail
 go_loopw [24] (fun v wr => ∃ k : Nat, v = .int .i64 (k : Int) ∧ k ≤ ds.length ∧ (∀ j, j < k → okDay (ith ds j)) ∧ w2 = wr) (fun v _ => ds.length - (intOf v).toNat)
 case atStart => exact ⟨0, rfl, by omega, fun j hj => by omega, rfl⟩
 case round =>
  obtain ⟨k, rfl, hk, hok, rfl⟩ := hrel
  have HOK := Lib.hid hok
  clear c0 o1 hok
  rcases Nat.lt_or_ge k ds.length with hlt | hge
  ·obtain ⟨ad, rfl, had, hcell⟩ := HR.out w2 HB2.out (by intro e; rw [e] at hlt; cases hlt)
   have hcx : decide ((k : Int) < (ds.length : Int)) = true := by simp; omega
   have ck := hcell k hlt
   have HVK := Lib.hid (HV.out k hlt)
   clear hcell
   by_cases hd : okDay (ith ds k)
   case neg =>
    rw [decide_eq_false hd] at HVK
    have H := Lib.hid hd
    clear hd
    go_wp2_with fail
    refine (HVK.out _).mono ?_
    rintro e w3 ⟨rfl, rfl⟩
    go_wp2_with fail
    go_ret
    exact ⟨by rw [achk_13 H1.out H2.out H3.out (fun x => H.out (x k hlt))]; rfl, HB2.out⟩
   rw [decide_eq_true hd] at HVK
   have HD := Lib.hid hd
   clear hd
   go_wp2_with fail
   refine (HVK.out _).mono ?_
   rintro e w3 ⟨rfl, rfl⟩
   go_wp2_with fail
   go_roundw
   case rel =>
    refine ⟨k + 1, by go_num, by omega, fun j hj => ?_, by trivial⟩
    rcases Nat.lt_or_ge j k with h | h
    ·exact HOK.out j h
    ·have : j = k := by omega
     subst this
     exact HD.out
   case measure => simp [intOf]; omega
  ·have hcx : decide ((k : Int) < (ds.length : Int)) = false := by simp; omega
   go_wp2_with fail
   go_ret
   exact ⟨by rw [achk_0 H1.out H2.out H3.out (fun j hj => HOK.out j (by omega))]; rfl, HB2.out⟩
theorem Amortized_err (i : Inst) (l : Lot) (d : Int) (hi : i.sized) (hs : l.sized) (h : achk i l [d] ≠ 0) (w : World) (ht : Tabs w) :
 Calls Tryz.prog 14 #[i.enc, l.enc, .int .i64 d] w fun e w' => e = .returned (.tuple #[.string ⟨#[]⟩, .int .i64 (achk i l [d])]) ∧ Below w.heap.size w w' := by
 obtain ⟨W0, hW0, hB0, k0, k1⟩ := ilbox i l w
 obtain ⟨c0, c1, c2, c3, c4, c5, c6, c7, c8, c9, c10, c11, c12, c13, c14⟩ := cells15 k0
 obtain ⟨o0, o1, o2, o3, o4, o5, o6⟩ := cells7 k1
 have HT := Lib.hid ht
 obtain ⟨W1, hW1⟩ : ∃ W1, W0.alloc (.cells #[.int .i64 d] 22) = W1 := ⟨_, rfl⟩
 have b1 : Below W0.heap.size W0 W1 := by rw [← hW1]; exact (Below.refl _ W0).alloc (Nat.le_refl _) _
 have k2 : W1.heap[W0.heap.size]? = some (.cells #[.int .i64 d] 22) := by rw [← hW1]; exact heap_alloc_new W0 _
 have hR : RdD W1 (some ⟨W0.heap.size, 0, none⟩) [d] := fun _ => ⟨_, rfl, (Array.getElem?_eq_some_iff.1 k2).1, fun j hj => by
  have : j = 0 := by simp at hj; omega
  subst this
  have := Lib.cell_of_heap k2 0
  simp at this
  exact this⟩
 have B1 := hB0.trans (b1.mono hB0.size)
 have HC1 := Lib.hid (checkOne_any i l (some ⟨W0.heap.size, 0, none⟩) [d] 1 (by simp) hi hs W1 hR (ht.below B1))
 have HB1 := Lib.hid B1
 generalize achk i l [d] = n at *
 have t1 : (n == 0) = false := beq_eq_false_iff_ne.2 h
 have t1' : (n != 0) = true := by rw [bne, t1]; rfl
 clear h hR ht hB0 b1 k0 k1 k2 B1 hi hs
 unfold Inst.enc Inst.cells Lot.enc Lot.cells at *
 go_enter Tryz.func14, Tryz.ntmps14
 go_wp2_with fail
 refine HC1.out.mono ?_
 rintro e w1 ⟨rfl, b1⟩
 have HB2 := Lib.hid (HB1.out.trans (b1.mono HB1.out.size))
 clear c0 c1 c2 c3 c4 c5 c6 c7 c8 c9 c10 c11 c12 c13 c14 o0 o1 o2 o3 o4 o5 o6
 clear b1 HB1 HC1 hW0 hW1
 go_wp2_with fail
 go_ret2
 exact ⟨rfl, HB2.out⟩
theorem Plan_err (i : Inst) (l : Lot) (A : Option Addr) (ds : List Int) (c : Nat) (hl : ds.length ≤ 1000) (hi : i.sized) (hs : l.sized) (h : achk i l ds ≠ 0) (w : World) (hR : RdD w A ds) (ht : Tabs w) :
 Calls Tryz.prog 29 #[i.enc, l.enc, .slice A ds.length c] w fun e w' => e = .returned (.tuple #[.slice none 0 0, .int .i64 (achk i l ds)]) ∧ Below w.heap.size w w' := by
 obtain ⟨W0, hW0, hB0, k0, k1⟩ := ilbox i l w
 obtain ⟨c0, c1, c2, c3, c4, c5, c6, c7, c8, c9, c10, c11, c12, c13, c14⟩ := cells15 k0
 obtain ⟨o0, o1, o2, o3, o4, o5, o6⟩ := cells7 k1
 have HC1 := Lib.hid (checkOne_any i l A ds c (by omega) hi hs W0 (hR.below hB0) (ht.below hB0))
 have HB0 := Lib.hid hB0
 generalize achk i l ds = n at *
 have t1 : (n == 0) = false := beq_eq_false_iff_ne.2 h
 have t1' : (n != 0) = true := by rw [bne, t1]; rfl
 clear h hR ht hB0 k0 k1 hi hs
 unfold Inst.enc Inst.cells Lot.enc Lot.cells at *
 go_enter Tryz.func29, Tryz.ntmps29
 go_wp2_with fail
 refine HC1.out.mono ?_
 rintro e w1 ⟨rfl, b1⟩
 have HB1 := Lib.hid (HB0.out.trans (b1.mono HB0.out.size))
 clear c0 c1 c2 c3 c4 c5 c6 c7 c8 c9 c10 c11 c12 c13 c14 o0 o1 o2 o3 o4 o5 o6
 clear b1 HB0 hW0 HC1
 go_wp2_with fail
 go_ret2
 exact ⟨rfl, HB1.out⟩
theorem checkOne39_any (i : Inst) (l : Lot) (A : Option Addr) (ds : List Int) (c : Nat) (hl : ds.length ≤ 1000000) (hi : i.tiny) (hs : l.tiny) (w : World) (hR : RdD w A ds) :
 Calls Tryz.prog 67 #[i.enc, l.enc, .slice A ds.length c] w fun e w' => e = .returned (.int .i64 (achk i l ds)) ∧ Below w.heap.size w w' := by
 obtain ⟨W0, hW0, hB0, k0, k1⟩ := ilbox i l w
 obtain ⟨c0, c1, c2, c3, c4, c5, c6, c7, c8, c9, c10, c11, c12, c13, c14⟩ := cells15 k0
 obtain ⟨o0, o1, o2, o3, o4, o5, o6⟩ := cells7 k1
 have HB0 := Lib.hid hB0
 have HK0 := Lib.hid k0
 have HK1 := Lib.hid k1
 have HC1 := Lib.hid (rCheck10_any i hi W0)
 have HC2 := Lib.hid (fun W => rCheck19_ex l hs W)
 have HR := Lib.hid (fun W (hb : Below w.heap.size w W) => hR.below hb)
 have HV := Lib.hid (fun (k : Nat) (hk : k < ds.length) (W : World) => rday39_any (ith ds k) W)
 have heq := str_eq l.inst i.id
 clear hR hB0 k0 k1 hi hs
 unfold Inst.enc Inst.cells Lot.enc Lot.cells at *
 go_enter Tryz.func67, Tryz.ntmps67
 go_wp2_with fail
 refine HC1.out.mono ?_
 rintro e w1 ⟨n, rfl, hn, b1⟩
 have HN := Lib.hid hn
 have HB1 := Lib.hid (HB0.out.trans (b1.mono HB0.out.size))
 have g0 := HK0.out.below b1
 have g1 := HK1.out.below b1
 clear c0 c1 c2 c3 c4 c5 c6 c7 c8 c9 c10 c11 c12 c13 c14 o0 o1 o2 o3 o4 o5 o6
 obtain ⟨c0, c1, c2, c3, c4, c5, c6, c7, c8, c9, c10, c11, c12, c13, c14⟩ := cells15 g0
 obtain ⟨o0, o1, o2, o3, o4, o5, o6⟩ := cells7 g1
 have HG0 := Lib.hid g0
 have HG1 := Lib.hid g1
 clear b1 g0 g1 HK0 HK1 HB0 HC1 hW0 hn
 by_cases h1 : n = 0
 case neg =>
  have t1 : (n == 0) = false := beq_eq_false_iff_ne.2 h1
  have t1' : (n != 0) = true := by rw [bne, t1]; rfl
  have H := Lib.hid h1
  clear h1
  go_wp2_with fail
  go_ret
  exact ⟨by rw [achk_1 (fun h => H.out (HN.out.2 h.1))]; rfl, HB1.out⟩
 have H1 := Lib.hid (HN.out.1 h1)
 subst h1
 go_wp2_with fail
 refine (HC2.out _).mono ?_
 rintro e w2 ⟨rfl, b2⟩
 have HB2 := Lib.hid (HB1.out.trans (b2.mono HB1.out.size))
 have g0 := HG0.out.below b2
 have g1 := HG1.out.below b2
 clear o0 o1 o2 o3 o4 o5 o6 c0 c1 c2 c3 c4 c5 c6 c7 c8 c9 c10 c11 c12 c13 c14
 have c0 := Lib.cell_of_heap g0 0
 have o1 := Lib.cell_of_heap g1 1
 simp at c0 o1
 clear b2 g0 g1 HG0 HG1 HB1 HC2 HN
 by_cases h2 : lchk l = 0
 case neg =>
  have t1 : (lchk l == 0) = false := beq_eq_false_iff_ne.2 h2
  have t1' : (lchk l != 0) = true := by rw [bne, t1]; rfl
  have H := Lib.hid h2
  clear h2
  go_wp2_with fail
  go_ret
  exact ⟨by rw [achk_1 (fun h => H.out (lchk_zero.2 h.2))]; rfl, HB2.out⟩
 have H2 := Lib.hid (lchk_zero.1 h2)
 rw [h2]
 clear h2
 by_cases h3 : l.inst = i.id
 case neg =>
  have H := Lib.hid h3
  rw [decide_eq_false h3] at heq
  clear h3
  go_wp2_with fail
  go_ret
  exact ⟨by rw [achk_9 H1.out H2.out H.out]; rfl, HB2.out⟩
 have H3 := Lib.hid h3
 rw [decide_eq_true h3] at heq
 clear h3
 go_wp2_with fail
 go_loopw [7] (fun v wr => ∃ k : Nat, v = .int .i64 (k : Int) ∧ k ≤ ds.length ∧ (∀ j, j < k → okDay (ith ds j)) ∧ w2 = wr) (fun v _ => ds.length - (intOf v).toNat)
 case atStart => exact ⟨0, rfl, by omega, fun j hj => by omega, rfl⟩
 case round =>
  obtain ⟨k, rfl, hk, hok, rfl⟩ := hrel
  have HOK := Lib.hid hok
  clear c0 o1 hok
  rcases Nat.lt_or_ge k ds.length with hlt | hge
  ·obtain ⟨ad, rfl, had, hcell⟩ := HR.out w2 HB2.out (by intro e; rw [e] at hlt; cases hlt)
   have hcx : decide ((k : Int) < (ds.length : Int)) = true := by simp; omega
   have ck := hcell k hlt
   have HVK := Lib.hid (HV.out k hlt)
   clear hcell
   by_cases hd : okDay (ith ds k)
   case neg =>
    rw [decide_eq_false hd] at HVK
    have H := Lib.hid hd
    clear hd
    go_wp2_with fail
    refine (HVK.out _).mono ?_
    rintro e w3 ⟨rfl, rfl⟩
    go_wp2_with fail
    go_ret
    exact ⟨by rw [achk_13 H1.out H2.out H3.out (fun x => H.out (x k hlt))]; rfl, HB2.out⟩
   rw [decide_eq_true hd] at HVK
   have HD := Lib.hid hd
   clear hd
   go_wp2_with fail
   refine (HVK.out _).mono ?_
   rintro e w3 ⟨rfl, rfl⟩
   go_wp2_with fail
   go_roundw
   case rel =>
    refine ⟨k + 1, by go_num, by omega, fun j hj => ?_, by trivial⟩
    rcases Nat.lt_or_ge j k with h | h
    ·exact HOK.out j h
    ·have : j = k := by omega
     subst this
     exact HD.out
   case measure => simp [intOf]; omega
  ·have hcx : decide ((k : Int) < (ds.length : Int)) = false := by simp; omega
   go_wp2_with fail
   go_ret
   exact ⟨by rw [achk_0 H1.out H2.out H3.out (fun j hj => HOK.out j (by omega))]; rfl, HB2.out⟩
theorem Amortized39_err (i : Inst) (l : Lot) (d : Int) (hi : i.tiny) (hs : l.tiny) (h : achk i l [d] ≠ 0) (w : World) :
 Calls Tryz.prog 28 #[i.enc, l.enc, .int .i64 d] w fun e w' => e = .returned (.tuple #[.string ⟨#[]⟩, .int .i64 (achk i l [d])]) ∧ Below w.heap.size w w' := by
 obtain ⟨W0, hW0, hB0, k0, k1⟩ := ilbox i l w
 obtain ⟨c0, c1, c2, c3, c4, c5, c6, c7, c8, c9, c10, c11, c12, c13, c14⟩ := cells15 k0
 obtain ⟨o0, o1, o2, o3, o4, o5, o6⟩ := cells7 k1
 obtain ⟨W1, hW1⟩ : ∃ W1, W0.alloc (.cells #[.int .i64 d] 22) = W1 := ⟨_, rfl⟩
 have b1 : Below W0.heap.size W0 W1 := by rw [← hW1]; exact (Below.refl _ W0).alloc (Nat.le_refl _) _
 have k2 : W1.heap[W0.heap.size]? = some (.cells #[.int .i64 d] 22) := by rw [← hW1]; exact heap_alloc_new W0 _
 have hR : RdD W1 (some ⟨W0.heap.size, 0, none⟩) [d] := fun _ => ⟨_, rfl, (Array.getElem?_eq_some_iff.1 k2).1, fun j hj => by
  have : j = 0 := by simp at hj; omega
  subst this
  have := Lib.cell_of_heap k2 0
  simp at this
  exact this⟩
 have B1 := hB0.trans (b1.mono hB0.size)
 have HC1 := Lib.hid (checkOne39_any i l (some ⟨W0.heap.size, 0, none⟩) [d] 1 (by simp) hi hs W1 hR)
 have HB1 := Lib.hid B1
 generalize achk i l [d] = n at *
 have t1 : (n == 0) = false := beq_eq_false_iff_ne.2 h
 have t1' : (n != 0) = true := by rw [bne, t1]; rfl
 clear h hR hB0 b1 k0 k1 k2 B1 hi hs
 unfold Inst.enc Inst.cells Lot.enc Lot.cells at *
 go_enter Tryz.func28, Tryz.ntmps28
 go_wp2_with fail
 refine HC1.out.mono ?_
 rintro e w1 ⟨rfl, b1⟩
 have HB2 := Lib.hid (HB1.out.trans (b1.mono HB1.out.size))
 clear c0 c1 c2 c3 c4 c5 c6 c7 c8 c9 c10 c11 c12 c13 c14 o0 o1 o2 o3 o4 o5 o6
 clear b1 HB1 HC1 hW0 hW1
 go_wp2_with fail
 go_ret2
 exact ⟨rfl, HB2.out⟩
theorem Amortized39_ok (i : Inst) (l : Lot) (d : Int) (h : BOk i l) (hi : i.tiny) (hs : l.tiny) (hd : okDay d) (w : World) (ht : Tabs w) :
 Calls Tryz.prog 28 #[i.enc, l.enc, .int .i64 d] w fun e w' => e = .returned (.tuple #[.string (I (rnd (exactQ i l d))), .int .i64 0]) ∧ Below w.heap.size w w' := by
 obtain ⟨W0, hW0, hB0, k0, k1⟩ := ilbox i l w
 obtain ⟨c0, c1, c2, c3, c4, c5, c6, c7, c8, c9, c10, c11, c12, c13, c14⟩ := cells15 k0
 obtain ⟨o0, o1, o2, o3, o4, o5, o6⟩ := cells7 k1
 have HT := Lib.hid ht
 obtain ⟨W1, hW1⟩ : ∃ W1, W0.alloc (.cells #[.int .i64 d] 22) = W1 := ⟨_, rfl⟩
 have b1 : Below W0.heap.size W0 W1 := by rw [← hW1]; exact (Below.refl _ W0).alloc (Nat.le_refl _) _
 have k2 : W1.heap[W0.heap.size]? = some (.cells #[.int .i64 d] 22) := by rw [← hW1]; exact heap_alloc_new W0 _
 have hR : RdD W1 (some ⟨W0.heap.size, 0, none⟩) [d] := fun _ => ⟨_, rfl, (Array.getElem?_eq_some_iff.1 k2).1, fun j hj => by
  have : j = 0 := by simp at hj; omega
  subst this
  have := Lib.cell_of_heap k2 0
  simp at this
  exact this⟩
 have B1 := hB0.trans (b1.mono hB0.size)
 have HC1 := Lib.hid (checkOne39_any i l (some ⟨W0.heap.size, 0, none⟩) [d] 1 (by simp) hi hs W1 hR)
 rw [achk_0 (ds := [d]) h.ok h.lok h.inst (fun k hk => by rcases k with _ | k; exact hd; exact absurd hk (by simp))] at HC1
 have hex : ExOk i d := ⟨h.small.fn, h.small.fd, hd, h.ok.mt⟩
 have HEX := Lib.hid (fun W hW => exact39_any i l d h.small.fn h.small.fd ((numchk_zero (by have := hi.2.2.2.1; omega) (by have := hi.2.2.2.2.1; omega)).1 h.ok.n1) hd h.ok.mt h.sized h.lok.opn W hW)
 have HRD := Lib.hid (fun W => round39_any (exact_bd i l d hex h.sized h.lok.opn) (by unfold qB; omega) (by unfold qB; omega) W)
 have HK0 := Lib.hid (k0.below b1)
 have HK1 := Lib.hid (k1.below b1)
 have HB1 := Lib.hid B1
 generalize exactQ i l d = rq at *
 clear h hR ht hB0 b1 k0 k1 k2 B1 hex hd hi hs
 unfold Inst.enc Inst.cells Lot.enc Lot.cells at *
 go_enter Tryz.func28, Tryz.ntmps28
 go_wp2_with fail
 refine HC1.out.mono ?_
 rintro e w1 ⟨rfl, b1⟩
 have HB2 := Lib.hid (HB1.out.trans (b1.mono HB1.out.size))
 have g0 := HK0.out.below b1
 have g1 := HK1.out.below b1
 clear c0 c1 c2 c3 c4 c5 c6 c7 c8 c9 c10 c11 c12 c13 c14
 clear o0 o1 o2 o3 o4 o5 o6
 obtain ⟨c0, c1, c2, c3, c4, c5, c6, c7, c8, c9, c10, c11, c12, c13, c14⟩ := cells15 g0
 obtain ⟨o0, o1, o2, o3, o4, o5, o6⟩ := cells7 g1
 clear b1 g0 g1 HK0 HK1 HB1 HC1 hW0 hW1
 go_wp2_with fail
 refine (HEX.out _ (HT.out.below HB2.out)).mono ?_
 rintro e w2 ⟨rfl, b2⟩
 have HB3 := Lib.hid (HB2.out.trans (b2.mono HB2.out.size))
 clear b2 HB2
 clear c0 c1 c2 c3 c4 c5 c6 c7 c8 c9 c10 c11 c12 c13 c14
 clear o0 o1 o2 o3 o4 o5 o6
 go_wp2_with fail
 refine (HRD.out _).mono ?_
 rintro e w3 ⟨rfl, b3⟩
 have B4 := HB3.out.trans (b3.mono HB3.out.size)
 clear b3
 go_wp2_with fail
 go_ret2
 exact ⟨rfl, B4⟩
end Go.Proofs.YtpgjmdggblnfkaaGreatDoor
