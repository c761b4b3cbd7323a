/-
  tranchelaw39.AccrualPlans returns true. (Printed by gen_law7.py.)
  The walk of trancheref39.Plan. (Printed by gen_ref38.py.)
  The walks of trancheref39.SameEffect on equal effects; of slices.Equal on equal integers.
-/
import Derived.Test.YtpgjmdggblnfkaaGreatDoorLA8
import Derived.Test.YtpgjmdggblnfkaaGreatDoorM45
import Derived.Test.YtpgjmdggblnfkaaGreatDoorM19
import Derived.Test.YtpgjmdggblnfkaaGreatDoorM39
import Derived.Test.YtpgjmdggblnfkaaGreatDoorM40
set_option linter.unusedVariables false
set_option linter.unusedSimpArgs false
set_option maxHeartbeats 16000000
set_option maxRecDepth 100000
namespace Go.Proofs.YtpgjmdggblnfkaaGreatDoor
open Go.RowKit Tr Go.Shelf
theorem plans1_any (d : Int) (w : World) : Calls Tryz.prog 35 #[.int .i64 d] w fun e w' => e = .returned (.bool (!decide (okDay d))) ∧ w = w' := by
 have e : (!decide (okDay d)) = (decide (d < -25567) || decide (84005 < d)) := by
  by_cases h : okDay d
  ·rw [decide_eq_true h, decide_eq_false (p := d < -25567) (by unfold okDay at h; omega), decide_eq_false (p := 84005 < d) (by unfold okDay at h; omega)]; rfl
  ·rw [decide_eq_false h]
   rcases Int.lt_or_le d (-25567) with h1 | h1
   ·rw [decide_eq_true h1]; rfl
   ·rw [decide_eq_true (p := 84005 < d) (by unfold okDay at h; omega), Bool.or_true]; rfl
 by_cases h1 : d < -25567
 ·have t1 : decide (d < -25567) = true := decide_eq_true h1
  clear h1
  go_enter Tryz.func35, Tryz.ntmps35
  go_wp2_with fail
  go_ret
  exact ⟨by rw [e, t1]; rfl, rfl⟩
 ·have t1 : decide (d < -25567) = false := decide_eq_false h1
  clear h1
  go_enter Tryz.func35, Tryz.ntmps35
  go_wp2_with fail
  go_ret
  exact ⟨by rw [e, t1, Bool.false_or]; rfl, rfl⟩
def IdxPost (w : World) (ds : List Int) (e : Ending) (w' : World) : Prop := ∃ n : Int, e = .returned (.int .i64 n) ∧ w = w' ∧ (n < 0 → ∀ j, j < ds.length → okDay (ith ds j))
theorem sIndexDay_any (A : Option Addr) (ds : List Int) (c : Nat) (hl : ds.length ≤ 1000000) (w : World) (hR : RdD w A ds) :
 Calls Tryz.prog 74 #[.slice A ds.length c, .func (.func 35) #[] #[]] w (IdxPost w ds) := by
 have HR := Lib.hid hR
 clear hR
 go_enter Tryz.func74, Tryz.ntmps74
 go_wp2_with fail
 go_loop [8] (fun v => ∃ k : Nat, v = .int .i64 (k : Int) ∧ k ≤ ds.length ∧ ∀ j, j < k → okDay (ith ds j)) (fun v => ds.length - (intOf v).toNat)
 case atStart => exact ⟨0, rfl, by omega, fun j hj => by omega⟩
 case round =>
  obtain ⟨k, rfl, hk, hok⟩ := hrel
  have HOK := Lib.hid hok
  clear hok
  rcases Nat.lt_or_ge k ds.length with hlt | hge
  ·obtain ⟨ad, rfl, had, hcell⟩ := HR.out (by intro e; rw [e] at hlt; cases hlt)
   have hcx : decide ((k : Int) < (ds.length : Int)) = true := by simp; omega
   have ck := hcell k hlt
   clear hcell
   go_wp2_with fail
   refine (plans1_any (ith ds k) _).mono ?_
   rintro e w1 ⟨rfl, rfl⟩
   by_cases ho : okDay (ith ds k)
   ·rw [decide_eq_true ho]
    have HO := Lib.hid ho
    clear ho
    go_wp2_with fail
    go_round
    case rel =>
     refine ⟨k + 1, by go_num, by omega, fun j hj => ?_⟩
     rcases Nat.lt_or_ge j k with h | h
     ·exact HOK.out j h
     ·have : j = k := by omega
      subst this
      exact HO.out
    case measure => simp [intOf]; omega
   ·rw [decide_eq_false ho]
    clear ho
    go_wp2_with fail
    go_ret
    exact ⟨k, rfl, rfl, fun h => by omega⟩
  ·have hcx : decide ((k : Int) < (ds.length : Int)) = false := by simp; omega
   have hkk : k = ds.length := by omega
   subst hkk
   go_wp2_with fail
   go_ret
   exact ⟨-1, rfl, rfl, fun _ => HOK.out⟩
def HasPost (w : World) (ds : List Int) (e : Ending) (w' : World) : Prop := ∃ g : Bool, e = .returned (.bool g) ∧ w = w' ∧ (g = false → ∀ d ∈ ds, okDay d)
theorem ith_all {ds : List Int} {P : Int → Prop} (h : ∀ j, j < ds.length → P (ith ds j)) : ∀ d ∈ ds, P d := by
 intro d hd
 obtain ⟨j, hj, rfl⟩ := List.getElem_of_mem hd
 have := h j hj
 unfold ith at this
 rwa [List.getD_eq_getElem?_getD, List.getElem?_eq_getElem hj] at this
theorem sContainsDay_any (A : Option Addr) (ds : List Int) (c : Nat) (hl : ds.length ≤ 1000000) (w : World) (hR : RdD w A ds) :
 Calls Tryz.prog 34 #[.slice A ds.length c, .func (.func 35) #[] #[]] w (HasPost w ds) := by
 have HI := Lib.hid (sIndexDay_any A ds c hl w hR)
 clear hR
 go_enter Tryz.func34, Tryz.ntmps34
 go_wp2_with fail
 refine HI.out.mono ?_
 rintro e w1 ⟨n, rfl, rfl, hn⟩
 have HN := Lib.hid hn
 clear hn
 by_cases h : 0 ≤ n
 ·have t : decide (0 ≤ n) = true := decide_eq_true h
  clear h
  go_wp2_with fail
  go_ret
  exact ⟨true, rfl, rfl, fun h => (by cases h)⟩
 ·have t : decide (0 ≤ n) = false := decide_eq_false h
  go_wp2_with fail
  go_ret
  exact ⟨false, rfl, rfl, fun _ => ith_all (HN.out (by omega))⟩
structure PG (w : World) (i : Inst) (l : Lot) (W : World) : Prop where
 ib : InstBox W w.heap.size i
 lb : LotBox W (w.heap.size + 1) l
 bel : Below w.heap.size w W
theorem PG.below {w : World} {i : Inst} {l : Lot} {W W' : World} (h : PG w i l W) (hb : Below W.heap.size W W') : PG w i l W' := ⟨h.ib.below hb, h.lb.below hb, h.bel.trans (hb.mono h.bel.size)⟩
structure PP (w : World) (i : Inst) (l : Lot) (ds : List Int) (pa : Addr) (W : World) : Prop where
 pg : PG w i l W
 cell : ∀ k, k < ds.length → W.cell? (pa.add k) = some (.string (I (planN i l ds k)))
 lt : pa.block < W.heap.size
theorem PP.below {w : World} {i : Inst} {l : Lot} {ds : List Int} {pa : Addr} {W W' : World} (h : PP w i l ds pa W) (hb : Below W.heap.size W W') : PP w i l ds pa W' := ⟨h.pg.below hb, fun k hk => (hb.cell (by rw [add_block]; exact h.lt)).trans (h.cell k hk), Nat.lt_of_lt_of_le h.lt hb.size⟩
theorem PG.c22 {w : World} {i : Inst} {l : Lot} {W : World} (h : PG w i l W) : W.cell? ⟨w.heap.size, 0, none⟩ = some (.string i.id) ∧ W.cell? ⟨w.heap.size, 1, none⟩ = some (.int .i64 i.kind) ∧ W.cell? ⟨w.heap.size, 2, none⟩ = some (.string i.cur) ∧ W.cell? ⟨w.heap.size, 3, none⟩ = some (.int .i64 i.places) ∧ W.cell? ⟨w.heap.size, 4, none⟩ = some (.int .i64 i.issued) ∧ W.cell? ⟨w.heap.size, 5, none⟩ = some (.int .i64 i.matures) ∧ W.cell? ⟨w.heap.size, 6, none⟩ = some (.string i.fn) ∧ W.cell? ⟨w.heap.size, 7, none⟩ = some (.string i.fd) ∧ W.cell? ⟨w.heap.size, 8, none⟩ = some (.string i.cn) ∧ W.cell? ⟨w.heap.size, 9, none⟩ = some (.string i.cd) ∧ W.cell? ⟨w.heap.size, 10, none⟩ = some (.int .i64 i.months) ∧ W.cell? ⟨w.heap.size, 11, none⟩ = some (.int .i64 i.count) ∧ W.cell? ⟨w.heap.size, 12, none⟩ = some (.string i.other) ∧ W.cell? ⟨w.heap.size, 13, none⟩ = some (.string i.sn) ∧ W.cell? ⟨w.heap.size, 14, none⟩ = some (.string i.sd) ∧ W.cell? ⟨w.heap.size + 1, 0, none⟩ = some (.string l.id) ∧ W.cell? ⟨w.heap.size + 1, 1, none⟩ = some (.string l.inst) ∧ W.cell? ⟨w.heap.size + 1, 2, none⟩ = some (.int .i64 l.acq) ∧ W.cell? ⟨w.heap.size + 1, 3, none⟩ = some (.int .i64 l.opn) ∧ W.cell? ⟨w.heap.size + 1, 4, none⟩ = some (.string l.qty) ∧ W.cell? ⟨w.heap.size + 1, 5, none⟩ = some (.string l.cost) ∧ W.cell? ⟨w.heap.size + 1, 6, none⟩ = some (.string l.used) :=
 ⟨Lib.cell_of_heap h.ib 0, Lib.cell_of_heap h.ib 1, Lib.cell_of_heap h.ib 2, Lib.cell_of_heap h.ib 3, Lib.cell_of_heap h.ib 4, Lib.cell_of_heap h.ib 5, Lib.cell_of_heap h.ib 6, Lib.cell_of_heap h.ib 7, Lib.cell_of_heap h.ib 8, Lib.cell_of_heap h.ib 9, Lib.cell_of_heap h.ib 10, Lib.cell_of_heap h.ib 11, Lib.cell_of_heap h.ib 12, Lib.cell_of_heap h.ib 13, Lib.cell_of_heap h.ib 14, Lib.cell_of_heap h.lb 0, Lib.cell_of_heap h.lb 1, Lib.cell_of_heap h.lb 2, Lib.cell_of_heap h.lb 3, Lib.cell_of_heap h.lb 4, Lib.cell_of_heap h.lb 5, Lib.cell_of_heap h.lb 6⟩
theorem plan_cells {W : World} {n : Nat} {i : Inst} {l : Lot} {ds : List Int} {g : Nat} {cur : Array Value} (h : W.heap[g]? = some (.cells cur 23 (0, 0))) (hc : cur.toList.take (n * 1) = planV i l ds n) : ∀ k, k < n → W.cell? ((⟨g, 0, none⟩ : Addr).add k) = some (.string (I (planN i l ds k))) := by
 intro k hk
 rw [addr_add0]
 have h1 := Lib.cell_of_heap h k
 rw [h1]
 have h2 : (cur.toList.take (n * 1))[k]? = (planV i l ds n)[k]? := by rw [hc]
 rw [List.getElem?_take, if_pos (by omega)] at h2
 unfold planV at h2
 rw [List.getElem?_map, List.getElem?_range hk] at h2
 rw [← Array.getElem?_toList, h2]
 rfl
theorem rdl_one (W : World) (l : Lot) : RdL (W.alloc (.cells l.cells 39)) (some ⟨W.heap.size, 0, none⟩) [l] := by
 have hk := heap_alloc_new W (.cells l.cells 39)
 intro _
 refine ⟨_, rfl, (Array.getElem?_eq_some_iff.1 hk).1, fun j x hx => ?_⟩
 have hj : j = 0 := by have := (List.getElem?_eq_some_iff.1 hx).1; simp at this; omega
 subst hj
 simp at hx
 subst hx
 exact ⟨Lib.cell_of_heap hk 0, Lib.cell_of_heap hk 1, Lib.cell_of_heap hk 2, Lib.cell_of_heap hk 3, Lib.cell_of_heap hk 4, Lib.cell_of_heap hk 5, Lib.cell_of_heap hk 6⟩
theorem plan_step (i : Inst) (l : Lot) (ds : List Int) (k : Nat) : prevN i l ds k + planN i l ds k = prevN i l ds (k + 1) := by
 unfold planN
 have : prevN i l ds (k + 1) = rnd (exactQ i l (ith ds k)) := by unfold prevN; rw [if_neg (by omega)]; rfl
 rw [this]; omega
theorem prev_size {i : Inst} {l : Lot} {ds : List Int} (h : BOk i l) (hd : ∀ d ∈ ds, okDay d) (k : Nat) (hk : k ≤ ds.length) : (I (prevN i l ds k)).size ≤ 4000000 := by
 unfold prevN
 split
 ·rw [show (I 0).size = 0 from rfl]; omega
 ·have hex : ExOk i (ith ds (k - 1)) := ⟨h.small.fn, h.small.fd, hd _ (ith_mem (by omega)), h.ok.mt⟩
  have := rnd_size (exact_bd i l (ith ds (k - 1)) hex h.sized h.lok.opn)
  unfold qB at this; omega
theorem prev_lt {i : Inst} {l : Lot} {ds : List Int} (h : BOk i l) (hd : ∀ d ∈ ds, okDay d) (k : Nat) (hk : k ≤ ds.length) : (prevN i l ds k).natAbs ≤ 10 ^ qB := by
 unfold prevN
 split
 ·simp
 ·have hex : ExOk i (ith ds (k - 1)) := ⟨h.small.fn, h.small.fd, hd _ (ith_mem (by omega)), h.ok.mt⟩
  have h1 := (exact_bd i l (ith ds (k - 1)) hex h.sized h.lok.opn).1
  have h2 := rnd_abs (exactQ i l (ith ds (k - 1)))
  omega
theorem plan_size {i : Inst} {l : Lot} {ds : List Int} (h : BOk i l) (hd : ∀ d ∈ ds, okDay d) (k : Nat) (hk : k < ds.length) : (I (planN i l ds k)).size ≤ 4000000 := by
 have h1 := prev_lt h hd k (by omega)
 have h2 := prev_lt h hd (k + 1) (by omega)
 have h3 := plan_step i l ds k
 have h4 : (planN i l ds k).natAbs < 10 ^ (qB + 1) := by
  rw [Nat.pow_succ]
  have : 0 < 10 ^ qB := Nat.pow_pos (by omega)
  omega
 have := I_size_le h4
 unfold qB at this; omega
theorem AccrualPlans_any (i : Inst) (l0 : Lot) (A : Option Addr) (ds : List Int) (c : Nat) (hlm : ds.length ≤ 9223372036854775807) (w : World) (hR : RdD w A ds) (ht : Tabs w) :
 Calls Tryz.prog 6 #[i.enc, l0.enc, .slice A ds.length c] w (TruePost w) := by
 have HT := Lib.hid ht
 have HR := Lib.hid hR
 obtain ⟨W0, hW0, hB0, k0, k1⟩ := ilbox i l0 w
 obtain ⟨c0, c1, c2, c3, c4, c5, c6, c7, c8, c9, c10, c11, c12, c13, c14⟩ := cells15 k0
 obtain ⟨o0, o1, o2, o3, o4, o5, o6⟩ := cells7 k1
 have f1 := Lib.frozen_of_heap k1 1
 obtain ⟨l, hl⟩ : ∃ l : Lot, l = { l0 with inst := i.id } := ⟨_, rfl⟩
 have hW1 : PG w i l (W0.setCell ⟨w.heap.size + 1, 1, none⟩ (.string i.id)) := by
  refine ⟨(Below.heap_setCell _ _ _ _ (by simp)).trans k0, ?_, hB0.setCell (p := ⟨w.heap.size + 1, 1, none⟩) (by simp) _⟩
  subst hl
  unfold LotBox at *
  simp [World.setCell, Array.getElem?_modify, k1]
 have HIN : Hid (l.inst = i.id) := by subst hl; rfl
 have HG0 := Lib.hid hW1
 clear hB0 k0 k1 ht hR hW1
 go_enter Tryz.func6, Tryz.ntmps6
 go_upto_region 2 with fail
 generalize W0.setCell ⟨w.heap.size + 1, 1, none⟩ (.string i.id) = W1 at HG0 ⊢
 clear c0 c1 c2 c3 c4 c5 c6 c7 c8 c9 c10 c11 c12 c13 c14 o0 o1 o2 o3 o4 o5 o6 f1 hl hW0
 have hi := HG0.out.ib
 have ho := HG0.out.lb
 obtain ⟨c0, c1, c2, c3, c4, c5, c6, c7, c8, c9, c10, c11, c12, c13, c14⟩ := cells15 hi
 obtain ⟨o0, o1, o2, o3, o4, o5, o6⟩ := cells7 ho
 clear hi ho
 have HFI := Lib.hid (fine39_any i (some ⟨W1.heap.size, 0, none⟩) [l] 1 (by simp) (by simp) 0 _ (rdl_one W1 l))
 have HG1 := Lib.hid (HG0.out.below ((Below.refl _ _).alloc (Nat.le_refl _) (.cells l.cells 39)))
 clear HG0
 go_wp2_with fail
 refine HFI.out.mono ?_
 rintro e w2 ⟨g, rfl, hg, b2⟩
 have HG2 := Lib.hid (HG1.out.below b2)
 have HV := Lib.hid hg
 clear b2 hg HG1 HFI c0 c1 c2 c3 c4 c5 c6 c7 c8 c9 c10 c11 c12 c13 c14 o0 o1 o2 o3 o4 o5 o6
 cases g
 case false =>
  go_wp2_with fail
  refine (awake_any _ (HT.out.below HG2.out.bel)).mono ?_
  rintro e wz ⟨rfl, bz⟩
  have HZ := Lib.hid (HG2.out.bel.trans (bz.mono HG2.out.bel.size))
  clear bz
  go_wp2_with fail
  go_ret
  exact ⟨rfl, HZ.out⟩
 have hv := HV.out rfl
 clear HV
 obtain ⟨v1, v2, _, _, v5, v6⟩ := hv
 have hBO : BOk i l := ⟨v1.small, v2, (v5 l (by simp)).sized, (v6.ok l (by simp)).2, HIN.out⟩
 have HBO := Lib.hid hBO
 clear v1 v2 v5 v6 hBO
 by_cases hz : 12 < ds.length
 ·have t1 : decide ((12 : Int) < (ds.length : Int)) = true := decide_eq_true (by omega)
  clear hz
  go_wp2_with fail
  refine (awake_any _ (HT.out.below HG2.out.bel)).mono ?_
  rintro e wz ⟨rfl, bz⟩
  have HZ := Lib.hid (HG2.out.bel.trans (bz.mono HG2.out.bel.size))
  clear bz
  go_wp2_with fail
  go_ret
  exact ⟨rfl, HZ.out⟩
 have t1 : decide ((12 : Int) < (ds.length : Int)) = false := decide_eq_false (by omega)
 have hlz : ds.length ≤ 12 := by omega
 clear hz
 go_wp2_with fail
 refine (sContainsDay_any A ds c (by omega) _ (HR.out.below HG2.out.bel)).mono ?_
 rintro e w3 ⟨g, rfl, rfl, hd⟩
 cases g
 case true =>
  clear hd
  go_wp2_with fail
  refine (awake_any _ (HT.out.below HG2.out.bel)).mono ?_
  rintro e wz ⟨rfl, bz⟩
  have HZ := Lib.hid (HG2.out.bel.trans (bz.mono HG2.out.bel.size))
  clear bz
  go_wp2_with fail
  go_ret
  exact ⟨rfl, HZ.out⟩
 have HDD := Lib.hid (hd rfl)
 clear hd
 obtain ⟨c0, c1, c2, c3, c4, c5, c6, c7, c8, c9, c10, c11, c12, c13, c14, o0, o1, o2, o3, o4, o5, o6⟩ := HG2.out.c22
 go_wp2_with fail
 refine (Plan_ok i l A ds c (by omega) HBO.out HDD.out _ (HR.out.below HG2.out.bel) (HT.out.below HG2.out.bel)).mono ?_
 rintro e w4 ⟨b4, hcase⟩
 have HG4 := Lib.hid (HG2.out.below b4)
 clear c0 c1 c2 c3 c4 c5 c6 c7 c8 c9 c10 c11 c12 c13 c14 o0 o1 o2 o3 o4 o5 o6 t1
 rcases hcase with ⟨rfl, hna⟩ | ⟨v, rfl, hasc, hown⟩
 ·have HNA := Lib.hid hna
  clear b4 HG2 hna
  go_wp2_with fail
  go_loopw [9] (fun x wr => ∃ k : Nat, x = .int .i64 ((k + 1 : Nat) : Int) ∧ k ≤ ds.length ∧ Asc ds (k + 1) ∧ PG w i l wr) (fun x _ => ds.length + 1 - (intOf x).toNat)
  case atStart => exact ⟨0, rfl, by omega, fun k hk hk' => by omega, HG4.out⟩
  case round =>
   clear HG4
   obtain ⟨k, rfl, hk, ha, hi⟩ := hrel
   have HA := Lib.hid ha
   have HI := Lib.hid hi
   clear ha hi
   rcases Nat.lt_or_ge (k + 1) ds.length with hlt | hge
   ·obtain ⟨ad, rfl, had, hcell⟩ := HR.out.below HI.out.bel (by intro e; rw [e] at hlt; cases hlt)
    have hcx : decide (((k + 1 : Nat) : Int) < (ds.length : Int)) = true := by simp; omega
    have ck := addr_succ (hcell (k + 1) hlt)
    have ck' := hcell k (by omega)
    clear hcell had
    by_cases hq : ith ds (k + 1) ≤ ith ds k
    ·have t1 : decide (ith ds (k + 1) ≤ ith ds k) = true := decide_eq_true hq
     clear hq
     go_wp2_with fail
     go_quiet (fail)
     go_wp2_with fail
     refine (awake_any _ (HT.out.below (below_drewN HI.out.bel _))).mono ?_
     rintro e wz ⟨rfl, bz⟩
     have HZ := Lib.hid ((below_drewN HI.out.bel _).trans (bz.mono (below_drewN HI.out.bel _).size))
     clear bz
     go_wp2_with fail
     go_ret
     exact ⟨rfl, HZ.out⟩
    ·have t1 : decide (ith ds (k + 1) ≤ ith ds k) = false := decide_eq_false hq
     have HQ := Lib.hid hq
     clear hq
     go_wp2_with fail
     go_quiet (fail)
     go_wp2_with fail
     go_roundw
     case rel => exact ⟨k + 1, by go_num, by omega, HA.out.snoc (.inr (by have := HQ.out; simp only [Nat.add_sub_cancel]; omega)), HI.out.below (below_drewN (Below.refl _ _) _)⟩
     case measure => simp [intOf]; omega
   ·exact (HNA.out (fun j hj hj' => HA.out j hj (by omega))).elim
 ·have HAS := Lib.hid hasc
  have HOW := Lib.hid hown
  clear b4 HG2 hasc hown
  obtain ⟨A', n', c', hv'⟩ : ∃ A' n' c', v = .slice A' n' c' := by rcases HOW.out.2 with ⟨h', h0⟩ | ⟨g', cap', cur, h', _⟩; exact ⟨_, _, _, h'⟩; exact ⟨_, _, _, h'⟩
  subst hv'
  go_wp2_with fail
  go_loopw [9] (fun x wr => ∃ k : Nat, x = .int .i64 ((k + 1 : Nat) : Int) ∧ k ≤ ds.length ∧ PG w i l wr ∧ wr.ownsRow w2.heap.size 23 1 (.slice A' n' c') ds.length (planV i l ds ds.length)) (fun x _ => ds.length + 1 - (intOf x).toNat)
  case atStart => exact ⟨0, rfl, by omega, HG4.out, HOW.out⟩
  case round =>
   clear HG4 HOW
   obtain ⟨k, rfl, hk, hi, ho⟩ := hrel
   have HI := Lib.hid hi
   have HO := Lib.hid ho
   clear hi ho
   rcases Nat.lt_or_ge (k + 1) ds.length with hlt | hge
   ·obtain ⟨ad, rfl, had, hcell⟩ := HR.out.below HI.out.bel (by intro e; rw [e] at hlt; cases hlt)
    have hcx : decide (((k + 1 : Nat) : Int) < (ds.length : Int)) = true := by simp; omega
    have ck := addr_succ (hcell (k + 1) hlt)
    have ck' := hcell k (by omega)
    clear hcell had
    have t1 : decide (ith ds (k + 1) ≤ ith ds k) = false := decide_eq_false (by have := HAS.out (k + 1) (by omega) hlt; simp only [Nat.add_sub_cancel] at this; omega)
    go_wp2_with fail
    go_quiet (fail)
    go_wp2_with fail
    go_roundw
    case rel => exact ⟨k + 1, by go_num, by omega, HI.out.below (below_drewN (Below.refl _ _) _), ownsRow_below HO.out (below_drewN (Below.refl _ _) _)⟩
    case measure => simp [intOf]; omega
   ·have hcx : decide (((k + 1 : Nat) : Int) < (ds.length : Int)) = false := by simp; omega
    obtain ⟨kk, hkk⟩ : ∃ kk : Int, ((k + 1 : Nat) : Int) = kk := ⟨_, rfl⟩
    rw [hkk] at hcx ⊢
    clear hkk hge hk
    rcases HO.out.2 with ⟨h', h0⟩ | ⟨g', cap', cur, h', _, h2, h3, h4, h5, h6⟩
    ·injection h' with e1 e2 e3
     subst e1 e2 e3
     have t2 : ((0 : Int) == (ds.length : Int)) = true := by rw [beq_iff_eq]; omega
     have t3 : ((0 : Int) != (ds.length : Int)) = false := by rw [bne, t2]; rfl
     have t4 : (0 == ds.length) = true := by rw [beq_iff_eq]; omega
     clear h0 HO
     go_wp2_with fail
     refine wp_loop_rounds 1 ?_
     rw [rounds_succ]
     go_wp2_with fail
     refine (awake_any _ (HT.out.below HI.out.bel)).mono ?_
     rintro e wz ⟨rfl, bz⟩
     have HZ := Lib.hid (HI.out.bel.trans (bz.mono HI.out.bel.size))
     clear bz
     go_wp2_with fail
     go_ret
     exact ⟨rfl, HZ.out⟩
    ·injection h' with e1 e2 e3
     subst e1 e2 e3
     have hP : PP w i l ds ⟨g', 0, none⟩ wr := ⟨HI.out, plan_cells h2 h6, (Array.getElem?_eq_some_iff.1 h2).1⟩
     have HP := Lib.hid hP
     clear h2 h3 h4 h5 h6 hP HO HI
     generalize (⟨g', 0, none⟩ : Addr) = pa at HP ⊢
     have t2 : ((ds.length : Int) == (ds.length : Int)) = true := by simp
     go_wp2_with fail
     go_loopw [10, 77] (fun s x wr => ∃ k : Nat, s = .string (I (prevN i l ds k)) ∧ x = .int .i64 (k : Int) ∧ k ≤ ds.length ∧ PP w i l ds pa wr) (fun _ x _ => ds.length - (intOf x).toNat)
     case atStart => exact ⟨0, rfl, rfl, by omega, HP.out⟩
     case round =>
      clear HP
      obtain ⟨k, rfl, rfl, hk, hp⟩ := hrel
      have HP := Lib.hid hp
      clear hp
      rcases Nat.lt_or_ge k ds.length with hlt | hge
      ·have hcx : decide ((k : Int) < (ds.length : Int)) = true := by simp; omega
       have pk := HP.out.cell k hlt
       have z1 := prev_size HBO.out HDD.out k (by omega)
       have z2 := plan_size HBO.out HDD.out k hlt
       have HADD := Lib.hid (fun W hW => Add_any (I (prevN i l ds k)) (I (planN i l ds k)) W z1 z2 hW)
       rw [vl_I, vl_I, plan_step] at HADD
       clear z1 z2
       go_wp2_with fail
       refine (HADD.out _ (HT.out.below HP.out.pg.bel)).mono ?_
       rintro e w8 ⟨rfl, b8⟩
       have HP8 := Lib.hid (HP.out.below b8)
       clear b8 HP pk
       obtain ⟨ad, rfl, had, hcell⟩ := HR.out.below HP8.out.pg.bel (by intro e; rw [e] at hlt; cases hlt)
       have ck := hcell k hlt
       obtain ⟨c0, c1, c2, c3, c4, c5, c6, c7, c8, c9, c10, c11, c12, c13, c14, o0, o1, o2, o3, o4, o5, o6⟩ := HP8.out.pg.c22
       have HAM : Hid (∀ W, PP w i l ds pa W → Calls Tryz.prog 14 #[i.enc, l.enc, .int .i64 (ith ds k)] W fun e wn => e = .returned (.tuple #[.string (I (prevN i l ds (k + 1))), .int .i64 0]) ∧ PP w i l ds pa wn ∧ wn.cell? (ad.add k) = some (.int .i64 (ith ds k)) ∧ wn.cell? ⟨w.heap.size, 0, none⟩ = some (.string i.id) ∧ wn.cell? ⟨w.heap.size, 1, none⟩ = some (.int .i64 i.kind) ∧ wn.cell? ⟨w.heap.size, 2, none⟩ = some (.string i.cur) ∧ wn.cell? ⟨w.heap.size, 3, none⟩ = some (.int .i64 i.places) ∧ wn.cell? ⟨w.heap.size, 4, none⟩ = some (.int .i64 i.issued) ∧ wn.cell? ⟨w.heap.size, 5, none⟩ = some (.int .i64 i.matures) ∧ wn.cell? ⟨w.heap.size, 6, none⟩ = some (.string i.fn) ∧ wn.cell? ⟨w.heap.size, 7, none⟩ = some (.string i.fd) ∧ wn.cell? ⟨w.heap.size, 8, none⟩ = some (.string i.cn) ∧ wn.cell? ⟨w.heap.size, 9, none⟩ = some (.string i.cd) ∧ wn.cell? ⟨w.heap.size, 10, none⟩ = some (.int .i64 i.months) ∧ wn.cell? ⟨w.heap.size, 11, none⟩ = some (.int .i64 i.count) ∧ wn.cell? ⟨w.heap.size, 12, none⟩ = some (.string i.other) ∧ wn.cell? ⟨w.heap.size, 13, none⟩ = some (.string i.sn) ∧ wn.cell? ⟨w.heap.size, 14, none⟩ = some (.string i.sd) ∧ wn.cell? ⟨w.heap.size + 1, 0, none⟩ = some (.string l.id) ∧ wn.cell? ⟨w.heap.size + 1, 1, none⟩ = some (.string l.inst) ∧ wn.cell? ⟨w.heap.size + 1, 2, none⟩ = some (.int .i64 l.acq) ∧ wn.cell? ⟨w.heap.size + 1, 3, none⟩ = some (.int .i64 l.opn) ∧ wn.cell? ⟨w.heap.size + 1, 4, none⟩ = some (.string l.qty) ∧ wn.cell? ⟨w.heap.size + 1, 5, none⟩ = some (.string l.cost) ∧ wn.cell? ⟨w.heap.size + 1, 6, none⟩ = some (.string l.used)) := fun W hW => by
        have e1 : prevN i l ds (k + 1) = rnd (exactQ i l (ith ds k)) := by unfold prevN; rw [if_neg (by omega)]; rfl
        rw [e1]
        refine (Amortized_ok i l (ith ds k) HBO.out (HDD.out _ (ith_mem hlt)) W (HT.out.below hW.pg.bel)).mono ?_
        rintro e wn ⟨rfl, bn⟩
        refine ⟨rfl, hW.below bn, ?_, (hW.below bn).pg.c22⟩
        obtain ⟨ad2, e2, _, hcell2⟩ := HR.out.below (hW.below bn).pg.bel (by intro e; rw [e] at hlt; cases hlt)
        injection e2 with e2
        subst e2
        exact hcell2 k hlt
       have hg : PP w i l ds pa w8.drew := HP8.out.below (Below.refl _ _).drew
       clear hcell had HP8
       unfold Inst.enc Inst.cells Lot.enc Lot.cells at HAM
       go_upto_region 17 with fail
       go_cut [13, 14] (fun m f wx => m = .string (I (prevN i l ds (k + 1))) ∧ f = .int .i64 0 ∧ PP w i l ds pa wx)
       case first =>
        go_region_held3 (fun W => W.cell? (ad.add k) = some (.int .i64 (ith ds k)) ∧ W.cell? ⟨w.heap.size, 0, none⟩ = some (.string i.id) ∧ W.cell? ⟨w.heap.size, 1, none⟩ = some (.int .i64 i.kind) ∧ W.cell? ⟨w.heap.size, 2, none⟩ = some (.string i.cur) ∧ W.cell? ⟨w.heap.size, 3, none⟩ = some (.int .i64 i.places) ∧ W.cell? ⟨w.heap.size, 4, none⟩ = some (.int .i64 i.issued) ∧ W.cell? ⟨w.heap.size, 5, none⟩ = some (.int .i64 i.matures) ∧ W.cell? ⟨w.heap.size, 6, none⟩ = some (.string i.fn) ∧ W.cell? ⟨w.heap.size, 7, none⟩ = some (.string i.fd) ∧ W.cell? ⟨w.heap.size, 8, none⟩ = some (.string i.cn) ∧ W.cell? ⟨w.heap.size, 9, none⟩ = some (.string i.cd) ∧ W.cell? ⟨w.heap.size, 10, none⟩ = some (.int .i64 i.months) ∧ W.cell? ⟨w.heap.size, 11, none⟩ = some (.int .i64 i.count) ∧ W.cell? ⟨w.heap.size, 12, none⟩ = some (.string i.other) ∧ W.cell? ⟨w.heap.size, 13, none⟩ = some (.string i.sn) ∧ W.cell? ⟨w.heap.size, 14, none⟩ = some (.string i.sd) ∧ W.cell? ⟨w.heap.size + 1, 0, none⟩ = some (.string l.id) ∧ W.cell? ⟨w.heap.size + 1, 1, none⟩ = some (.string l.inst) ∧ W.cell? ⟨w.heap.size + 1, 2, none⟩ = some (.int .i64 l.acq) ∧ W.cell? ⟨w.heap.size + 1, 3, none⟩ = some (.int .i64 l.opn) ∧ W.cell? ⟨w.heap.size + 1, 4, none⟩ = some (.string l.qty) ∧ W.cell? ⟨w.heap.size + 1, 5, none⟩ = some (.string l.cost) ∧ W.cell? ⟨w.heap.size + 1, 6, none⟩ = some (.string l.used))
         (((try dsimp only); refine ⟨?_, ?_, ?_, ?_, ?_, ?_, ?_, ?_, ?_, ?_, ?_, ?_, ?_, ?_, ?_, ?_, ?_, ?_, ?_, ?_, ?_, ?_, ?_⟩ <;> first | assumption | (go_simp; done)))
         ((go_at_call 14; refine (HAM.out _ hg).mono ?_; clear hg ck c0 c1 c2 c3 c4 c5 c6 c7 c8 c9 c10 c11 c12 c13 c14 o0 o1 o2 o3 o4 o5 o6; rintro e wn ⟨rfl, hg, ck, c0, c1, c2, c3, c4, c5, c6, c7, c8, c9, c10, c11, c12, c13, c14, o0, o1, o2, o3, o4, o5, o6⟩))
        all_goals (first | go_wp2_with fail | skip)
        all_goals go_meet
        all_goals exact ⟨rfl, rfl, hg⟩
       case rest =>
        obtain ⟨rfl, rfl, hs⟩ := hcut
        have HPS := Lib.hid hs
        clear hs hg ck HAM c0 c1 c2 c3 c4 c5 c6 c7 c8 c9 c10 c11 c12 c13 c14 o0 o1 o2 o3 o4 o5 o6
        go_wp2_with fail
        go_roundw
        case rel => exact ⟨k + 1, rfl, by go_num, by omega, HPS.out⟩
        case measure => simp [intOf]; omega
      ·have hcx : decide ((k : Int) < (ds.length : Int)) = false := by simp; omega
       go_wp2_with fail
       refine (awake_any _ (HT.out.below HP.out.pg.bel)).mono ?_
       rintro e wz ⟨rfl, bz⟩
       have HZ := Lib.hid (HP.out.pg.bel.trans (bz.mono HP.out.pg.bel.size))
       clear bz
       go_wp2_with fail
       go_ret
       exact ⟨rfl, HZ.out⟩
theorem own_emptyS (w : World) (b : Nat) (hb : b ≤ w.heap.size) : (w.alloc (.cells #[] 23)).ownsRow b 23 1 (.slice (some ⟨w.heap.size, 0, none⟩) 0 0) 0 [] :=
 ⟨rfl, .inr ⟨w.heap.size, 0, #[], rfl, hb, heap_alloc_new w _, Nat.le_refl _, by unfold maxLen; omega, rfl, rfl⟩⟩
theorem PlanI.pg {w : World} {i : Inst} {l : Lot} {ds : List Int} {k : Nat} {v : Value} {W : World} (h : PlanI w i l ds k v W) : PG w i l W := ⟨h.ib, h.lb, h.bel⟩
def RPlanErr (w : World) (n : Int) (e : Ending) (w' : World) : Prop := ∃ (A : Option Addr) (c : Nat), e = .returned (.tuple #[.slice A 0 c, .int .i64 n]) ∧ Below w.heap.size w w'
def RPlanPost (w : World) (i : Inst) (l : Lot) (ds : List Int) (e : Ending) (w' : World) : Prop :=
 Below w.heap.size w w' ∧ ((∃ (A : Option Addr) (c : Nat), e = .returned (.tuple #[.slice A 0 c, .int .i64 8]) ∧ ¬ Asc ds ds.length) ∨
  ∃ v, e = .returned (.tuple #[v, .int .i64 0]) ∧ Asc ds ds.length ∧ w'.ownsRow w.heap.size 23 1 v ds.length (planV i l ds ds.length))
theorem Plan39_err (i : Inst) (l : Lot) (A : Option Addr) (ds : List Int) (c : Nat) (hl : ds.length ≤ 1000) (hi : i.tiny) (hs : l.tiny) (h : achk i l ds ≠ 0) (w : World) (hR : RdD w A ds) :
 Calls Tryz.prog 30 #[i.enc, l.enc, .slice A ds.length c] w (RPlanErr w (achk i l ds)) := by
 obtain ⟨W0, hW0, hB0, k0, k1⟩ := ilbox i l w
 obtain ⟨c0, c1, c2, c3, c4, c5, c6, c7, c8, c9, c10, c11, c12, c13, c14⟩ := cells15 k0
 obtain ⟨o0, o1, o2, o3, o4, o5, o6⟩ := cells7 k1
 have HC1 := Lib.hid (checkOne39_any i l A ds c (by omega) hi hs W0 (hR.below hB0))
 have HB0 := Lib.hid hB0
 generalize achk i l ds = n at *
 have t1 : (n == 0) = false := beq_eq_false_iff_ne.2 h
 have t1' : (n != 0) = true := by rw [bne, t1]; rfl
 clear h hR hB0 k0 k1 hi hs
 unfold Inst.enc Inst.cells Lot.enc Lot.cells at *
 go_enter Tryz.func30, Tryz.ntmps30
 go_wp2_with fail
 refine HC1.out.mono ?_
 rintro e w1 ⟨rfl, b1⟩
 have HB1 := Lib.hid (HB0.out.trans (b1.mono HB0.out.size))
 clear c0 c1 c2 c3 c4 c5 c6 c7 c8 c9 c10 c11 c12 c13 c14 o0 o1 o2 o3 o4 o5 o6
 clear b1 HB0 hW0 HC1
 go_wp2_with fail
 go_ret2
 exact ⟨_, _, rfl, HB1.out.alloc HB1.out.size _⟩
theorem Plan39_ok (i : Inst) (l : Lot) (A : Option Addr) (ds : List Int) (c : Nat) (hl : ds.length ≤ 1000) (h : BOk i l) (hi : i.tiny) (hs : l.tiny) (hd : ∀ d ∈ ds, okDay d) (w : World) (hR : RdD w A ds) (ht : Tabs w) :
 Calls Tryz.prog 30 #[i.enc, l.enc, .slice A ds.length c] w (RPlanPost w i l ds) := by
 obtain ⟨W0, hW0, hB0, k0, k1⟩ := ilbox i l w
 obtain ⟨c0, c1, c2, c3, c4, c5, c6, c7, c8, c9, c10, c11, c12, c13, c14⟩ := cells15 k0
 obtain ⟨o0, o1, o2, o3, o4, o5, o6⟩ := cells7 k1
 have HT := Lib.hid ht
 have HR := Lib.hid hR
 have HC1 := checkOne39_any i l A ds c (by omega) hi hs W0 (hR.below hB0)
 rw [achk_0 h.ok h.lok h.inst (fun k hk => hd _ (ith_mem hk))] at HC1
 replace HC1 := Lib.hid HC1
 have hex : ∀ k, k < ds.length → ExOk i (ith ds k) := fun k hk => ⟨h.small.fn, h.small.fd, hd _ (ith_mem hk), h.ok.mt⟩
 have hcq : CanQ i.fn i.fd := (numchk_zero (by have := hi.2.2.2.1; omega) (by have := hi.2.2.2.2.1; omega)).1 h.ok.n1
 have HEX := Lib.hid (fun k (hk : k < ds.length) W hW => exact39_any i l (ith ds k) h.small.fn h.small.fd hcq (hex k hk).dy h.ok.mt h.sized h.lok.opn W hW)
 have HRD := Lib.hid (fun k (hk : k < ds.length) W => round39_any (exact_bd i l (ith ds k) (hex k hk) h.sized h.lok.opn) (by unfold qB; omega) (by unfold qB; omega) W)
 have hsz : ∀ k, k < ds.length → (I (rnd (exactQ i l (ith ds k)))).size ≤ 80000 := fun k hk => by
  have := rnd_size (exact_bd i l (ith ds k) (hex k hk) h.sized h.lok.opn)
  unfold qB at this; omega
 have hsp : ∀ k, k ≤ ds.length → (I (prevN i l ds k)).size ≤ 80000 := fun k hk => by
  unfold prevN
  split
  ·rw [show (I 0).size = 0 from rfl]; omega
  ·exact hsz _ (by omega)
 have HSB := Lib.hid (fun k (hk : k < ds.length) W => rSub_any (I (rnd (exactQ i l (ith ds k)))) (I (prevN i l ds k)) (hsz k hk) (hsp k (by omega)) W)
 have HK0 := Lib.hid k0
 have HK1 := Lib.hid k1
 have HB0 := Lib.hid hB0
 clear h hR ht hB0 k0 k1 hex hd hsz hsp hi hs hcq
 unfold Inst.enc Inst.cells Lot.enc Lot.cells at *
 go_enter Tryz.func30, Tryz.ntmps30
 go_wp2_with fail
 refine HC1.out.mono ?_
 rintro e w1 ⟨rfl, b1⟩
 have HB1 := Lib.hid (HB0.out.trans (b1.mono HB0.out.size))
 have HG0 := Lib.hid (HK0.out.below b1)
 have HG1 := Lib.hid (HK1.out.below b1)
 clear c0 c1 c2 c3 c4 c5 c6 c7 c8 c9 c10 c11 c12 c13 c14 o0 o1 o2 o3 o4 o5 o6
 clear b1 HB0 HK0 HK1 hW0 HC1
 have HI : Hid (PlanI w i l ds 0 (.slice (some ⟨w1.heap.size, 0, none⟩) 0 0) (w1.alloc (.cells #[] 23))) :=
  have b2 : Below w1.heap.size w1 (w1.alloc (.cells #[] 23)) := (Below.refl _ _).alloc (Nat.le_refl _) _
  ⟨own_emptyS w1 _ (by have := HG1.out.lt; omega), HG0.out.below b2, HG1.out.below b2, HB1.out.trans (b2.mono HB1.out.size), fun k _ hk => by omega⟩
 clear HB1 HG0 HG1
 go_wp2_with fail
 go_loopw [9, 10, 11, 12] (fun o b x _ wr => ∃ (k : Nat) (v : Value), v = o ∧ b = .string (I (prevN i l ds k)) ∧ x = .int .i64 (k : Int) ∧ k ≤ ds.length ∧ PlanI w i l ds k v wr) (fun _ _ x _ _ => ds.length - (intOf x).toNat)
 case atStart => exact ⟨0, _, rfl, rfl, rfl, by omega, HI.out⟩
 case round =>
  obtain ⟨k, v, rfl, rfl, rfl, hk, hi⟩ := hrel
  clear HI
  rcases Nat.lt_or_ge k ds.length with hlt | hge
  ·obtain ⟨ad, rfl, had, hcell⟩ := HR.out.below hi.bel (by intro e; rw [e] at hlt; cases hlt)
   have hcx : decide ((k : Int) < (ds.length : Int)) = true := by simp; omega
   have ck := hcell k hlt
   have HCE := Lib.hid (fun (k' : Nat) (e : k = k' + 1) => hcell k' (by omega))
   clear hcell
   have HI := Lib.hid hi
   clear hi
   rcases Nat.eq_zero_or_pos k with hk0 | hk0
   ·have t0 : decide ((0 : Int) < (k : Int)) = false := decide_eq_false (by omega)
    have t0' : decide (0 < k) = false := decide_eq_false (by omega)
    have HASC : Hid (k = 0 ∨ ith ds (k - 1) < ith ds k) := .inl hk0
    clear hk0
    go_wp2_with fail
    go_quiet (fail)
    clear ck
    have HI0 := Lib.hid (HI.out.below (below_drewN (Below.refl _ _) nq))
    generalize wr.drewN nq = wq at HI0 ⊢
    clear HI
    have HI := HI0
    clear HI0
    go_wp2_with fail
    have HAM : Hid (∀ W, PlanI w i l ds k v W → Calls Tryz.prog 69 #[i.enc, l.enc, .int .i64 (ith ds k)] W fun e wn => e = .returned (fenc (exactQ i l (ith ds k))) ∧ PlanI w i l ds k v wn ∧ wn.cell? (ad.add k) = some (.int .i64 (ith ds k)) ∧ wn.cell? ⟨w.heap.size, 0, none⟩ = some (.string i.id) ∧ wn.cell? ⟨w.heap.size, 1, none⟩ = some (.int .i64 i.kind) ∧ wn.cell? ⟨w.heap.size, 2, none⟩ = some (.string i.cur) ∧ wn.cell? ⟨w.heap.size, 3, none⟩ = some (.int .i64 i.places) ∧ wn.cell? ⟨w.heap.size, 4, none⟩ = some (.int .i64 i.issued) ∧ wn.cell? ⟨w.heap.size, 5, none⟩ = some (.int .i64 i.matures) ∧ wn.cell? ⟨w.heap.size, 6, none⟩ = some (.string i.fn) ∧ wn.cell? ⟨w.heap.size, 7, none⟩ = some (.string i.fd) ∧ wn.cell? ⟨w.heap.size, 8, none⟩ = some (.string i.cn) ∧ wn.cell? ⟨w.heap.size, 9, none⟩ = some (.string i.cd) ∧ wn.cell? ⟨w.heap.size, 10, none⟩ = some (.int .i64 i.months) ∧ wn.cell? ⟨w.heap.size, 11, none⟩ = some (.int .i64 i.count) ∧ wn.cell? ⟨w.heap.size, 12, none⟩ = some (.string i.other) ∧ wn.cell? ⟨w.heap.size, 13, none⟩ = some (.string i.sn) ∧ wn.cell? ⟨w.heap.size, 14, none⟩ = some (.string i.sd) ∧ wn.cell? ⟨w.heap.size + 1, 0, none⟩ = some (.string l.id) ∧ wn.cell? ⟨w.heap.size + 1, 1, none⟩ = some (.string l.inst) ∧ wn.cell? ⟨w.heap.size + 1, 2, none⟩ = some (.int .i64 l.acq) ∧ wn.cell? ⟨w.heap.size + 1, 3, none⟩ = some (.int .i64 l.opn) ∧ wn.cell? ⟨w.heap.size + 1, 4, none⟩ = some (.string l.qty) ∧ wn.cell? ⟨w.heap.size + 1, 5, none⟩ = some (.string l.cost) ∧ wn.cell? ⟨w.heap.size + 1, 6, none⟩ = some (.string l.used)) := fun W hW => by
     refine (HEX.out k hlt W (HT.out.below hW.bel)).mono ?_
     rintro e wn ⟨rfl, bn⟩
     refine ⟨rfl, hW.below bn, ?_, (hW.below bn).pg.c22⟩
     obtain ⟨ad2, e2, _, hcell2⟩ := HR.out.below (hW.below bn).bel (by intro e; rw [e] at hlt; cases hlt)
     injection e2 with e2
     subst e2
     exact hcell2 k hlt
    have HRM : Hid (∀ W, PlanI w i l ds k v W → Calls Tryz.prog 68 #[fenc (exactQ i l (ith ds k))] W fun e wn => e = .returned (.string (I (rnd (exactQ i l (ith ds k))))) ∧ PlanI w i l ds k v wn ∧ wn.cell? (ad.add k) = some (.int .i64 (ith ds k)) ∧ wn.cell? ⟨w.heap.size, 0, none⟩ = some (.string i.id) ∧ wn.cell? ⟨w.heap.size, 1, none⟩ = some (.int .i64 i.kind) ∧ wn.cell? ⟨w.heap.size, 2, none⟩ = some (.string i.cur) ∧ wn.cell? ⟨w.heap.size, 3, none⟩ = some (.int .i64 i.places) ∧ wn.cell? ⟨w.heap.size, 4, none⟩ = some (.int .i64 i.issued) ∧ wn.cell? ⟨w.heap.size, 5, none⟩ = some (.int .i64 i.matures) ∧ wn.cell? ⟨w.heap.size, 6, none⟩ = some (.string i.fn) ∧ wn.cell? ⟨w.heap.size, 7, none⟩ = some (.string i.fd) ∧ wn.cell? ⟨w.heap.size, 8, none⟩ = some (.string i.cn) ∧ wn.cell? ⟨w.heap.size, 9, none⟩ = some (.string i.cd) ∧ wn.cell? ⟨w.heap.size, 10, none⟩ = some (.int .i64 i.months) ∧ wn.cell? ⟨w.heap.size, 11, none⟩ = some (.int .i64 i.count) ∧ wn.cell? ⟨w.heap.size, 12, none⟩ = some (.string i.other) ∧ wn.cell? ⟨w.heap.size, 13, none⟩ = some (.string i.sn) ∧ wn.cell? ⟨w.heap.size, 14, none⟩ = some (.string i.sd) ∧ wn.cell? ⟨w.heap.size + 1, 0, none⟩ = some (.string l.id) ∧ wn.cell? ⟨w.heap.size + 1, 1, none⟩ = some (.string l.inst) ∧ wn.cell? ⟨w.heap.size + 1, 2, none⟩ = some (.int .i64 l.acq) ∧ wn.cell? ⟨w.heap.size + 1, 3, none⟩ = some (.int .i64 l.opn) ∧ wn.cell? ⟨w.heap.size + 1, 4, none⟩ = some (.string l.qty) ∧ wn.cell? ⟨w.heap.size + 1, 5, none⟩ = some (.string l.cost) ∧ wn.cell? ⟨w.heap.size + 1, 6, none⟩ = some (.string l.used)) := fun W hW => by
     refine (HRD.out k hlt W).mono ?_
     rintro e wn ⟨rfl, bn⟩
     refine ⟨rfl, hW.below bn, ?_, (hW.below bn).pg.c22⟩
     obtain ⟨ad2, e2, _, hcell2⟩ := HR.out.below (hW.below bn).bel (by intro e; rw [e] at hlt; cases hlt)
     injection e2 with e2
     subst e2
     exact hcell2 k hlt
    have hg : PlanI w i l ds k v wq.drew := HI.out.below (Below.refl _ _).drew
    obtain ⟨c0, c1, c2, c3, c4, c5, c6, c7, c8, c9, c10, c11, c12, c13, c14, o0, o1, o2, o3, o4, o5, o6⟩ := hg.pg.c22
    obtain ⟨ad2, e2, _, hcell2⟩ := HR.out.below hg.bel (by intro e; rw [e] at hlt; cases hlt)
    injection e2 with e2
    subst e2
    have ck := id (hcell2 k hlt)
    have hib1 : (k : Int) < (ds.length : Int) := by omega
    have hib2 : (0 : Int) ≤ (k : Int) := by omega
    clear hcell2 had HI
    unfold Inst.enc Inst.cells Lot.enc Lot.cells at HAM
    unfold fenc at HAM HRM
    go_cut [12] (fun n wx => n = .string (I (rnd (exactQ i l (ith ds k)))) ∧ PlanI w i l ds k v wx)
    case first =>
     go_region_held3 (fun W => W.cell? (ad.add k) = some (.int .i64 (ith ds k)) ∧ W.cell? ⟨w.heap.size, 0, none⟩ = some (.string i.id) ∧ W.cell? ⟨w.heap.size, 1, none⟩ = some (.int .i64 i.kind) ∧ W.cell? ⟨w.heap.size, 2, none⟩ = some (.string i.cur) ∧ W.cell? ⟨w.heap.size, 3, none⟩ = some (.int .i64 i.places) ∧ W.cell? ⟨w.heap.size, 4, none⟩ = some (.int .i64 i.issued) ∧ W.cell? ⟨w.heap.size, 5, none⟩ = some (.int .i64 i.matures) ∧ W.cell? ⟨w.heap.size, 6, none⟩ = some (.string i.fn) ∧ W.cell? ⟨w.heap.size, 7, none⟩ = some (.string i.fd) ∧ W.cell? ⟨w.heap.size, 8, none⟩ = some (.string i.cn) ∧ W.cell? ⟨w.heap.size, 9, none⟩ = some (.string i.cd) ∧ W.cell? ⟨w.heap.size, 10, none⟩ = some (.int .i64 i.months) ∧ W.cell? ⟨w.heap.size, 11, none⟩ = some (.int .i64 i.count) ∧ W.cell? ⟨w.heap.size, 12, none⟩ = some (.string i.other) ∧ W.cell? ⟨w.heap.size, 13, none⟩ = some (.string i.sn) ∧ W.cell? ⟨w.heap.size, 14, none⟩ = some (.string i.sd) ∧ W.cell? ⟨w.heap.size + 1, 0, none⟩ = some (.string l.id) ∧ W.cell? ⟨w.heap.size + 1, 1, none⟩ = some (.string l.inst) ∧ W.cell? ⟨w.heap.size + 1, 2, none⟩ = some (.int .i64 l.acq) ∧ W.cell? ⟨w.heap.size + 1, 3, none⟩ = some (.int .i64 l.opn) ∧ W.cell? ⟨w.heap.size + 1, 4, none⟩ = some (.string l.qty) ∧ W.cell? ⟨w.heap.size + 1, 5, none⟩ = some (.string l.cost) ∧ W.cell? ⟨w.heap.size + 1, 6, none⟩ = some (.string l.used))
      (((try dsimp only); refine ⟨?_, ?_, ?_, ?_, ?_, ?_, ?_, ?_, ?_, ?_, ?_, ?_, ?_, ?_, ?_, ?_, ?_, ?_, ?_, ?_, ?_, ?_, ?_⟩ <;> first | assumption | (go_simp; done)))
      (first
        | (go_at_call 69; refine (HAM.out _ hg).mono ?_; clear hg ck c0 c1 c2 c3 c4 c5 c6 c7 c8 c9 c10 c11 c12 c13 c14 o0 o1 o2 o3 o4 o5 o6; rintro e wn ⟨rfl, hg, ck, c0, c1, c2, c3, c4, c5, c6, c7, c8, c9, c10, c11, c12, c13, c14, o0, o1, o2, o3, o4, o5, o6⟩)
        | (go_at_call 68; refine (HRM.out _ hg).mono ?_; clear hg ck c0 c1 c2 c3 c4 c5 c6 c7 c8 c9 c10 c11 c12 c13 c14 o0 o1 o2 o3 o4 o5 o6; rintro e wn ⟨rfl, hg, ck, c0, c1, c2, c3, c4, c5, c6, c7, c8, c9, c10, c11, c12, c13, c14, o0, o1, o2, o3, o4, o5, o6⟩))
     all_goals (first | go_wp2_with fail | skip)
     all_goals go_meet
     all_goals exact ⟨rfl, hg⟩
    case rest =>
     obtain ⟨rfl, hs⟩ := hcut
     have HI2 := Lib.hid hs
     clear hs hg ck HAM HRM c0 c1 c2 c3 c4 c5 c6 c7 c8 c9 c10 c11 c12 c13 c14 o0 o1 o2 o3 o4 o5 o6
     go_wp2_with fail
     refine (HSB.out k hlt _).mono ?_
     rintro e w3 ⟨rfl, b3⟩
     have HI3 := Lib.hid (HI2.out.below b3)
     clear b3 HI2
     have hpl : vl (I (rnd (exactQ i l (ith ds k)))) - vl (I (prevN i l ds k)) = planN i l ds k := by rw [vl_I, vl_I]; rfl
     rw [hpl]
     clear hpl
     obtain ⟨z, hz⟩ : ∃ z, z = planN i l ds k := ⟨_, rfl⟩
     rw [← hz]
     have HZ := Lib.hid hz
     clear hz
     have HS : Hid (∀ j u, [Value.string (I z)][j]? = some u → (w3.alloc (.cells #[.string (I z)] 23)).cell? ((⟨w3.heap.size, 0, none⟩ : Addr).add j) = some u) := cells_new w3 #[.string (I z)] 23
     obtain ⟨i0, hi, hz0, hz1, hz2⟩ := info_parts Tryz.infoInt
     have hs3 := HI3.out.sz
     have hkl : k ≤ 1000 := by omega
     go_wp2_with (at_builtin; refine wpList_append_own _ rfl _ _ 61 rfl (w.heap.size + 2) 23 i0 (.string ⟨#[]⟩) 1 16 Tryz.underlying61 hi hz0 hz1 hz2 rfl (by decide) _ _ _ rfl (HI3.out.own.alloc _) ⟨w3.heap.size, 0, none⟩ 1 1 [.string (I z)] rfl rfl HS.out (by simp [Value.oneCell']) (by unfold maxLen; omega) (by omega) (by simp; omega) ?_; intro v4 w4 hown4 hgrow4 _; have HO4 := Lib.hid hown4; have HG4 := Lib.hid hgrow4; clear hown4 hgrow4)
     go_roundw
     case rel =>
      have hI := HI3.out
      have hg := HG4.out
      have hlo := hI.own.lt
      refine ⟨k + 1, v4, rfl, ?_, by go_num, by omega, ?_, ?_, ?_, ?_, ?_⟩
      ·unfold prevN; rw [if_neg (by omega)]; rfl
      ·rw [planV_succ, ← HZ.out]; exact HO4.out
      ·exact (hg.block _ (by simp; omega) (fun e => by have := hlo _ e.symm; omega)).trans ((Below.heap_alloc w3 _ _ (by omega)).trans hI.ib)
      ·exact (hg.block _ (by simp; omega) (fun e => by have := hlo _ e.symm; omega)).trans ((Below.heap_alloc w3 _ _ (by omega)).trans hI.lb)
      ·exact (hI.bel.alloc hI.bel.size _).grown hg (by simp; omega) (fun k hk => by have := hlo k hk; omega)
      ·exact hI.asc.snoc HASC.out
     case measure => simp [intOf]; omega
   ·obtain ⟨k', rfl⟩ : ∃ k', k = k' + 1 := ⟨k - 1, by omega⟩
    have ck' := HCE.out k' rfl
    have ck := addr_succ ck
    have t0 : decide ((0 : Int) < ((k' + 1 : Nat) : Int)) = true := decide_eq_true (by omega)
    have t0' : decide (0 < k' + 1) = true := decide_eq_true (by omega)
    by_cases hq : ith ds (k' + 1) ≤ ith ds k'
    ·have t1 : decide (ith ds (k' + 1) ≤ ith ds k') = true := decide_eq_true hq
     have HQ := Lib.hid hq
     clear hq hk0
     go_wp2_with fail
     go_quiet (fail)
     go_wp2_with fail
     go_ret2
     refine ⟨(below_drewN HI.out.bel _).alloc (below_drewN HI.out.bel _).size _, .inl ⟨_, _, rfl, fun ha => ?_⟩⟩
     have := ha (k' + 1) (by omega) hlt
     have := HQ.out
     simp only [Nat.add_sub_cancel] at *
     omega
    have t1 : decide (ith ds (k' + 1) ≤ ith ds k') = false := decide_eq_false hq
    have HASC : Hid (k' + 1 = 0 ∨ ith ds (k' + 1 - 1) < ith ds (k' + 1)) := .inr (by simp only [Nat.add_sub_cancel]; omega)
    clear hk0 hq
    go_wp2_with fail
    go_quiet (fail)
    clear ck ck'
    have HI0 := Lib.hid (HI.out.below (below_drewN (Below.refl _ _) nq))
    generalize wr.drewN nq = wq at HI0 ⊢
    clear HI
    have HI := HI0
    clear HI0
    go_wp2_with fail
    have HAM : Hid (∀ W, PlanI w i l ds (k' + 1) v W → Calls Tryz.prog 69 #[i.enc, l.enc, .int .i64 (ith ds (k' + 1))] W fun e wn => e = .returned (fenc (exactQ i l (ith ds (k' + 1)))) ∧ PlanI w i l ds (k' + 1) v wn ∧ wn.cell? ⟨ad.block, ad.off + (k' + 1), none⟩ = some (.int .i64 (ith ds (k' + 1))) ∧ wn.cell? ⟨w.heap.size, 0, none⟩ = some (.string i.id) ∧ wn.cell? ⟨w.heap.size, 1, none⟩ = some (.int .i64 i.kind) ∧ wn.cell? ⟨w.heap.size, 2, none⟩ = some (.string i.cur) ∧ wn.cell? ⟨w.heap.size, 3, none⟩ = some (.int .i64 i.places) ∧ wn.cell? ⟨w.heap.size, 4, none⟩ = some (.int .i64 i.issued) ∧ wn.cell? ⟨w.heap.size, 5, none⟩ = some (.int .i64 i.matures) ∧ wn.cell? ⟨w.heap.size, 6, none⟩ = some (.string i.fn) ∧ wn.cell? ⟨w.heap.size, 7, none⟩ = some (.string i.fd) ∧ wn.cell? ⟨w.heap.size, 8, none⟩ = some (.string i.cn) ∧ wn.cell? ⟨w.heap.size, 9, none⟩ = some (.string i.cd) ∧ wn.cell? ⟨w.heap.size, 10, none⟩ = some (.int .i64 i.months) ∧ wn.cell? ⟨w.heap.size, 11, none⟩ = some (.int .i64 i.count) ∧ wn.cell? ⟨w.heap.size, 12, none⟩ = some (.string i.other) ∧ wn.cell? ⟨w.heap.size, 13, none⟩ = some (.string i.sn) ∧ wn.cell? ⟨w.heap.size, 14, none⟩ = some (.string i.sd) ∧ wn.cell? ⟨w.heap.size + 1, 0, none⟩ = some (.string l.id) ∧ wn.cell? ⟨w.heap.size + 1, 1, none⟩ = some (.string l.inst) ∧ wn.cell? ⟨w.heap.size + 1, 2, none⟩ = some (.int .i64 l.acq) ∧ wn.cell? ⟨w.heap.size + 1, 3, none⟩ = some (.int .i64 l.opn) ∧ wn.cell? ⟨w.heap.size + 1, 4, none⟩ = some (.string l.qty) ∧ wn.cell? ⟨w.heap.size + 1, 5, none⟩ = some (.string l.cost) ∧ wn.cell? ⟨w.heap.size + 1, 6, none⟩ = some (.string l.used)) := fun W hW => by
     refine (HEX.out (k' + 1) hlt W (HT.out.below hW.bel)).mono ?_
     rintro e wn ⟨rfl, bn⟩
     refine ⟨rfl, hW.below bn, ?_, (hW.below bn).pg.c22⟩
     obtain ⟨ad2, e2, _, hcell2⟩ := HR.out.below (hW.below bn).bel (by intro e; rw [e] at hlt; cases hlt)
     injection e2 with e2
     subst e2
     exact addr_succ <| hcell2 (k' + 1) hlt
    have HRM : Hid (∀ W, PlanI w i l ds (k' + 1) v W → Calls Tryz.prog 68 #[fenc (exactQ i l (ith ds (k' + 1)))] W fun e wn => e = .returned (.string (I (rnd (exactQ i l (ith ds (k' + 1)))))) ∧ PlanI w i l ds (k' + 1) v wn ∧ wn.cell? ⟨ad.block, ad.off + (k' + 1), none⟩ = some (.int .i64 (ith ds (k' + 1))) ∧ wn.cell? ⟨w.heap.size, 0, none⟩ = some (.string i.id) ∧ wn.cell? ⟨w.heap.size, 1, none⟩ = some (.int .i64 i.kind) ∧ wn.cell? ⟨w.heap.size, 2, none⟩ = some (.string i.cur) ∧ wn.cell? ⟨w.heap.size, 3, none⟩ = some (.int .i64 i.places) ∧ wn.cell? ⟨w.heap.size, 4, none⟩ = some (.int .i64 i.issued) ∧ wn.cell? ⟨w.heap.size, 5, none⟩ = some (.int .i64 i.matures) ∧ wn.cell? ⟨w.heap.size, 6, none⟩ = some (.string i.fn) ∧ wn.cell? ⟨w.heap.size, 7, none⟩ = some (.string i.fd) ∧ wn.cell? ⟨w.heap.size, 8, none⟩ = some (.string i.cn) ∧ wn.cell? ⟨w.heap.size, 9, none⟩ = some (.string i.cd) ∧ wn.cell? ⟨w.heap.size, 10, none⟩ = some (.int .i64 i.months) ∧ wn.cell? ⟨w.heap.size, 11, none⟩ = some (.int .i64 i.count) ∧ wn.cell? ⟨w.heap.size, 12, none⟩ = some (.string i.other) ∧ wn.cell? ⟨w.heap.size, 13, none⟩ = some (.string i.sn) ∧ wn.cell? ⟨w.heap.size, 14, none⟩ = some (.string i.sd) ∧ wn.cell? ⟨w.heap.size + 1, 0, none⟩ = some (.string l.id) ∧ wn.cell? ⟨w.heap.size + 1, 1, none⟩ = some (.string l.inst) ∧ wn.cell? ⟨w.heap.size + 1, 2, none⟩ = some (.int .i64 l.acq) ∧ wn.cell? ⟨w.heap.size + 1, 3, none⟩ = some (.int .i64 l.opn) ∧ wn.cell? ⟨w.heap.size + 1, 4, none⟩ = some (.string l.qty) ∧ wn.cell? ⟨w.heap.size + 1, 5, none⟩ = some (.string l.cost) ∧ wn.cell? ⟨w.heap.size + 1, 6, none⟩ = some (.string l.used)) := fun W hW => by
     refine (HRD.out (k' + 1) hlt W).mono ?_
     rintro e wn ⟨rfl, bn⟩
     refine ⟨rfl, hW.below bn, ?_, (hW.below bn).pg.c22⟩
     obtain ⟨ad2, e2, _, hcell2⟩ := HR.out.below (hW.below bn).bel (by intro e; rw [e] at hlt; cases hlt)
     injection e2 with e2
     subst e2
     exact addr_succ <| hcell2 (k' + 1) hlt
    have hg : PlanI w i l ds (k' + 1) v wq.drew := HI.out.below (Below.refl _ _).drew
    obtain ⟨c0, c1, c2, c3, c4, c5, c6, c7, c8, c9, c10, c11, c12, c13, c14, o0, o1, o2, o3, o4, o5, o6⟩ := hg.pg.c22
    obtain ⟨ad2, e2, _, hcell2⟩ := HR.out.below hg.bel (by intro e; rw [e] at hlt; cases hlt)
    injection e2 with e2
    subst e2
    have ck := addr_succ (hcell2 (k' + 1) hlt)
    have hib1 : ((k' + 1 : Nat) : Int) < (ds.length : Int) := by omega
    have hib2 : (k' : Int) + 1 < (ds.length : Int) := by omega
    have hib3 : (0 : Int) ≤ (k' : Int) + 1 := by omega
    have hib4 : (((k' + 1 : Nat)) : Int) < (ds.length : Int) := by omega
    have hib5 : k' + 1 < ds.length := by omega
    clear hcell2 had HI
    unfold Inst.enc Inst.cells Lot.enc Lot.cells at HAM
    unfold fenc at HAM HRM
    go_cut [12] (fun n wx => n = .string (I (rnd (exactQ i l (ith ds (k' + 1))))) ∧ PlanI w i l ds (k' + 1) v wx)
    case first =>
     go_region_held3 (fun W => W.cell? ⟨ad.block, ad.off + (k' + 1), none⟩ = some (.int .i64 (ith ds (k' + 1))) ∧ W.cell? ⟨w.heap.size, 0, none⟩ = some (.string i.id) ∧ W.cell? ⟨w.heap.size, 1, none⟩ = some (.int .i64 i.kind) ∧ W.cell? ⟨w.heap.size, 2, none⟩ = some (.string i.cur) ∧ W.cell? ⟨w.heap.size, 3, none⟩ = some (.int .i64 i.places) ∧ W.cell? ⟨w.heap.size, 4, none⟩ = some (.int .i64 i.issued) ∧ W.cell? ⟨w.heap.size, 5, none⟩ = some (.int .i64 i.matures) ∧ W.cell? ⟨w.heap.size, 6, none⟩ = some (.string i.fn) ∧ W.cell? ⟨w.heap.size, 7, none⟩ = some (.string i.fd) ∧ W.cell? ⟨w.heap.size, 8, none⟩ = some (.string i.cn) ∧ W.cell? ⟨w.heap.size, 9, none⟩ = some (.string i.cd) ∧ W.cell? ⟨w.heap.size, 10, none⟩ = some (.int .i64 i.months) ∧ W.cell? ⟨w.heap.size, 11, none⟩ = some (.int .i64 i.count) ∧ W.cell? ⟨w.heap.size, 12, none⟩ = some (.string i.other) ∧ W.cell? ⟨w.heap.size, 13, none⟩ = some (.string i.sn) ∧ W.cell? ⟨w.heap.size, 14, none⟩ = some (.string i.sd) ∧ W.cell? ⟨w.heap.size + 1, 0, none⟩ = some (.string l.id) ∧ W.cell? ⟨w.heap.size + 1, 1, none⟩ = some (.string l.inst) ∧ W.cell? ⟨w.heap.size + 1, 2, none⟩ = some (.int .i64 l.acq) ∧ W.cell? ⟨w.heap.size + 1, 3, none⟩ = some (.int .i64 l.opn) ∧ W.cell? ⟨w.heap.size + 1, 4, none⟩ = some (.string l.qty) ∧ W.cell? ⟨w.heap.size + 1, 5, none⟩ = some (.string l.cost) ∧ W.cell? ⟨w.heap.size + 1, 6, none⟩ = some (.string l.used))
      (((try dsimp only); refine ⟨?_, ?_, ?_, ?_, ?_, ?_, ?_, ?_, ?_, ?_, ?_, ?_, ?_, ?_, ?_, ?_, ?_, ?_, ?_, ?_, ?_, ?_, ?_⟩ <;> first | assumption | (go_simp; done)))
      (first
        | (go_at_call 69; refine (HAM.out _ hg).mono ?_; clear hg ck c0 c1 c2 c3 c4 c5 c6 c7 c8 c9 c10 c11 c12 c13 c14 o0 o1 o2 o3 o4 o5 o6; rintro e wn ⟨rfl, hg, ck, c0, c1, c2, c3, c4, c5, c6, c7, c8, c9, c10, c11, c12, c13, c14, o0, o1, o2, o3, o4, o5, o6⟩)
        | (go_at_call 68; refine (HRM.out _ hg).mono ?_; clear hg ck c0 c1 c2 c3 c4 c5 c6 c7 c8 c9 c10 c11 c12 c13 c14 o0 o1 o2 o3 o4 o5 o6; rintro e wn ⟨rfl, hg, ck, c0, c1, c2, c3, c4, c5, c6, c7, c8, c9, c10, c11, c12, c13, c14, o0, o1, o2, o3, o4, o5, o6⟩))
     all_goals (first | go_wp2_with fail | skip)
     all_goals go_meet
     all_goals exact ⟨rfl, hg⟩
    case rest =>
     obtain ⟨rfl, hs⟩ := hcut
     have HI2 := Lib.hid hs
     clear hs hg ck HAM HRM c0 c1 c2 c3 c4 c5 c6 c7 c8 c9 c10 c11 c12 c13 c14 o0 o1 o2 o3 o4 o5 o6
     go_wp2_with fail
     refine (HSB.out (k' + 1) hlt _).mono ?_
     rintro e w3 ⟨rfl, b3⟩
     have HI3 := Lib.hid (HI2.out.below b3)
     clear b3 HI2
     have hpl : vl (I (rnd (exactQ i l (ith ds (k' + 1))))) - vl (I (prevN i l ds (k' + 1))) = planN i l ds (k' + 1) := by rw [vl_I, vl_I]; rfl
     rw [hpl]
     clear hpl
     obtain ⟨z, hz⟩ : ∃ z, z = planN i l ds (k' + 1) := ⟨_, rfl⟩
     rw [← hz]
     have HZ := Lib.hid hz
     clear hz
     have HS : Hid (∀ j u, [Value.string (I z)][j]? = some u → (w3.alloc (.cells #[.string (I z)] 23)).cell? ((⟨w3.heap.size, 0, none⟩ : Addr).add j) = some u) := cells_new w3 #[.string (I z)] 23
     obtain ⟨i0, hi, hz0, hz1, hz2⟩ := info_parts Tryz.infoInt
     have hs3 := HI3.out.sz
     have hkl : (k' + 1) ≤ 1000 := by omega
     go_wp2_with (at_builtin; refine wpList_append_own _ rfl _ _ 61 rfl (w.heap.size + 2) 23 i0 (.string ⟨#[]⟩) 1 16 Tryz.underlying61 hi hz0 hz1 hz2 rfl (by decide) _ _ _ rfl (HI3.out.own.alloc _) ⟨w3.heap.size, 0, none⟩ 1 1 [.string (I z)] rfl rfl HS.out (by simp [Value.oneCell']) (by unfold maxLen; omega) (by omega) (by simp; omega) ?_; intro v4 w4 hown4 hgrow4 _; have HO4 := Lib.hid hown4; have HG4 := Lib.hid hgrow4; clear hown4 hgrow4)
     go_roundw
     case rel =>
      have hI := HI3.out
      have hg := HG4.out
      have hlo := hI.own.lt
      refine ⟨(k' + 1) + 1, v4, rfl, ?_, by go_num, by omega, ?_, ?_, ?_, ?_, ?_⟩
      ·unfold prevN; rw [if_neg (by omega)]; rfl
      ·rw [planV_succ, ← HZ.out]; exact HO4.out
      ·exact (hg.block _ (by simp; omega) (fun e => by have := hlo _ e.symm; omega)).trans ((Below.heap_alloc w3 _ _ (by omega)).trans hI.ib)
      ·exact (hg.block _ (by simp; omega) (fun e => by have := hlo _ e.symm; omega)).trans ((Below.heap_alloc w3 _ _ (by omega)).trans hI.lb)
      ·exact (hI.bel.alloc hI.bel.size _).grown hg (by simp; omega) (fun k hk => by have := hlo k hk; omega)
      ·exact hI.asc.snoc HASC.out
     case measure => simp [intOf]; omega
  ·have hcx : decide ((k : Int) < (ds.length : Int)) = false := by simp; omega
   have hkk : k = ds.length := by omega
   subst hkk
   have HI := Lib.hid hi
   clear hi
   go_wp2_with fail
   go_ret2
   refine ⟨HI.out.bel, .inr ⟨_, rfl, HI.out.asc, HI.out.own.1, ?_⟩⟩
   rcases HI.out.own.2 with h2 | ⟨g, cap, cur, h1, h2, h3⟩
   ·exact .inl h2
   ·exact .inr ⟨g, cap, cur, h1, by omega, h3⟩
theorem SameEffect39_zero (w : World) : Calls Tryz.prog 33 #[.agg effZero, .agg effZero] w fun e w' => e = .returned (.bool true) ∧ Below w.heap.size w w' := by
 obtain ⟨W0, hW0', hB0, hz, k0, k1⟩ := box2 w (.cells effZero 50) (.cells effZero 50)
 have hW0 := hW0'.symm
 have c0 := Lib.cell_of_heap k0 0
 have c1 := Lib.cell_of_heap k0 1
 have c2 := Lib.cell_of_heap k0 2
 have c3 := Lib.cell_of_heap k0 3
 have c4 := Lib.cell_of_heap k0 4
 have c5 := Lib.cell_of_heap k0 5
 have c6 := Lib.cell_of_heap k0 6
 have d0 := Lib.cell_of_heap k1 0
 have d1 := Lib.cell_of_heap k1 1
 have d2 := Lib.cell_of_heap k1 2
 have d3 := Lib.cell_of_heap k1 3
 have d4 := Lib.cell_of_heap k1 4
 have d5 := Lib.cell_of_heap k1 5
 have d6 := Lib.cell_of_heap k1 6
 simp [effZero] at c0 c1 c2 c3 c4 c5 c6 d0 d1 d2 d3 d4 d5 d6
 have HB := Lib.hid hB0
 clear hW0' hz hB0 k0 k1
 unfold effZero at *
 go_enter Tryz.func33, Tryz.ntmps33
 go_wp2_with fail
 refine wp_loop_rounds 1 ?_
 rw [rounds_succ]
 go_wp2_with fail
 go_ret
 exact ⟨rfl, HB.out⟩
theorem SameEffect39_some (k d : Int) (s1 s2 s3 s4 t1 t2 : ByteArray) (B1 B2 : Nat) (w : World) (h1 : w.heap[B1]? = some (.cells #[.string t1, .string t2] 57 (0, 0))) (h2 : w.heap[B2]? = some (.cells #[.string t1, .string t2] 57 (0, 0))) :
 Calls Tryz.prog 33 #[.agg #[.int .i64 k, .int .i64 d, .string s1, .string s2, .string s3, .string s4, .slice (some ⟨B1, 0, none⟩) 1 1], .agg #[.int .i64 k, .int .i64 d, .string s1, .string s2, .string s3, .string s4, .slice (some ⟨B2, 0, none⟩) 1 1]] w fun e w' => e = .returned (.bool true) ∧ Below w.heap.size w w' := by
 obtain ⟨W0, hW0', hB0, hz, k0, k1⟩ := box2 w (.cells #[.int .i64 k, .int .i64 d, .string s1, .string s2, .string s3, .string s4, .slice (some ⟨B1, 0, none⟩) 1 1] 50) (.cells #[.int .i64 k, .int .i64 d, .string s1, .string s2, .string s3, .string s4, .slice (some ⟨B2, 0, none⟩) 1 1] 50)
 have hW0 := hW0'.symm
 have c0 := Lib.cell_of_heap k0 0
 have c1 := Lib.cell_of_heap k0 1
 have c2 := Lib.cell_of_heap k0 2
 have c3 := Lib.cell_of_heap k0 3
 have c4 := Lib.cell_of_heap k0 4
 have c5 := Lib.cell_of_heap k0 5
 have c6 := Lib.cell_of_heap k0 6
 have d0 := Lib.cell_of_heap k1 0
 have d1 := Lib.cell_of_heap k1 1
 have d2 := Lib.cell_of_heap k1 2
 have d3 := Lib.cell_of_heap k1 3
 have d4 := Lib.cell_of_heap k1 4
 have d5 := Lib.cell_of_heap k1 5
 have d6 := Lib.cell_of_heap k1 6
 have g1 := (hB0.block B1 (Array.getElem?_eq_some_iff.1 h1).1).trans h1
 have g2 := (hB0.block B2 (Array.getElem?_eq_some_iff.1 h2).1).trans h2
 have p0 := Lib.cell_of_heap g1 0
 have p1 := Lib.cell_of_heap g1 1
 have q0 := Lib.cell_of_heap g2 0
 have q1 := Lib.cell_of_heap g2 1
 simp at c0 c1 c2 c3 c4 c5 c6 d0 d1 d2 d3 d4 d5 d6 p0 p1 q0 q1
 have HB := Lib.hid hB0
 clear hW0' hz hB0 k0 k1 g1 g2 h1 h2
 go_enter Tryz.func33, Tryz.ntmps33
 go_wp2_with fail
 refine wp_loop_rounds 2 ?_
 rw [rounds_succ]
 go_wp2_with fail
 go_quiet (fail)
 go_wp2_with fail
 rw [rounds_succ]
 go_wp2_with fail
 go_ret
 exact ⟨rfl, below_drewN HB.out _⟩
def TwoI (w : World) (A1 A2 : Option Addr) (f : Nat → ByteArray) (n : Nat) : Prop := n ≠ 0 → ∃ a1 a2 : Addr, A1 = some a1 ∧ A2 = some a2 ∧ ∀ k, k < n → w.cell? (a1.add k) = some (.string (f k)) ∧ w.cell? (a2.add k) = some (.string (f k))
theorem TwoI.drewN {w : World} {A1 A2 : Option Addr} {f : Nat → ByteArray} {n : Nat} (h : TwoI w A1 A2 f n) (m : Nat) : TwoI (w.drewN m) A1 A2 f n := fun hn => by
 obtain ⟨a1, a2, e1, e2, hc⟩ := h hn
 refine ⟨a1, a2, e1, e2, fun k hk => ?_⟩
 have := hc k hk
 simpa using this
theorem eqInts_any (A1 A2 : Option Addr) (n c1 c2 : Nat) (f : Nat → ByteArray) (hn : n ≤ 1000000) (w : World) (h : TwoI w A1 A2 f n) :
 Calls Tryz.prog 32 #[.slice A1 n c1, .slice A2 n c2] w fun e w' => e = .returned (.bool true) ∧ Below w.heap.size w w' := by
 have H := Lib.hid h
 clear h
 have tn : ((n : Int) != (n : Int)) = false := by simp
 go_enter Tryz.func32, Tryz.ntmps32
 go_wp2_with fail
 go_loopw [5, 13] (fun _ v wr => ∃ k m : Nat, v = .int .i64 (k : Int) ∧ k ≤ n ∧ wr = w.drewN m) (fun _ v _ => n - (intOf v).toNat)
 case atStart => exact ⟨0, 0, rfl, by omega, rfl⟩
 case round =>
  obtain ⟨k, m, rfl, hk, rfl⟩ := hrel
  clear tn
  rcases Nat.lt_or_ge k n with hlt | hge
  ·obtain ⟨a1, a2, rfl, rfl, hc⟩ := H.out (by omega)
   obtain ⟨p, q⟩ := hc k hlt
   have hcx : decide ((k : Int) < (n : Int)) = true := by simp; omega
   have hb : (k : Int) < (n : Int) := by omega
   clear hc
   go_wp2_with fail
   go_quiet (fail)
   go_wp2_with fail
   go_roundw
   case rel => exact ⟨k + 1, m + nq, by go_num, by omega, by first | rfl | rw [World.drewN_drewN]⟩
   case measure => simp [intOf]; omega
  ·have hcx : decide ((k : Int) < (n : Int)) = false := by simp; omega
   go_wp2_with fail
   go_ret
   exact ⟨rfl, below_drewN (Below.refl _ _) _⟩
end Go.Proofs.YtpgjmdggblnfkaaGreatDoor
