/-
  Amortized, Plan, Effect of both sides in one form, on whatever is small. (Printed by gen_law8.py.)
  tranchelaw39.AccrualLots returns true. (Printed by gen_law8.py.)
-/
import Derived.Test.YtpgjmdggblnfkaaGreatDoorLA7
import Derived.Test.YtpgjmdggblnfkaaGreatDoorM46
import Derived.Test.YtpgjmdggblnfkaaGreatDoorM48
import Derived.Test.YtpgjmdggblnfkaaGreatDoorM44
set_option linter.unusedVariables false
set_option linter.unusedSimpArgs false
set_option maxHeartbeats 16000000
set_option maxRecDepth 100000
namespace Go.Proofs.YtpgjmdggblnfkaaGreatDoor
open Go.RowKit Tr Go.Shelf
open Classical in
noncomputable def amS (i : Inst) (l : Lot) (d : Int) : ByteArray := if achk i l [d] = 0 then I (rnd (exactQ i l d)) else ⟨#[]⟩
theorem bok_of {i : Inst} {l : Lot} {ds : List Int} (hi : i.tiny) (hs : l.tiny) (h : achk i l ds = 0) : BOk i l := ⟨hi.small, (achk_zero h).1, hs.sized, (achk_zero h).2.1, (achk_zero h).2.2.1⟩
theorem Amortized_both (i : Inst) (l : Lot) (d : Int) (hi : i.tiny) (hs : l.tiny) (w : World) (ht : Tabs w) :
 Calls Tryz.prog 14 #[i.enc, l.enc, .int .i64 d] w fun e w' => e = .returned (.tuple #[.string (amS i l d), .int .i64 (achk i l [d])]) ∧ Below w.heap.size w w' := by
 unfold amS
 by_cases h : achk i l [d] = 0
 ·rw [if_pos h, h]
  exact Amortized_ok i l d (bok_of hi hs h) ((achk_zero h).2.2.2 0 (by simp)) w ht
 ·rw [if_neg h]
  exact Amortized_err i l d hi.small.sized hs.sized h w ht
theorem Amortized39_both (i : Inst) (l : Lot) (d : Int) (hi : i.tiny) (hs : l.tiny) (w : World) (ht : Tabs w) :
 Calls Tryz.prog 28 #[i.enc, l.enc, .int .i64 d] w fun e w' => e = .returned (.tuple #[.string (amS i l d), .int .i64 (achk i l [d])]) ∧ Below w.heap.size w w' := by
 unfold amS
 by_cases h : achk i l [d] = 0
 ·rw [if_pos h, h]
  exact Amortized39_ok i l d (bok_of hi hs h) hi hs ((achk_zero h).2.2.2 0 (by simp)) w ht
 ·rw [if_neg h]
  exact Amortized39_err i l d hi hs h w
open Classical in
noncomputable def plC (i : Inst) (l : Lot) (ds : List Int) : Int := if achk i l ds ≠ 0 then achk i l ds else if Asc ds ds.length then 0 else 8
open Classical in
noncomputable def plN (i : Inst) (l : Lot) (ds : List Int) : Nat := if plC i l ds = 0 then ds.length else 0
theorem plN_le (i : Inst) (l : Lot) (ds : List Int) : plN i l ds ≤ ds.length := by unfold plN; split <;> omega
theorem plC_err {i : Inst} {l : Lot} {ds : List Int} (h : achk i l ds ≠ 0) : plC i l ds = achk i l ds ∧ plN i l ds = 0 := by
 have e : plC i l ds = achk i l ds := by unfold plC; rw [if_pos h]
 exact ⟨e, by unfold plN; rw [if_neg (by rw [e]; exact h)]⟩
theorem plC_8 {i : Inst} {l : Lot} {ds : List Int} (h : achk i l ds = 0) (h2 : ¬ Asc ds ds.length) : plC i l ds = 8 ∧ plN i l ds = 0 := by
 have e : plC i l ds = 8 := by unfold plC; rw [if_neg (fun x => x h), if_neg h2]
 exact ⟨e, by unfold plN; rw [if_neg (by rw [e]; decide)]⟩
theorem plC_0 {i : Inst} {l : Lot} {ds : List Int} (h : achk i l ds = 0) (h2 : Asc ds ds.length) : plC i l ds = 0 ∧ plN i l ds = ds.length := by
 have e : plC i l ds = 0 := by unfold plC; rw [if_neg (fun x => x h), if_pos h2]
 exact ⟨e, by unfold plN; rw [if_pos e]⟩
def RdP (w : World) (A : Option Addr) (f : Nat → ByteArray) (n : Nat) : Prop := n ≠ 0 → ∃ ad : Addr, A = some ad ∧ ad.block < w.heap.size ∧ ∀ k, k < n → w.cell? (ad.add k) = some (.string (f k))
theorem RdP.zero (w : World) (A : Option Addr) (f : Nat → ByteArray) : RdP w A f 0 := fun h => absurd rfl h
theorem RdP.below {w w' : World} {A : Option Addr} {f : Nat → ByteArray} {n : Nat} (h : RdP w A f n) (hb : Below w.heap.size w w') : RdP w' A f n := fun hn => by
 obtain ⟨ad, e, h1, h2⟩ := h hn
 exact ⟨ad, e, Nat.lt_of_lt_of_le h1 hb.size, fun k hk => (hb.cell (by rw [add_block]; exact h1)).trans (h2 k hk)⟩
theorem RdP.two {w : World} {A1 A2 : Option Addr} {f : Nat → ByteArray} {n : Nat} (h1 : RdP w A1 f n) (h2 : RdP w A2 f n) : TwoI w A1 A2 f n := fun hn => by
 obtain ⟨a1, e1, _, c1⟩ := h1 hn
 obtain ⟨a2, e2, _, c2⟩ := h2 hn
 exact ⟨a1, a2, e1, e2, fun k hk => ⟨c1 k hk, c2 k hk⟩⟩
noncomputable def plF (i : Inst) (l : Lot) (ds : List Int) (k : Nat) : ByteArray := I (planN i l ds k)
theorem own_rdp {W : World} {b : Nat} {v : Value} {i : Inst} {l : Lot} {ds : List Int} (h : W.ownsRow b 23 1 v ds.length (planV i l ds ds.length)) : ∃ A c, v = .slice A ds.length c ∧ RdP W A (plF i l ds) ds.length := by
 rcases h.2 with ⟨h', h0⟩ | ⟨g', cap', cur, h', _, h2, h3, h4, h5, h6⟩
 ·refine ⟨none, 0, by rw [h0]; exact h', ?_⟩
  rw [h0]; exact RdP.zero _ _ _
 ·exact ⟨_, _, h', fun _ => ⟨_, rfl, (Array.getElem?_eq_some_iff.1 h2).1, plan_cells h2 h6⟩⟩
def PlPost (w : World) (i : Inst) (l : Lot) (ds : List Int) (e : Ending) (w' : World) : Prop :=
 ∃ (A : Option Addr) (c : Nat), e = .returned (.tuple #[.slice A (plN i l ds) c, .int .i64 (plC i l ds)]) ∧ RdP w' A (plF i l ds) (plN i l ds) ∧ Below w.heap.size w w'
theorem Plan_both (i : Inst) (l : Lot) (A : Option Addr) (ds : List Int) (c : Nat) (hl : ds.length ≤ 1000) (hi : i.tiny) (hs : l.tiny) (w : World) (hR : RdD w A ds) (ht : Tabs w) :
 Calls Tryz.prog 29 #[i.enc, l.enc, .slice A ds.length c] w (PlPost w i l ds) := by
 by_cases h : achk i l ds = 0
 case neg =>
  refine (Plan_err i l A ds c hl hi.small.sized hs.sized h w hR ht).mono ?_
  rintro e w' ⟨rfl, hb⟩
  unfold PlPost
  rw [(plC_err h).1, (plC_err h).2]
  exact ⟨_, _, rfl, RdP.zero _ _ _, hb⟩
 refine (Plan_ok i l A ds c hl (bok_of hi hs h) (ith_all (achk_zero h).2.2.2) w hR ht).mono ?_
 rintro e w' ⟨hb, ⟨rfl, hna⟩ | ⟨v, rfl, ha, ho⟩⟩
 ·unfold PlPost
  rw [(plC_8 h hna).1, (plC_8 h hna).2]
  exact ⟨_, _, rfl, RdP.zero _ _ _, hb⟩
 ·unfold PlPost
  rw [(plC_0 h ha).1, (plC_0 h ha).2]
  obtain ⟨A', c', rfl, hp⟩ := own_rdp ho
  exact ⟨_, _, rfl, hp, hb⟩
theorem Plan39_both (i : Inst) (l : Lot) (A : Option Addr) (ds : List Int) (c : Nat) (hl : ds.length ≤ 1000) (hi : i.tiny) (hs : l.tiny) (w : World) (hR : RdD w A ds) (ht : Tabs w) :
 Calls Tryz.prog 30 #[i.enc, l.enc, .slice A ds.length c] w (PlPost w i l ds) := by
 by_cases h : achk i l ds = 0
 case neg =>
  refine (Plan39_err i l A ds c hl hi hs h w hR).mono ?_
  rintro e w' ⟨A', c', rfl, hb⟩
  unfold PlPost
  rw [(plC_err h).1, (plC_err h).2]
  exact ⟨_, _, rfl, RdP.zero _ _ _, hb⟩
 refine (Plan39_ok i l A ds c hl (bok_of hi hs h) hi hs (ith_all (achk_zero h).2.2.2) w hR ht).mono ?_
 rintro e w' ⟨hb, ⟨A', c', rfl, hna⟩ | ⟨v, rfl, ha, ho⟩⟩
 ·unfold PlPost
  rw [(plC_8 h hna).1, (plC_8 h hna).2]
  exact ⟨_, _, rfl, RdP.zero _ _ _, hb⟩
 ·unfold PlPost
  rw [(plC_0 h ha).1, (plC_0 h ha).2]
  obtain ⟨A', c', rfl, hp⟩ := own_rdp ho
  exact ⟨_, _, rfl, hp, hb⟩
open Classical in
noncomputable def efC (kind d : Int) (i : Inst) (ch : ByteArray) : Int := if ¬ (i.ok ∧ Can ch) then 1 else if ¬ okDay d then 13 else if ¬ (kind = 17 ∨ kind = 18 ∨ kind = 19) then 7 else 0
theorem efC_zero {kind d : Int} {i : Inst} {ch : ByteArray} (h : efC kind d i ch = 0) : i.ok ∧ Can ch ∧ okDay d ∧ (kind = 17 ∨ kind = 18 ∨ kind = 19) := by
 unfold efC at h
 split at h
 ·cases h
 rename_i a1
 split at h
 ·cases h
 rename_i a2
 split at h
 ·cases h
 rename_i a3
 simp only [Classical.not_not] at a1 a2 a3
 exact ⟨a1.1, a1.2, a2, a3⟩
theorem efC_1 {kind d : Int} {i : Inst} {ch : ByteArray} (h : ¬ (i.ok ∧ Can ch)) : efC kind d i ch = 1 := by unfold efC; rw [if_pos h]
theorem efC_13 {kind d : Int} {i : Inst} {ch : ByteArray} (h1 : i.ok) (h2 : Can ch) (h : ¬ okDay d) : efC kind d i ch = 13 := by unfold efC; rw [if_neg (fun x => x ⟨h1, h2⟩), if_pos h]
theorem efC_7 {kind d : Int} {i : Inst} {ch : ByteArray} (h1 : i.ok) (h2 : Can ch) (h3 : okDay d) (h : ¬ (kind = 17 ∨ kind = 18 ∨ kind = 19)) : efC kind d i ch = 7 := by unfold efC; rw [if_neg (fun x => x ⟨h1, h2⟩), if_neg (fun x => x h3), if_pos h]
theorem efC_0 {kind d : Int} {i : Inst} {ch : ByteArray} (h1 : i.ok) (h2 : Can ch) (h3 : okDay d) (h : kind = 17 ∨ kind = 18 ∨ kind = 19) : efC kind d i ch = 0 := by unfold efC; rw [if_neg (fun x => x ⟨h1, h2⟩), if_neg (fun x => x h3), if_neg (fun x => x h)]
theorem Effectb_zero (kind : Int) (d : Int) (i : Inst) (ch : ByteArray) (hi : i.tiny) (hcz : ch.size ≤ 1000) (h : efC kind d i ch ≠ 0 ∨ ch = ⟨#[]⟩) (w : World) (ht : Tabs w) :
 Calls Tryz.prog 24 #[.int .i64 kind, .int .i64 d, i.enc, .string ch] w fun e w' => e = .returned (.tuple #[.agg effZero, .bool false, .int .i64 (efC kind d i ch)]) ∧ Below w.heap.size w w' := by
 by_cases h1 : i.ok
 case neg => rw [efC_1 (fun x => h1 x.1)]; exact Effect_e1 kind d i ch hi.small hcz h1 w ht
 by_cases h2 : Can ch
 case neg => rw [efC_1 (fun x => h2 x.2)]; exact Effect_e2 kind d i ch hi.small hcz h1 h2 w ht
 by_cases h3 : okDay d
 case neg => rw [efC_13 h1 h2 h3]; exact Effect_e3 kind d i ch hi.small hcz h1 h2 h3 w ht
 by_cases h4 : kind = 17 ∨ kind = 18 ∨ kind = 19
 case neg => rw [efC_7 h1 h2 h3 h4]; exact Effect_e4 kind d i ch hi.small hcz h1 h2 h3 h4 w ht
 have h5 := efC_0 (kind := kind) (d := d) h1 h2 h3 h4
 rw [h5]
 have hce : ch = ⟨#[]⟩ := h.resolve_left (fun x => x h5)
 subst hce; exact Effect_none kind h4 d h3 i hi.small h1 w ht
theorem Effect39b_zero (kind : Int) (d : Int) (i : Inst) (ch : ByteArray) (hi : i.tiny) (hcz : ch.size ≤ 1000) (h : efC kind d i ch ≠ 0 ∨ ch = ⟨#[]⟩) (w : World) (ht : Tabs w) :
 Calls Tryz.prog 31 #[.int .i64 kind, .int .i64 d, i.enc, .string ch] w fun e w' => e = .returned (.tuple #[.agg effZero, .bool false, .int .i64 (efC kind d i ch)]) ∧ Below w.heap.size w w' := by
 by_cases h1 : i.ok
 case neg => rw [efC_1 (fun x => h1 x.1)]; exact Effect39_e1 kind d i ch hi hcz h1 w
 by_cases h2 : Can ch
 case neg => rw [efC_1 (fun x => h2 x.2)]; exact Effect39_e2 kind d i ch hi hcz h1 h2 w
 by_cases h3 : okDay d
 case neg => rw [efC_13 h1 h2 h3]; exact Effect39_e3 kind d i ch hi hcz h1 h2 h3 w
 by_cases h4 : kind = 17 ∨ kind = 18 ∨ kind = 19
 case neg => rw [efC_7 h1 h2 h3 h4]; exact Effect39_e4 kind d i ch hi hcz h1 h2 h3 h4 w
 have h5 := efC_0 (kind := kind) (d := d) h1 h2 h3 h4
 rw [h5]
 have hce : ch = ⟨#[]⟩ := h.resolve_left (fun x => x h5)
 exact Effect39_none kind d i ch hi hcz h1 hce h3 h4 w
theorem Effectb_some (kind : Int) (d : Int) (i : Inst) (ch : ByteArray) (hi : i.tiny) (hcz : ch.size ≤ 1000) (h : efC kind d i ch = 0) (hne : ch ≠ ⟨#[]⟩) (w : World) (ht : Tabs w) :
 Calls Tryz.prog 24 #[.int .i64 kind, .int .i64 d, i.enc, .string ch] w (EffPost w kind d i ch) :=
 Effect_some kind (efC_zero h).2.2.2 d (efC_zero h).2.2.1 i hi.small (efC_zero h).1 ch (efC_zero h).2.1 hcz hne w ht
theorem Effect39b_some (kind : Int) (d : Int) (i : Inst) (ch : ByteArray) (hi : i.tiny) (hcz : ch.size ≤ 1000) (h : efC kind d i ch = 0) (hne : ch ≠ ⟨#[]⟩) (w : World) :
 Calls Tryz.prog 31 #[.int .i64 kind, .int .i64 d, i.enc, .string ch] w (EffPost w kind d i ch) :=
 Effect39_some kind (efC_zero h).2.2.2 d (efC_zero h).2.2.1 i hi (efC_zero h).1 ch (efC_zero h).2.1 hcz hne w
def dayX (ds : List Int) : Int := if ds.length = 0 then 19000 else ith ds 0
noncomputable abbrev effV (kind d : Int) (i : Inst) (B : Nat) : Array Value := #[.int .i64 kind, .int .i64 d, .string (causeB d i.id), .string i.id, .string ⟨#[]⟩, .string i.cur, .slice (some ⟨B, 0, none⟩) 1 1]
abbrev termB (ch : ByteArray) : Obj := .cells #[.string ⟨#[97, 109, 111, 117, 110, 116]⟩, .string ch] 57 (0, 0)
theorem lots_zero (i : Inst) (l : Lot) (A : Option Addr) (ds : List Int) (c : Nat) (hlm : ds.length ≤ 9223372036854775807) (kind : Int) (ch : ByteArray) (h0 : efC kind (dayX ds) i ch ≠ 0 ∨ ch = ⟨#[]⟩) (w : World) (hR : RdD w A ds) (ht : Tabs w) :
 Calls Tryz.prog 5 #[i.enc, l.enc, .slice A ds.length c, .int .i64 kind, .string ch] w (TruePost w) := by
 have HT := Lib.hid ht
 have HR := Lib.hid hR
 have HH := Lib.hid (h0)
 clear h0
 obtain ⟨W0, hW0, hB0, k0, k1⟩ := ilbox i l w
 obtain ⟨c0, c1, c2, c3, c4, c5, c6, c7, c8, c9, c10, c11, c12, c13, c14⟩ := cells15 k0
 obtain ⟨o0, o1, o2, o3, o4, o5, o6⟩ := cells7 k1
 have HG0 : Hid (PG w i l W0) := ⟨k0, k1, hB0⟩
 have HGR := Lib.hid (great39_any i (some ⟨W0.heap.size, 0, none⟩) [l] 1 (by simp) _ (rdl_one W0 l))
 have HG1 := Lib.hid (HG0.out.below ((Below.refl _ _).alloc (Nat.le_refl _) (.cells l.cells 39)))
 clear hB0 k0 k1 ht hR HG0
 unfold Inst.enc Inst.cells Lot.enc Lot.cells at *
 go_enter Tryz.func5, Tryz.ntmps5
 go_wp2_with fail
 refine HGR.out.mono ?_
 rintro e w2 ⟨g, rfl, hg, b2⟩
 have HG2 := Lib.hid (HG1.out.below b2)
 have HV := Lib.hid hg
 clear b2 hg HG1 HGR hW0 c0 c1 c2 c3 c4 c5 c6 c7 c8 c9 c10 c11 c12 c13 c14 o0 o1 o2 o3 o4 o5 o6
 cases g
 case true =>
  go_wp2_with fail
  refine (awake_any _ (HT.out.below HG2.out.bel)).mono ?_
  rintro e wz ⟨rfl, bz⟩
  have HZ := Lib.hid (HG2.out.bel.trans (bz.mono HG2.out.bel.size))
  clear bz
  go_wp2_with fail
  go_ret
  exact ⟨rfl, HZ.out⟩
 have hv := HV.out rfl
 clear HV
 obtain ⟨v1, _, v5⟩ := hv
 have HTI := Lib.hid v1
 have HTL := Lib.hid (v5 l (by simp))
 clear v1 v5
 by_cases hz : 12 < ds.length
 ·have t1 : decide ((12 : Int) < (ds.length : Int)) = true := decide_eq_true (by omega)
  clear hz
  go_wp2_with fail
  refine (awake_any _ (HT.out.below HG2.out.bel)).mono ?_
  rintro e wz ⟨rfl, bz⟩
  have HZ := Lib.hid (HG2.out.bel.trans (bz.mono HG2.out.bel.size))
  clear bz
  go_wp2_with fail
  go_ret
  exact ⟨rfl, HZ.out⟩
 have t1 : decide ((12 : Int) < (ds.length : Int)) = false := decide_eq_false (by omega)
 have hlz : ds.length ≤ 12 := by omega
 clear hz
 by_cases hz : 13 < ch.size
 ·have t2 : decide ((13 : Int) < (ch.size : Int)) = true := decide_eq_true (by omega)
  clear hz
  go_wp2_with fail
  refine (awake_any _ (HT.out.below HG2.out.bel)).mono ?_
  rintro e wz ⟨rfl, bz⟩
  have HZ := Lib.hid (HG2.out.bel.trans (bz.mono HG2.out.bel.size))
  clear bz
  go_wp2_with fail
  go_ret
  exact ⟨rfl, HZ.out⟩
 have t2 : decide ((13 : Int) < (ch.size : Int)) = false := decide_eq_false (by omega)
 have hcz : ch.size ≤ 13 := by omega
 clear hz
 have u1 := t1
 have u2 := t2
 clear t1 t2
 obtain ⟨d, hd⟩ : ∃ d, dayX ds = d := ⟨_, rfl⟩
 have hd0 := hd
 rw [hd] at HH
 clear hd
 unfold dayX at hd0
 rcases Nat.eq_zero_or_pos ds.length with h | h
 ·rw [if_pos h] at hd0
  have t1 : decide ((0 : Int) < (ds.length : Int)) = false := decide_eq_false (by omega)
  have t1' : decide (0 < ds.length) = false := decide_eq_false (by omega)
  have HD0 := Lib.hid hd0
  clear hd0 h
  go_upto_region 6 with fail
  rw [show Value.int IntKind.i64 19000 = Value.int IntKind.i64 d from by rw [HD0.out]]
  clear t1 t1' HD0 u1 u2
  as_aux_lemma =>
   have HA1 := fun W hW => Amortized_both i l d HTI.out HTL.out W hW
   have HA2 := fun W hW => Amortized39_both i l d HTI.out HTL.out W hW
   obtain ⟨sa, hsa⟩ : ∃ sa, amS i l d = sa := ⟨_, rfl⟩
   obtain ⟨na, hna⟩ : ∃ na, achk i l [d] = na := ⟨_, rfl⟩
   rw [hsa, hna] at HA1 HA2
   unfold Inst.enc Inst.cells Lot.enc Lot.cells at HA1 HA2
   replace HA1 := Lib.hid HA1
   replace HA2 := Lib.hid HA2
   have HP1 := fun W (hb : Below w.heap.size w W) => Plan_both i l A ds c (by omega) HTI.out HTL.out W (HR.out.below hb) (HT.out.below hb)
   have HP2 := fun W (hb : Below w.heap.size w W) => Plan39_both i l A ds c (by omega) HTI.out HTL.out W (HR.out.below hb) (HT.out.below hb)
   unfold PlPost at HP1 HP2
   have hpl := plN_le i l ds
   obtain ⟨np, hnp⟩ : ∃ np, plN i l ds = np := ⟨_, rfl⟩
   obtain ⟨cp, hcp⟩ : ∃ cp, plC i l ds = cp := ⟨_, rfl⟩
   obtain ⟨fp, hfp⟩ : ∃ fp, plF i l ds = fp := ⟨_, rfl⟩
   rw [hnp, hcp, hfp] at HP1 HP2
   rw [hnp] at hpl
   unfold Inst.enc Inst.cells Lot.enc Lot.cells at HP1 HP2
   replace HP1 := Lib.hid HP1
   replace HP2 := Lib.hid HP2
   have HE1 := fun W hW => Effectb_zero kind d i ch HTI.out (by omega) HH.out W hW
   have HE2 := fun W hW => Effect39b_zero kind d i ch HTI.out (by omega) HH.out W hW
   obtain ⟨ne, hne⟩ : ∃ ne, efC kind d i ch = ne := ⟨_, rfl⟩
   rw [hne] at HE1 HE2
   unfold Inst.enc Inst.cells effZero at HE1 HE2
   replace HE1 := Lib.hid HE1
   replace HE2 := Lib.hid HE2
   clear hne
   clear hsa hna hnp hcp hfp HTI HTL HH HR
   have HG := HG2
   clear HG2
   obtain ⟨c0, c1, c2, c3, c4, c5, c6, c7, c8, c9, c10, c11, c12, c13, c14, o0, o1, o2, o3, o4, o5, o6⟩ := HG.out.c22
   go_wp2_with fail
   refine (HA1.out _ (HT.out.below HG.out.bel)).mono ?_
   rintro e wn ⟨rfl, bn⟩
   replace HG := Lib.hid (HG.out.below bn)
   clear c0 c1 c2 c3 c4 c5 c6 c7 c8 c9 c10 c11 c12 c13 c14 o0 o1 o2 o3 o4 o5 o6
   clear bn HA1
   obtain ⟨c0, c1, c2, c3, c4, c5, c6, c7, c8, c9, c10, c11, c12, c13, c14, o0, o1, o2, o3, o4, o5, o6⟩ := HG.out.c22
   go_wp2_with fail
   refine (HA2.out _ (HT.out.below HG.out.bel)).mono ?_
   rintro e wn ⟨rfl, bn⟩
   replace HG := Lib.hid (HG.out.below bn)
   clear c0 c1 c2 c3 c4 c5 c6 c7 c8 c9 c10 c11 c12 c13 c14 o0 o1 o2 o3 o4 o5 o6
   clear bn HA2
   obtain ⟨c0, c1, c2, c3, c4, c5, c6, c7, c8, c9, c10, c11, c12, c13, c14, o0, o1, o2, o3, o4, o5, o6⟩ := HG.out.c22
   go_wp2_with fail
   as_aux_lemma =>
    refine (HP1.out _ HG.out.bel).mono ?_
    rintro e wn ⟨A1, cc1, rfl, hp1, bn⟩
    replace HG := Lib.hid (HG.out.below bn)
    have HP1 := Lib.hid hp1
    clear c0 c1 c2 c3 c4 c5 c6 c7 c8 c9 c10 c11 c12 c13 c14 o0 o1 o2 o3 o4 o5 o6
    clear bn hp1
    obtain ⟨c0, c1, c2, c3, c4, c5, c6, c7, c8, c9, c10, c11, c12, c13, c14, o0, o1, o2, o3, o4, o5, o6⟩ := HG.out.c22
    go_wp2_with fail
    refine (HP2.out _ HG.out.bel).mono ?_
    rintro e wn ⟨A2, cc2, rfl, hp2, bn⟩
    replace HG := Lib.hid (HG.out.below bn)
    replace HP1 := Lib.hid (HP1.out.below bn)
    have HP2 := Lib.hid hp2
    clear c0 c1 c2 c3 c4 c5 c6 c7 c8 c9 c10 c11 c12 c13 c14 o0 o1 o2 o3 o4 o5 o6
    clear bn hp2
    obtain ⟨c0, c1, c2, c3, c4, c5, c6, c7, c8, c9, c10, c11, c12, c13, c14, o0, o1, o2, o3, o4, o5, o6⟩ := HG.out.c22
    go_wp2_with fail
    as_aux_lemma =>
     refine (HE1.out _ (HT.out.below HG.out.bel)).mono ?_
     rintro e wn ⟨rfl, bn⟩
     replace HG := Lib.hid (HG.out.below bn)
     replace HP1 := Lib.hid (HP1.out.below bn)
     replace HP2 := Lib.hid (HP2.out.below bn)
     clear c0 c1 c2 c3 c4 c5 c6 c7 c8 c9 c10 c11 c12 c13 c14 o0 o1 o2 o3 o4 o5 o6
     clear bn HE1
     go_upto_region 11 with fail
     have hx := heap_alloc_new wn (Obj.cells #[.int .i64 0, .int .i64 0, .string ⟨#[]⟩, .string ⟨#[]⟩, .string ⟨#[]⟩, .string ⟨#[]⟩, .slice none 0 0] 50)
     have bn : Below wn.heap.size wn (wn.alloc (Obj.cells #[.int .i64 0, .int .i64 0, .string ⟨#[]⟩, .string ⟨#[]⟩, .string ⟨#[]⟩, .string ⟨#[]⟩, .slice none 0 0] 50)) := (Below.refl _ _).alloc (Nat.le_refl _) _
     replace HG := Lib.hid (HG.out.below bn)
     replace HP1 := Lib.hid (HP1.out.below bn)
     replace HP2 := Lib.hid (HP2.out.below bn)
     generalize wn.heap.size = X1 at hx ⊢
     generalize wn.alloc (Obj.cells #[.int .i64 0, .int .i64 0, .string ⟨#[]⟩, .string ⟨#[]⟩, .string ⟨#[]⟩, .string ⟨#[]⟩, .slice none 0 0] 50) = wx at *
     have HX1 := Lib.hid hx
     clear hx bn
     clear wn
     obtain ⟨c0, c1, c2, c3, c4, c5, c6, c7, c8, c9, c10, c11, c12, c13, c14, o0, o1, o2, o3, o4, o5, o6⟩ := HG.out.c22
     go_wp2_with fail
     as_aux_lemma =>
      refine (HE2.out _ (HT.out.below HG.out.bel)).mono ?_
      rintro e wn ⟨rfl, bn⟩
      replace HG := Lib.hid (HG.out.below bn)
      replace HP1 := Lib.hid (HP1.out.below bn)
      replace HP2 := Lib.hid (HP2.out.below bn)
      replace HX1 := Lib.hid (blk bn HX1.out)
      clear c0 c1 c2 c3 c4 c5 c6 c7 c8 c9 c10 c11 c12 c13 c14 o0 o1 o2 o3 o4 o5 o6
      clear bn HE2
      go_upto_region 12 with fail
      have hx := heap_alloc_new wn (Obj.cells #[.int .i64 0, .int .i64 0, .string ⟨#[]⟩, .string ⟨#[]⟩, .string ⟨#[]⟩, .string ⟨#[]⟩, .slice none 0 0] 50)
      have bn : Below wn.heap.size wn (wn.alloc (Obj.cells #[.int .i64 0, .int .i64 0, .string ⟨#[]⟩, .string ⟨#[]⟩, .string ⟨#[]⟩, .string ⟨#[]⟩, .slice none 0 0] 50)) := (Below.refl _ _).alloc (Nat.le_refl _) _
      replace HG := Lib.hid (HG.out.below bn)
      replace HP1 := Lib.hid (HP1.out.below bn)
      replace HP2 := Lib.hid (HP2.out.below bn)
      replace HX1 := Lib.hid (blk bn HX1.out)
      generalize wn.heap.size = X2 at hx ⊢
      generalize wn.alloc (Obj.cells #[.int .i64 0, .int .i64 0, .string ⟨#[]⟩, .string ⟨#[]⟩, .string ⟨#[]⟩, .string ⟨#[]⟩, .slice none 0 0] 50) = wx at *
      have HX2 := Lib.hid hx
      clear hx bn
      clear wn
      go_wp2_with fail
      as_aux_lemma =>
       refine (eqInts_any A1 A2 np cc1 cc2 fp (by omega) _ (RdP.two HP1.out HP2.out)).mono ?_
       rintro e wn ⟨rfl, bn⟩
       replace HG := Lib.hid (HG.out.below bn)
       replace HP1 := Lib.hid (HP1.out.below bn)
       replace HP2 := Lib.hid (HP2.out.below bn)
       replace HX1 := Lib.hid (blk bn HX1.out)
       replace HX2 := Lib.hid (blk bn HX2.out)
       clear bn
       have x0 := Lib.cell_of_heap HX1.out 0
       have y0 := Lib.cell_of_heap HX2.out 0
       have x1 := Lib.cell_of_heap HX1.out 1
       have y1 := Lib.cell_of_heap HX2.out 1
       have x2 := Lib.cell_of_heap HX1.out 2
       have y2 := Lib.cell_of_heap HX2.out 2
       have x3 := Lib.cell_of_heap HX1.out 3
       have y3 := Lib.cell_of_heap HX2.out 3
       have x4 := Lib.cell_of_heap HX1.out 4
       have y4 := Lib.cell_of_heap HX2.out 4
       have x5 := Lib.cell_of_heap HX1.out 5
       have y5 := Lib.cell_of_heap HX2.out 5
       have x6 := Lib.cell_of_heap HX1.out 6
       have y6 := Lib.cell_of_heap HX2.out 6
       simp at x0 y0 x1 y1 x2 y2 x3 y3 x4 y4 x5 y5 x6 y6
       go_wp2_with fail
       refine (SameEffect39_zero _).mono ?_
       rintro e wn2 ⟨rfl, bn⟩
       replace HG := Lib.hid (HG.out.below bn)
       replace HP1 := Lib.hid (HP1.out.below bn)
       replace HP2 := Lib.hid (HP2.out.below bn)
       replace HX1 := Lib.hid (blk bn HX1.out)
       replace HX2 := Lib.hid (blk bn HX2.out)
       clear bn x0 y0 x1 y1 x2 y2 x3 y3 x4 y4 x5 y5 x6 y6
       go_wp2_with fail
       refine (awake_any _ (HT.out.below HG.out.bel)).mono ?_
       rintro e wz ⟨rfl, bz⟩
       have HZ := Lib.hid (HG.out.bel.trans (bz.mono HG.out.bel.size))
       clear bz
       go_wp2_with fail
       go_ret
       exact ⟨rfl, HZ.out⟩
 ·rw [if_neg (by omega)] at hd0
  have t1 : decide ((0 : Int) < (ds.length : Int)) = true := decide_eq_true (by omega)
  have t1' : decide (0 < ds.length) = true := decide_eq_true (by omega)
  obtain ⟨ad, rfl, had, hcell⟩ := HR.out.below HG2.out.bel (by intro e; rw [e] at h; cases h)
  have ck := hcell 0 h
  rw [hd0] at ck
  have ck' : w2.cell? ad = some (.int .i64 d) := by simpa [Addr.add] using ck
  clear hcell had hd0
  have hb : (0 : Int) < (ds.length : Int) := by omega
  clear h
  go_upto_region 6 with fail
  clear t1 t1' ck ck' hb u1 u2
  as_aux_lemma =>
   have HA1 := fun W hW => Amortized_both i l d HTI.out HTL.out W hW
   have HA2 := fun W hW => Amortized39_both i l d HTI.out HTL.out W hW
   obtain ⟨sa, hsa⟩ : ∃ sa, amS i l d = sa := ⟨_, rfl⟩
   obtain ⟨na, hna⟩ : ∃ na, achk i l [d] = na := ⟨_, rfl⟩
   rw [hsa, hna] at HA1 HA2
   unfold Inst.enc Inst.cells Lot.enc Lot.cells at HA1 HA2
   replace HA1 := Lib.hid HA1
   replace HA2 := Lib.hid HA2
   have HP1 := fun W (hb : Below w.heap.size w W) => Plan_both i l (some ad) ds c (by omega) HTI.out HTL.out W (HR.out.below hb) (HT.out.below hb)
   have HP2 := fun W (hb : Below w.heap.size w W) => Plan39_both i l (some ad) ds c (by omega) HTI.out HTL.out W (HR.out.below hb) (HT.out.below hb)
   unfold PlPost at HP1 HP2
   have hpl := plN_le i l ds
   obtain ⟨np, hnp⟩ : ∃ np, plN i l ds = np := ⟨_, rfl⟩
   obtain ⟨cp, hcp⟩ : ∃ cp, plC i l ds = cp := ⟨_, rfl⟩
   obtain ⟨fp, hfp⟩ : ∃ fp, plF i l ds = fp := ⟨_, rfl⟩
   rw [hnp, hcp, hfp] at HP1 HP2
   rw [hnp] at hpl
   unfold Inst.enc Inst.cells Lot.enc Lot.cells at HP1 HP2
   replace HP1 := Lib.hid HP1
   replace HP2 := Lib.hid HP2
   have HE1 := fun W hW => Effectb_zero kind d i ch HTI.out (by omega) HH.out W hW
   have HE2 := fun W hW => Effect39b_zero kind d i ch HTI.out (by omega) HH.out W hW
   obtain ⟨ne, hne⟩ : ∃ ne, efC kind d i ch = ne := ⟨_, rfl⟩
   rw [hne] at HE1 HE2
   unfold Inst.enc Inst.cells effZero at HE1 HE2
   replace HE1 := Lib.hid HE1
   replace HE2 := Lib.hid HE2
   clear hne
   clear hsa hna hnp hcp hfp HTI HTL HH HR
   have HG := HG2
   clear HG2
   obtain ⟨c0, c1, c2, c3, c4, c5, c6, c7, c8, c9, c10, c11, c12, c13, c14, o0, o1, o2, o3, o4, o5, o6⟩ := HG.out.c22
   go_wp2_with fail
   refine (HA1.out _ (HT.out.below HG.out.bel)).mono ?_
   rintro e wn ⟨rfl, bn⟩
   replace HG := Lib.hid (HG.out.below bn)
   clear c0 c1 c2 c3 c4 c5 c6 c7 c8 c9 c10 c11 c12 c13 c14 o0 o1 o2 o3 o4 o5 o6
   clear bn HA1
   obtain ⟨c0, c1, c2, c3, c4, c5, c6, c7, c8, c9, c10, c11, c12, c13, c14, o0, o1, o2, o3, o4, o5, o6⟩ := HG.out.c22
   go_wp2_with fail
   refine (HA2.out _ (HT.out.below HG.out.bel)).mono ?_
   rintro e wn ⟨rfl, bn⟩
   replace HG := Lib.hid (HG.out.below bn)
   clear c0 c1 c2 c3 c4 c5 c6 c7 c8 c9 c10 c11 c12 c13 c14 o0 o1 o2 o3 o4 o5 o6
   clear bn HA2
   obtain ⟨c0, c1, c2, c3, c4, c5, c6, c7, c8, c9, c10, c11, c12, c13, c14, o0, o1, o2, o3, o4, o5, o6⟩ := HG.out.c22
   go_wp2_with fail
   as_aux_lemma =>
    refine (HP1.out _ HG.out.bel).mono ?_
    rintro e wn ⟨A1, cc1, rfl, hp1, bn⟩
    replace HG := Lib.hid (HG.out.below bn)
    have HP1 := Lib.hid hp1
    clear c0 c1 c2 c3 c4 c5 c6 c7 c8 c9 c10 c11 c12 c13 c14 o0 o1 o2 o3 o4 o5 o6
    clear bn hp1
    obtain ⟨c0, c1, c2, c3, c4, c5, c6, c7, c8, c9, c10, c11, c12, c13, c14, o0, o1, o2, o3, o4, o5, o6⟩ := HG.out.c22
    go_wp2_with fail
    refine (HP2.out _ HG.out.bel).mono ?_
    rintro e wn ⟨A2, cc2, rfl, hp2, bn⟩
    replace HG := Lib.hid (HG.out.below bn)
    replace HP1 := Lib.hid (HP1.out.below bn)
    have HP2 := Lib.hid hp2
    clear c0 c1 c2 c3 c4 c5 c6 c7 c8 c9 c10 c11 c12 c13 c14 o0 o1 o2 o3 o4 o5 o6
    clear bn hp2
    obtain ⟨c0, c1, c2, c3, c4, c5, c6, c7, c8, c9, c10, c11, c12, c13, c14, o0, o1, o2, o3, o4, o5, o6⟩ := HG.out.c22
    go_wp2_with fail
    as_aux_lemma =>
     refine (HE1.out _ (HT.out.below HG.out.bel)).mono ?_
     rintro e wn ⟨rfl, bn⟩
     replace HG := Lib.hid (HG.out.below bn)
     replace HP1 := Lib.hid (HP1.out.below bn)
     replace HP2 := Lib.hid (HP2.out.below bn)
     clear c0 c1 c2 c3 c4 c5 c6 c7 c8 c9 c10 c11 c12 c13 c14 o0 o1 o2 o3 o4 o5 o6
     clear bn HE1
     go_upto_region 11 with fail
     have hx := heap_alloc_new wn (Obj.cells #[.int .i64 0, .int .i64 0, .string ⟨#[]⟩, .string ⟨#[]⟩, .string ⟨#[]⟩, .string ⟨#[]⟩, .slice none 0 0] 50)
     have bn : Below wn.heap.size wn (wn.alloc (Obj.cells #[.int .i64 0, .int .i64 0, .string ⟨#[]⟩, .string ⟨#[]⟩, .string ⟨#[]⟩, .string ⟨#[]⟩, .slice none 0 0] 50)) := (Below.refl _ _).alloc (Nat.le_refl _) _
     replace HG := Lib.hid (HG.out.below bn)
     replace HP1 := Lib.hid (HP1.out.below bn)
     replace HP2 := Lib.hid (HP2.out.below bn)
     generalize wn.heap.size = X1 at hx ⊢
     generalize wn.alloc (Obj.cells #[.int .i64 0, .int .i64 0, .string ⟨#[]⟩, .string ⟨#[]⟩, .string ⟨#[]⟩, .string ⟨#[]⟩, .slice none 0 0] 50) = wx at *
     have HX1 := Lib.hid hx
     clear hx bn
     clear wn
     obtain ⟨c0, c1, c2, c3, c4, c5, c6, c7, c8, c9, c10, c11, c12, c13, c14, o0, o1, o2, o3, o4, o5, o6⟩ := HG.out.c22
     go_wp2_with fail
     as_aux_lemma =>
      refine (HE2.out _ (HT.out.below HG.out.bel)).mono ?_
      rintro e wn ⟨rfl, bn⟩
      replace HG := Lib.hid (HG.out.below bn)
      replace HP1 := Lib.hid (HP1.out.below bn)
      replace HP2 := Lib.hid (HP2.out.below bn)
      replace HX1 := Lib.hid (blk bn HX1.out)
      clear c0 c1 c2 c3 c4 c5 c6 c7 c8 c9 c10 c11 c12 c13 c14 o0 o1 o2 o3 o4 o5 o6
      clear bn HE2
      go_upto_region 12 with fail
      have hx := heap_alloc_new wn (Obj.cells #[.int .i64 0, .int .i64 0, .string ⟨#[]⟩, .string ⟨#[]⟩, .string ⟨#[]⟩, .string ⟨#[]⟩, .slice none 0 0] 50)
      have bn : Below wn.heap.size wn (wn.alloc (Obj.cells #[.int .i64 0, .int .i64 0, .string ⟨#[]⟩, .string ⟨#[]⟩, .string ⟨#[]⟩, .string ⟨#[]⟩, .slice none 0 0] 50)) := (Below.refl _ _).alloc (Nat.le_refl _) _
      replace HG := Lib.hid (HG.out.below bn)
      replace HP1 := Lib.hid (HP1.out.below bn)
      replace HP2 := Lib.hid (HP2.out.below bn)
      replace HX1 := Lib.hid (blk bn HX1.out)
      generalize wn.heap.size = X2 at hx ⊢
      generalize wn.alloc (Obj.cells #[.int .i64 0, .int .i64 0, .string ⟨#[]⟩, .string ⟨#[]⟩, .string ⟨#[]⟩, .string ⟨#[]⟩, .slice none 0 0] 50) = wx at *
      have HX2 := Lib.hid hx
      clear hx bn
      clear wn
      go_wp2_with fail
      as_aux_lemma =>
       refine (eqInts_any A1 A2 np cc1 cc2 fp (by omega) _ (RdP.two HP1.out HP2.out)).mono ?_
       rintro e wn ⟨rfl, bn⟩
       replace HG := Lib.hid (HG.out.below bn)
       replace HP1 := Lib.hid (HP1.out.below bn)
       replace HP2 := Lib.hid (HP2.out.below bn)
       replace HX1 := Lib.hid (blk bn HX1.out)
       replace HX2 := Lib.hid (blk bn HX2.out)
       clear bn
       have x0 := Lib.cell_of_heap HX1.out 0
       have y0 := Lib.cell_of_heap HX2.out 0
       have x1 := Lib.cell_of_heap HX1.out 1
       have y1 := Lib.cell_of_heap HX2.out 1
       have x2 := Lib.cell_of_heap HX1.out 2
       have y2 := Lib.cell_of_heap HX2.out 2
       have x3 := Lib.cell_of_heap HX1.out 3
       have y3 := Lib.cell_of_heap HX2.out 3
       have x4 := Lib.cell_of_heap HX1.out 4
       have y4 := Lib.cell_of_heap HX2.out 4
       have x5 := Lib.cell_of_heap HX1.out 5
       have y5 := Lib.cell_of_heap HX2.out 5
       have x6 := Lib.cell_of_heap HX1.out 6
       have y6 := Lib.cell_of_heap HX2.out 6
       simp at x0 y0 x1 y1 x2 y2 x3 y3 x4 y4 x5 y5 x6 y6
       go_wp2_with fail
       refine (SameEffect39_zero _).mono ?_
       rintro e wn2 ⟨rfl, bn⟩
       replace HG := Lib.hid (HG.out.below bn)
       replace HP1 := Lib.hid (HP1.out.below bn)
       replace HP2 := Lib.hid (HP2.out.below bn)
       replace HX1 := Lib.hid (blk bn HX1.out)
       replace HX2 := Lib.hid (blk bn HX2.out)
       clear bn x0 y0 x1 y1 x2 y2 x3 y3 x4 y4 x5 y5 x6 y6
       go_wp2_with fail
       refine (awake_any _ (HT.out.below HG.out.bel)).mono ?_
       rintro e wz ⟨rfl, bz⟩
       have HZ := Lib.hid (HG.out.bel.trans (bz.mono HG.out.bel.size))
       clear bz
       go_wp2_with fail
       go_ret
       exact ⟨rfl, HZ.out⟩
theorem lots_some (i : Inst) (l : Lot) (A : Option Addr) (ds : List Int) (c : Nat) (hlm : ds.length ≤ 9223372036854775807) (kind : Int) (ch : ByteArray) (h0 : efC kind (dayX ds) i ch = 0) (hne : ch ≠ ⟨#[]⟩) (w : World) (hR : RdD w A ds) (ht : Tabs w) :
 Calls Tryz.prog 5 #[i.enc, l.enc, .slice A ds.length c, .int .i64 kind, .string ch] w (TruePost w) := by
 have HT := Lib.hid ht
 have HR := Lib.hid hR
 have HH := Lib.hid (And.intro h0 hne)
 clear h0 hne
 obtain ⟨W0, hW0, hB0, k0, k1⟩ := ilbox i l w
 obtain ⟨c0, c1, c2, c3, c4, c5, c6, c7, c8, c9, c10, c11, c12, c13, c14⟩ := cells15 k0
 obtain ⟨o0, o1, o2, o3, o4, o5, o6⟩ := cells7 k1
 have HG0 : Hid (PG w i l W0) := ⟨k0, k1, hB0⟩
 have HGR := Lib.hid (great39_any i (some ⟨W0.heap.size, 0, none⟩) [l] 1 (by simp) _ (rdl_one W0 l))
 have HG1 := Lib.hid (HG0.out.below ((Below.refl _ _).alloc (Nat.le_refl _) (.cells l.cells 39)))
 clear hB0 k0 k1 ht hR HG0
 unfold Inst.enc Inst.cells Lot.enc Lot.cells at *
 go_enter Tryz.func5, Tryz.ntmps5
 go_wp2_with fail
 refine HGR.out.mono ?_
 rintro e w2 ⟨g, rfl, hg, b2⟩
 have HG2 := Lib.hid (HG1.out.below b2)
 have HV := Lib.hid hg
 clear b2 hg HG1 HGR hW0 c0 c1 c2 c3 c4 c5 c6 c7 c8 c9 c10 c11 c12 c13 c14 o0 o1 o2 o3 o4 o5 o6
 cases g
 case true =>
  go_wp2_with fail
  refine (awake_any _ (HT.out.below HG2.out.bel)).mono ?_
  rintro e wz ⟨rfl, bz⟩
  have HZ := Lib.hid (HG2.out.bel.trans (bz.mono HG2.out.bel.size))
  clear bz
  go_wp2_with fail
  go_ret
  exact ⟨rfl, HZ.out⟩
 have hv := HV.out rfl
 clear HV
 obtain ⟨v1, _, v5⟩ := hv
 have HTI := Lib.hid v1
 have HTL := Lib.hid (v5 l (by simp))
 clear v1 v5
 by_cases hz : 12 < ds.length
 ·have t1 : decide ((12 : Int) < (ds.length : Int)) = true := decide_eq_true (by omega)
  clear hz
  go_wp2_with fail
  refine (awake_any _ (HT.out.below HG2.out.bel)).mono ?_
  rintro e wz ⟨rfl, bz⟩
  have HZ := Lib.hid (HG2.out.bel.trans (bz.mono HG2.out.bel.size))
  clear bz
  go_wp2_with fail
  go_ret
  exact ⟨rfl, HZ.out⟩
 have t1 : decide ((12 : Int) < (ds.length : Int)) = false := decide_eq_false (by omega)
 have hlz : ds.length ≤ 12 := by omega
 clear hz
 by_cases hz : 13 < ch.size
 ·have t2 : decide ((13 : Int) < (ch.size : Int)) = true := decide_eq_true (by omega)
  clear hz
  go_wp2_with fail
  refine (awake_any _ (HT.out.below HG2.out.bel)).mono ?_
  rintro e wz ⟨rfl, bz⟩
  have HZ := Lib.hid (HG2.out.bel.trans (bz.mono HG2.out.bel.size))
  clear bz
  go_wp2_with fail
  go_ret
  exact ⟨rfl, HZ.out⟩
 have t2 : decide ((13 : Int) < (ch.size : Int)) = false := decide_eq_false (by omega)
 have hcz : ch.size ≤ 13 := by omega
 clear hz
 have u1 := t1
 have u2 := t2
 clear t1 t2
 obtain ⟨d, hd⟩ : ∃ d, dayX ds = d := ⟨_, rfl⟩
 have hd0 := hd
 rw [hd] at HH
 clear hd
 unfold dayX at hd0
 rcases Nat.eq_zero_or_pos ds.length with h | h
 ·rw [if_pos h] at hd0
  have t1 : decide ((0 : Int) < (ds.length : Int)) = false := decide_eq_false (by omega)
  have t1' : decide (0 < ds.length) = false := decide_eq_false (by omega)
  have HD0 := Lib.hid hd0
  clear hd0 h
  go_upto_region 6 with fail
  rw [show Value.int IntKind.i64 19000 = Value.int IntKind.i64 d from by rw [HD0.out]]
  clear t1 t1' HD0 u1 u2
  as_aux_lemma =>
   have HA1 := fun W hW => Amortized_both i l d HTI.out HTL.out W hW
   have HA2 := fun W hW => Amortized39_both i l d HTI.out HTL.out W hW
   obtain ⟨sa, hsa⟩ : ∃ sa, amS i l d = sa := ⟨_, rfl⟩
   obtain ⟨na, hna⟩ : ∃ na, achk i l [d] = na := ⟨_, rfl⟩
   rw [hsa, hna] at HA1 HA2
   unfold Inst.enc Inst.cells Lot.enc Lot.cells at HA1 HA2
   replace HA1 := Lib.hid HA1
   replace HA2 := Lib.hid HA2
   have HP1 := fun W (hb : Below w.heap.size w W) => Plan_both i l A ds c (by omega) HTI.out HTL.out W (HR.out.below hb) (HT.out.below hb)
   have HP2 := fun W (hb : Below w.heap.size w W) => Plan39_both i l A ds c (by omega) HTI.out HTL.out W (HR.out.below hb) (HT.out.below hb)
   unfold PlPost at HP1 HP2
   have hpl := plN_le i l ds
   obtain ⟨np, hnp⟩ : ∃ np, plN i l ds = np := ⟨_, rfl⟩
   obtain ⟨cp, hcp⟩ : ∃ cp, plC i l ds = cp := ⟨_, rfl⟩
   obtain ⟨fp, hfp⟩ : ∃ fp, plF i l ds = fp := ⟨_, rfl⟩
   rw [hnp, hcp, hfp] at HP1 HP2
   rw [hnp] at hpl
   unfold Inst.enc Inst.cells Lot.enc Lot.cells at HP1 HP2
   replace HP1 := Lib.hid HP1
   replace HP2 := Lib.hid HP2
   have HE1 := fun W hW => Effectb_some kind d i ch HTI.out (by omega) HH.out.1 HH.out.2 W hW
   have HE2 := fun W => Effect39b_some kind d i ch HTI.out (by omega) HH.out.1 HH.out.2 W
   unfold EffPost at HE1 HE2
   unfold Inst.enc Inst.cells at HE1 HE2
   obtain ⟨cau, hcau⟩ : ∃ cau, causeB d i.id = cau := ⟨_, rfl⟩
   rw [hcau] at HE1 HE2
   replace HE1 := Lib.hid HE1
   replace HE2 := Lib.hid HE2
   clear hcau
   clear hsa hna hnp hcp hfp HTI HTL HH HR
   have HG := HG2
   clear HG2
   obtain ⟨c0, c1, c2, c3, c4, c5, c6, c7, c8, c9, c10, c11, c12, c13, c14, o0, o1, o2, o3, o4, o5, o6⟩ := HG.out.c22
   go_wp2_with fail
   refine (HA1.out _ (HT.out.below HG.out.bel)).mono ?_
   rintro e wn ⟨rfl, bn⟩
   replace HG := Lib.hid (HG.out.below bn)
   clear c0 c1 c2 c3 c4 c5 c6 c7 c8 c9 c10 c11 c12 c13 c14 o0 o1 o2 o3 o4 o5 o6
   clear bn HA1
   obtain ⟨c0, c1, c2, c3, c4, c5, c6, c7, c8, c9, c10, c11, c12, c13, c14, o0, o1, o2, o3, o4, o5, o6⟩ := HG.out.c22
   go_wp2_with fail
   refine (HA2.out _ (HT.out.below HG.out.bel)).mono ?_
   rintro e wn ⟨rfl, bn⟩
   replace HG := Lib.hid (HG.out.below bn)
   clear c0 c1 c2 c3 c4 c5 c6 c7 c8 c9 c10 c11 c12 c13 c14 o0 o1 o2 o3 o4 o5 o6
   clear bn HA2
   obtain ⟨c0, c1, c2, c3, c4, c5, c6, c7, c8, c9, c10, c11, c12, c13, c14, o0, o1, o2, o3, o4, o5, o6⟩ := HG.out.c22
   go_wp2_with fail
   as_aux_lemma =>
    refine (HP1.out _ HG.out.bel).mono ?_
    rintro e wn ⟨A1, cc1, rfl, hp1, bn⟩
    replace HG := Lib.hid (HG.out.below bn)
    have HP1 := Lib.hid hp1
    clear c0 c1 c2 c3 c4 c5 c6 c7 c8 c9 c10 c11 c12 c13 c14 o0 o1 o2 o3 o4 o5 o6
    clear bn hp1
    obtain ⟨c0, c1, c2, c3, c4, c5, c6, c7, c8, c9, c10, c11, c12, c13, c14, o0, o1, o2, o3, o4, o5, o6⟩ := HG.out.c22
    go_wp2_with fail
    refine (HP2.out _ HG.out.bel).mono ?_
    rintro e wn ⟨A2, cc2, rfl, hp2, bn⟩
    replace HG := Lib.hid (HG.out.below bn)
    replace HP1 := Lib.hid (HP1.out.below bn)
    have HP2 := Lib.hid hp2
    clear c0 c1 c2 c3 c4 c5 c6 c7 c8 c9 c10 c11 c12 c13 c14 o0 o1 o2 o3 o4 o5 o6
    clear bn hp2
    obtain ⟨c0, c1, c2, c3, c4, c5, c6, c7, c8, c9, c10, c11, c12, c13, c14, o0, o1, o2, o3, o4, o5, o6⟩ := HG.out.c22
    go_wp2_with fail
    as_aux_lemma =>
     refine (HE1.out _ (HT.out.below HG.out.bel)).mono ?_
     rintro e wn ⟨T1, rfl, ht1, _, bn⟩
     replace HG := Lib.hid (HG.out.below bn)
     replace HP1 := Lib.hid (HP1.out.below bn)
     replace HP2 := Lib.hid (HP2.out.below bn)
     have HT1 := Lib.hid ht1
     clear c0 c1 c2 c3 c4 c5 c6 c7 c8 c9 c10 c11 c12 c13 c14 o0 o1 o2 o3 o4 o5 o6
     clear bn ht1 HE1
     go_upto_region 11 with fail
     have hx := heap_alloc_new wn (Obj.cells #[.int .i64 kind, .int .i64 d, .string cau, .string i.id, .string ⟨#[]⟩, .string i.cur, .slice (some ⟨T1, 0, none⟩) 1 1] 50)
     have bn : Below wn.heap.size wn (wn.alloc (Obj.cells #[.int .i64 kind, .int .i64 d, .string cau, .string i.id, .string ⟨#[]⟩, .string i.cur, .slice (some ⟨T1, 0, none⟩) 1 1] 50)) := (Below.refl _ _).alloc (Nat.le_refl _) _
     replace HG := Lib.hid (HG.out.below bn)
     replace HP1 := Lib.hid (HP1.out.below bn)
     replace HP2 := Lib.hid (HP2.out.below bn)
     replace HT1 := Lib.hid (blk bn HT1.out)
     generalize wn.heap.size = X1 at hx ⊢
     generalize wn.alloc (Obj.cells #[.int .i64 kind, .int .i64 d, .string cau, .string i.id, .string ⟨#[]⟩, .string i.cur, .slice (some ⟨T1, 0, none⟩) 1 1] 50) = wx at *
     have HX1 := Lib.hid hx
     clear hx bn
     clear wn
     obtain ⟨c0, c1, c2, c3, c4, c5, c6, c7, c8, c9, c10, c11, c12, c13, c14, o0, o1, o2, o3, o4, o5, o6⟩ := HG.out.c22
     go_wp2_with fail
     as_aux_lemma =>
      refine (HE2.out _).mono ?_
      rintro e wn ⟨T2, rfl, ht2, _, bn⟩
      replace HG := Lib.hid (HG.out.below bn)
      replace HP1 := Lib.hid (HP1.out.below bn)
      replace HP2 := Lib.hid (HP2.out.below bn)
      replace HT1 := Lib.hid (blk bn HT1.out)
      replace HX1 := Lib.hid (blk bn HX1.out)
      have HT2 := Lib.hid ht2
      clear c0 c1 c2 c3 c4 c5 c6 c7 c8 c9 c10 c11 c12 c13 c14 o0 o1 o2 o3 o4 o5 o6
      clear bn ht2 HE2
      go_upto_region 12 with fail
      have hx := heap_alloc_new wn (Obj.cells #[.int .i64 kind, .int .i64 d, .string cau, .string i.id, .string ⟨#[]⟩, .string i.cur, .slice (some ⟨T2, 0, none⟩) 1 1] 50)
      have bn : Below wn.heap.size wn (wn.alloc (Obj.cells #[.int .i64 kind, .int .i64 d, .string cau, .string i.id, .string ⟨#[]⟩, .string i.cur, .slice (some ⟨T2, 0, none⟩) 1 1] 50)) := (Below.refl _ _).alloc (Nat.le_refl _) _
      replace HG := Lib.hid (HG.out.below bn)
      replace HP1 := Lib.hid (HP1.out.below bn)
      replace HP2 := Lib.hid (HP2.out.below bn)
      replace HT1 := Lib.hid (blk bn HT1.out)
      replace HX1 := Lib.hid (blk bn HX1.out)
      replace HT2 := Lib.hid (blk bn HT2.out)
      generalize wn.heap.size = X2 at hx ⊢
      generalize wn.alloc (Obj.cells #[.int .i64 kind, .int .i64 d, .string cau, .string i.id, .string ⟨#[]⟩, .string i.cur, .slice (some ⟨T2, 0, none⟩) 1 1] 50) = wx at *
      have HX2 := Lib.hid hx
      clear hx bn
      clear wn
      go_wp2_with fail
      as_aux_lemma =>
       refine (eqInts_any A1 A2 np cc1 cc2 fp (by omega) _ (RdP.two HP1.out HP2.out)).mono ?_
       rintro e wn ⟨rfl, bn⟩
       replace HG := Lib.hid (HG.out.below bn)
       replace HP1 := Lib.hid (HP1.out.below bn)
       replace HP2 := Lib.hid (HP2.out.below bn)
       replace HT1 := Lib.hid (blk bn HT1.out)
       replace HX1 := Lib.hid (blk bn HX1.out)
       replace HT2 := Lib.hid (blk bn HT2.out)
       replace HX2 := Lib.hid (blk bn HX2.out)
       clear bn
       have x0 := Lib.cell_of_heap HX1.out 0
       have y0 := Lib.cell_of_heap HX2.out 0
       have x1 := Lib.cell_of_heap HX1.out 1
       have y1 := Lib.cell_of_heap HX2.out 1
       have x2 := Lib.cell_of_heap HX1.out 2
       have y2 := Lib.cell_of_heap HX2.out 2
       have x3 := Lib.cell_of_heap HX1.out 3
       have y3 := Lib.cell_of_heap HX2.out 3
       have x4 := Lib.cell_of_heap HX1.out 4
       have y4 := Lib.cell_of_heap HX2.out 4
       have x5 := Lib.cell_of_heap HX1.out 5
       have y5 := Lib.cell_of_heap HX2.out 5
       have x6 := Lib.cell_of_heap HX1.out 6
       have y6 := Lib.cell_of_heap HX2.out 6
       simp at x0 y0 x1 y1 x2 y2 x3 y3 x4 y4 x5 y5 x6 y6
       go_wp2_with fail
       refine (SameEffect39_some kind d cau i.id ⟨#[]⟩ i.cur _ _ T1 T2 _ HT1.out HT2.out).mono ?_
       rintro e wn2 ⟨rfl, bn⟩
       replace HG := Lib.hid (HG.out.below bn)
       replace HP1 := Lib.hid (HP1.out.below bn)
       replace HP2 := Lib.hid (HP2.out.below bn)
       replace HT1 := Lib.hid (blk bn HT1.out)
       replace HX1 := Lib.hid (blk bn HX1.out)
       replace HT2 := Lib.hid (blk bn HT2.out)
       replace HX2 := Lib.hid (blk bn HX2.out)
       clear bn x0 y0 x1 y1 x2 y2 x3 y3 x4 y4 x5 y5 x6 y6
       go_wp2_with fail
       refine (awake_any _ (HT.out.below HG.out.bel)).mono ?_
       rintro e wz ⟨rfl, bz⟩
       have HZ := Lib.hid (HG.out.bel.trans (bz.mono HG.out.bel.size))
       clear bz
       go_wp2_with fail
       go_ret
       exact ⟨rfl, HZ.out⟩
 ·rw [if_neg (by omega)] at hd0
  have t1 : decide ((0 : Int) < (ds.length : Int)) = true := decide_eq_true (by omega)
  have t1' : decide (0 < ds.length) = true := decide_eq_true (by omega)
  obtain ⟨ad, rfl, had, hcell⟩ := HR.out.below HG2.out.bel (by intro e; rw [e] at h; cases h)
  have ck := hcell 0 h
  rw [hd0] at ck
  have ck' : w2.cell? ad = some (.int .i64 d) := by simpa [Addr.add] using ck
  clear hcell had hd0
  have hb : (0 : Int) < (ds.length : Int) := by omega
  clear h
  go_upto_region 6 with fail
  clear t1 t1' ck ck' hb u1 u2
  as_aux_lemma =>
   have HA1 := fun W hW => Amortized_both i l d HTI.out HTL.out W hW
   have HA2 := fun W hW => Amortized39_both i l d HTI.out HTL.out W hW
   obtain ⟨sa, hsa⟩ : ∃ sa, amS i l d = sa := ⟨_, rfl⟩
   obtain ⟨na, hna⟩ : ∃ na, achk i l [d] = na := ⟨_, rfl⟩
   rw [hsa, hna] at HA1 HA2
   unfold Inst.enc Inst.cells Lot.enc Lot.cells at HA1 HA2
   replace HA1 := Lib.hid HA1
   replace HA2 := Lib.hid HA2
   have HP1 := fun W (hb : Below w.heap.size w W) => Plan_both i l (some ad) ds c (by omega) HTI.out HTL.out W (HR.out.below hb) (HT.out.below hb)
   have HP2 := fun W (hb : Below w.heap.size w W) => Plan39_both i l (some ad) ds c (by omega) HTI.out HTL.out W (HR.out.below hb) (HT.out.below hb)
   unfold PlPost at HP1 HP2
   have hpl := plN_le i l ds
   obtain ⟨np, hnp⟩ : ∃ np, plN i l ds = np := ⟨_, rfl⟩
   obtain ⟨cp, hcp⟩ : ∃ cp, plC i l ds = cp := ⟨_, rfl⟩
   obtain ⟨fp, hfp⟩ : ∃ fp, plF i l ds = fp := ⟨_, rfl⟩
   rw [hnp, hcp, hfp] at HP1 HP2
   rw [hnp] at hpl
   unfold Inst.enc Inst.cells Lot.enc Lot.cells at HP1 HP2
   replace HP1 := Lib.hid HP1
   replace HP2 := Lib.hid HP2
   have HE1 := fun W hW => Effectb_some kind d i ch HTI.out (by omega) HH.out.1 HH.out.2 W hW
   have HE2 := fun W => Effect39b_some kind d i ch HTI.out (by omega) HH.out.1 HH.out.2 W
   unfold EffPost at HE1 HE2
   unfold Inst.enc Inst.cells at HE1 HE2
   obtain ⟨cau, hcau⟩ : ∃ cau, causeB d i.id = cau := ⟨_, rfl⟩
   rw [hcau] at HE1 HE2
   replace HE1 := Lib.hid HE1
   replace HE2 := Lib.hid HE2
   clear hcau
   clear hsa hna hnp hcp hfp HTI HTL HH HR
   have HG := HG2
   clear HG2
   obtain ⟨c0, c1, c2, c3, c4, c5, c6, c7, c8, c9, c10, c11, c12, c13, c14, o0, o1, o2, o3, o4, o5, o6⟩ := HG.out.c22
   go_wp2_with fail
   refine (HA1.out _ (HT.out.below HG.out.bel)).mono ?_
   rintro e wn ⟨rfl, bn⟩
   replace HG := Lib.hid (HG.out.below bn)
   clear c0 c1 c2 c3 c4 c5 c6 c7 c8 c9 c10 c11 c12 c13 c14 o0 o1 o2 o3 o4 o5 o6
   clear bn HA1
   obtain ⟨c0, c1, c2, c3, c4, c5, c6, c7, c8, c9, c10, c11, c12, c13, c14, o0, o1, o2, o3, o4, o5, o6⟩ := HG.out.c22
   go_wp2_with fail
   refine (HA2.out _ (HT.out.below HG.out.bel)).mono ?_
   rintro e wn ⟨rfl, bn⟩
   replace HG := Lib.hid (HG.out.below bn)
   clear c0 c1 c2 c3 c4 c5 c6 c7 c8 c9 c10 c11 c12 c13 c14 o0 o1 o2 o3 o4 o5 o6
   clear bn HA2
   obtain ⟨c0, c1, c2, c3, c4, c5, c6, c7, c8, c9, c10, c11, c12, c13, c14, o0, o1, o2, o3, o4, o5, o6⟩ := HG.out.c22
   go_wp2_with fail
   as_aux_lemma =>
    refine (HP1.out _ HG.out.bel).mono ?_
    rintro e wn ⟨A1, cc1, rfl, hp1, bn⟩
    replace HG := Lib.hid (HG.out.below bn)
    have HP1 := Lib.hid hp1
    clear c0 c1 c2 c3 c4 c5 c6 c7 c8 c9 c10 c11 c12 c13 c14 o0 o1 o2 o3 o4 o5 o6
    clear bn hp1
    obtain ⟨c0, c1, c2, c3, c4, c5, c6, c7, c8, c9, c10, c11, c12, c13, c14, o0, o1, o2, o3, o4, o5, o6⟩ := HG.out.c22
    go_wp2_with fail
    refine (HP2.out _ HG.out.bel).mono ?_
    rintro e wn ⟨A2, cc2, rfl, hp2, bn⟩
    replace HG := Lib.hid (HG.out.below bn)
    replace HP1 := Lib.hid (HP1.out.below bn)
    have HP2 := Lib.hid hp2
    clear c0 c1 c2 c3 c4 c5 c6 c7 c8 c9 c10 c11 c12 c13 c14 o0 o1 o2 o3 o4 o5 o6
    clear bn hp2
    obtain ⟨c0, c1, c2, c3, c4, c5, c6, c7, c8, c9, c10, c11, c12, c13, c14, o0, o1, o2, o3, o4, o5, o6⟩ := HG.out.c22
    go_wp2_with fail
    as_aux_lemma =>
     refine (HE1.out _ (HT.out.below HG.out.bel)).mono ?_
     rintro e wn ⟨T1, rfl, ht1, _, bn⟩
     replace HG := Lib.hid (HG.out.below bn)
     replace HP1 := Lib.hid (HP1.out.below bn)
     replace HP2 := Lib.hid (HP2.out.below bn)
     have HT1 := Lib.hid ht1
     clear c0 c1 c2 c3 c4 c5 c6 c7 c8 c9 c10 c11 c12 c13 c14 o0 o1 o2 o3 o4 o5 o6
     clear bn ht1 HE1
     go_upto_region 11 with fail
     have hx := heap_alloc_new wn (Obj.cells #[.int .i64 kind, .int .i64 d, .string cau, .string i.id, .string ⟨#[]⟩, .string i.cur, .slice (some ⟨T1, 0, none⟩) 1 1] 50)
     have bn : Below wn.heap.size wn (wn.alloc (Obj.cells #[.int .i64 kind, .int .i64 d, .string cau, .string i.id, .string ⟨#[]⟩, .string i.cur, .slice (some ⟨T1, 0, none⟩) 1 1] 50)) := (Below.refl _ _).alloc (Nat.le_refl _) _
     replace HG := Lib.hid (HG.out.below bn)
     replace HP1 := Lib.hid (HP1.out.below bn)
     replace HP2 := Lib.hid (HP2.out.below bn)
     replace HT1 := Lib.hid (blk bn HT1.out)
     generalize wn.heap.size = X1 at hx ⊢
     generalize wn.alloc (Obj.cells #[.int .i64 kind, .int .i64 d, .string cau, .string i.id, .string ⟨#[]⟩, .string i.cur, .slice (some ⟨T1, 0, none⟩) 1 1] 50) = wx at *
     have HX1 := Lib.hid hx
     clear hx bn
     clear wn
     obtain ⟨c0, c1, c2, c3, c4, c5, c6, c7, c8, c9, c10, c11, c12, c13, c14, o0, o1, o2, o3, o4, o5, o6⟩ := HG.out.c22
     go_wp2_with fail
     as_aux_lemma =>
      refine (HE2.out _).mono ?_
      rintro e wn ⟨T2, rfl, ht2, _, bn⟩
      replace HG := Lib.hid (HG.out.below bn)
      replace HP1 := Lib.hid (HP1.out.below bn)
      replace HP2 := Lib.hid (HP2.out.below bn)
      replace HT1 := Lib.hid (blk bn HT1.out)
      replace HX1 := Lib.hid (blk bn HX1.out)
      have HT2 := Lib.hid ht2
      clear c0 c1 c2 c3 c4 c5 c6 c7 c8 c9 c10 c11 c12 c13 c14 o0 o1 o2 o3 o4 o5 o6
      clear bn ht2 HE2
      go_upto_region 12 with fail
      have hx := heap_alloc_new wn (Obj.cells #[.int .i64 kind, .int .i64 d, .string cau, .string i.id, .string ⟨#[]⟩, .string i.cur, .slice (some ⟨T2, 0, none⟩) 1 1] 50)
      have bn : Below wn.heap.size wn (wn.alloc (Obj.cells #[.int .i64 kind, .int .i64 d, .string cau, .string i.id, .string ⟨#[]⟩, .string i.cur, .slice (some ⟨T2, 0, none⟩) 1 1] 50)) := (Below.refl _ _).alloc (Nat.le_refl _) _
      replace HG := Lib.hid (HG.out.below bn)
      replace HP1 := Lib.hid (HP1.out.below bn)
      replace HP2 := Lib.hid (HP2.out.below bn)
      replace HT1 := Lib.hid (blk bn HT1.out)
      replace HX1 := Lib.hid (blk bn HX1.out)
      replace HT2 := Lib.hid (blk bn HT2.out)
      generalize wn.heap.size = X2 at hx ⊢
      generalize wn.alloc (Obj.cells #[.int .i64 kind, .int .i64 d, .string cau, .string i.id, .string ⟨#[]⟩, .string i.cur, .slice (some ⟨T2, 0, none⟩) 1 1] 50) = wx at *
      have HX2 := Lib.hid hx
      clear hx bn
      clear wn
      go_wp2_with fail
      as_aux_lemma =>
       refine (eqInts_any A1 A2 np cc1 cc2 fp (by omega) _ (RdP.two HP1.out HP2.out)).mono ?_
       rintro e wn ⟨rfl, bn⟩
       replace HG := Lib.hid (HG.out.below bn)
       replace HP1 := Lib.hid (HP1.out.below bn)
       replace HP2 := Lib.hid (HP2.out.below bn)
       replace HT1 := Lib.hid (blk bn HT1.out)
       replace HX1 := Lib.hid (blk bn HX1.out)
       replace HT2 := Lib.hid (blk bn HT2.out)
       replace HX2 := Lib.hid (blk bn HX2.out)
       clear bn
       have x0 := Lib.cell_of_heap HX1.out 0
       have y0 := Lib.cell_of_heap HX2.out 0
       have x1 := Lib.cell_of_heap HX1.out 1
       have y1 := Lib.cell_of_heap HX2.out 1
       have x2 := Lib.cell_of_heap HX1.out 2
       have y2 := Lib.cell_of_heap HX2.out 2
       have x3 := Lib.cell_of_heap HX1.out 3
       have y3 := Lib.cell_of_heap HX2.out 3
       have x4 := Lib.cell_of_heap HX1.out 4
       have y4 := Lib.cell_of_heap HX2.out 4
       have x5 := Lib.cell_of_heap HX1.out 5
       have y5 := Lib.cell_of_heap HX2.out 5
       have x6 := Lib.cell_of_heap HX1.out 6
       have y6 := Lib.cell_of_heap HX2.out 6
       simp at x0 y0 x1 y1 x2 y2 x3 y3 x4 y4 x5 y5 x6 y6
       go_wp2_with fail
       refine (SameEffect39_some kind d cau i.id ⟨#[]⟩ i.cur _ _ T1 T2 _ HT1.out HT2.out).mono ?_
       rintro e wn2 ⟨rfl, bn⟩
       replace HG := Lib.hid (HG.out.below bn)
       replace HP1 := Lib.hid (HP1.out.below bn)
       replace HP2 := Lib.hid (HP2.out.below bn)
       replace HT1 := Lib.hid (blk bn HT1.out)
       replace HX1 := Lib.hid (blk bn HX1.out)
       replace HT2 := Lib.hid (blk bn HT2.out)
       replace HX2 := Lib.hid (blk bn HX2.out)
       clear bn x0 y0 x1 y1 x2 y2 x3 y3 x4 y4 x5 y5 x6 y6
       go_wp2_with fail
       refine (awake_any _ (HT.out.below HG.out.bel)).mono ?_
       rintro e wz ⟨rfl, bz⟩
       have HZ := Lib.hid (HG.out.bel.trans (bz.mono HG.out.bel.size))
       clear bz
       go_wp2_with fail
       go_ret
       exact ⟨rfl, HZ.out⟩
theorem AccrualLots_any (i : Inst) (l : Lot) (A : Option Addr) (ds : List Int) (c : Nat) (hlm : ds.length ≤ 9223372036854775807) (kind : Int) (ch : ByteArray) (w : World) (hR : RdD w A ds) (ht : Tabs w) :
 Calls Tryz.prog 5 #[i.enc, l.enc, .slice A ds.length c, .int .i64 kind, .string ch] w (TruePost w) := by
 by_cases h : efC kind (dayX ds) i ch = 0
 case neg => exact lots_zero i l A ds c hlm kind ch (.inl h) w hR ht
 by_cases hne : ch = ⟨#[]⟩
 ·exact lots_zero i l A ds c hlm kind ch (.inr hne) w hR ht
 exact lots_some i l A ds c hlm kind ch h hne w hR ht
end Go.Proofs.YtpgjmdggblnfkaaGreatDoor
