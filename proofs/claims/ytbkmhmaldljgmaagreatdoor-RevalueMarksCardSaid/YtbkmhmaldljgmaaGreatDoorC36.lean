/-
  view.Check of any facts, given what fact.Check and fact.Compare answer of them.
-/
import Derived.Test.YtbkmhmaldljgmaaGreatDoorC35
import Derived.Test.YtbkmhmaldljgmaaGreatDoorC19
import Derived.Deep.MidRow
set_option linter.unusedVariables false
set_option linter.unusedSimpArgs false
set_option maxHeartbeats 16000000
set_option maxRecDepth 100000
namespace Go.Proofs.YtbkmhmaldljgmaaGreatDoor
open Go.RowKit Tr Go.Shelf Go.Maps Go.WideMaps
structure VF where
 x : Fact
 p : Value
 o : Value
abbrev VF.cells (y : VF) : Array Value := y.x.cells y.p y.o
def nameLot (k : ByteArray) : Lot := ⟨k, ⟨#[]⟩, 0, 0, ⟨#[]⟩, ⟨#[]⟩, ⟨#[]⟩⟩
def keyLots (vs : List VF) : List Lot := vs.map fun y => nameLot y.x.key
structure VRd (W : World) (g : Nat) (vs : List VF) : Prop where
 lt : g < W.heap.size
 rd : ∀ k y, vs[k]? = some y → W.rangeAt g (k * 21) y.cells.toList
theorem rangeAt_below {W W' : World} {b o : Nat} {cs : List Value} {n₀ : Nat} (h : W.rangeAt b o cs) (hn : b < n₀) (hb : Below n₀ W W') : W'.rangeAt b o cs :=
 fun j v hj => (hb.cell (by exact hn)).trans (h j v hj)
theorem VRd.below {W W' : World} {g : Nat} {vs : List VF} (h : VRd W g vs) (hb : Below W.heap.size W W') : VRd W' g vs :=
 ⟨Nat.lt_of_lt_of_le h.lt hb.size, fun k y hy => rangeAt_below (h.rd k y hy) h.lt hb⟩
theorem VRd.below' {W W' : World} {g n₀ : Nat} {vs : List VF} (h : VRd W g vs) (hn : g < n₀) (hb : Below n₀ W W') : VRd W' g vs :=
 ⟨Nat.lt_of_lt_of_le h.lt hb.size, fun k y hy => rangeAt_below (h.rd k y hy) hn hb⟩
structure VGood (lt : VF → VF → Prop) (vs : List VF) (k : Nat) (y : VF) : Prop where
 ok : FOk y.x
 nc : y.x.canc = false
 st : y.x.stamp = 0
 nk : ∀ z ∈ vs.take k, z.x.key ≠ y.x.key
 od : ∀ j z, k = j + 1 → vs[j]? = some z → lt z y
def VOk (lt : VF → VF → Prop) (vs : List VF) : Prop := vs.length ≤ 1000 ∧ ∀ k y, vs[k]? = some y → VGood lt vs k y
theorem wpQuiet_load_mid {P : Program} {ops : Array Oper} {C : World → Prop} {rest : List Oper} {o : Oper} {a : Act} {Q : Act → Prop} (hw : Region.wanted o (yielded ops a.tmps) = true) (ty : TypeId) (x : Operand) (ho : o.op = .load ty x)
 (g off : Nat) (hx : a.eval x = .pointer (some ⟨g, off, none⟩)) (cs : List Value) (d : TypeDesc) (hg : ∀ W, C W → W.rangeAt g off cs)
 (hu : P.underlying ty = some d) (hd : d.isRow = true) (hi : (P.info? ty).map (·.size) = some cs.length)
 (h : wpQuiet P ops C Q rest (a.put o.dst (.agg cs.toArray))) : wpQuiet P ops C Q (o :: rest) a := by
 unfold wpQuiet
 rw [if_pos hw]
 refine ⟨.agg cs.toArray, fun W hW => ?_, h⟩
 unfold Oper.quietAt execOp
 simp only [ho, hx, Instr.loadAt, Instr.sureAddr, Sem.run_bind, Sem.run_pure, Result.andThen_ok, run_loadVar_mid W g off ty cs d (hg W hW) hu hd hi]
 exact ⟨rfl, rfl⟩
def fzero : Obj := .cells #[.string ⟨#[]⟩, .int .i64 0, .bool false, .int .i64 0, .int .i64 0, .string ⟨#[]⟩, .string ⟨#[]⟩, .string ⟨#[]⟩, .string ⟨#[]⟩, .string ⟨#[]⟩, .string ⟨#[]⟩, .string ⟨#[]⟩, .string ⟨#[]⟩, .string ⟨#[]⟩, .string ⟨#[]⟩, .string ⟨#[]⟩, .string ⟨#[]⟩, .string ⟨#[]⟩, .slice none 0 0, .slice none 0 0, .int .i64 0] 60 (0, 0)
theorem fcells_one (x : Fact) (P O : Value) (hv : FactV x P O) : ∀ u ∈ (x.cells P O).toList, u.oneCell' = true := by
 obtain ⟨A, c, rfl⟩ := hv.p
 obtain ⟨A', c', rfl⟩ := hv.o
 intro u hu
 simp [Fact.cells] at hu
 rcases hu with rfl | rfl | rfl | rfl | rfl | rfl | rfl | rfl | rfl | rfl | rfl | rfl | rfl | rfl | rfl | rfl | rfl | rfl | rfl | rfl | rfl <;> rfl
theorem rangeAt_row {W : World} {b : Nat} {cs : Array Value} {t : TypeId} {fz : Nat × Nat} (h : W.heap[b]? = some (.cells cs t fz)) : W.rangeAt b 0 cs.toList := fun j v hj => by
 rw [Nat.zero_add, Lib.cell_of_heap h j]
 simpa using hj
theorem keyLots_snoc {vs : List VF} {k : Nat} {y : VF} (h : vs[k]? = some y) : keyLots (vs.take (k + 1)) = keyLots (vs.take k) ++ [nameLot y.x.key] := by
 unfold keyLots; rw [List.take_add_one, h]; simp
theorem vCheck_any (lt : VF → VF → Prop) (g : Nat) (vs : List VF) (c : Nat) (w : World) (hr : VRd w g vs) (hv : ∀ y ∈ vs, FactV y.x y.p y.o) (hkz : ∀ y ∈ vs, y.x.key.size ≤ 1000) (hlm : vs.length ≤ 9223372036854775807)
 (hF : ∀ y ∈ vs, ∀ W, Below w.heap.size w W → Calls Tryz.prog 155 #[.agg y.cells] W fun e w' => ∃ c : Int, e = .returned (.int .i64 c) ∧ (c = 0 ↔ FOk y.x) ∧ Below W.heap.size W w')
 (hL : ∀ j y z, vs[j]? = some y → vs[j + 1]? = some z → ∃ c : Int, (c < 0 ↔ lt y z) ∧ ∀ W, Below w.heap.size w W → Calls Tryz.prog 156 #[.agg y.cells, .agg z.cells] W fun e w' => e = .returned (.int .i64 c) ∧ Below W.heap.size W w') :
 Calls Tryz.prog 110 #[.slice (some ⟨g, 0, none⟩) vs.length c] w fun e w' => ∃ c : Int, e = .returned (.int .i64 c) ∧ (c = 0 ↔ VOk lt vs) ∧ Below w.heap.size w w' := by
 have mixed : Tryz.prog.follows .mixedOrders = true := by kernel_rfl
 have HR := hI hr
 have HV := hI hv
 have HF := hI hF
 have HL := hI hL
 have HKZ := hI hkz
 obtain ⟨n, hn⟩ : ∃ n, vs.length = n := ⟨_, rfl⟩
 have HN := hI hn
 rw [hn] at hlm ⊢
 clear hr hv hF hL hn hkz
 by_cases hgr : 1000 < n
 ·have hgt : decide ((1000 : Int) < (n : Int)) = true := by simp; omega
  have HG : Hid (¬ VOk lt vs) := fun h => by have h1 := h.1; have h2 := HN.out; omega
  clear hgr
  go_enter Tryz.func110, Tryz.ntmps110
  go_wp2_with fail
  go_ret
  exact ⟨4, rfl, ⟨fun h => by omega, fun h => absurd h HG.out⟩, Below.refl _ _⟩
 have hgt : decide ((1000 : Int) < (n : Int)) = false := by simp; omega
 have hlen : n ≤ 1000 := by omega
 clear hgr
 have hmm := @run_makeMap Tryz.prog
 go_enter Tryz.func110, Tryz.ntmps110
 go_wp2_with fail
 go_loopw [13] (fun v wr => ∃ k : Nat, v = .int .i64 (k : Int) ∧ k ≤ n ∧ (∀ j y, j < k → vs[j]? = some y → VGood lt vs j y) ∧ wr.ownsMap Tryz.prog 9 (plainElem Tryz.prog 4) w.heap.size k (seenD (keyLots (vs.take k))) ∧ Below w.heap.size w wr) (fun v _ => n - (intOf v).toNat)
 case atStart => exact ⟨0, rfl, by omega, fun j y h => by omega, World.ownsMap_made _ _ _ _, (Below.refl _ _).alloc (Nat.le_refl _) _⟩
 case round =>
  obtain ⟨k, rfl, hk, hg, hown, hb⟩ := hrel
  have HO := hI hown
  have HB := hI hb
  have HG := hI hg
  clear hown hb hg
  rcases Nat.lt_or_ge k n with hlt | hge
  ·have hcx : decide ((k : Int) < (n : Int)) = true := by simp; omega
   have hbk : (k : Int) < (n : Int) := by omega
   obtain ⟨y, hy⟩ : ∃ y, vs[k]? = some y := ⟨_, List.getElem?_eq_getElem (by rw [HN.out]; exact hlt)⟩
   have hym := List.mem_of_getElem? hy
   have HY : Hid (vs[k]? = some y) := hy
   have hVR := HR.out.below' HR.out.lt HB.out
   have HROW := hI (hVR.rd k y hy)
   have HC := hI (HF.out y hym)
   have hzid : (nameLot y.x.key).id.size ≤ maxLen := by unfold maxLen; have := HKZ.out y hym; show y.x.key.size ≤ _; omega
   obtain ⟨W5, hW5⟩ : ∃ W5, wr.alloc fzero = W5 := ⟨_, rfl⟩
   have k5 : W5.heap[wr.heap.size]? = some fzero := by rw [← hW5]; exact heap_alloc_new wr _
   have b5 : Below wr.heap.size wr W5 := by rw [← hW5]; exact (Below.refl _ wr).alloc (Nat.le_refl _) _
   have hrun := run_store_rowK W5 wr.heap.size 21 60 _ y.cells (by kernel_rfl) k5 rfl rfl (fcells_one _ _ _ (HV.out y hym))
   obtain ⟨W6, hW6⟩ : ∃ W6, W5.setRow wr.heap.size y.cells = W6 := ⟨_, rfl⟩
   rw [hW6] at hrun
   have b6 : Below wr.heap.size wr W6 := by rw [← hW6]; exact below_setRowK b5 (Nat.le_refl _) _
   have k6 : W6.heap[wr.heap.size]? = some (.cells (y.x.cells y.p y.o) 60 (0, 0)) := by rw [← hW6]; exact setRow_heap W5 _ _ _ _ _ k5
   obtain ⟨B, hB0⟩ : ∃ B, wr.heap.size = B := ⟨_, rfl⟩
   have HBZ : Hid (w.heap.size ≤ B) := by rw [Hid, ← hB0]; exact HB.out.size
   have HB6 := hI (HB.out.trans (b6.mono HB.out.size))
   have HO6 := hI (ownsMap_below HO.out b6)
   have HVR6 := hI (hVR.below b6)
   rw [hB0] at hrun k6 b5
   have HK6 := hI k6
   unfold fzero at hW5
   clear hVR k5 k6 b5 b6 hW6 hym hy HB HO
   go_wp2_with (first | (refine wpList_store_runK hrun rfl _ _ rfl rfl rfl ?_) | (refine wpList_load_mid rfl 60 _ rfl g (k * 21) rfl _ _ HROW.out Tryz.underlying60 rfl (by kernel_rfl) ?_) | (refine wpList_load_row rfl 60 _ rfl B rfl _ _ (0, 0) _ HK6.out Tryz.underlying60 rfl (by kernel_rfl) ?_) | fail)
   refine (HC.out W6 HB6.out).mono ?_
   rintro e w7 ⟨c0, rfl, hc0, b7⟩
   have HB7 := hI (HB6.out.trans (b7.mono HB6.out.size))
   have HO7 := hI (ownsMap_below HO6.out b7)
   have HVR7 := hI (HVR6.out.below b7)
   have hk7 : w7.heap[B]? = some (.cells (y.x.cells y.p y.o) 60 (0, 0)) := (b7.block B (Array.getElem?_eq_some_iff.1 HK6.out).1).trans HK6.out
   have HK7 := hI hk7
   have HC0 := hI hc0
   clear hc0 b7 hrun HK6 HVR6 HO6 HB6
   by_cases h0 : c0 = 0
   case neg =>
    have t1 : (c0 == 0) = false := beq_eq_false_iff_ne.2 h0
    have t1' : (c0 != 0) = true := by rw [bne, t1]; rfl
    have HN0 : Hid (c0 = 0 ↔ VOk lt vs) := ⟨fun h => absurd h h0, fun h => absurd (HC0.out.2 (h.2 k y HY.out).ok) h0⟩
    clear h0
    go_wp2_with fail
    go_ret
    exact ⟨c0, rfl, HN0.out, HB7.out⟩
   have HOK : Hid (FOk y.x) := HC0.out.1 h0
   subst h0
   obtain ⟨m0, m1, m2, m3, m4, m5, m6, m7, m8, m9, m10, m11, m12, m13, m14, m15, m16, m17, m18, m19, m20⟩ := fact_cells hk7
   clear m3 m4 m5 m6 m7 m8 m9 m10 m11 m12 m13 m14 m15 m16 m17 m18 m19 m20 hk7 HC0
   obtain ⟨cn, hcn⟩ : ∃ b, y.x.canc = b := ⟨_, rfl⟩
   rw [hcn] at m2
   have HCN := hI hcn
   clear hcn
   cases cn with
   | true =>
     have HN0 : Hid (¬ VOk lt vs) := fun h => by have h1 := (h.2 k y HY.out).nc; rw [HCN.out] at h1; cases h1
     go_wp2_with fail
     go_ret
     exact ⟨19, rfl, ⟨fun h => by omega, fun h => absurd h HN0.out⟩, HB7.out⟩
   | false =>
     obtain ⟨st, hst⟩ : ∃ b, y.x.stamp = b := ⟨_, rfl⟩
     rw [hst] at m1
     have HST := hI hst
     clear hst
     by_cases hs0 : st = 0
     case neg =>
      have t1 : (st == 0) = false := beq_eq_false_iff_ne.2 hs0
      have t1' : (st != 0) = true := by rw [bne, t1]; rfl
      have HN0 : Hid (¬ VOk lt vs) := fun h => hs0 (by have h1 := (h.2 k y HY.out).st; rwa [HST.out] at h1)
      clear hs0
      go_wp2_with fail
      go_ret
      exact ⟨1, rfl, ⟨fun h => by omega, fun h => absurd h HN0.out⟩, HB7.out⟩
     subst hs0
     have hO7 := HO7.out
     by_cases hid : (nameLot y.x.key).id ∈ (keyLots (vs.take k)).map Lot.id
     ·have hlk := seen_true hO7 hzid hid
      unfold nameLot at hlk
      have HN0 : Hid (¬ VOk lt vs) := fun h => by
       obtain ⟨l, hl, e⟩ := List.mem_map.1 hid
       obtain ⟨z, hz, rfl⟩ := List.mem_map.1 hl
       exact (h.2 k y HY.out).nk z hz e
      clear hid hO7
      go_wp2_with fail
      go_ret
      exact ⟨5, rfl, ⟨fun h => by omega, fun h => absurd h HN0.out⟩, HB7.out⟩
     have hlk := seen_false hO7 hzid (fun x hx e => hid (List.mem_map.2 ⟨x, hx, e⟩))
     unfold nameLot at hlk
     have HNK : Hid (∀ z ∈ vs.take k, z.x.key ≠ y.x.key) := fun z hz e => hid (List.mem_map.2 ⟨nameLot z.x.key, List.mem_map.2 ⟨z, hz, rfl⟩, e⟩)
     clear hid hO7
     go_upto_region 16 with fail
     rcases Nat.eq_zero_or_pos k with hk0 | hkp
     ·have hgt2 : decide ((k : Int) > 0) = false := by simp; omega
      have hgt3 : decide ((0 : Int) < (k : Int)) = false := by simp; omega
      have hgt4 : ¬ 0 < k := by omega
      have HOD : Hid (∀ j z, k = j + 1 → vs[j]? = some z → lt z y) := fun j z h _ => by omega
      clear hk0
      refine wp_region_quietC (fun W => Below w7.heap.size w7 W) mixed (by kernel_rfl) (Below.refl _ w7).drew ?_
      iterate 12
       refine wpQuiet_step (fun K hK => ?_)
       go_simp
       first
       | (refine hK _ ?_; clear hK K)
       | (refine ⟨_, fun _ _ => rfl, hK _ ?_⟩; clear hK K)
      refine wpQuiet_nil ?_
      intro w8 hw8
      focus
       have HB8 := hI (HB7.out.trans (hw8.mono HB7.out.size))
       have hO8 := ownsMap_below HO7.out hw8
       have hk8 : w8.heap[B]? = some (.cells (y.x.cells y.p y.o) 60 (0, 0)) := (hw8.block B (Array.getElem?_eq_some_iff.1 HK7.out).1).trans HK7.out
       clear m0 m1 m2 hlk
       have m0 := Lib.cell_of_heap hk8 0
       simp [Fact.cells] at m0
       obtain ⟨w9, hup, hO9, hg9⟩ := hO8.update strKeyed Tryz.underlying200 (by unfold maxLen; omega) (keyOf_string_mk Tryz.underlying9 hzid) (plainElem_bool Tryz.underlying4 true)
       have HO9 : Hid (w9.ownsMap Tryz.prog 9 (plainElem Tryz.prog 4) w.heap.size (k + 1) (seenD (keyLots (vs.take (k + 1))))) := by
        rw [keyLots_snoc HY.out, seenD_snoc]; exact hO9
       have HB9 := hI (HB8.out.grown hg9 HB8.out.size (fun j hj => by cases hj; exact Nat.le_refl _))
       unfold nameLot at hup
       clear hO8 hO9 hg9 hk8 hw8 HVR7 HK7
       go_wp2_with fail
       go_roundw
       case rel => exact ⟨k + 1, by go_num, by omega, fun j y' hj hy' => by
        rcases Nat.lt_or_ge j k with h | h
        ·exact HG.out j y' h hy'
        ·obtain rfl : j = k := by omega
         have e := HY.out
         rw [hy'] at e
         cases e
         exact ⟨HOK.out, HCN.out, HST.out, HNK.out, HOD.out⟩, HO9.out, HB9.out⟩
       case measure => simp [intOf]; omega
     ·obtain ⟨j, hj⟩ : ∃ j, k = j + 1 := ⟨k - 1, by omega⟩
      have hgt2 : decide ((k : Int) > 0) = true := by simp; omega
      have hgt3 : decide ((0 : Int) < (k : Int)) = true := by simp; omega
      have hgt4 : 0 < k := hkp
      have hwj : IntKind.i64.wrap ((k : Int) - 1) = (j : Int) := by rw [IntKind.wrap_i64]; omega
      have hjn : (j : Int) < (n : Int) := by omega
      obtain ⟨z, hz⟩ : ∃ z, vs[j]? = some z := ⟨_, List.getElem?_eq_getElem (by rw [HN.out]; omega)⟩
      obtain ⟨cc, hcc, hcall⟩ := HL.out j z y hz (by rw [← hj]; exact HY.out)
      have HCC : Hid (∀ W, Below w7.heap.size w7 W → Calls Tryz.prog 156 #[.agg (z.x.cells z.p z.o), .agg (y.x.cells y.p y.o)] W fun e w' => e = .returned (.int .i64 cc) ∧ Below W.heap.size W w') := fun W hb => hcall W (HB7.out.trans (hb.mono HB7.out.size))
      have HRZ : Hid (∀ W, Below w7.heap.size w7 W → W.rangeAt g (j * 21) z.cells.toList) := fun W hb => (HVR7.out.below hb).rd j z hz
      have HRB : Hid (∀ W, Below w7.heap.size w7 W → W.rangeAt B 0 y.cells.toList) := fun W hb => rangeAt_row ((hb.block B (Array.getElem?_eq_some_iff.1 HK7.out).1).trans HK7.out)
      have HLT : Hid (cc < 0 ↔ lt z y) := hcc
      have HZ : Hid (vs[j]? = some z) := hz
      have HJ : Hid (k = j + 1) := hj
      clear hcc hcall hz hj hkp
      refine wp_region_quietC (fun W => Below w7.heap.size w7 W) mixed (by kernel_rfl) (Below.refl _ w7).drew ?_
      iterate 12
       first
       | (refine wpQuiet_load_mid rfl 60 _ rfl g (j * 21) rfl _ _ HRZ.out Tryz.underlying60 rfl (by kernel_rfl) ?_)
       | (refine wpQuiet_load_mid rfl 60 _ rfl B 0 rfl _ _ HRB.out Tryz.underlying60 rfl (by kernel_rfl) ?_)
       | (refine wpQuiet_step (fun K hK => ?_)
          go_simp
          first
          | (refine hK _ ?_; clear hK K)
          | (refine ⟨_, fun _ _ => rfl, hK _ ?_⟩; clear hK K)
          | (refine ⟨.int .i64 cc, fun W hW => ?_, hK _ ?_⟩
             focus
              refine (HCC.out W hW).mono ?_
              rintro e wn ⟨rfl, hb⟩
              exact ⟨rfl, hW.trans (hb.mono hW.size)⟩
             clear hK K))
      refine wpQuiet_nil ?_
      intro w8 hw8
      by_cases hc8 : 0 ≤ cc
      ·have g1 : decide (cc ≥ 0) = true := decide_eq_true hc8
       have g2 : decide (0 ≤ cc) = true := decide_eq_true hc8
       have HN0 : Hid (¬ VOk lt vs) := fun h => by
        have h1 := (h.2 k y HY.out).od j z HJ.out HZ.out
        have := HLT.out.2 h1
        omega
       have HB8 := hI (HB7.out.trans (hw8.mono HB7.out.size))
       go_wp2_with fail
       go_ret
       exact ⟨8, rfl, ⟨fun h => by omega, fun h => absurd h HN0.out⟩, HB8.out⟩
      ·have g1 : decide (cc ≥ 0) = false := decide_eq_false hc8
       have g2 : decide (0 ≤ cc) = false := decide_eq_false hc8
       have g3 : ¬ 0 ≤ cc := hc8
       have g4 : cc < 0 := by omega
       have HOD : Hid (∀ j z, k = j + 1 → vs[j]? = some z → lt z y) := fun j' z' h hz' => by
        have e : j' = j := by have := HJ.out; omega
        subst e
        have e2 := HZ.out
        rw [hz'] at e2
        cases e2
        exact HLT.out.1 (by omega)
       have g5 : (!decide (cc < 0)) = false := by rw [decide_eq_true g4]; rfl
       clear hc8
       have HB8 := hI (HB7.out.trans (hw8.mono HB7.out.size))
       have hO8 := ownsMap_below HO7.out hw8
       have hk8 : w8.heap[B]? = some (.cells (y.x.cells y.p y.o) 60 (0, 0)) := (hw8.block B (Array.getElem?_eq_some_iff.1 HK7.out).1).trans HK7.out
       clear m0 m1 m2 hlk
       have m0 := Lib.cell_of_heap hk8 0
       simp [Fact.cells] at m0
       obtain ⟨w9, hup, hO9, hg9⟩ := hO8.update strKeyed Tryz.underlying200 (by unfold maxLen; omega) (keyOf_string_mk Tryz.underlying9 hzid) (plainElem_bool Tryz.underlying4 true)
       have HO9 : Hid (w9.ownsMap Tryz.prog 9 (plainElem Tryz.prog 4) w.heap.size (k + 1) (seenD (keyLots (vs.take (k + 1))))) := by
        rw [keyLots_snoc HY.out, seenD_snoc]; exact hO9
       have HB9 := hI (HB8.out.grown hg9 HB8.out.size (fun j hj => by cases hj; exact Nat.le_refl _))
       unfold nameLot at hup
       clear hO8 hO9 hg9 hk8 hw8 HVR7 HK7
       go_wp2_with fail
       go_roundw
       case rel => exact ⟨k + 1, by go_num, by omega, fun j y' hj hy' => by
        rcases Nat.lt_or_ge j k with h | h
        ·exact HG.out j y' h hy'
        ·obtain rfl : j = k := by omega
         have e := HY.out
         rw [hy'] at e
         cases e
         exact ⟨HOK.out, HCN.out, HST.out, HNK.out, HOD.out⟩, HO9.out, HB9.out⟩
       case measure => simp [intOf]; omega
  ·have hcx : decide ((k : Int) < (n : Int)) = false := by simp; omega
   have HEND : Hid (VOk lt vs) := ⟨by rw [HN.out]; exact hlen, fun j y hy => HG.out j y (by have := (List.getElem?_eq_some_iff.1 hy).1; have h2 := HN.out; omega) hy⟩
   go_wp2_with fail
   go_ret
   exact ⟨0, rfl, ⟨fun _ => HEND.out, fun _ => rfl⟩, HB.out⟩
end Go.Proofs.YtbkmhmaldljgmaaGreatDoor
