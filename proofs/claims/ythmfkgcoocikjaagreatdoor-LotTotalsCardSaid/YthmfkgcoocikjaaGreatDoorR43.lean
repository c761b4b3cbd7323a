/-
  The walk of trancheref01.minus.
  The walks of trancheref01.add, Add, Sub. (Printed by gen_ref25.py.)
-/
import Derived.Test.YthmfkgcoocikjaaGreatDoorR42
import Derived.Test.YthmfkgcoocikjaaGreatDoorP14
import Derived.Test.YthmfkgcoocikjaaGreatDoorP19
import Derived.Test.YthmfkgcoocikjaaGreatDoorP10
set_option linter.unusedVariables false
set_option linter.unusedSimpArgs false
namespace Go.Proofs.YthmfkgcoocikjaaGreatDoor
open Go.RowKit Tr Go.Shelf

/-- the difference, trimmed -/
def RDif (l n r : List Nat) : Prop := Dig r ∧ Norm r ∧ mval r = mval l - mval n ∧ r.length ≤ l.length
theorem RdN.drewN {w : World} {A : Option Addr} {l : List Nat} (h : RdN w A l) (k : Nat) : RdN (w.drewN k) A l := h.below (below_drewN (Below.refl _ _) k)

set_option maxHeartbeats 4000000 in
set_option maxRecDepth 100000 in
theorem rminus_any (A A' : Option Addr) (l n : List Nat) (c c' : Nat) (w : World) (b1 : l.length ≤ 1000000) (b2 : n.length ≤ l.length)
    (hc : l.length ≤ c) (hc' : n.length ≤ c') (hl : Dig l) (hn : Dig n) (hle : mval n ≤ mval l) (hr : RdN w A l) (hr' : RdN w A' n) :
    Calls Tryz.prog 128 #[.slice A l.length c, .slice A' n.length c'] w (OwnFPost w (RDif l n)) := by
  have HR := Lib.hid hr
  have HR' := Lib.hid hr'
  have HL := Lib.hid hl
  have HN := Lib.hid hn
  have HLE := Lib.hid hle
  clear hr hr' hl hn hle
  go_enter Tryz.func128, Tryz.ntmps128
  go_wp2_with fail
  have hO0 := own_empty w
  have hB0 : Below w.heap.size w (w.alloc (.cells #[] 3)) := (Below.refl _ _).alloc (Nat.le_refl _) _
  generalize w.alloc (.cells #[] 3) = w1 at hO0 hB0 ⊢
  go_loopw [5, 6, 7] (fun o cy i wr => ∃ (k q : Nat) (p : List Nat), (∃ ad co, o = .slice (some ad) k co) ∧ cy = .int .i64 (q : Int) ∧ i = .int .i64 (k : Int) ∧ q ≤ 1 ∧ k ≤ l.length ∧ MinusR l n k p q ∧ wr.ownsRow w.heap.size 3 1 o k (p.map V) ∧ Below w.heap.size w wr) (fun _ _ i _ => l.length - (intOf i).toNat)
  case atStart => exact ⟨0, 0, [], ⟨_, _, rfl⟩, rfl, rfl, by omega, by omega, ⟨rfl, Dig.nil, by simp [mval]⟩, hO0, hB0⟩
  case round =>
    obtain ⟨k, q, p, ⟨ao, co, rfl⟩, rfl, rfl, hq, hk, hp, hO, hB⟩ := hrel
    have HP := Lib.hid hp
    have HO := Lib.hid hO
    have HB := Lib.hid hB
    clear hp hO hB hO0 hB0
    rcases Nat.lt_or_ge k l.length with hlt | hge
    · obtain ⟨ad, rfl, had, hcell⟩ := HR.out.below HB.out (by rintro rfl; simp at hlt)
      have ck := hcell k hlt
      have HG := Lib.hid (fun m => q_same (rgroup_any A' n c' k (wr.drewN m) (by omega) (by omega) hc' ((HR'.out.below HB.out).drewN m)))
      have d1 := HL.out.get k
      change gt l k < _ at d1
      have d2 := HN.out.get k
      change gt n k < _ at d2
      clear hcell had
      obtain ⟨i0, hi, hz0, hz1, hz2⟩ := info_parts Tryz.info_int
      obtain ⟨D, hD⟩ : ∃ D : Int, (gt l k : Int) - (gt n k : Int) - (q : Int) = D := ⟨_, rfl⟩
      by_cases hneg : D < 0
      · obtain ⟨x, hx⟩ : ∃ x : Nat, D + 1000000000 = (x : Int) := ⟨(D + 1000000000).toNat, by omega⟩
        have t1 : decide (D < 0) = true := decide_eq_true hneg
        have HST := Lib.hid (HP.out.step 1 x (by omega) (by omega))
        have HS : Hid (∀ W : World, ∀ j u, [Value.int .i64 (x : Int)][j]? = some u → (W.alloc (.cells #[.int .i64 (x : Int)] 3)).cell? ((⟨W.heap.size, 0, none⟩ : Addr).add j) = some u) := fun W => row_new W #[.int .i64 (x : Int)] 3
        clear hneg
        go_wp2_with fail
        go_quiet ((go_at_call 157; exact HG.out _))
        have HO2 := Lib.hid (ownsRow_below HO.out (below_drewN (Below.refl _ _) nq))
        have HB2 := Lib.hid (below_drewN HB.out nq)
        generalize wr.drewN nq = w2 at HO2 HB2 ⊢
        clear HG HO HB ck
        go_wp2_with (at_builtin; refine wpList_append_own _ rfl _ _ 112 rfl w.heap.size 3 i0 (.int .i64 0) 1 8 Tryz.underlying112 hi hz0 hz1 hz2 rfl (by decide) _ _ _ rfl (HO2.out.alloc _) ⟨w2.heap.size, 0, none⟩ 1 1 [.int .i64 (x : Int)] rfl rfl (HS.out w2) (by simp [Value.oneCell']) (by unfold maxLen; omega) (by omega) (by have := HB2.out.size; simp; omega) ?_; intro v4 w4 hown4 hgrow4 _; have HO4 := Lib.hid hown4; have HG4 := Lib.hid hgrow4; clear hown4 hgrow4)
        go_roundw
        case rel =>
          have hlo := HO2.out.lt
          have hg := HG4.out
          have hbs := HB2.out.size
          refine ⟨k + 1, 1, p ++ [x], own_some HO4.out (by omega), rfl, by go_num, by omega, by omega, HST.out, ?_, ?_⟩
          · rw [List.map_append]; exact HO4.out
          · exact (HB2.out.alloc hbs _).grown hg (by simp; omega) (fun k hk => (hlo k hk).1)
        case measure => simp [intOf]; omega
      · obtain ⟨x, hx⟩ : ∃ x : Nat, D = (x : Int) := ⟨D.toNat, by omega⟩
        have HST := Lib.hid (HP.out.step 0 x (by omega) (by omega))
        have HS : Hid (∀ W : World, ∀ j u, [Value.int .i64 (x : Int)][j]? = some u → (W.alloc (.cells #[.int .i64 (x : Int)] 3)).cell? ((⟨W.heap.size, 0, none⟩ : Addr).add j) = some u) := fun W => row_new W #[.int .i64 (x : Int)] 3
        clear hneg
        subst hx
        have t1 : decide ((x : Int) < 0) = false := decide_eq_false (by omega)
        go_wp2_with fail
        go_quiet ((go_at_call 157; exact HG.out _))
        have HO2 := Lib.hid (ownsRow_below HO.out (below_drewN (Below.refl _ _) nq))
        have HB2 := Lib.hid (below_drewN HB.out nq)
        generalize wr.drewN nq = w2 at HO2 HB2 ⊢
        clear HG HO HB ck
        go_wp2_with (at_builtin; refine wpList_append_own _ rfl _ _ 112 rfl w.heap.size 3 i0 (.int .i64 0) 1 8 Tryz.underlying112 hi hz0 hz1 hz2 rfl (by decide) _ _ _ rfl (HO2.out.alloc _) ⟨w2.heap.size, 0, none⟩ 1 1 [.int .i64 (x : Int)] rfl rfl (HS.out w2) (by simp [Value.oneCell']) (by unfold maxLen; omega) (by omega) (by have := HB2.out.size; simp; omega) ?_; intro v4 w4 hown4 hgrow4 _; have HO4 := Lib.hid hown4; have HG4 := Lib.hid hgrow4; clear hown4 hgrow4)
        go_roundw
        case rel =>
          have hlo := HO2.out.lt
          have hg := HG4.out
          have hbs := HB2.out.size
          refine ⟨k + 1, 0, p ++ [x], own_some HO4.out (by omega), rfl, by go_num, by omega, by omega, HST.out, ?_, ?_⟩
          · rw [List.map_append]; exact HO4.out
          · exact (HB2.out.alloc hbs _).grown hg (by simp; omega) (fun k hk => (hlo k hk).1)
        case measure => simp [intOf]; omega
    · have hcx : decide ((k : Int) < (l.length : Int)) = false := by simp; omega
      have hkk : k = l.length := by omega
      subst hkk
      have hpl := HP.out.1
      have hRd := RdN.of_own HO.out
      have HRd := Lib.hid hRd
      have HV := Lib.hid (HP.out.done b2 HLE.out)
      have HTR := Lib.hid (fun W hW => rtrim_any (some ao) p co W (by omega) (by have := hRd.2.1; omega) hW)
      have HPL := Lib.hid hpl
      rw [hpl] at HTR
      clear hRd hpl
      go_wp2_with fail
      refine (HTR.out _ HRd.out.2.2).mono ?_
      rintro e wa ⟨rfl, rfl⟩
      go_wp2_with fail
      go_ret
      refine ⟨ao, Tr.cutz p, co, rfl, ?_, ⟨HP.out.2.1.cutz, norm_cutz p, by rw [mval_cutz]; exact HV.out, ?_⟩, own_fresh HO.out ao rfl, HRd.out.2.2.cutz, HB.out⟩
      · have := cutz_length_le p; have := HRd.out; omega
      · have := cutz_length_le p; have := HPL.out; omega
end Go.Proofs.YthmfkgcoocikjaaGreatDoor
namespace Go.Proofs.YthmfkgcoocikjaaGreatDoor
open Go.RowKit Tr Go.Shelf

/-- groups with a sign, of the value z -/
def RNm (w : World) (nb : Bool) (A : Option Addr) (l : List Nat) (c : Nat) (z : Int) (K : Nat) : Prop := Dig l ∧ Norm l ∧ sg nb (mval l) = z ∧ l.length ≤ c ∧ l.length ≤ K ∧ RdN w A l
theorem RNm.below {w w' : World} {nb : Bool} {A : Option Addr} {l : List Nat} {c : Nat} {z : Int} {K : Nat} (h : RNm w nb A l c z K) (hb : Below w.heap.size w w') : RNm w' nb A l c z K := ⟨h.1, h.2.1, h.2.2.1, h.2.2.2.1, h.2.2.2.2.1, h.2.2.2.2.2.below hb⟩
def RNumPost (w : World) (z : Int) (K : Nat) (e : Ending) (w' : World) : Prop := ∃ (nb : Bool) (A : Option Addr) (l : List Nat) (c : Nat), e = .returned (.agg #[.bool nb, .slice A l.length c]) ∧ RNm w' nb A l c z K ∧ Below w.heap.size w w'
theorem sg_same (nb : Bool) (a b : Nat) : sg nb a + sg nb b = sg nb (a + b) := by
  cases nb
  · show (a : Int) + (b : Int) = ((a + b : Nat) : Int); omega
  · show -(a : Int) + -(b : Int) = -((a + b : Nat) : Int); omega

set_option maxHeartbeats 4000000 in
set_option maxRecDepth 100000 in
theorem radd_same (n1 : Bool) (A1 A2 : Option Addr) (l1 l2 : List Nat) (c1 c2 : Nat) (z1 z2 : Int) (K : Nat) (w : World) (hK : K ≤ 500000) (h1 : RNm w n1 A1 l1 c1 z1 K) (h2 : RNm w n1 A2 l2 c2 z2 K) :
    Calls Tryz.prog 88 #[.agg #[.bool n1, .slice A1 l1.length c1], .agg #[.bool n1, .slice A2 l2.length c2]] w (RNumPost w (z1 + z2) (K + 1)) := by
  obtain ⟨W0, hW0, hB0, hz, k1, k2, k3⟩ := box3 w (.cells #[.bool n1, .slice A1 l1.length c1] 114) (.cells #[.bool n1, .slice A2 l2.length c2] 114) (.cells #[.bool false, .slice none 0 0] 114)
  have HZE : Hid (z1 + z2 = sg n1 (mval l1 + mval l2)) := by rw [Hid, ← h1.2.2.1, ← h2.2.2.1]; exact sg_same n1 _ _
  have HK : Hid (l1.length ≤ K ∧ l2.length ≤ K) := ⟨h1.2.2.2.2.1, h2.2.2.2.2.1⟩
  have HF := Lib.hid (fun (W : World) (hW : Below w.heap.size w W) => rplus_any A1 A2 l1 l2 c1 c2 W (by have := HK.out; omega) (by have := HK.out; omega) h1.2.2.2.1 h2.2.2.2.1 h1.1 h2.1 (h1.below hW).2.2.2.2.2 (h2.below hW).2.2.2.2.2)
  have E1 := k1
  have E2 := k2
  have E3 := Lib.hid k3
  have EB := Lib.hid hB0
  have EZ : Hid (W0.heap.size = w.heap.size + 3) := hz
  have c10 := Lib.cell_of_heap k1 0
  have c20 := Lib.cell_of_heap k2 0
  simp at c10 c20
  clear h1 h2 k1 k2 k3 hz hB0
  go_enter Tryz.func88, Tryz.ntmps88
  go_wp2_with fail
  rw [← hW0]
  go_wp2_with fail
  clear hW0 c10 c20
  have k0 := Lib.cell_of_heap E1 0
  have k1 := Lib.cell_of_heap E1 1
  have k2 := Lib.cell_of_heap E2 1
  simp at k0 k1 k2
  clear E1 E2
  go_region_held3 (fun W => W.cell? ⟨w.heap.size, 0, none⟩ = some (.bool n1) ∧ W.cell? ⟨w.heap.size, 1, none⟩ = some (.slice A1 l1.length c1) ∧ W.cell? ⟨w.heap.size + 1, 1, none⟩ = some (.slice A2 l2.length c2))
    (refine ⟨?_, ?_, ?_⟩ <;> first | assumption | (go_simp; done))
    (first
      | (go_at_call 126; refine (HF.out _ EB.out.drew).mono ?_; rintro e w1 ⟨A3, r3, c3, rfl, hc3, hS3, hA3, hR3, hb3⟩; have j0 : w1.cell? ⟨w.heap.size, 0, none⟩ = some (.bool n1) := (hb3.cell (by simp [EZ.out])).trans k0; have j1 : w1.cell? ⟨w.heap.size, 1, none⟩ = some (.slice A1 l1.length c1) := (hb3.cell (by simp [EZ.out])).trans k1; have j2 : w1.cell? ⟨w.heap.size + 1, 1, none⟩ = some (.slice A2 l2.length c2) := (hb3.cell (by simp [EZ.out])).trans k2; have j3 := (hb3.block (w.heap.size + 1 + 1) (by simp [EZ.out])).trans E3.out; have m0 := Lib.cell_of_heap j3 0; have m1 := Lib.cell_of_heap j3 1; have f0 := Lib.frozen_of_heap j3 0; have f1 := Lib.frozen_of_heap j3 1; clear j3; simp at m0 m1))
  go_wp2_with fail
  refine bodyPost_ret (v := .agg #[.bool n1, .slice (some A3) r3.length c3]) (by simp [results, Tryz.results88, go_sem, m0, m1]) rfl ?_
  have hz := EZ.out
  have hb0 := EB.out
  have hne : ∀ ad : Addr, some A3 = some ad → ad.block ≠ w.heap.size + 1 + 1 := fun ad e => by injection e with e; subst e; have := hA3; simp at this; omega
  refine ⟨n1, some A3, r3, c3, rfl, ⟨hS3.1, hS3.2.1, ?_, hc3, ?_, (hR3.far (p := ⟨w.heap.size + 1 + 1, 0, none⟩) hne _).far (p := ⟨w.heap.size + 1 + 1, 1, none⟩) hne _⟩, ?_⟩
  · rw [hS3.2.2.1]; exact HZE.out.symm
  · have := hS3.2.2.2; have := HK.out; omega
  · exact ((hb0.drew.trans (hb3.mono (by simp; omega))).setCell (p := ⟨w.heap.size + 1 + 1, 0, none⟩) (by simp; omega) _).setCell (p := ⟨w.heap.size + 1 + 1, 1, none⟩) (by simp; omega) _

set_option maxHeartbeats 4000000 in
set_option maxRecDepth 100000 in
theorem radd_diff (n1 : Bool) (A1 A2 : Option Addr) (l1 l2 : List Nat) (c1 c2 : Nat) (z1 z2 : Int) (K : Nat) (w : World) (hK : K ≤ 500000) (h1 : RNm w n1 A1 l1 c1 z1 K) (h2 : RNm w (!n1) A2 l2 c2 z2 K) :
    Calls Tryz.prog 88 #[.agg #[.bool n1, .slice A1 l1.length c1], .agg #[.bool (!n1), .slice A2 l2.length c2]] w (RNumPost w (z1 + z2) (K + 1)) := by
  obtain ⟨W0, hW0, hB0, hz, k1, k2, k3⟩ := box3 w (.cells #[.bool n1, .slice A1 l1.length c1] 114) (.cells #[.bool (!n1), .slice A2 l2.length c2] 114) (.cells #[.bool false, .slice none 0 0] 114)
  have hnn : (n1 == !n1) = false := by cases n1 <;> rfl
  have hz12 : z1 + z2 = if mval l1 < mval l2 then sg (!n1) (mval l2 - mval l1) else sg n1 (mval l1 - mval l2) := by
    rw [← h1.2.2.1, ← h2.2.2.1]
    exact sg_diff n1 _ _
  have HK : Hid (l1.length ≤ K ∧ l2.length ≤ K) := ⟨h1.2.2.2.2.1, h2.2.2.2.2.1⟩
  have HC := Lib.hid (rorder_any A1 A2 l1 l2 c1 c2 W0 (by have := HK.out; omega) (by have := HK.out; omega) h1.1 h2.1 h1.2.1 h2.2.1 (h1.below hB0).2.2.2.2.2 (h2.below hB0).2.2.2.2.2)
  have HF1 := Lib.hid (fun (hle : mval l2 ≤ mval l1) (W : World) (hW : Below w.heap.size w W) => rminus_any A1 A2 l1 l2 c1 c2 W (by have := HK.out; omega) (len_of_le h1.1 h2.2.1 hle) h1.2.2.2.1 h2.2.2.2.1 h1.1 h2.1 hle (h1.below hW).2.2.2.2.2 (h2.below hW).2.2.2.2.2)
  have HF2 := Lib.hid (fun (hle : mval l1 ≤ mval l2) (W : World) (hW : Below w.heap.size w W) => rminus_any A2 A1 l2 l1 c2 c1 W (by have := HK.out; omega) (len_of_le h2.1 h1.2.1 hle) h2.2.2.2.1 h1.2.2.2.1 h2.1 h1.1 hle (h2.below hW).2.2.2.2.2 (h1.below hW).2.2.2.2.2)
  have HZ12 := Lib.hid hz12
  have K1 := Lib.hid k1
  have K2 := Lib.hid k2
  have K3 := Lib.hid k3
  have HB := Lib.hid hB0
  have HZ : Hid (W0.heap.size = w.heap.size + 3) := hz
  have c10 := Lib.cell_of_heap k1 0
  have c11 := Lib.cell_of_heap k1 1
  have c20 := Lib.cell_of_heap k2 0
  have c21 := Lib.cell_of_heap k2 1
  simp at c10 c11 c20 c21
  clear h1 h2 k1 k2 k3 hz hB0 hz12
  go_enter Tryz.func88, Tryz.ntmps88
  go_wp2_with fail
  rw [← hW0]
  refine HC.out.mono ?_
  rintro e w1 ⟨r, rfl, hs, q, rfl⟩
  have EB := Lib.hid (below_drewN HB.out q)
  have EZ : Hid ((W0.drewN q).heap.size = w.heap.size + 3) := HZ.out
  have E1 : (W0.drewN q).heap[w.heap.size]? = some (.cells #[.bool n1, .slice A1 l1.length c1] 114) := K1.out
  have E2 : (W0.drewN q).heap[w.heap.size + 1]? = some (.cells #[.bool (!n1), .slice A2 l2.length c2] 114) := K2.out
  have E3 : Hid ((W0.drewN q).heap[w.heap.size + 1 + 1]? = some (.cells #[.bool false, .slice none 0 0] 114)) := K3.out
  have HS := Lib.hid hs
  clear hW0 HC hs HB HZ K1 K2 K3 c10 c11 c20 c21
  generalize W0.drewN q = W1 at EB EZ E1 E2 E3 ⊢
  by_cases hlt : mval l1 < mval l2
  · have hr0 := HS.out.1.2 hlt
    have hd : decide (0 ≤ r) = false := decide_eq_false (by omega)
    have HZE : Hid (z1 + z2 = sg (!n1) (mval l2 - mval l1)) := by rw [Hid, HZ12.out, if_pos hlt]
    have HF := Lib.hid (HF2.out (Nat.le_of_lt hlt))
    clear hr0 hlt HF1 HF2 HZ12
    go_wp2_with fail
    have k0 := Lib.cell_of_heap E2 0
    have k1 := Lib.cell_of_heap E2 1
    have k2 := Lib.cell_of_heap E1 1
    simp at k0 k1 k2
    clear E1 E2
    go_region_held3 (fun W => W.cell? ⟨w.heap.size + 1, 0, none⟩ = some (.bool (!n1)) ∧ W.cell? ⟨w.heap.size + 1, 1, none⟩ = some (.slice A2 l2.length c2) ∧ W.cell? ⟨w.heap.size, 1, none⟩ = some (.slice A1 l1.length c1))
      (refine ⟨?_, ?_, ?_⟩ <;> first | assumption | (go_simp; done))
      (first
        | (go_at_call 128; refine (HF.out _ EB.out.drew).mono ?_; rintro e w1 ⟨A3, r3, c3, rfl, hc3, hS3, hA3, hR3, hb3⟩; have j0 : w1.cell? ⟨w.heap.size + 1, 0, none⟩ = some (.bool (!n1)) := (hb3.cell (by simp [EZ.out])).trans k0; have j1 : w1.cell? ⟨w.heap.size + 1, 1, none⟩ = some (.slice A2 l2.length c2) := (hb3.cell (by simp [EZ.out])).trans k1; have j2 : w1.cell? ⟨w.heap.size, 1, none⟩ = some (.slice A1 l1.length c1) := (hb3.cell (by simp [EZ.out])).trans k2; have j3 := (hb3.block (w.heap.size + 1 + 1) (by simp [EZ.out])).trans E3.out; have m0 := Lib.cell_of_heap j3 0; have m1 := Lib.cell_of_heap j3 1; have f0 := Lib.frozen_of_heap j3 0; have f1 := Lib.frozen_of_heap j3 1; clear j3; simp at m0 m1))
    go_wp2_with fail
    refine bodyPost_ret (v := .agg #[.bool (!n1), .slice (some A3) r3.length c3]) (by simp [results, Tryz.results88, go_sem, m0, m1]) rfl ?_
    have hz := EZ.out
    have hb0 := EB.out
    have hne : ∀ ad : Addr, some A3 = some ad → ad.block ≠ w.heap.size + 1 + 1 := fun ad e => by injection e with e; subst e; have := hA3; simp at this; omega
    refine ⟨(!n1), some A3, r3, c3, rfl, ⟨hS3.1, hS3.2.1, ?_, hc3, ?_, (hR3.far (p := ⟨w.heap.size + 1 + 1, 0, none⟩) hne _).far (p := ⟨w.heap.size + 1 + 1, 1, none⟩) hne _⟩, ?_⟩
    · rw [hS3.2.2.1]; exact HZE.out.symm
    · have := hS3.2.2.2; have := HK.out; omega
    · exact ((hb0.drew.trans (hb3.mono (by simp; omega))).setCell (p := ⟨w.heap.size + 1 + 1, 0, none⟩) (by simp; omega) _).setCell (p := ⟨w.heap.size + 1 + 1, 1, none⟩) (by simp; omega) _
  · have hr0 : ¬ r < 0 := fun h => hlt (HS.out.1.1 h)
    have hd : decide (0 ≤ r) = true := decide_eq_true (by omega)
    have HZE : Hid (z1 + z2 = sg n1 (mval l1 - mval l2)) := by rw [Hid, HZ12.out, if_neg hlt]
    have HF := Lib.hid (HF1.out (Nat.le_of_not_lt hlt))
    clear hr0 hlt HF1 HF2 HZ12
    go_wp2_with fail
    have k0 := Lib.cell_of_heap E1 0
    have k1 := Lib.cell_of_heap E1 1
    have k2 := Lib.cell_of_heap E2 1
    simp at k0 k1 k2
    clear E1 E2
    go_region_held3 (fun W => W.cell? ⟨w.heap.size, 0, none⟩ = some (.bool n1) ∧ W.cell? ⟨w.heap.size, 1, none⟩ = some (.slice A1 l1.length c1) ∧ W.cell? ⟨w.heap.size + 1, 1, none⟩ = some (.slice A2 l2.length c2))
      (refine ⟨?_, ?_, ?_⟩ <;> first | assumption | (go_simp; done))
      (first
        | (go_at_call 128; refine (HF.out _ EB.out.drew).mono ?_; rintro e w1 ⟨A3, r3, c3, rfl, hc3, hS3, hA3, hR3, hb3⟩; have j0 : w1.cell? ⟨w.heap.size, 0, none⟩ = some (.bool n1) := (hb3.cell (by simp [EZ.out])).trans k0; have j1 : w1.cell? ⟨w.heap.size, 1, none⟩ = some (.slice A1 l1.length c1) := (hb3.cell (by simp [EZ.out])).trans k1; have j2 : w1.cell? ⟨w.heap.size + 1, 1, none⟩ = some (.slice A2 l2.length c2) := (hb3.cell (by simp [EZ.out])).trans k2; have j3 := (hb3.block (w.heap.size + 1 + 1) (by simp [EZ.out])).trans E3.out; have m0 := Lib.cell_of_heap j3 0; have m1 := Lib.cell_of_heap j3 1; have f0 := Lib.frozen_of_heap j3 0; have f1 := Lib.frozen_of_heap j3 1; clear j3; simp at m0 m1))
    go_wp2_with fail
    refine bodyPost_ret (v := .agg #[.bool n1, .slice (some A3) r3.length c3]) (by simp [results, Tryz.results88, go_sem, m0, m1]) rfl ?_
    have hz := EZ.out
    have hb0 := EB.out
    have hne : ∀ ad : Addr, some A3 = some ad → ad.block ≠ w.heap.size + 1 + 1 := fun ad e => by injection e with e; subst e; have := hA3; simp at this; omega
    refine ⟨n1, some A3, r3, c3, rfl, ⟨hS3.1, hS3.2.1, ?_, hc3, ?_, (hR3.far (p := ⟨w.heap.size + 1 + 1, 0, none⟩) hne _).far (p := ⟨w.heap.size + 1 + 1, 1, none⟩) hne _⟩, ?_⟩
    · rw [hS3.2.2.1]; exact HZE.out.symm
    · have := hS3.2.2.2; have := HK.out; omega
    · exact ((hb0.drew.trans (hb3.mono (by simp; omega))).setCell (p := ⟨w.heap.size + 1 + 1, 0, none⟩) (by simp; omega) _).setCell (p := ⟨w.heap.size + 1 + 1, 1, none⟩) (by simp; omega) _

theorem radd_any (n1 n2 : Bool) (A1 A2 : Option Addr) (l1 l2 : List Nat) (c1 c2 : Nat) (z1 z2 : Int) (K : Nat) (w : World) (hK : K ≤ 500000) (h1 : RNm w n1 A1 l1 c1 z1 K) (h2 : RNm w n2 A2 l2 c2 z2 K) :
    Calls Tryz.prog 88 #[.agg #[.bool n1, .slice A1 l1.length c1], .agg #[.bool n2, .slice A2 l2.length c2]] w (RNumPost w (z1 + z2) (K + 1)) := by
  by_cases h : n2 = n1
  · subst h; exact radd_same n2 A1 A2 l1 l2 c1 c2 z1 z2 K w hK h1 h2
  · obtain rfl : n2 = !n1 := by cases n1 <;> cases n2 <;> simp_all
    exact radd_diff n1 A1 A2 l1 l2 c1 c2 z1 z2 K w hK h1 h2

theorem RReadPost.num {w w' : World} {a : ByteArray} {e : Ending} (h : RReadPost w a e w') : RNumPost w (vl a) (a.size + 1) e w' := by
  obtain ⟨A, l, c, rfl, ⟨h1, h2, h3, h4⟩, hc, hr, hb⟩ := h
  refine ⟨_, A, l, c, rfl, ⟨h1, h2, ?_, hc, by omega, hr⟩, hb⟩
  rw [h3]
  by_cases hn : vl a < 0
  · rw [decide_eq_true hn]; show -((vl a).natAbs : Int) = vl a; omega
  · rw [decide_eq_false hn]; show ((vl a).natAbs : Int) = vl a; omega
theorem digits_short {z : Int} (h : (digits z.natAbs).length ≤ 17) : z.natAbs < 100000000000000000 := (digits_length_le_iff 17 z.natAbs).1 h

set_option maxHeartbeats 4000000 in
set_option maxRecDepth 100000 in
theorem rAdd_any (a b : ByteArray) (ha : a.size ≤ 90000) (hb : b.size ≤ 90000) (w : World) :
    Calls Tryz.prog 47 #[.string a, .string b] w fun e w' => e = .returned (.string (I (vl a + vl b))) ∧ Below w.heap.size w w' := by
  obtain ⟨K, hK⟩ : ∃ K, K = max a.size b.size + 1 := ⟨_, rfl⟩
  have HR1 := Lib.hid (fun W => (rread_any a W (by omega)).mono fun _ _ h => h.num)
  have HR2 := Lib.hid (fun W => (rread_any b W (by omega)).mono fun _ _ h => h.num)
  have HKK := Lib.hid (show a.size + 1 ≤ K ∧ b.size + 1 ≤ K ∧ K ≤ 90001 by omega)
  by_cases h1 : (digits (vl a).natAbs).length ≤ 17
  · by_cases h2 : (digits (vl b).natAbs).length ≤ 17
    · have s1 := digits_short h1
      have s2 := digits_short h2
      have HA := Lib.hid (fun W => rshort_yes a (by omega) h1 W)
      have HB := Lib.hid (fun W => rshort_yes b (by omega) h2 W)
      have HOF := Lib.hid (fun W => rOf_any (vl a + vl b) (by omega) W)
      generalize vl a = m at *
      generalize vl b = n at *
      clear ha hb h1 h2 HR1 HR2 HKK hK
      go_enter Tryz.func47, Tryz.ntmps47
      go_wp2_with fail
      refine (HA.out _).mono ?_
      rintro e w1 ⟨rfl, rfl⟩
      go_wp2_with fail
      refine (HB.out _).mono ?_
      rintro e w1 ⟨rfl, rfl⟩
      go_wp2_with fail
      refine (HOF.out _).mono ?_
      rintro e w1 ⟨rfl, rfl⟩
      go_wp2_with fail
      go_ret
      exact ⟨rfl, Below.refl _ _⟩
    · have HA := Lib.hid (fun W => rshort_yes a (by omega) h1 W)
      have HB := Lib.hid (fun W => rshort_no b (by omega) (by omega) W)
      clear ha hb h1 h2 hK
      go_enter Tryz.func47, Tryz.ntmps47
      go_wp2_with fail
      refine (HA.out _).mono ?_
      rintro e w1 ⟨rfl, rfl⟩
      go_wp2_with fail
      refine (HB.out _).mono ?_
      rintro e w1 ⟨rfl, rfl⟩
      go_wp2_with fail
      refine (HR1.out _).mono ?_
      rintro e w2 ⟨n1, A1, l1, c1, rfl, h1, b2⟩
      have H1 := Lib.hid h1
      have B2 := Lib.hid b2
      clear h1 b2
      go_wp2_with fail
      refine (HR2.out _).mono ?_
      rintro e w3 ⟨n2, A2, l2, c2, rfl, h2, b3⟩
      have H1' := Lib.hid (H1.out.below b3)
      have H2 := Lib.hid h2
      have B3 := Lib.hid (B2.out.trans (b3.mono B2.out.size))
      clear h2 b3 H1 B2
      have HAD := Lib.hid (radd_any n1 n2 A1 A2 l1 l2 c1 c2 (vl a) (vl b) K w3 (by have := HKK.out; omega) ⟨H1'.out.1, H1'.out.2.1, H1'.out.2.2.1, H1'.out.2.2.2.1, (by have := H1'.out.2.2.2.2.1; have := HKK.out; omega), H1'.out.2.2.2.2.2⟩ ⟨H2.out.1, H2.out.2.1, H2.out.2.2.1, H2.out.2.2.2.1, (by have := H2.out.2.2.2.2.1; have := HKK.out; omega), H2.out.2.2.2.2.2⟩)
      clear H1' H2 HR1 HR2
      go_wp2_with fail
      refine HAD.out.mono ?_
      rintro e w4 ⟨n3, A3, l3, c3, rfl, h3, b4⟩
      have HW := Lib.hid (rwrite_any n3 A3 l3 c3 w4 (by have := h3.2.2.2.2.1; have := HKK.out; omega) h3.2.2.2.1 h3.1 h3.2.2.2.2.2)
      have HZ : Hid ((if n3 = true then -(mval l3 : Int) else (mval l3 : Int)) = vl a + vl b) := by rw [Hid, ← h3.2.2.1]; cases n3 <;> rfl
      have B4 := Lib.hid (B3.out.trans (b4.mono B3.out.size))
      clear h3 b4 B3 HAD
      rw [HZ.out] at HW
      go_wp2_with fail
      refine HW.out.mono ?_
      rintro e w5 ⟨rfl, b5⟩
      have B5 := Lib.hid (B4.out.trans (b5.mono B4.out.size))
      clear b5 B4
      go_wp2_with fail
      go_ret
      exact ⟨rfl, B5.out⟩

  · obtain ⟨m, also, HB, _⟩ := rshort_two b (by omega)
    have HA := Lib.hid (fun W => rshort_no a (by omega) (by omega) W)
    clear ha hb h1 hK
    go_enter Tryz.func47, Tryz.ntmps47
    go_wp2_with fail
    refine (HA.out _).mono ?_
    rintro e w1 ⟨rfl, rfl⟩
    go_wp2_with fail
    refine (HB.out _).mono ?_
    rintro e w1 ⟨rfl, rfl⟩
    go_wp2_with fail
    refine (HR1.out _).mono ?_
    rintro e w2 ⟨n1, A1, l1, c1, rfl, h1, b2⟩
    have H1 := Lib.hid h1
    have B2 := Lib.hid b2
    clear h1 b2
    go_wp2_with fail
    refine (HR2.out _).mono ?_
    rintro e w3 ⟨n2, A2, l2, c2, rfl, h2, b3⟩
    have H1' := Lib.hid (H1.out.below b3)
    have H2 := Lib.hid h2
    have B3 := Lib.hid (B2.out.trans (b3.mono B2.out.size))
    clear h2 b3 H1 B2
    have HAD := Lib.hid (radd_any n1 n2 A1 A2 l1 l2 c1 c2 (vl a) (vl b) K w3 (by have := HKK.out; omega) ⟨H1'.out.1, H1'.out.2.1, H1'.out.2.2.1, H1'.out.2.2.2.1, (by have := H1'.out.2.2.2.2.1; have := HKK.out; omega), H1'.out.2.2.2.2.2⟩ ⟨H2.out.1, H2.out.2.1, H2.out.2.2.1, H2.out.2.2.2.1, (by have := H2.out.2.2.2.2.1; have := HKK.out; omega), H2.out.2.2.2.2.2⟩)
    clear H1' H2 HR1 HR2
    go_wp2_with fail
    refine HAD.out.mono ?_
    rintro e w4 ⟨n3, A3, l3, c3, rfl, h3, b4⟩
    have HW := Lib.hid (rwrite_any n3 A3 l3 c3 w4 (by have := h3.2.2.2.2.1; have := HKK.out; omega) h3.2.2.2.1 h3.1 h3.2.2.2.2.2)
    have HZ : Hid ((if n3 = true then -(mval l3 : Int) else (mval l3 : Int)) = vl a + vl b) := by rw [Hid, ← h3.2.2.1]; cases n3 <;> rfl
    have B4 := Lib.hid (B3.out.trans (b4.mono B3.out.size))
    clear h3 b4 B3 HAD
    rw [HZ.out] at HW
    go_wp2_with fail
    refine HW.out.mono ?_
    rintro e w5 ⟨rfl, b5⟩
    have B5 := Lib.hid (B4.out.trans (b5.mono B4.out.size))
    clear b5 B4
    go_wp2_with fail
    go_ret
    exact ⟨rfl, B5.out⟩
theorem rSub_any (a b : ByteArray) (ha : a.size ≤ 80000) (hb : b.size ≤ 80000) (w : World) :
    Calls Tryz.prog 60 #[.string a, .string b] w fun e w' => e = .returned (.string (I (vl a - vl b))) ∧ Below w.heap.size w w' := by
  have HN := Lib.hid (fun W => rNeg_any b (by omega) W)
  have HA := Lib.hid (fun W => rAdd_any a (I (-vl b)) (by omega) (by have := I_size_le (z := -vl b) (k := b.size) (by rw [Int.natAbs_neg]; exact vl_lt b); omega) W)
  rw [vl_I] at HA
  clear ha hb
  go_enter Tryz.func60, Tryz.ntmps60
  go_wp2_with fail
  refine (HN.out _).mono ?_
  rintro e w1 ⟨rfl, rfl⟩
  go_wp2_with fail
  refine (HA.out _).mono ?_
  rintro e w2 ⟨rfl, b2⟩
  have HB := Lib.hid b2
  clear b2
  go_wp2_with fail
  go_ret
  exact ⟨by rw [Int.sub_eq_add_neg]; rfl, HB.out⟩
end Go.Proofs.YthmfkgcoocikjaaGreatDoor
