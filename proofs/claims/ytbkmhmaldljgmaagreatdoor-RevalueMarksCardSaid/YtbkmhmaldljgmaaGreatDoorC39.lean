/-
  revalue.Lots where all is in order.
-/
import Derived.Test.YtbkmhmaldljgmaaGreatDoorC37
import Derived.Test.YtbkmhmaldljgmaaGreatDoorC29
import Derived.Test.YtbkmhmaldljgmaaGreatDoorC38
import Derived.Test.YtbkmhmaldljgmaaGreatDoorC20
import Derived.Test.YtbkmhmaldljgmaaGreatDoorC16
set_option linter.unusedVariables false
set_option linter.unusedSimpArgs false
set_option maxHeartbeats 16000000
set_option maxRecDepth 100000
namespace Go.Proofs.YtbkmhmaldljgmaaGreatDoor
open Go.RowKit Tr Go.Shelf
def subUp (L C : List Int) (k : Nat) : List Int := (List.zipWith (· - ·) L C).take k ++ L.drop k
theorem subUp_len {L C : List Int} (h : L.length = C.length) (k : Nat) : (subUp L C k).length = L.length := by
 unfold subUp; simp; omega
theorem subUp_at {L C : List Int} (h : L.length = C.length) {k : Nat} {z : Int} (hz : L[k]? = some z) : (subUp L C k)[k]? = some z := by
 have hk : k < L.length := (List.getElem?_eq_some_iff.1 hz).1
 unfold subUp
 rw [List.getElem?_append_right (by simp; omega)]
 rw [List.getElem?_drop]
 simp
 rw [show min k (min L.length C.length) = k from by omega]
 simpa using hz
theorem subUp_set {L C : List Int} {k : Nat} {z c : Int} (hz : L[k]? = some z) (hc : C[k]? = some c) : (subUp L C k).set k (z - c) = subUp L C (k + 1) := by
 have hk : k < L.length := (List.getElem?_eq_some_iff.1 hz).1
 have hk2 : k < C.length := (List.getElem?_eq_some_iff.1 hc).1
 unfold subUp
 have hd : L.drop k = z :: L.drop (k + 1) := by
  rw [List.drop_eq_getElem_cons hk]; congr 1
  rw [List.getElem?_eq_getElem hk] at hz; exact Option.some.inj hz
 have ht : ((List.zipWith (· - ·) L C).take k).length = k := by simp; omega
 have hzc : (List.zipWith (· - ·) L C)[k]? = some (z - c) := by rw [List.getElem?_zipWith, hz, hc]
 rw [List.take_add_one, hzc, hd, List.set_append_right _ _ (by omega), ht]
 simp
def qtysOf (ls : List SLot) : List Int := ls.map qtyOf
def costsOf (ls : List SLot) : List Int := ls.map costOf
def strV (l : List Int) : List Value := l.map fun z => .string (I z)
theorem strV_snoc (l : List Int) (z : Int) : strV (l ++ [z]) = strV l ++ [.string (I z)] := by simp [strV]
def gainsL (T : Int) (own : List SLot) : List Int := subUp (spL T (qtysOf own)) (costsOf own) own.length
theorem spL_len (T : Int) (l : List Int) : (spL T l).length = l.length := by unfold spL; split <;> simp [shL_len]
theorem srow_of_own {W : World} {n₀ n : Nat} {v : Value} {l : List Int} (h : W.ownsRow n₀ 23 1 v n (strV l)) (hn : l.length = n) (h0 : n ≠ 0) : ∃ g c, v = .slice (some ⟨g, 0, none⟩) n c ∧ SRd W ⟨g, 0, none⟩ l := by
 rcases h.2 with ⟨rfl, e0⟩ | ⟨g, cap, cur, rfl, hb, hg, hnc, hcm, _⟩
 ·exact absurd e0 h0
 ·refine ⟨g, cap, rfl, (Array.getElem?_eq_some_iff.1 hg).1, fun k z hk => ?_⟩
  exact h.cells (g := g) rfl k (.string (I z)) (by unfold strV; rw [List.getElem?_map, hk]; rfl)
structure LtB (W : World) (q B k : Nat) (P : List Int) (x : Lot) (u : Int) : Prop where
 r : W.heap[q]? = some (sRow (P.set k u))
 b : W.heap[B]? = some (.cells x.cells 55 (0, 0))
theorem LtB.below {W W' : World} {q B k : Nat} {P : List Int} {x : Lot} {u : Int} (h : LtB W q B k P x u) (hb : Below W.heap.size W W') : LtB W' q B k P x u := ⟨bkeepK hb h.r, bkeepK hb h.b⟩
theorem sRow_putZ {W : World} {q : Nat} {P : List Int} (h : W.heap[q]? = some (sRow P)) (k : Nat) (r : Int) : (W.setCell ⟨q, k, none⟩ (.string (I r))).heap[q]? = some (sRow (P.set k r)) := by
 have := heap_setCell_same W q k _ _ (.string (I r)) h
 rw [this]
 unfold sRow
 simp [List.map_set]
theorem rvLots_ok (F : Value) (hF : ∃ B k c, F = .slice B k c) (n₀ : Nat) (A : Option Addr) (ls : List SLot) (cl : Nat) (hlen : ls.length ≤ 1000000) (i : Inst) (d st : Int) (Q C pn pd : ByteArray) (T : Int) (w : World) (h : RvC w F (.slice A ls.length cl) i d st) (hm : RvM w F (.slice A ls.length cl) i d st Q C pn pd (I T))
 (hR : RdB n₀ w A ls) (hnw : n₀ ≤ w.heap.size) (hcan : ∀ l ∈ ownL ls i.id, Can l.1.qty) (K : Nat) (hW : WOk (qtysOf (ownL ls i.id)) K) (hT : T.natAbs < 10 ^ K) (hK : K ≤ 900) (hz : ∀ z ∈ spL T (qtysOf (ownL ls i.id)), (I z).size ≤ 100000) (hcz : ∀ l ∈ ownL ls i.id, l.1.cost.size ≤ 100000) (ht : Tabs w) :
 Calls Tryz.prog 20 #[.agg (stpC st), F, i.enc, .slice A ls.length cl, .int .i64 d] w fun e w' => ∃ q, e = .returned (.tuple #[.slice (some ⟨q, 0, none⟩) (ownL ls i.id).length (ownL ls i.id).length, .int .i64 0]) ∧ w.heap.size ≤ q ∧ w'.heap[q]? = some (sRow (gainsL T (ownL ls i.id))) ∧ Below w.heap.size w w' := by
 have mixed : Tryz.prog.follows .mixedOrders = true := by kernel_rfl
 obtain ⟨W0, hW0, hB⟩ := RvB.start w i st
 have HB := hI hB
 have HM := hI (fun W (hb : Below w.heap.size w W) => rvMarket_ok F (.slice A ls.length cl) hF ⟨_, _, _, rfl⟩ i d st Q C pn pd (I T) W (h.below hb) (hm.below hb))
 have HO := hI (fun W (hb : Below w.heap.size w W) => lOf_n n₀ A ls cl i.id W hlen (hR.below (hb.mono hnw)) (Nat.le_trans hnw hb.size))
 have HT := hI ht
 obtain ⟨FB, fk, fc, rfl⟩ := hF
 obtain ⟨own, hown⟩ : ∃ own, ownL ls i.id = own := ⟨_, rfl⟩
 rw [hown] at HO hcan hW hz hcz ⊢
 obtain ⟨n, hn⟩ : ∃ n, own.length = n := ⟨_, rfl⟩
 have hn0 : n ≠ 0 := by have h0 := hW.n0; unfold qtysOf at h0; rw [List.length_map, hn] at h0; exact h0
 have hn12 : n ≤ 12 := by have h1 := hW.n1; unfold qtysOf at h1; rw [List.length_map, hn] at h1; exact h1
 have HN := hI hn
 have HCAN := hI hcan
 have HW := hI hW
 have HTT : Hid (T.natAbs < 10 ^ K ∧ K ≤ 900) := ⟨hT, hK⟩
 have HZ := hI hz
 have HCZ := hI hcz
 obtain ⟨c0, c1, c2, c3, c4, c5, c6, c7, c8, c9, c10, c11, c12, c13, c14⟩ := icellsV HB.out.i
 obtain ⟨s0, s1, s2, s3, s4, s5, s6⟩ := scellsV HB.out.s
 generalize ls.length = nl at *
 clear h hB hm hR hnw hcan hW hT hK hz hcz ht hlen hown
 obtain ⟨ts, hts⟩ : ∃ ts, I T = ts := ⟨_, rfl⟩
 rw [hts] at HM
 have HTS := hI hts
 clear hts
 unfold Inst.enc at *
 unfold stpC Inst.cells at hW0 HM
 unfold stpC Inst.cells
 go_enter Tryz.func20, Tryz.ntmps20
 go_wp2_with fail
 refine (HM.out W0 HB.out.b).mono ?_
 rintro e w1 ⟨rfl, b1⟩
 have HB1 := hI (HB.out.below b1)
 clear hW0 b1 HB s0 s1 s2 s3 s4 s5 s6 c0 c1 c2 c3 c4 c5 c6 c7 c8 c9 c10 c11 c12 c13 c14
 obtain ⟨c0, c1, c2, c3, c4, c5, c6, c7, c8, c9, c10, c11, c12, c13, c14⟩ := icellsV HB1.out.i
 clear c1 c2 c3 c4 c5 c6 c7 c8 c9 c10 c11 c12 c13 c14
 go_wp2_with fail
 refine (HO.out w1 HB1.out.b).mono ?_
 rintro e w2 ⟨Ao, co, rfl, hoc, hbk, hro, b2, hnil⟩
 rw [hn] at hoc hnil ⊢
 have HB2 := hI (HB1.out.b.trans (b2.mono HB1.out.b.size))
 obtain ⟨ao, rfl, hao, hcell⟩ := hro (fun e => by rw [e] at hn; exact hn0 hn.symm)
 have HCELL := hI hcell
 have HAO := hI hao
 clear c0 b2 HB1 hoc hbk hro hnil hcell hao hn
 go_wp2_with fail
 go_loopw [15, 40] (fun v15 v40 wr => ∃ k : Nat, v40 = .int .i64 (k : Int) ∧ k ≤ n ∧ wr.ownsRow w2.heap.size 23 1 v15 k (strV ((qtysOf own).take k)) ∧ Below w2.heap.size w2 wr) (fun _ v _ => n - (intOf v).toNat)
 case atStart => exact ⟨0, rfl, Nat.zero_le _, World.ownsRow_nil _ _ _ _, Below.refl _ _⟩
 case round =>
  obtain ⟨k, rfl, hk, hrow, hb⟩ := hrel
  have HROW := hI hrow
  have HBW := hI hb
  clear hrow hb
  rcases Nat.lt_or_ge k n with hlt | hge
  ·have hcx : decide ((k : Int) < (n : Int)) = true := by simp; omega
   have hbk : (k : Int) < (n : Int) := by omega
   obtain ⟨x, hx⟩ : ∃ x, own[k]? = some x := ⟨_, List.getElem?_eq_getElem (by rw [HN.out]; exact hlt)⟩
   have HX := hI hx
   have HQ : Hid (x.1.qty = I (qtyOf x)) := (HCAN.out x (List.mem_of_getElem? hx)).symm
   have HSUC : Hid ((qtysOf own).take (k + 1) = (qtysOf own).take k ++ [qtyOf x]) := by rw [Hid, List.take_add_one]; unfold qtysOf; rw [List.getElem?_map, hx]; rfl
   obtain ⟨c0, c1, c2, c3, c4, c5, c6⟩ := (HCELL.out k x hx).below HBW.out (by rw [add_block]; exact HAO.out)
   obtain ⟨W5, hW5⟩ : ∃ W5, wr.alloc (.cells x.1.cells 55) = W5 := ⟨_, rfl⟩
   have k5 : LotBox W5 wr.heap.size x.1 := by rw [← hW5]; exact heap_alloc_new wr _
   have m4 := Lib.cell_of_heap k5 4
   simp at m4
   have HB5 : Hid (Below w2.heap.size w2 W5) := by rw [Hid, ← hW5]; exact HBW.out.alloc HBW.out.size _
   have HR5 := hI (HROW.out.alloc (.cells x.1.cells 55))
   rw [hW5] at HR5
   obtain ⟨i0, hi, hz0, hz1, hz2⟩ := info_parts Tryz.infoInt
   obtain ⟨qs, hqs⟩ : ∃ qs, x.1.qty = qs := ⟨_, rfl⟩
   have HS : Hid (∀ j u, [Value.string qs][j]? = some u → (W5.alloc (.cells #[.string qs] 23)).cell? ((⟨W5.heap.size, 0, none⟩ : Addr).add j) = some u) := cells_new W5 #[.string qs] 23
   have HBA : Hid (Below w2.heap.size w2 (W5.alloc (.cells #[.string qs] 23))) := HB5.out.alloc HB5.out.size _
   have HRA := hI (HR5.out.alloc (.cells #[.string qs] 23))
   obtain ⟨B5, hB5⟩ : ∃ B5, wr.heap.size = B5 := ⟨_, rfl⟩
   rw [hB5] at m4
   rw [hqs] at m4 HQ
   clear k5 hx
   unfold Lot.cells at hW5
   rw [hqs] at hW5 c4
   clear hqs
   go_wp2_with (at_builtin; refine wpList_append_own _ rfl _ _ 28 rfl w2.heap.size 23 i0 (.string ⟨#[]⟩) 1 16 Tryz.underlying28 hi hz0 hz1 hz2 rfl (by decide) _ _ _ rfl HRA.out ⟨W5.heap.size, 0, none⟩ 1 1 [.string qs] rfl rfl HS.out (by simp [Value.oneCell']) (by unfold maxLen; omega) (by omega) HBA.out.size ?_; intro v4 w4 hown4 hgrow4 _; have HO4 := hI hown4; have HG4 := hI hgrow4; clear hown4 hgrow4)
   have HB4 : Hid (Below w2.heap.size w2 w4) := HBA.out.grown HG4.out HBA.out.size (fun j hj => (HRA.out.lt j hj).1)
   go_roundw
   case rel => exact ⟨k + 1, by go_num, by omega, by rw [HSUC.out, strV_snoc, ← HQ.out]; exact HO4.out, HB4.out⟩
   case measure => simp [intOf]; omega
  ·have hkn : k = n := by omega
   subst hkn
   have hcx : decide ((k : Int) < (k : Int)) = false := by simp
   have hqlen : (qtysOf own).length = k := by unfold qtysOf; rw [List.length_map]; exact HN.out
   have hrow := HROW.out
   rw [List.take_of_length_le (by omega)] at hrow
   obtain ⟨g, cg, rfl, hsr⟩ := srow_of_own hrow hqlen hn0
   have HSP := alSplit_ok T ⟨g, 0, none⟩ (qtysOf own) cg K HW.out HTT.out.1 HTT.out.2 wr hsr (HT.out.below (HB2.out.trans (HBW.out.mono HB2.out.size)))
   rw [hqlen, HTS.out] at HSP
   have HSP' := hI HSP
   clear hrow hsr HSP HROW
   go_wp2_with fail
   refine HSP'.out.mono ?_
   rintro e w5 ⟨q, rfl, hq, hqr, b5⟩
   obtain ⟨L, hL⟩ : ∃ L, spL T (qtysOf own) = L := ⟨_, rfl⟩
   obtain ⟨CC, hCC⟩ : ∃ CC, costsOf own = CC := ⟨_, rfl⟩
   have HLL : Hid (L.length = k ∧ CC.length = k) := ⟨by rw [← hL, spL_len, hqlen], by rw [← hCC]; unfold costsOf; rw [List.length_map]; exact HN.out⟩
   have HGL : Hid (gainsL T own = subUp L CC k) := by rw [Hid, gainsL, hL, hCC, HN.out]
   rw [hL] at HZ hqr
   have HB5 := hI b5
   have HQQ : Hid (wr.heap.size ≤ q) := hq
   have HQR : Hid (w5.heap[q]? = some (sRow (subUp L CC 0))) := by rw [Hid, hqr]; unfold subUp; simp
   have HCC := hI hCC
   clear b5 hq hqr hL hCC HSP' hqlen
   go_wp2_with fail
   generalize hwo : wr = wo at *
   clear hwo
   go_loopw [58] (fun v58 wr => ∃ j : Nat, v58 = .int .i64 (j : Int) ∧ j ≤ k ∧ wr.heap[q]? = some (sRow (subUp L CC j)) ∧ Below wo.heap.size wo wr) (fun v _ => k - (intOf v).toNat)
   case atStart => exact ⟨0, rfl, Nat.zero_le _, HQR.out, HB5.out⟩
   case round =>
    obtain ⟨j, rfl, hj, hqj, hbz⟩ := hrel
    clear HQR HB5
    have HBZ := hI hbz
    have HQJ := hI hqj
    clear hbz hqj hcx
    rcases Nat.lt_or_ge j k with hlt | hge2
    ·have hcx : decide ((j : Int) < (k : Int)) = true := by simp; omega
     have hbk : (j : Int) < (k : Int) := by omega
     obtain ⟨x, hx⟩ : ∃ x, own[j]? = some x := ⟨_, List.getElem?_eq_getElem (by rw [HN.out]; exact hlt)⟩
     obtain ⟨z, hz⟩ : ∃ z, L[j]? = some z := ⟨_, List.getElem?_eq_getElem (by rw [HLL.out.1]; exact hlt)⟩
     have hcj : CC[j]? = some (costOf x) := by rw [← HCC.out]; unfold costsOf; rw [List.getElem?_map, hx]; rfl
     have HSET : Hid ((subUp L CC j).set j (z - costOf x) = subUp L CC (j + 1)) := subUp_set hz hcj
     have HAT : Hid ((subUp L CC j)[j]? = some z) := subUp_at (by rw [HLL.out.1, HLL.out.2]) hz
     have HPL : Hid (j < (subUp L CC j).length) := by rw [Hid, subUp_len (by rw [HLL.out.1, HLL.out.2]), HLL.out.1]; exact hlt
     have HSB : Hid (∀ W, Below wo.heap.size wo W → Calls Tryz.prog 26 #[.string (I z), .string x.1.cost] W fun e w' => e = .returned (.string (I (z - costOf x))) ∧ Below W.heap.size W w') := fun W hb => by
      have h0 := Sub_any (I z) x.1.cost W (Nat.le_trans (HZ.out z (List.mem_of_getElem? hz)) (by omega)) (Nat.le_trans (HCZ.out x (List.mem_of_getElem? hx)) (by omega)) (HT.out.below (HB2.out.trans (HBW.out.mono HB2.out.size) |>.trans (hb.mono (Nat.le_trans HB2.out.size HBW.out.size))))
      rw [vl_I] at h0
      exact h0
     obtain ⟨c0, c1, c2, c3, c4, c5, c6⟩ := ((HCELL.out j x hx).below HBW.out (by rw [add_block]; exact HAO.out)).below (HBZ.out.mono (Nat.le_trans HBW.out.size (Nat.le_refl _)) : Below w2.heap.size wo wr) (by rw [add_block]; exact HAO.out)
     obtain ⟨W5, hW5⟩ : ∃ W5, wr.alloc (.cells x.1.cells 55) = W5 := ⟨_, rfl⟩
     have k5 : W5.heap[wr.heap.size]? = some (.cells x.1.cells 55 (0, 0)) := by rw [← hW5]; exact heap_alloc_new wr _
     have b5 : Below wr.heap.size wr W5 := by rw [← hW5]; exact (Below.refl _ wr).alloc (Nat.le_refl _) _
     have HB5 := hI (HBZ.out.trans (b5.mono HBZ.out.size))
     have HP5 : Hid (W5.heap[q]? = some (sRow (subUp L CC j))) := bkeepK b5 HQJ.out
     have hqlt : q < wr.heap.size := (Array.getElem?_eq_some_iff.1 HQJ.out).1
     obtain ⟨B, hBz⟩ : ∃ B, wr.heap.size = B := ⟨_, rfl⟩
     rw [hBz] at k5 hqlt
     have HK5 := hI k5
     have HNE : Hid (q ≠ B ∧ wo.heap.size ≤ q) := ⟨by omega, HQQ.out⟩
     clear k5 b5 hx hz hcj hqlt HQJ HBZ
     obtain ⟨cs, hcs⟩ : ∃ cs, x.1.cost = cs := ⟨_, rfl⟩
     obtain ⟨r, hr⟩ : ∃ r, z - costOf x = r := ⟨_, rfl⟩
     rw [hr] at HSET HSB
     obtain ⟨P, hP⟩ : ∃ P, subUp L CC j = P := ⟨_, rfl⟩
     rw [hP] at HSET HAT HPL HP5
     rw [hcs] at HSB
     have HCS := hI hcs
     clear hr hP hcs
     unfold Lot.cells at hW5
     rw [HCS.out] at hW5 c5
     go_upto_region 15 with fail
     refine region_marks (m := { C := fun W => ∃ u : Int, LtB W q B j P x.1 u ∧ Below wo.heap.size wo W, V := [fun v => v = .slice (some ⟨q, 0, none⟩) k k, fun v => v = .int .i64 (j : Int), fun v => v = .slice (some ⟨q, 0, none⟩) k k, fun v => v = .int .i64 (j : Int), fun v => v = .pointer (some ⟨q, j, none⟩), fun v => v = .string (I z), fun v => v = .pointer (some ⟨B, 5, none⟩), fun v => v = .string cs, fun v => v = .string (I r), fun v => v = .pointer (some ⟨q, j, none⟩)], N := [(10, fun _ W => W.cell? ⟨q, j, none⟩ = some (.string (I r)))], Z := [(10, fun W => W.cell? ⟨q, j, none⟩ = some (.string (I z)))], E := [], F := [] }) (F := ?F) mixed (by kernel_rfl) (by kernel_rfl) (by kernel_rfl) (fun s => ?hF) ?hC ?hZ ?hs ?he
     case hF =>
      simp only [putAll, Act.put, List.setIfInBounds_toArray, List.set_cons_succ, List.set_cons_zero, Nat.reduceAdd, Nat.zero_add]
      exact rfl
     case hC => exact ⟨z, ⟨by rw [set_id HAT.out]; exact HP5.out, HK5.out⟩, HB5.out.drew⟩
     case hZ => exact ⟨sRow_cell (show W5.drew.heap[q]? = _ from HP5.out) HAT.out, True.intro⟩
     case hs =>
      iterate 10
       refine mSteps_cons (fun s W hW hd hz K hK => ?_) ?_
       focus
        simp [depsOk, Mk.ok, mkV, mkN, Region.binds] at hd
        try simp only [hd] at hK ⊢
        first
        | (go_simp
           refine hK _ _ ?_ _ rfl
           exact nx_pure hW (And.intro rfl True.intro) rfl)
        | (have z := hz.1 (by kernel_rfl)
           simp only at z
           go_simp
           refine hK _ _ ?_ _ rfl
           exact nx_pure hW (And.intro rfl True.intro) rfl)
        | (have z := Lib.cell_of_heap hW.choose_spec.1.b 5
           simp [HCS.out] at z
           go_simp
           refine hK _ _ ?_ _ rfl
           exact nx_pure hW (And.intro rfl True.intro) rfl)
        | (obtain ⟨u, hx, hbw⟩ := hW
           go_simp
           refine (HSB.out W hbw).mono ?_
           rintro e wn ⟨rfl, hb⟩
           refine hK _ _ ?_ _ rfl
           exact ⟨⟨u, hx.below hb, hbw.trans (hb.mono hbw.size)⟩, ⟨fun _ h => (hb.cell (Array.getElem?_eq_some_iff.1 hx.r).1).trans h, True.intro⟩, ⟨fun h => (hb.cell (Array.getElem?_eq_some_iff.1 hx.r).1).trans h, True.intro⟩, hb.size, And.intro rfl True.intro, (fun h => by cases h), True.intro⟩)
      refine mSteps_cons (fun s W hW hd hz K hK => ?_) ?_
      focus
       simp [depsOk, Mk.ok, mkV, mkN, Region.binds] at hd
       try simp only [hd] at hK ⊢
       obtain ⟨u, hx, hbw⟩ := hW
       have hf := sRow_frozen hx.r j
       have hcl := sRow_cell hx.r (k := j) (z := u) (by simp [HPL.out])
       have hp := sRow_putZ hx.r j r
       rw [List.set_set] at hp
       have hcl' := sRow_cell hp (k := j) (z := r) (by simp [HPL.out])
       clear hd
       go_simp
       refine hK undef _ ?_ _ rfl
       exact ⟨⟨r, ⟨hp, (Below.heap_setCell _ _ _ B (Ne.symm HNE.out.1)).trans hx.b⟩, hbw.setCell (p := ⟨q, j, none⟩) HNE.out.2 _⟩, ⟨True.intro, True.intro⟩, ⟨True.intro, True.intro⟩, by simp [World.setCell], And.intro True.intro hcl', fun h => (by cases h), True.intro⟩
      exact mSteps_nil
     case he =>
      intro s W hC hall hd
      simp [allOk, Mk.ok, mkV, mkN] at hall
      obtain ⟨u, hx, hbw⟩ := hC
      have hcl := sRow_cell hx.r (k := j) (z := u) (by simp [HPL.out])
      have eu : u = r := by simp [hall] at hcl; exact (I_inj hcl).symm
      subst eu
      have HF : Hid (W.heap[q]? = some (sRow (subUp L CC (j + 1))) ∧ Below wo.heap.size wo W) := ⟨by rw [← HSET.out]; exact hx.r, hbw⟩
      clear hall hd hcl hx hbw
      go_wp2_with fail
      go_roundw
      case rel => exact ⟨j + 1, by go_num, by omega, HF.out.1, HF.out.2⟩
      case measure => simp [intOf]; omega
    ·have hjk : j = k := by omega
     subst hjk
     have hcx : decide ((j : Int) < (j : Int)) = false := by simp
     have HF : Hid (w.heap.size ≤ q ∧ wr.heap[q]? = some (sRow (gainsL T own)) ∧ Below w.heap.size w wr) := ⟨Nat.le_trans (Nat.le_trans HB2.out.size HBW.out.size) HQQ.out, by rw [HGL.out]; exact HQJ.out, (HB2.out.trans (HBW.out.mono HB2.out.size)).trans (HBZ.out.mono (Nat.le_trans HB2.out.size HBW.out.size))⟩
     go_wp2_with fail
     refine bodyPost_ret (results_tmp2 rfl _ _ _) rfl ?_
     exact ⟨q, by rw [HN.out]; rfl, HF.out.1, HF.out.2.1, HF.out.2.2⟩
end Go.Proofs.YtbkmhmaldljgmaaGreatDoor
