/-
  tranchelaw20.ReliefConserves returns true.
-/
import Derived.Test.YtdnmpgoigagjmaaGreatDoorL42
import Derived.Test.YtdnmpgoigagjmaaGreatDoorL21
import Derived.BigQuiet
set_option linter.unusedVariables false
set_option linter.unusedSimpArgs false
set_option maxHeartbeats 16000000
set_option maxRecDepth 100000
namespace Go.Proofs.YtdnmpgoigagjmaaGreatDoor
open Go.RowKit Tr Go.Shelf
structure CNV (wS : World) (s : ByteArray) (Q C q r cc dd : Int) (Bp k : Nat)  (L : Array Bool) (W : World) (s60 s61 s62 s63 s64 s65 s66 s67 s68 s69 s70 s71 s72 s73 : Value) : Prop where
 k0 : L.getD 0 false = true → s60 = .string (I q)
 k1 : L.getD 1 false = true → s61 = .string (I r)
 k2 : L.getD 2 false = true → s62 = .string (I Q)
 k3 : L.getD 3 false = true → s63 = .pointer (some ⟨Bp, 1, none⟩)
 k4 : L.getD 4 false = true → s64 = .string (I Q)
 k5 : L.getD 5 false = true → s65 = .bool false
 k6 : L.getD 6 false = true → s66 = .bool false
 k7 : L.getD 7 false = true → s67 = .string (I cc)
 k8 : L.getD 8 false = true → s68 = .string (I dd)
 k9 : L.getD 9 false = true → s69 = .string (I C)
 k10 : L.getD 10 false = true → s70 = .pointer (some ⟨Bp, 2, none⟩)
 k11 : L.getD 11 false = true → s71 = .string (I C)
 k12 : L.getD 12 false = true → s72 = .bool false
 k13 : L.getD 13 false = true → s73 = .bool false
 g : Below wS.heap.size wS W
 c : PosBox W Bp ⟨s, I Q, I C⟩
structure CNJ (wS : World) (s : ByteArray) (Q C q r cc dd : Int) (Bp k : Nat) (x0 x1 x2 x3 x4 x5 x6 x7 x8 x14 x15 x16 x17 x18 x19 x20 x21 x22 x23 x24 x25 x26 x27 x28 x29 x30 x31 x32 x33 x34 x35 x36 x37 x38 x39 x40 x41 x43 x44 x45 x46 x47 x48 x49 x50 x51 x52 x53 x54 x55 x56 x57 x58 x59 x74 x75 x76 x77 x78 x79 x80 x81 x82 x83 x84 x85 x86 x87 x88 x89 x90 x91 x92 x93 x94 x95 x96 x97 x98 x99 x100 x101 x102 x103 x104 x105 x106 x107 x108 x109 x110 x111 x112 x113 x114 x115 x116 x117 x118 x119 x120 x121 x122 x123 : Value) (L : Array Bool) (a : Act) (W : World) : Prop where
 sz : L.size = 14
 fr : ∃ s60 s61 s62 s63 s64 s65 s66 s67 s68 s69 s70 s71 s72 s73 : Value, a = { tmps := #[x0, x1, x2, x3, x4, x5, x6, x7, x8, .pointer (some ⟨Bp, 0, none⟩), .string (I q), .string (I cc), .string (I r), .string (I dd), x14, x15, x16, x17, x18, x19, x20, x21, x22, x23, x24, x25, x26, x27, x28, x29, x30, x31, x32, x33, x34, x35, x36, x37, x38, x39, x40, x41, .int .i64 (k : Int), x43, x44, x45, x46, x47, x48, x49, x50, x51, x52, x53, x54, x55, x56, x57, x58, x59, s60, s61, s62, s63, s64, s65, s66, s67, s68, s69, s70, s71, s72, s73, x74, x75, x76, x77, x78, x79, x80, x81, x82, x83, x84, x85, x86, x87, x88, x89, x90, x91, x92, x93, x94, x95, x96, x97, x98, x99, x100, x101, x102, x103, x104, x105, x106, x107, x108, x109, x110, x111, x112, x113, x114, x115, x116, x117, x118, x119, x120, x121, x122, x123], defers := [] } ∧ CNV wS s Q C q r cc dd Bp k  L W s60 s61 s62 s63 s64 s65 s66 s67 s68 s69 s70 s71 s72 s73
theorem ReliefConserves_any (A : Option Addr) (ls : List Lot) (c : Nat) (hcap : ls.length ≤ c) (h1 : ls.length ≤ 9223372036854775807) (hA : A = none → ls.length = 0 ∧ c = 0) (Ap : Option Addr) (ps : List Pk) (cp : Nat) (hcp : ps.length ≤ cp) (hp1 : ps.length ≤ 9223372036854775807) (w : World)
 (hR : RdL w A ls) (hK : RdK w.heap.size w Ap ps) (ht : Tabs w) : Calls Tryz.prog 12 #[.slice A ls.length c, .slice Ap ps.length cp] w (TruePost19 w) := by
 obtain ⟨W0, hW0⟩ : ∃ W0, w.alloc (.cells #[.slice Ap ps.length cp] 23) = W0 := ⟨_, rfl⟩
 have b0 : Below w.heap.size w W0 := by rw [← hW0]; exact (Below.refl _ w).alloc (Nat.le_refl _) _
 have k0 : PBox W0 w.heap.size (.slice Ap ps.length cp) := by rw [← hW0]; exact heap_alloc_new w _
 have HB0 := hI b0
 have HAW := hI (fun W (hW : Below w.heap.size w W) => awake20_any W (ht.below hW))
 have HGR := hI (great20_any w.heap.size A ls c h1 Ap ps cp hp1 ⟨#[]⟩ ⟨#[]⟩ W0 (hR.below b0) (hK.below b0) b0.size)
 have HK0 := hI k0
 have cb := Lib.cell_of_heap k0 0
 simp at cb
 by_cases hsm : Sml ls ps ⟨#[]⟩ ⟨#[]⟩
 case neg =>
  have HN := hI hsm
  obtain ⟨N, hN⟩ : ∃ N, ls.length = N := ⟨_, rfl⟩
  obtain ⟨P, hP⟩ : ∃ P, ps.length = P := ⟨_, rfl⟩
  rw [hN] at HGR ⊢
  rw [hP] at HGR cb hW0 ⊢
  clear hR hK ht hcap h1 hA hcp hp1 hsm hN hP b0 k0 HK0
  go_enter Tryz.func12, Tryz.ntmps12
  go_wp2_with fail
  refine HGR.out.mono ?_
  rintro e w1 ⟨b, rfl, hb, b1⟩
  have hbt : b = true := by cases b; exact (HN.out (hb rfl)).elim; rfl
  subst hbt
  have HB1 := hI (HB0.out.trans (b1.mono HB0.out.size))
  have HA1 := hI (HAW.out w1 HB1.out)
  clear b1 hb
  go_wp2_with fail
  refine HA1.out.mono ?_
  rintro e w2 ⟨rfl, b2⟩
  have HB2 := hI (HB1.out.trans (b2.mono HB1.out.size))
  clear b2
  go_wp2_with fail
  go_ret
  exact ⟨rfl, HB2.out⟩
 obtain ⟨sl, hsl⟩ := sl_of ls (fun l hl => (hsm.tiny l hl).sized)
 have hll : sl.length = ls.length := by rw [← hsl, List.length_map]
 have hrb : RdB w.heap.size w A sl := by
  intro hl
  obtain ⟨ad, e, q1, q2⟩ := hR (by rw [← hsl]; intro h; exact hl (List.map_eq_nil_iff.1 h))
  exact ⟨ad, e, q1, fun j l hj => q2 j l.1 (by rw [← hsl, List.getElem?_map, hj]; rfl)⟩
 have hpq : ∀ p ∈ ps, p.qty.size ≤ 13 := fun p hp => (hsm.p p hp).2
 have hpq3 : ∀ p ∈ ps, p.qty.size ≤ 1000 := fun p hp => by have := hpq p hp; omega
 have hti : ∀ l ∈ sl, l.1.tiny := fun l hl => hsm.tiny l.1 (by rw [← hsl]; exact List.mem_map.2 ⟨l, hl, rfl⟩)
 have hl2 := hsm.len.2
 have hp2 := hsm.pl
 have HTK := fun W (hW : Below w.heap.size w W) => Take20_any w.heap.size A sl c (by omega) (by omega) hti Ap ps cp (by omega) hcp hpq3 (fun _ => hpq) W (hrb.below hW) hW.size (by rw [hll]; exact hA) (hK.below hW) (ht.below hW)
 have HPO := fun W (hW : Below w.heap.size w W) => lPositions_any w.heap.size A sl c W (by omega) (hrb.below hW) hW.size (ht.below hW)
 have HCLA := fun W (hW : Below w.heap.size w W) => cloneLots_own A sl c w.heap.size W (hrb.below hW) hW.size (by omega) (by rw [hll]; exact hA)
 have HCO := fun W (hW : Below w.heap.size w W) (hpb : PBox W w.heap.size (.slice Ap ps.length cp)) g (hg : w.heap.size < g) => cons1_is (fun l => l.sized) w.heap.size Ap ps cp (by omega) w.heap.size g W (hK.below hW) hW.size hpb (by omega) (by omega)
 rw [hsl] at HTK
 rw [hll] at HTK HPO HCLA
 have HT := hI ht
 have HKK := hI hK
 obtain ⟨N, hN⟩ : ∃ N, ls.length = N := ⟨_, rfl⟩
 obtain ⟨P, hP⟩ : ∃ P, ps.length = P := ⟨_, rfl⟩
 rw [hN] at HGR HTK HPO HCLA hl2 hll ⊢
 rw [hP] at HGR HTK HCO HK0 hp2 cb hW0 ⊢
 replace HTK := hI HTK
 replace HPO := hI HPO
 replace HCLA := hI HCLA
 replace HCO := hI HCO
 have HP := hI hP
 have HSL := hI hsl
 have HSN := hI hll
 clear hR hK ht hcap h1 hA hcp hp1 hsm hN hP hrb hpq hpq3 hti b0 k0 hsl hll
 go_enter Tryz.func12, Tryz.ntmps12
 go_wp2_with fail
 refine HGR.out.mono ?_
 rintro e w1 ⟨b, rfl, _, b1⟩
 have HB1 := hI (HB0.out.trans (b1.mono HB0.out.size))
 have HK1 := hI (HK0.out.below b1)
 clear b1 HGR cb hW0 HK0
 cases b
 case true =>
  have HA1 := hI (HAW.out w1 HB1.out)
  go_wp2_with fail
  refine HA1.out.mono ?_
  rintro e w2 ⟨rfl, b2⟩
  have HB2 := hI (HB1.out.trans (b2.mono HB1.out.size))
  clear b2
  go_wp2_with fail
  go_ret
  exact ⟨rfl, HB2.out⟩
 have HTC := hI (HTK.out w1 HB1.out)
 have cb := Lib.cell_of_heap HK1.out 0
 simp at cb
 clear HTK
 go_wp2_with fail
 refine HTC.out.mono ?_
 rintro e w2 ⟨A1, c1, r1, A2, c2, r2, rfl, b2, hr1, hr2, hc1, hc2, hn1, hn2, hno, hyes⟩
 have HB2 := hI (HB1.out.trans (b2.mono HB1.out.size))
 have HK2 := hI (HK1.out.below b2)
 clear cb HK1 HTC
 by_cases hte : takE ls ps = 0
 case neg =>
  have HA1 := hI (HAW.out w2 HB2.out)
  obtain ⟨rfl, rfl⟩ := hno hte
  generalize takE ls ps = z at hte ⊢
  have t1 : (z == 0) = false := beq_eq_false_iff_ne.2 hte
  have t2 : (z != 0) = true := by rw [bne, t1]; rfl
  clear hte b2 hr1 hr2 hc1 hc2 hn1 hn2 hno hyes
  go_wp2_with fail
  refine HA1.out.mono ?_
  rintro e w3 ⟨rfl, b3⟩
  have HB3 := hI (HB2.out.trans (b3.mono HB2.out.size))
  clear b3
  go_wp2_with fail
  go_ret
  exact ⟨rfl, HB3.out⟩
 have hal : lall ls = 0 := Classical.byContradiction fun x => by rw [takE_all x] at hte; exact absurd hte (by decide)
 have hok := (lall_zero ls).1 hal
 have hps : PksOk ls none ps := ((posE_zero ls none ps []).1 ((takE_pos hal ps).symm.trans hte)).2
 obtain ⟨e1, e2⟩ := hyes hte
 have hr2l : r2.length = P := by have h := congrArg List.length e2; unfold takenR at h; rw [List.length_map, List.length_map] at h; exact h.trans HP.out
 have hr1l : r1.length ≤ 1002 := by have h := congrArg List.length e1; rw [List.length_map] at h; rw [h]; exact Nat.le_trans (restR_len ls ps) (by rw [← HSL.out, List.length_map, HSN.out]; exact hl2)
 have HSU := hI (fun s => cons_sum (sl := sl) (r1 := r1) (r2 := r2) (ps := ps) (io := none) (by rw [HSL.out]; exact hok.nd) (by rw [HSL.out]; exact hps) (by rw [HSL.out]; exact e1) (by rw [HSL.out]; exact e2) s)
 have HT1 := fun s W (hW : Below w2.heap.size w2 W) => lTotal_any w2.heap.size A1 r1 c1 s W (by omega) (hr1.below hW) hW.size (HT.out.below (HB2.out.trans (hW.mono HB2.out.size)))
 have HT2 := fun s W (hW : Below w2.heap.size w2 W) => lTotal_any w2.heap.size A2 r2 c2 s W (by omega) (hr2.below hW) hW.size (HT.out.below (HB2.out.trans (hW.mono HB2.out.size)))
 have HCA := fun W (hW : Below w2.heap.size w2 W) => lCheckAll_any A1 c1 (r1.map Subtype.val) (by rw [List.length_map]; exact hc1) (by rw [List.length_map]; omega) W (((hr1.below hW).rdb').rdl hW.size) (fun l hl => by obtain ⟨y, _, rfl⟩ := List.mem_map.1 hl; exact y.2) (HT.out.below (HB2.out.trans (hW.mono HB2.out.size)))
 have HCLB := fun W (hW : Below w2.heap.size w2 W) => cloneLots_own A1 r1 c1 w2.heap.size W (hr1.below hW) hW.size (by omega) hn1
 have hal1 : lall (r1.map Subtype.val) = 0 := by rw [e1]; exact (lall_zero _).2 (rest_ok hok hps)
 rw [hal1, List.length_map] at HCA
 rw [hr2l] at HT2 ⊢
 obtain ⟨N1, hN1⟩ : ∃ N1, r1.length = N1 := ⟨_, rfl⟩
 rw [hN1] at HT1 HCA HCLB hr1l ⊢
 obtain ⟨R, hR⟩ : ∃ R, (ls.filter fun x => !pickd ps x) = R := ⟨_, rfl⟩
 have HR1 : Hid (((sl.map Subtype.val).filter fun x => !pickd ps x) = R) := by rw [Hid, HSL.out]; exact hR
 have HR2 : Hid (((r1.map Subtype.val).filter fun x => !pickd ps x) = R) := by rw [Hid, e1, ← hR]; exact unpicked
 have hRl : R.length ≤ 1002 := by rw [← hR]; exact Nat.le_trans (List.length_filter_le _ _) (by rw [← HSL.out, List.length_map, HSN.out]; exact hl2)
 have HTKN := hI (fun k (p : Pk) (hp : ps[k]? = some p) => show ∃ y : SLot, r2[k]? = some y ∧ y.1.id = p.lot ∧ y.1.qty = p.qty from by
  obtain ⟨x, hx⟩ := hps.ok p (List.mem_of_getElem? hp)
  have hh : (r2.map Subtype.val)[k]? = some (tknO ls p) := by rw [e2]; unfold takenR; rw [List.getElem?_map, hp]; rfl
  rw [List.getElem?_map] at hh
  obtain ⟨y, hy, he⟩ := Option.map_eq_some_iff.1 hh
  exact ⟨y, hy, by rw [he]; exact (taken_is hx).1, by rw [he]; exact (taken_is hx).2⟩)
 replace HT1 := hI HT1
 replace HT2 := hI HT2
 replace HCA := hI HCA
 replace HCLB := hI HCLB
 have HRD2 := hI hr2
 have HR2L := hI hr2l
 have HN1 := hI hN1
 have HPC := hI (HPO.out w2 HB2.out)
 have HPL := hI (posL_len_le sl)
 rw [hte]
 clear hte b2 hr1 hr2 hc1 hc2 hn1 hn2 hno hyes hal hok hps e1 e2 hr2l hal1 hN1 hR HPO
 go_wp2_with fail
 refine HPC.out.mono ?_
 rintro e w3 ⟨AP, cP, rfl, _, _, hrp, b3⟩
 have HB3 := hI (HB2.out.trans (b3.mono HB2.out.size))
 have HB23 := hI b3
 have HK3 := hI (HK2.out.below b3)
 have HRP := hI hrp
 obtain ⟨NP, hNP⟩ : ∃ NP, (posL sl).length = NP := ⟨_, rfl⟩
 rw [hNP]
 have HNP := hI hNP
 have hnpl : NP ≤ 1002 := by have := HPL.out; rw [hNP, HSN.out] at this; omega
 clear b3 hrp HPC HK2 hNP
 go_wp2_with fail
 go_loopw [42] (fun v wr => ∃ k : Nat, v = .int .i64 (k : Int) ∧ k ≤ NP ∧ Below w3.heap.size w3 wr) (fun v _ => NP - (intOf v).toNat)
 case atStart => exact ⟨0, rfl, Nat.zero_le _, Below.refl _ _⟩
 case round =>
  obtain ⟨k, rfl, hk, hb⟩ := hrel
  have HB := hI hb
  have HBW := hI (HB23.out.trans (hb.mono HB23.out.size))
  clear hb
  rcases Nat.lt_or_ge k NP with hlt | hge
  ·obtain ⟨p, hp⟩ : ∃ p, (posL sl)[k]? = some p := ⟨_, List.getElem?_eq_getElem (by rw [HNP.out]; exact hlt)⟩
   have hcx : decide ((k : Int) < (NP : Int)) = true := by simp; omega
   obtain ⟨ad, rfl, had, hcell⟩ := HRP.out (by intro e; rw [e] at hp; cases hp)
   obtain ⟨d0, d1, d2⟩ := (hcell k p hp).below HB.out (by rw [add_block]; exact had)
   obtain ⟨s, rfl⟩ := posL_at hp
   have hsu := HSU.out s
   have h1 := fun W hW => HT1.out s W hW
   have h2 := fun W hW => HT2.out s W hW
   have hp3 : posOf sl s = ⟨s, I (sumBy qtyOf (ownL sl s)), I (sumBy costOf (ownL sl s))⟩ := rfl
   rw [hp3] at d0 d1 d2
   dsimp only at d0 d1 d2
   generalize sumBy qtyOf (ownL sl s) = Q at *
   generalize sumBy costOf (ownL sl s) = C at *
   obtain ⟨q, hq⟩ : ∃ q, sumBy qtyOf (ownL r1 s) = q := ⟨_, rfl⟩
   obtain ⟨r, hr⟩ : ∃ r, sumBy qtyOf (ownL r2 s) = r := ⟨_, rfl⟩
   obtain ⟨cc, hc⟩ : ∃ cc, sumBy costOf (ownL r1 s) = cc := ⟨_, rfl⟩
   obtain ⟨dd, hd⟩ : ∃ dd, sumBy costOf (ownL r2 s) = dd := ⟨_, rfl⟩
   have hqs : (I q).size ≤ 4000000 := by rw [← hq]; exact qsum_size r1 (by rw [HN1.out]; exact hr1l) s
   have hrs : (I r).size ≤ 4000000 := by rw [← hr]; exact qsum_size r2 (by rw [HR2L.out]; omega) s
   have hcs : (I cc).size ≤ 4000000 := by rw [← hc]; exact csum_size r1 (by rw [HN1.out]; exact hr1l) s
   have hds : (I dd).size ≤ 4000000 := by rw [← hd]; exact csum_size r2 (by rw [HR2L.out]; omega) s
   rw [hq, hr, hc, hd] at hsu
   rw [hq, hc] at h1
   rw [hr, hd] at h2
   have ha1 := fun W (hW : Below w2.heap.size w2 W) => Add_any (I q) (I r) W hqs hrs (HT.out.below (HB2.out.trans (hW.mono HB2.out.size)))
   have ha2 := fun W (hW : Below w2.heap.size w2 W) => Add_any (I cc) (I dd) W hcs hds (HT.out.below (HB2.out.trans (hW.mono HB2.out.size)))
   rw [vl_I, vl_I, hsu.1] at ha1
   rw [vl_I, vl_I, hsu.2] at ha2
   have HAD1 := hI ha1
   have HAD2 := hI ha2
   have HTO1 := hI h1
   have HTO2 := hI h2
   obtain ⟨W5, hW5⟩ : ∃ W5, wr.alloc (.cells #[.string s, .string (I Q), .string (I C)] 80) = W5 := ⟨_, rfl⟩
   have b5 : Below wr.heap.size wr W5 := by rw [← hW5]; exact (Below.refl _ wr).alloc (Nat.le_refl _) _
   have k5 : PosBox W5 wr.heap.size ⟨s, I Q, I C⟩ := by rw [← hW5]; exact heap_alloc_new wr _
   have HB5 := hI (HB.out.trans (b5.mono HB.out.size))
   have HBW5 := hI (HBW.out.trans (b5.mono HBW.out.size))
   have HK5 := hI k5
   have m0 := Lib.cell_of_heap k5 0
   simp [Pos.cells] at m0
   clear hsu h1 h2 ha1 ha2 hq hr hc hd hqs hrs hcs hds hp hcell hp3 b5 k5
   go_wp2_with fail
   refine (HTO1.out W5 HBW5.out).mono ?_
   rintro e w6 ⟨rfl, b6⟩
   have HB6 := hI (HB5.out.trans (b6.mono HB5.out.size))
   have HBW6 := hI (HBW5.out.trans (b6.mono HBW5.out.size))
   have HK6 := hI (HK5.out.below b6)
   clear b6 m0 hW5 d0 d1 d2 HTO1 HB5 HBW5 HK5
   have m0 := Lib.cell_of_heap HK6.out 0
   simp [Pos.cells] at m0
   go_wp2_with fail
   refine (HTO2.out w6 HBW6.out).mono ?_
   rintro e w7 ⟨rfl, b7⟩
   have HB7 := hI (HB6.out.trans (b7.mono HB6.out.size))
   have HBW7 := hI (HBW6.out.trans (b7.mono HBW6.out.size))
   have HK7 := hI (HK6.out.below b7)
   clear b7 m0 HTO2 HB6 HBW6 HK6
   go_upto_region 11 with fail
   have hgS : Below w3.heap.size w3 w7.drew := HB7.out.trans ((Below.refl _ _).drew.mono HB7.out.size)
   have hcS : PosBox w7.drew wr.heap.size ⟨s, I Q, I C⟩ := HK7.out.below (Below.refl _ _).drew
   clear HB7 HBW7 HK7
   have mixed : Tryz.prog.follows .mixedOrders = true := by kernel_rfl
   refine wp_region_any mixed (wpAny_inv (CNJ w3 s Q C q r cc dd wr.heap.size k _ _ _ _ _ _ _ _ _ _ _ _ _ _ _ _ _ _ _ _ _ _ _ _ _ _ _ _ _ _ _ _ _ _ _ _ _ _ _ _ _ _ _ _ _ _ _ _ _ _ _ _ _ _ _ _ _ _ _ _ _ _ _ _ _ _ _ _ _ _ _ _ _ _ _ _ _ _ _ _ _ _ _ _ _ _ _ _ _ _ _ _ _ _ _ _ _ _ _ _ _ _ _ _) ?stCN ?dnCN _ _ _ _ ⟨by simp, ⟨_, _, _, _, _, _, _, _, _, _, _, _, _, _, rfl, fun h => by simp at h, fun h => by simp at h, fun h => by simp at h, fun h => by simp at h, fun h => by simp at h, fun h => by simp at h, fun h => by simp at h, fun h => by simp at h, fun h => by simp at h, fun h => by simp at h, fun h => by simp at h, fun h => by simp at h, fun h => by simp at h, fun h => by simp at h, hgS, hcS⟩⟩ (by decide))
   case dnCN =>
    intro L a w' hj hr
    have all := all_on hr hj.sz (by kernel_rfl)
    obtain ⟨s60, s61, s62, s63, s64, s65, s66, s67, s68, s69, s70, s71, s72, s73, rfl, hv⟩ := hj.fr
    have e13 := hv.k13 (all 13 (by omega))
    subst e13
    have HBF := hI hv.g
    clear all hv hj hr HAD1 HAD2
    dsimp only
    go_wp2_with fail
    go_roundw
    case rel => exact ⟨k + 1, by go_num, by omega, HBF.out⟩
    case measure => simp [intOf]; omega
   case stCN =>
    intro L a w' hj i hi
    obtain ⟨hun, o, ho, hall⟩ := mem_ready.1 hi
    have hoff := getD_off hun
    have hlt := (Array.getElem?_eq_some_iff.1 ho).1
    simp at hlt
    obtain ⟨s60, s61, s62, s63, s64, s65, s66, s67, s68, s69, s70, s71, s72, s73, rfl, hv⟩ := hj.fr
    have HV := hI hv
    have HJ := hI hj
    clear hv hj
    rcases (show i = 0 ∨ i = 1 ∨ i = 2 ∨ i = 3 ∨ i = 4 ∨ i = 5 ∨ i = 6 ∨ i = 7 ∨ i = 8 ∨ i = 9 ∨ i = 10 ∨ i = 11 ∨ i = 12 ∨ i = 13 from by omega) with rfl | rfl | rfl | rfl | rfl | rfl | rfl | rfl | rfl | rfl | rfl | rfl | rfl | rfl
    ·simp at ho
     subst ho
     clear hall hi
     refine wpOp_hid rfl fun K' HK => ?_
     go_simp
     cases HV.out
     refine HK.out _ _ ⟨by simp [HJ.out.sz], ⟨_, _, _, _, _, _, _, _, _, _, _, _, _, _, rfl, fun _ => rfl, ?_, ?_, ?_, ?_, ?_, ?_, ?_, ?_, ?_, ?_, ?_, ?_, ?_, HV.out.g, HV.out.c⟩⟩
     all_goals exact Um (by assumption)
    ·simp at ho
     subst ho
     clear hall hi
     refine wpOp_hid rfl fun K' HK => ?_
     go_simp
     cases HV.out
     refine HK.out _ _ ⟨by simp [HJ.out.sz], ⟨_, _, _, _, _, _, _, _, _, _, _, _, _, _, rfl, ?_, fun _ => rfl, ?_, ?_, ?_, ?_, ?_, ?_, ?_, ?_, ?_, ?_, ?_, ?_, HV.out.g, HV.out.c⟩⟩
     all_goals exact Um (by assumption)
    ·simp at ho
     subst ho
     have H0 := Hq hall 0
     have H1 := Hq hall 1
     clear hall hi
     have e0 := HV.out.k0 H0.out
     subst e0
     have e1 := HV.out.k1 H1.out
     subst e1
     refine wpOp_hid rfl fun K' HK => ?_
     go_simp
     refine (HAD1.out w' (HB23.out.trans (HV.out.g.mono HB23.out.size))).mono ?_
     rintro e wn ⟨rfl, bn⟩
     cases HV.out
     refine HK.out _ _ ⟨by simp [HJ.out.sz], ⟨_, _, _, _, _, _, _, _, _, _, _, _, _, _, rfl, ?_, ?_, fun _ => rfl, ?_, ?_, ?_, ?_, ?_, ?_, ?_, ?_, ?_, ?_, ?_, HV.out.g.trans (bn.mono HV.out.g.size), HV.out.c.below bn⟩⟩
     all_goals exact Um (by assumption)
    ·simp at ho
     subst ho
     clear hall hi
     refine wpOp_hid rfl fun K' HK => ?_
     go_simp
     cases HV.out
     refine HK.out _ _ ⟨by simp [HJ.out.sz], ⟨_, _, _, _, _, _, _, _, _, _, _, _, _, _, rfl, ?_, ?_, ?_, fun _ => rfl, ?_, ?_, ?_, ?_, ?_, ?_, ?_, ?_, ?_, ?_, HV.out.g, HV.out.c⟩⟩
     all_goals exact Um (by assumption)
    ·simp at ho
     subst ho
     have H3 := Hq hall 3
     clear hall hi
     have e0 := HV.out.k3 H3.out
     subst e0
     have m := Lib.cell_of_heap HV.out.c 1
     simp [Pos.cells] at m
     refine wpOp_hid rfl fun K' HK => ?_
     go_simp
     cases HV.out
     refine HK.out _ _ ⟨by simp [HJ.out.sz], ⟨_, _, _, _, _, _, _, _, _, _, _, _, _, _, rfl, ?_, ?_, ?_, ?_, fun _ => rfl, ?_, ?_, ?_, ?_, ?_, ?_, ?_, ?_, ?_, HV.out.g, HV.out.c⟩⟩
     all_goals exact Um (by assumption)
    ·simp at ho
     subst ho
     have H2 := Hq hall 2
     have H4 := Hq hall 4
     clear hall hi
     have e0 := HV.out.k2 H2.out
     subst e0
     have e1 := HV.out.k4 H4.out
     subst e1
     refine wpOp_hid rfl fun K' HK => ?_
     go_simp
     cases HV.out
     refine HK.out _ _ ⟨by simp [HJ.out.sz], ⟨_, _, _, _, _, _, _, _, _, _, _, _, _, _, rfl, ?_, ?_, ?_, ?_, ?_, fun _ => rfl, ?_, ?_, ?_, ?_, ?_, ?_, ?_, ?_, HV.out.g, HV.out.c⟩⟩
     all_goals exact Um (by assumption)
    ·simp at ho
     subst ho
     have H5 := Hq hall 5
     clear hall hi
     have e0 := HV.out.k5 H5.out
     subst e0
     refine wpOp_hid rfl fun K' HK => ?_
     go_simp
     cases HV.out
     refine HK.out _ _ ⟨by simp [HJ.out.sz], ⟨_, _, _, _, _, _, _, _, _, _, _, _, _, _, rfl, ?_, ?_, ?_, ?_, ?_, ?_, fun _ => rfl, ?_, ?_, ?_, ?_, ?_, ?_, ?_, HV.out.g, HV.out.c⟩⟩
     all_goals exact Um (by assumption)
    ·simp at ho
     subst ho
     have H6 := Hq hall 6
     clear hall hi
     have e0 := HV.out.k6 H6.out
     subst e0
     refine wpOp_hid rfl fun K' HK => ?_
     go_simp
     cases HV.out
     refine HK.out _ _ ⟨by simp [HJ.out.sz], ⟨_, _, _, _, _, _, _, _, _, _, _, _, _, _, rfl, ?_, ?_, ?_, ?_, ?_, ?_, ?_, fun _ => rfl, ?_, ?_, ?_, ?_, ?_, ?_, HV.out.g, HV.out.c⟩⟩
     all_goals exact Um (by assumption)
    ·simp at ho
     subst ho
     have H6 := Hq hall 6
     clear hall hi
     have e0 := HV.out.k6 H6.out
     subst e0
     refine wpOp_hid rfl fun K' HK => ?_
     go_simp
     cases HV.out
     refine HK.out _ _ ⟨by simp [HJ.out.sz], ⟨_, _, _, _, _, _, _, _, _, _, _, _, _, _, rfl, ?_, ?_, ?_, ?_, ?_, ?_, ?_, ?_, fun _ => rfl, ?_, ?_, ?_, ?_, ?_, HV.out.g, HV.out.c⟩⟩
     all_goals exact Um (by assumption)
    ·simp at ho
     subst ho
     have H7 := Hq hall 7
     have H8 := Hq hall 8
     have H6 := Hq hall 6
     clear hall hi
     have e0 := HV.out.k7 H7.out
     subst e0
     have e1 := HV.out.k8 H8.out
     subst e1
     have e2 := HV.out.k6 H6.out
     subst e2
     refine wpOp_hid rfl fun K' HK => ?_
     go_simp
     refine (HAD2.out w' (HB23.out.trans (HV.out.g.mono HB23.out.size))).mono ?_
     rintro e wn ⟨rfl, bn⟩
     cases HV.out
     refine HK.out _ _ ⟨by simp [HJ.out.sz], ⟨_, _, _, _, _, _, _, _, _, _, _, _, _, _, rfl, ?_, ?_, ?_, ?_, ?_, ?_, ?_, ?_, ?_, fun _ => rfl, ?_, ?_, ?_, ?_, HV.out.g.trans (bn.mono HV.out.g.size), HV.out.c.below bn⟩⟩
     all_goals exact Um (by assumption)
    ·simp at ho
     subst ho
     have H6 := Hq hall 6
     clear hall hi
     have e0 := HV.out.k6 H6.out
     subst e0
     refine wpOp_hid rfl fun K' HK => ?_
     go_simp
     cases HV.out
     refine HK.out _ _ ⟨by simp [HJ.out.sz], ⟨_, _, _, _, _, _, _, _, _, _, _, _, _, _, rfl, ?_, ?_, ?_, ?_, ?_, ?_, ?_, ?_, ?_, ?_, fun _ => rfl, ?_, ?_, ?_, HV.out.g, HV.out.c⟩⟩
     all_goals exact Um (by assumption)
    ·simp at ho
     subst ho
     have H10 := Hq hall 10
     have H6 := Hq hall 6
     clear hall hi
     have e0 := HV.out.k10 H10.out
     subst e0
     have e1 := HV.out.k6 H6.out
     subst e1
     have m := Lib.cell_of_heap HV.out.c 2
     simp [Pos.cells] at m
     refine wpOp_hid rfl fun K' HK => ?_
     go_simp
     cases HV.out
     refine HK.out _ _ ⟨by simp [HJ.out.sz], ⟨_, _, _, _, _, _, _, _, _, _, _, _, _, _, rfl, ?_, ?_, ?_, ?_, ?_, ?_, ?_, ?_, ?_, ?_, ?_, fun _ => rfl, ?_, ?_, HV.out.g, HV.out.c⟩⟩
     all_goals exact Um (by assumption)
    ·simp at ho
     subst ho
     have H9 := Hq hall 9
     have H11 := Hq hall 11
     have H6 := Hq hall 6
     clear hall hi
     have e0 := HV.out.k9 H9.out
     subst e0
     have e1 := HV.out.k11 H11.out
     subst e1
     have e2 := HV.out.k6 H6.out
     subst e2
     refine wpOp_hid rfl fun K' HK => ?_
     go_simp
     cases HV.out
     refine HK.out _ _ ⟨by simp [HJ.out.sz], ⟨_, _, _, _, _, _, _, _, _, _, _, _, _, _, rfl, ?_, ?_, ?_, ?_, ?_, ?_, ?_, ?_, ?_, ?_, ?_, ?_, fun _ => rfl, ?_, HV.out.g, HV.out.c⟩⟩
     all_goals exact Um (by assumption)
    ·simp at ho
     subst ho
     have H6 := Hq hall 6
     have H12 := Hq hall 12
     clear hall hi
     have e0 := HV.out.k6 H6.out
     subst e0
     have e1 := HV.out.k12 H12.out
     subst e1
     refine wpOp_hid rfl fun K' HK => ?_
     go_simp
     cases HV.out
     refine HK.out _ _ ⟨by simp [HJ.out.sz], ⟨_, _, _, _, _, _, _, _, _, _, _, _, _, _, rfl, ?_, ?_, ?_, ?_, ?_, ?_, ?_, ?_, ?_, ?_, ?_, ?_, ?_, fun _ => rfl, HV.out.g, HV.out.c⟩⟩
     all_goals exact Um (by assumption)
  ·have hcx : decide ((k : Int) < (NP : Int)) = false := by simp; omega
   have HKW := hI (HK3.out.below HB.out)
   have cb := Lib.cell_of_heap HKW.out 0
   simp at cb
   have HCC := hI (HCA.out wr HBW.out)
   have tn : ((P : Int) != (P : Int)) = false := by simp
   clear HSU HT1 HT2 HCA HRP
   go_wp2_with fail
   refine HCC.out.mono ?_
   rintro e w8 ⟨rfl, b8⟩
   have HBW8 := hI (HBW.out.trans (b8.mono HBW.out.size))
   have HK8 := hI (HKW.out.below b8)
   clear b8 cb HKW HCC HBW
   have cb := Lib.cell_of_heap HK8.out 0
   simp at cb
   go_wp2_with fail
   clear cb tn hcx hge hk
   go_loopw [87] (fun v wr => ∃ k : Nat, v = .int .i64 (k : Int) ∧ k ≤ P ∧ Below w8.heap.size w8 wr) (fun v _ => P - (intOf v).toNat)
   case atStart => exact ⟨0, rfl, Nat.zero_le _, Below.refl _ _⟩
   case round =>
    obtain ⟨j, rfl, hj, hb⟩ := hrel
    have HB9 := hI hb
    have HBW9 := hI (HBW8.out.trans (hb.mono HBW8.out.size))
    have HBO := hI (HB2.out.trans (HBW9.out.mono HB2.out.size))
    clear hb
    rcases Nat.lt_or_ge j P with hlt | hge
    ·obtain ⟨p, hp⟩ : ∃ p, ps[j]? = some p := ⟨_, List.getElem?_eq_getElem (by rw [HP.out]; exact hlt)⟩
     have hcx : decide ((j : Int) < (P : Int)) = true := by simp; omega
     obtain ⟨ad, rfl, had, hcell⟩ := HKK.out (by intro e; rw [e] at hp; cases hp)
     obtain ⟨d0, d1⟩ := (hcell j p hp).below HBO.out (by rw [add_block]; exact had)
     obtain ⟨y, hy, hy1, hy2⟩ := HTKN.out j p hp
     obtain ⟨ad2, rfl, had2, hcell2⟩ := HRD2.out (by intro e; rw [e] at hy; cases hy)
     obtain ⟨W5, hW5⟩ : ∃ W5, wr.alloc (.cells p.cells 43) = W5 := ⟨_, rfl⟩
     have b5 : Below wr.heap.size wr W5 := by rw [← hW5]; exact (Below.refl _ wr).alloc (Nat.le_refl _) _
     have k5 : PkBox W5 wr.heap.size p := by rw [← hW5]; exact heap_alloc_new wr _
     have HB5 := hI (HB9.out.trans (b5.mono HB9.out.size))
     have HBW5 := hI (HBW9.out.trans (b5.mono HBW9.out.size))
     obtain ⟨c0, _, _, _, c4, _, _⟩ := (hcell2 j y hy).below HBW5.out (by rw [add_block]; exact had2)
     rw [hy1] at c0
     rw [hy2] at c4
     have m0 := Lib.cell_of_heap k5 0
     have m1 := Lib.cell_of_heap k5 1
     simp [Pk.cells] at m0 m1
     unfold Pk.cells at hW5
     clear b5 k5 hcell hcell2 hp hy hy1 hy2
     go_wp2_with fail
     go_quiet (fail)
     go_wp2_with fail
     go_roundw
     case rel => exact ⟨j + 1, by go_num, by omega, below_drewN HB5.out nq⟩
     case measure => simp [intOf]; omega
    ·have hcx : decide ((j : Int) < (P : Int)) = false := by simp; omega
     have HK9 := hI (HK8.out.below HB9.out)
     have HC1 := hI (HCLA.out wr HBO.out)
     clear HTKN HRD2 HKK
     go_wp2_with fail
     refine HC1.out.mono ?_
     rintro e w10 ⟨v, rfl, hown, b10⟩
     obtain ⟨A5, c5, rfl, hdl⟩ := delOwn_any (pickd ps) 60 #[.pointer (some ⟨w.heap.size, 0, none⟩)] wr.heap.size sl R HR1.out v N HSN.out (by omega) wr w10 hown b10 (Nat.le_refl _) (fun g hg1 hg2 => HCO.out w10 (HBO.out.trans (b10.mono HBO.out.size)) (HK9.out.below b10) g (by have := HK9.out.lt; omega))
     have HDL := hI hdl
     clear hown b10 hdl HC1
     go_wp2_with fail
     refine HDL.out.mono ?_
     rintro e w11 ⟨A6, c6, rfl, hr6, b11⟩
     have HR6 := hI hr6
     have HB11 := hI (HBO.out.trans (b11.mono HBO.out.size))
     have HBW11 := hI (HBW9.out.trans (b11.mono HBW9.out.size))
     have HK11 := hI (HK9.out.below b11)
     have HC2 := hI (HCLB.out w11 HBW11.out)
     clear b11 hr6 HDL
     go_wp2_with fail
     refine HC2.out.mono ?_
     rintro e w12 ⟨v, rfl, hown, b12⟩
     obtain ⟨A7, c7, rfl, hdl⟩ := delOwn_any (pickd ps) 60 #[.pointer (some ⟨w.heap.size, 0, none⟩)] w11.heap.size r1 R HR2.out v N1 HN1.out (by omega) w11 w12 hown b12 (Nat.le_refl _) (fun g hg1 hg2 => HCO.out w12 (HB11.out.trans (b12.mono HB11.out.size)) (HK11.out.below b12) g (by have := HK11.out.lt; omega))
     have HDL := hI hdl
     clear hown b12 hdl HC2
     go_wp2_with fail
     refine HDL.out.mono ?_
     rintro e w13 ⟨A8, c8, rfl, hr8, b13⟩
     have HB13 := hI (HB11.out.trans (b13.mono HB11.out.size))
     have heq := eqLots_any A6 A8 R R c6 c8 (by omega) (by omega) w11.heap.size w13.heap.size w13 (HR6.out.below b13) hr8
     rw [sameB_yes rfl] at heq
     have HEQ := hI heq
     clear b13 hr8 heq HDL
     go_wp2_with fail
     refine HEQ.out.mono ?_
     rintro e w14 ⟨rfl, mm, rfl⟩
     have HB14 := hI (HB13.out.trans (below_drewN (Below.refl _ _) mm))
     have HA14 := hI (HAW.out _ HB14.out)
     clear HEQ
     go_wp2_with fail
     refine HA14.out.mono ?_
     rintro e w15 ⟨rfl, b15⟩
     have HB15 := hI (HB14.out.trans (b15.mono HB14.out.size))
     clear b15
     go_wp2_with fail
     go_ret
     exact ⟨rfl, HB15.out⟩
end Go.Proofs.YtdnmpgoigagjmaaGreatDoor
