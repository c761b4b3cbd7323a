/-
  The walk of (magnitude).divide: the long way.
-/
import Derived.Test.YtbkmhmaldljgmaaGreatDoorC05
import Derived.Deep.DeepCutAuto
import Derived.Deep.CutBlock
set_option linter.unusedVariables false
set_option linter.unusedSimpArgs false
set_option maxHeartbeats 16000000
set_option maxRecDepth 100000
namespace Go.Proofs.YtbkmhmaldljgmaaGreatDoor
open Go.RowKit Tr
theorem scale_ok {n : List Nat} (hn : Dig n) (hk : 2 ≤ n.length) (nn : Norm n) : ∃ sc : Nat, (1000000000 : Int) / ((gt n (n.length - 1) : Int) + 1) = (sc : Int) ∧ 1 ≤ sc ∧ sc < 1000000000 := by
 have h1 := hn.get (n.length - 1)
 change gt n (n.length - 1) < _ at h1
 have h2 := top_pos nn hk
 refine ⟨1000000000 / (gt n (n.length - 1) + 1), by rw [Int.natCast_ediv]; rfl, ?_, ?_⟩
 ·exact (Nat.le_div_iff_mul_le (by omega)).2 (by omega)
 ·exact (Nat.div_lt_iff_lt_mul (by omega)).2 (by omega)
theorem div_end {L N Q R S V x sc a : Nat} (h0 : a = L * sc) (hV : V = N * sc) (h1 : a = V * Q + R) (h2 : R < V) (h3 : R = sc * S + x) (hx : x < sc) : L = N * Q + S ∧ S < N := by
 have e1 : sc * L = sc * (N * Q + S) + x := by
  rw [Nat.mul_add, Nat.mul_comm sc L, ← h0, h1, hV, h3]
  rw [Nat.mul_comm N sc, Nat.mul_assoc]; omega
 have hx0 : x = 0 := by
  have e2 := congrArg (· % sc) e1
  simp only [Nat.mul_mod_right, Nat.mul_add_mod] at e2
  rw [Nat.mod_eq_of_lt hx] at e2
  exact e2.symm
 subst hx0
 refine ⟨Nat.eq_of_mul_eq_mul_left (by omega) e1, ?_⟩
 have e3 : sc * S < sc * N := by rw [Nat.mul_comm sc N]; omega
 exact Nat.lt_of_mul_lt_mul_left e3
theorem bb_len {n bb : List Nat} {sc : Nat} (hn : Dig n) (nn : Norm n) (hk : 2 ≤ n.length) (hsc : 1 ≤ sc) (h : Prod n [sc] bb) : 2 ≤ bb.length := by
 rcases Nat.lt_or_ge bb.length 2 with h1 | h1
 ·exfalso
  have e := mval_lt h.1
  have e2 : (1000000000 : Nat) ^ bb.length ≤ 1000000000 ^ 1 := Nat.pow_le_pow_right (by omega) (by omega)
  have e3 := mval_ge_of_norm nn (by rintro rfl; simp at hk)
  have e4 : (1000000000 : Nat) ^ 1 ≤ 1000000000 ^ (n.length - 1) := Nat.pow_le_pow_right (by omega) (by omega)
  have e5 : mval n * 1 ≤ mval n * sc := Nat.mul_le_mul_left _ hsc
  rw [h.2.2, mval_single] at e
  omega
 ·exact h1
theorem divide_long (A A' : Option Addr) (l n : List Nat) (c c' : Nat) (w : World) (b1 : l.length ≤ 536870000) (b2 : n.length ≤ 536870000) (hk : 2 ≤ n.length)
 (hl : Dig l) (hn : Dig n) (nl : Norm l) (nn : Norm n) (hr : Mg w A c l) (hr' : Mg w A' c' n) (hle : mval n ≤ mval l) :
 Calls Tryz.prog 215 #[.slice A l.length c, .slice A' n.length c'] w (DivPost w l n) := by
 have HC := Lib.hid (compare_any A A' l n c c' w (by omega) (by omega) hl hn nl nn hr.2.2 hr'.2.2)
 have HR := Lib.hid hr
 have HR' := Lib.hid hr'
 have HL := Lib.hid hl
 have HN := Lib.hid hn
 have HNl := Lib.hid nl
 have HNn := Lib.hid nn
 obtain ⟨ad, rfl, hab, hcell⟩ := hr'.2.2 (by rintro rfl; simp at hk)
 have hct := hcell (n.length - 1) (by omega)
 have hne1 : ((n.length : Int) == 1) = false := by simp; omega
 have d1 := hn.get (n.length - 1)
 change gt n (n.length - 1) < _ at d1
 obtain ⟨i0, hi, hz0, hz1, hz2⟩ := info_parts Tryz.info_u64
 obtain ⟨sc, hsc, hsc1, hsc2⟩ := scale_ok hn hk nn
 clear hl hn nl nn hr hr' hcell
 go_enter Tryz.func215, Tryz.ntmps215
 go_wp2_with fail
 refine HC.out.mono ?_
 rintro e w1 ⟨r, rfl, hs, q, rfl⟩
 have hr0 : decide (r < 0) = false := by
  have := hs.1; simp only [decide_eq_false_iff_not]; omega
 clear HC hs
 go_wp2_with fail
 -- both are multiplied
 have hs1 : RdM ((w.drewN q).alloc (.cells #[.int .u64 (sc : Int)] 128)) (some ⟨w.heap.size, 0, none⟩) [sc] := OwnM.rd (sp := []) (heap_alloc_new (w.drewN q) _)
 have hb1 : Below w.heap.size w ((w.drewN q).alloc (.cells #[.int .u64 (sc : Int)] 128)) := (below_drewN (Below.refl _ _) _).alloc (Nat.le_refl _) _
 refine (times_any A (some ⟨w.heap.size, 0, none⟩) l [sc] c 1 _ (by omega) (by simp) HL.out (by intro x hx; simp at hx; omega) (HR.out.2.2.below hb1) hs1).mono ?_
 rintro e w2 ⟨g2, m2, sp2, rfl, hm2c, hm2, hO2, hg2, hB2⟩
 have hm2l : m2.length ≤ l.length + 1 := by
  refine length_le_of_lt hm2.2.1 ?_
  rw [hm2.2.2, mval_single, Nat.pow_succ]
  exact Nat.mul_lt_mul_of_lt_of_le (mval_lt HL.out) (by omega) (by omega)
 have hown2 := hO2.owns (base := w.heap.size) (cap := m2.length + sp2.length) (by have := hb1.size; omega) rfl (by unfold maxLen; omega)
 have hB2' := hb1.trans (hB2.mono hb1.size)
 have HM2 := Lib.hid hm2
 have HOW2 := Lib.hid hown2
 have HB2 := Lib.hid hB2'
 have hw2 : w.heap.size ≤ w2.heap.size := hB2'.size
 clear hm2 hown2 hB2' hO2 hB2 hg2 hs1 hb1
 have hsrc : ∀ j u, [Value.int .u64 0, Value.int .u64 0][j]? = some u → (w2.alloc (.cells #[.int .u64 0, .int .u64 0] 128)).cell? ((⟨w2.heap.size, 0, none⟩ : Addr).add j) = some u := by
  intro j u hu
  obtain ⟨ad', h1, h2⟩ := RdM.srcs (l := [0, 0]) (OwnM.rd (sp := []) (heap_alloc_new w2 _)) (Below.refl _ _) (by simp)
  have h3 : ad' = ⟨w2.heap.size, 0, none⟩ := (Option.some.inj h1).symm
  rw [← h3]
  exact h2 j u hu
 have HS := Lib.hid hsrc
 clear hsrc
 go_wp2_with (at_builtin; refine wpList_append_own _ rfl _ _ 98 rfl w.heap.size 128 i0 (.int .u64 0) 1 8 Tryz.underlying98 hi hz0 hz1 hz2 rfl (by decide) _ _ _ rfl (HOW2.out.alloc _) ⟨w2.heap.size, 0, none⟩ 2 2 [.int .u64 0, .int .u64 0] rfl rfl HS.out (by simp [Value.oneCell']) (by unfold maxLen; omega) (by omega) (by simp; omega) ?_; intro v3 w3 hown3 hgrow3 _)
 have hown3' : w3.ownsRow w.heap.size 128 1 v3 (m2.length + 2) ((m2 ++ [0, 0]).map U) := by simpa [U] using hown3
 obtain ⟨g3, cap3, sp3, rfl, hg3, hcap3, hcm3, hO3⟩ := OwnM.of_owns hown3' (by simp)
 have hB3 : Below w.heap.size w w3 := (HB2.out.alloc hw2 _).grown hgrow3 (by simp; omega) (fun k hk => by have := HOW2.out.lt k hk; omega)
 clear hown3 hown3' HS HOW2 HB2 hgrow3
 have HO3 := Lib.hid hO3
 have HB3 := Lib.hid hB3
 have hw3 : w.heap.size ≤ w3.heap.size := hB3.size
 have hg3' := hO3.lt
 clear hO3 hB3
 unfold maxLen at hcm3
 go_wp2_with fail
 have hs4 : RdM (w3.alloc (.cells #[.int .u64 (sc : Int)] 128)) (some ⟨w3.heap.size, 0, none⟩) [sc] := OwnM.rd (sp := []) (heap_alloc_new w3 _)
 have hb4 : Below w.heap.size w (w3.alloc (.cells #[.int .u64 (sc : Int)] 128)) := HB3.out.alloc hw3 _
 refine (times_any (some ad) (some ⟨w3.heap.size, 0, none⟩) n [sc] c' 1 _ (by omega) (by simp) HN.out (by intro x hx; simp at hx; omega) (HR'.out.2.2.below hb4) hs4).mono ?_
 rintro e w4 ⟨g4, bb, sp4, rfl, hbbc, hbb, hO4, hg4, hB4⟩
 have hO34 : OwnM w4 g3 (m2 ++ [0, 0]) sp3 := (HO3.out.alloc _).below hB4 (by simp; omega)
 have hB04 : Below w.heap.size w w4 := hb4.trans (hB4.mono (by simp; omega))
 have hw4 := hO4.lt
 have hw34 : w3.heap.size < w4.heap.size := by have := hB4.size; simp at this; omega
 have hg34 : g3 < g4 := by simp at hg4; omega
 have hbl := bb_len HN.out HNn.out hk hsc1 hbb
 have hbbl : bb.length ≤ n.length + 1 := by
  refine length_le_of_lt hbb.2.1 ?_
  rw [hbb.2.2, mval_single, Nat.pow_succ]
  exact Nat.mul_lt_mul_of_lt_of_le (mval_lt HN.out) (by omega) (by omega)
 have hbm : bb.length ≤ m2.length := by
  rcases Nat.lt_or_ge m2.length bb.length with h | h
  ·exfalso
   have h1 := mval_lt_of_length HM2.out.1 hbb.2.1 h
   rw [hbb.2.2, HM2.out.2.2, mval_single] at h1
   have := Nat.mul_le_mul_right sc hle
   omega
  ·exact h
 have HD0 := Lib.hid (DivR.start HM2.out.1 hbb.1 hbb.2.1 hbl hbm)
 have hal : (m2 ++ [0, 0]).length = m2.length + 2 := by simp
 have hal2 : (m2 ++ [0, 0]).length ≤ 600000000 := by omega
 have hal3 : bb.length + 2 ≤ (m2 ++ [0, 0]).length := by omega
 have HA0 := Lib.hid (show mval (m2 ++ [0, 0]) = mval l * sc by rw [mval_append, show mval [0, 0] = 0 from rfl, HM2.out.2.2, mval_single]; simp)
 rw [← hal] at HD0
 generalize m2 ++ [0, 0] = a0 at HO3 hcap3 hO34 HD0 hal hal2 hal3 HA0 ⊢
 clear hm2l hm2c HM2 hbm HO3 HB3 hb4 hs4 hB4 hg4 hct d1 hw2 hal
 have HO34 := Lib.hid hO34
 have HO4 := Lib.hid hO4
 have HBB := Lib.hid hbb
 have HB04 := Lib.hid hB04
 have hw04 : w.heap.size ≤ w4.heap.size := hB04.size
 clear hO34 hO4 hbb hB04
 have hmk := fun W => make_run ((a0.length : Int) - (bb.length : Int)) ((a0.length : Int) - (bb.length : Int)) (a0.length - bb.length) (a0.length - bb.length) (by omega) (by omega) (by omega) (by omega) W
 go_wp2_with fail
 clear hmk
 have hOq : OwnM (w4.alloc (.cells (zrow (a0.length - bb.length)) 128)) w4.heap.size (List.replicate (a0.length - bb.length) 0 ++ []) [] := by
  have := OwnM.made w4 (a0.length - bb.length) (a0.length - bb.length) (Nat.le_refl _)
  simpa using this
 have HOq := Lib.hid hOq
 have HO5 := Lib.hid (HO34.out.alloc (.cells (zrow (a0.length - bb.length)) 128))
 have HO6 := Lib.hid (HO4.out.alloc (.cells (zrow (a0.length - bb.length)) 128))
 have HB5 := Lib.hid (HB04.out.alloc hw04 (.cells (zrow (a0.length - bb.length)) 128))
 clear HO34 HO4 HB04 hOq
 generalize w4.alloc (.cells (zrow (a0.length - bb.length)) 128) = w5 at HOq HO5 HO6 HB5 ⊢
 have hwq : w.heap.size ≤ w4.heap.size := hw04
 generalize w4.heap.size = gq at *
 go_loopw [13] (fun iv wr => ∃ (t : Nat) (B Q : List Nat), t + bb.length ≤ a0.length ∧ iv = .int .i64 ((t : Int) - 1) ∧ DivR a0 bb t B Q ∧ OwnM wr g3 B sp3 ∧ OwnM wr gq (List.replicate t 0 ++ Q) [] ∧ OwnM wr g4 bb sp4 ∧ Below w.heap.size w wr) (fun iv _ => (intOf iv + 1).toNat)
 case atStart => exact ⟨a0.length - bb.length, a0, [], by omega, by congr 1; omega, HD0.out, HO5.out, HOq.out, HO6.out, HB5.out⟩
 case round =>
  obtain ⟨t, B, Q, ht, rfl, hD, hO, hOQ, hOb, hB⟩ := hrel
  have HD := Lib.hid hD
  have HO := Lib.hid hO
  have HOQ := Lib.hid hOQ
  have HOb := Lib.hid hOb
  have HB := Lib.hid hB
  clear hD hO hOQ hOb hB HO5 HO6 HOq HB5 HD0
  rcases Nat.eq_zero_or_pos t with h0 | h0
  ·subst h0
   have hBl := HD.out.1
   have hbl2 : bb.length ≤ B.length := by omega
   go_wp2_with fail
   have hrt := HO.out.rd.take bb.length
   have htl : (B.take bb.length).length = bb.length := by simp; omega
   have hc7 := cut_any (some ⟨g3, 0, none⟩) (B.take bb.length) cap3 wr (by omega) (by omega) hrt
   rw [htl] at hc7
   refine hc7.mono ?_
   rintro e w7 ⟨rfl, rfl⟩
   clear hc7
   go_wp2_with fail
   refine (single_any (some ⟨g3, 0, none⟩) (cutz (B.take bb.length)) cap3 sc wr (by have := cutz_length_le (B.take bb.length); omega) (by omega) hsc2 (HD.out.2.1.take _).cutz (by rw [cutz_prefix]; exact hrt.take _)).mono ?_
   rintro e w8 ⟨A8, s8, c8, x8, rfl, hs8c, hs8, hA8, hrd8, hb8⟩
   have hOQ8 := HOQ.out.below hb8 HOQ.out.lt
   have HS8 := Lib.hid hs8
   have HRD8 := Lib.hid hrd8
   have HB8 := Lib.hid hb8
   have HA8 := Lib.hid hA8
   have HOQ8 := Lib.hid hOQ8
   clear hs8 hrd8 hb8 hA8 hOQ8 hrt htl
   go_wp2_with fail
   have hQl : Q.length = a0.length - bb.length := by have := HD.out.2.2.2.1; omega
   have hOQ9 : OwnM w8 gq Q [] := by simpa using HOQ8.out
   have hc9 := cut_any (some ⟨gq, 0, none⟩) Q (a0.length - bb.length) w8 (by omega) (by omega) hOQ9.rd
   rw [hQl] at hc9
   refine hc9.mono ?_
   rintro e w9 ⟨rfl, rfl⟩
   clear hc9 hOQ9 hQl
   go_wp2_with fail
   go_ret2
   have hOQ9 : OwnM w8 gq Q [] := by simpa using HOQ8.out
   have hQl : Q.length = a0.length - bb.length := by have := HD.out.2.2.2.1; omega
   have hdn := HD.out.done HBB.out.1
   have hs8 := HS8.out
   rw [mval_cutz] at hs8
   have hend := div_end HA0.out (by rw [HBB.out.2.2, mval_single]) hdn.1 hdn.2 hs8.2.2.1 hs8.2.2.2
   refine ⟨some ⟨gq, 0, none⟩, cutz Q, a0.length - bb.length, A8, s8, c8, rfl, ⟨HD.out.2.2.1.cutz, norm_cutz _, hs8.1, hs8.2.1, by rw [mval_cutz]; exact hend.1, hend.2⟩, ⟨by have := cutz_length_le Q; omega, (fun h => by cases h), ?_⟩, ⟨hs8c, (fun h => absurd h HA8.out), HRD8.out⟩, HB.out.trans (HB8.out.mono HB.out.size)⟩
   rw [cutz_prefix]; exact hOQ9.rd.take _
  ·obtain ⟨i, rfl⟩ : ∃ i, t = i + 1 := ⟨t - 1, by omega⟩
   have hi' : ((i + 1 : Nat) : Int) - 1 = (i : Int) := by omega
   rw [hi']
   have hBl := HD.out.1
   have hc1 := HO.out.cell (k := i + bb.length) (by omega)
   have hc2 := HO.out.cell (k := i + bb.length - 1) (by omega)
   have hc3 := HO.out.cell (k := i + bb.length - 2) (by omega)
   have hv1 := HOb.out.cell (k := bb.length - 1) (by omega)
   have hv2 := HOb.out.cell (k := bb.length - 2) (by omega)
   have e1 := HD.out.2.1.get (i + bb.length)
   change gt B (i + bb.length) < _ at e1
   have e2 := HD.out.2.1.get (i + bb.length - 1)
   change gt B (i + bb.length - 1) < _ at e2
   have e3 := HD.out.2.1.get (i + bb.length - 2)
   change gt B (i + bb.length - 2) < _ at e3
   have f1 := HBB.out.1.get (bb.length - 1)
   change gt bb (bb.length - 1) < _ at f1
   have f2 := HBB.out.1.get (bb.length - 2)
   change gt bb (bb.length - 2) < _ at f2
   have f0 := top_pos HBB.out.2.1 hbl
   have HBl := Lib.hid hBl
   have hBl2 : B.length ≤ a0.length := by omega
   have hBl3 : a0.length ≤ B.length := by omega
   have hwin := window HD.out.2.1 (i := i) (b := bb) (by omega) hbl HBB.out.1 HD.out.2.2.2.2.2
   have hdv := divisor hbl HBB.out.1
   have HZ := Lib.hid (drop_zero HD.out.2.1 (i := i) (b := bb) (by omega) HBB.out.1 HD.out.2.2.2.2.2)
   have HVp : Hid (0 < mval bb) := by have := hwin.1; simp only [Hid]; omega
   obtain ⟨T, hT⟩ : ∃ T : Nat, (gt B (i + bb.length) : Int) * 1000000000 + (gt B (i + bb.length - 1) : Int) = (T : Int) := ⟨gt B (i + bb.length) * 1000000000 + gt B (i + bb.length - 1), by omega⟩
   have hTn : gt B (i + bb.length) * 1000000000 + gt B (i + bb.length - 1) = T := by omega
   have hTb : T < 1000000000000000000 := by omega
   have HW := Lib.hid hwin
   have HDV := Lib.hid hdv
   clear hBl hwin hdv
   have HTn := Lib.hid hTn
   clear hTn
   have hq0 : (T : Int) / (gt bb (bb.length - 1) : Int) = ((T / gt bb (bb.length - 1) : Nat) : Int) := (Int.natCast_ediv _ _).symm
   have K1 : Hid (mval (B.drop i) / mval bb ≤ min (T / gt bb (bb.length - 1)) (1000000000 - 1)) :=
    knuth_first HDV.out.1 (by rw [HW.out.2.1, HTn.out]) HW.out.2.2.1 e3 HW.out.1 f0
   have hq1 : T / gt bb (bb.length - 1) * gt bb (bb.length - 1) ≤ T := Nat.div_mul_le_self _ _
   have K2 : Hid (∀ g : Nat, g * gt bb (bb.length - 1) ≤ T → (T - g * gt bb (bb.length - 1)) * 1000000000 + gt B (i + bb.length - 2) < g * gt bb (bb.length - 2) → mval (B.drop i) / mval bb < g) :=
    fun g h1 h2 => knuth_down HDV.out.1 (by rw [HW.out.2.1, HTn.out]) HW.out.2.2.1 h1 h2
   have K3 : Hid (∀ g : Nat, g * gt bb (bb.length - 1) ≤ T → g < 1000000000 → (1000000000 ≤ T - g * gt bb (bb.length - 1) ∨ g * gt bb (bb.length - 2) ≤ (T - g * gt bb (bb.length - 1)) * 1000000000 + gt B (i + bb.length - 2)) → g ≤ mval (B.drop i) / mval bb + 1) :=
    fun g h1 h2 h3 => knuth_last HDV.out.1 (by rw [HW.out.2.1, HTn.out]) HDV.out.2 f0 f2 h1 h2 h3
   clear HTn HDV
   have hq0b : T / gt bb (bb.length - 1) ≤ T := Nat.div_le_self _ _
   generalize T / gt bb (bb.length - 1) = q0 at hq0 K1 hq1 hq0b
   go_wp2_with fail
   go_quiet (fail)
   clear hT e1 e2 hc1 hc2
   generalize gt bb (bb.length - 1) = v1 at hv1 f1 f0 hq0 hq1 K2 K3 ⊢
   generalize gt bb (bb.length - 2) = v2 at hv2 f2 K2 K3 ⊢
   generalize gt B (i + bb.length - 2) = a2 at hc3 e3 K2 K3 ⊢
   have hv10 : ((v1 : Int) == 0) = false := by simp; omega
   have HOd := Lib.hid (HO.out.drewN nq)
   have HOQd := Lib.hid (HOQ.out.drewN nq)
   have HObd := Lib.hid (HOb.out.drewN nq)
   have HBd := Lib.hid (below_drewN HB.out nq)
   have hc3d : (wr.drewN nq).cell? ⟨g3, i + bb.length - 2, none⟩ = some (.int .u64 (a2 : Int)) := hc3
   have hv1d : (wr.drewN nq).cell? ⟨g4, bb.length - 1, none⟩ = some (.int .u64 (v1 : Int)) := hv1
   have hv2d : (wr.drewN nq).cell? ⟨g4, bb.length - 2, none⟩ = some (.int .u64 (v2 : Int)) := hv2
   clear HO HOQ HOb HB hc3 hv1 hv2
   generalize wr.drewN nq = wd at HOd HOQd HObd HBd hc3d hv1d hv2d ⊢
   go_upto_region 14 with fail
   go_cut [15] (fun gv wx => ∃ g : Nat, gv = .int .u64 (g : Int) ∧ g < 1000000000 ∧ g * v1 ≤ T ∧ Hid (mval (B.drop i) / mval bb ≤ g) ∧ wd = wx)
   case first =>
    go_wp2_with fail
    ·go_meet
     have h5 := K1.out
     refine ⟨999999999, rfl, by omega, ?_, by simp only [Hid]; omega, rfl⟩
     exact Nat.le_trans (Nat.mul_le_mul_right _ (by omega)) hq1
    ·go_meet
     have h5 := K1.out
     refine ⟨q0, rfl, by omega, hq1, by simp only [Hid]; omega, rfl⟩
   case rest =>
    obtain ⟨g0, rfl, hg0, hg1, HG, rfl⟩ := hcut
    clear hq0 hq1 hq0b K1 hv10
    go_upto_block 2 with fail
    go_cut [15] (fun gv wx => ∃ (g dq : Nat), gv = .int .u64 (g : Int) ∧ g < 1000000000 ∧ Hid (mval (B.drop i) / mval bb ≤ g ∧ g ≤ mval (B.drop i) / mval bb + 1) ∧ wx = wd.drewN dq)
    case first =>
     go_wp2_with fail
     go_loopw [15] (fun gv wq => ∃ (g dq : Nat), gv = .int .u64 (g : Int) ∧ g < 1000000000 ∧ g * v1 ≤ T ∧ Hid (mval (B.drop i) / mval bb ≤ g) ∧ wq = wd.drewN dq) (fun gv _ => (intOf gv).toNat)
     case atStart => exact ⟨g0, 0, rfl, hg0, hg1, HG, rfl⟩
     case round =>
      obtain ⟨g, dq, rfl, hg2, hg3, HG2, rfl⟩ := hrel
      by_cases hb1 : 1000000000 ≤ T - g * v1
      ·have t1 : decide ((1000000000 : Int) ≤ (T : Int) - (g : Int) * (v1 : Int)) = true := by simp only [decide_eq_true_eq]; omega
       go_wp2_with fail
       go_quiet (fail)
       go_wp2_with fail
       go_meet
       exact ⟨g, _, rfl, hg2, ⟨HG2.out, K3.out g hg3 hg2 (.inl hb1)⟩, World.drewN_drewN _ _ _⟩
      ·have t1 : decide ((1000000000 : Int) ≤ (T : Int) - (g : Int) * (v1 : Int)) = false := by simp only [decide_eq_false_iff_not]; omega
       have hgv2 : g * v2 ≤ 999999999 * 999999999 := Nat.mul_le_mul (by omega) (by omega)
       by_cases hb2 : g * v2 ≤ (T - g * v1) * 1000000000 + a2
       ·have t2 : decide ((g : Int) * (v2 : Int) ≤ ((T : Int) - (g : Int) * (v1 : Int)) * 1000000000 + (a2 : Int)) = true := by simp only [decide_eq_true_eq]; omega
        go_wp2_with fail
        go_quiet (fail)
        go_wp2_with fail
        go_meet
        exact ⟨g, _, rfl, hg2, ⟨HG2.out, K3.out g hg3 hg2 (.inr hb2)⟩, World.drewN_drewN _ _ _⟩
       ·have t2 : decide ((g : Int) * (v2 : Int) ≤ ((T : Int) - (g : Int) * (v1 : Int)) * 1000000000 + (a2 : Int)) = false := by simp only [decide_eq_false_iff_not]; omega
        have hlt := K2.out g hg3 (by omega)
        have hgp : 1 ≤ g := Nat.lt_of_le_of_lt (Nat.zero_le _) hlt
        have HLT := Lib.hid hlt
        clear hlt
        go_wp2_with fail
        go_quiet (fail)
        go_wp2_with fail
        refine ⟨⟨g - 1, _, by congr 1; omega, by omega, ?_, ?_, rfl⟩, by simp [intOf]; omega⟩
        ·exact Nat.le_trans (Nat.mul_le_mul_right _ (Nat.sub_le _ _)) hg3
        ·have h5 := HLT.out
         exact Nat.le_sub_one_of_lt h5
    case rest =>
     obtain ⟨gs, dq, rfl, hg2, HG2, rfl⟩ := hcut
     clear hg1 HG hg0 K2 K3 hc3d hv1d hv2d f0 f1 f2 e3 hTb
     have HOd2 := Lib.hid (HOd.out.drewN dq)
     have HOQd2 := Lib.hid (HOQd.out.drewN dq)
     have HObd2 := Lib.hid (HObd.out.drewN dq)
     have HBd2 := Lib.hid (below_drewN HBd.out dq)
     clear HOd HOQd HObd HBd
     generalize wd.drewN dq = we at HOd2 HOQd2 HObd2 HBd2 ⊢
     go_wp2_with fail
     go_loopw [17, 136] (fun bo jj wq => ∃ (j o : Nat) (X : List Nat), j ≤ bb.length ∧ jj = .int .i64 (j : Int) ∧ bo = .int .u64 (o : Int) ∧ o < 1000000000 ∧ SubR B bb i gs j X o ∧ OwnM wq g3 X sp3 ∧ OwnM wq gq (List.replicate (i + 1) 0 ++ Q) [] ∧ OwnM wq g4 bb sp4 ∧ Below w.heap.size w wq) (fun _ jj _ => bb.length - (intOf jj).toNat)
     case atStart => exact ⟨0, 0, B, Nat.zero_le _, rfl, rfl, by omega, SubR.start HD.out.2.1, HOd2.out, HOQd2.out, HObd2.out, HBd2.out⟩
     case round =>
      obtain ⟨j, o, X, hj, rfl, rfl, ho, hS, hOX, hOQ, hOb, hBw⟩ := hrel
      have HS := Lib.hid hS
      have HOX := Lib.hid hOX
      have HOQ := Lib.hid hOQ
      have HOb := Lib.hid hOb
      have HBw := Lib.hid hBw
      clear HOd2 HOQd2 HObd2 HBd2
      have hXl := hS.1
      by_cases hjl : j < bb.length
      ·have hcb := hOb.cell hjl
       have hcx := hOX.cell (k := i + j) (by omega)
       have hfx := hOX.frozen (i + j)
       have y1 := HBB.out.1.get j
       change gt bb j < _ at y1
       have y2 := hS.2.1.get (i + j)
       change gt X (i + j) < _ at y2
       have y3 : gs * gt bb j ≤ 999999999 * 999999999 := Nat.mul_le_mul (by omega) (by omega)
       have HXl := Lib.hid hXl
       have hXl2 : i + j < X.length := by omega
       clear hS hOX hOQ hOb hBw hXl
       by_cases hlt : gt X (i + j) < (gs * gt bb j + o) % 1000000000
       ·go_wp2_with fail
        have hst := HS.out.step (a' := gt X (i + j) + 1000000000 - (gs * gt bb j + o) % 1000000000) (o' := (gs * gt bb j + o) / 1000000000 + 1) (by omega) (by omega) (by omega)
        refine ⟨⟨j + 1, (gs * gt bb j + o) / 1000000000 + 1, X.set (i + j) (gt X (i + j) + 1000000000 - (gs * gt bb j + o) % 1000000000), by omega, by go_num, by congr 1, by omega, hst, ?_, ?_, ?_, ?_⟩, by simp [intOf]; omega⟩
        ·have h5 := (HOX.out.set' (k := i + j) (z := (gt X (i + j) : Int) + 1000000000) hXl2 (gt X (i + j) + 1000000000) (by omega)).set' (k := i + j) (z := (gt X (i + j) : Int) + 1000000000 - ((gs : Int) * (gt bb j : Int) + (o : Int)) % 1000000000) (by simpa using hXl2) (gt X (i + j) + 1000000000 - (gs * gt bb j + o) % 1000000000) (by omega)
         rw [set_set] at h5
         exact h5
        ·exact (HOQ.out.far (p := ⟨g3, i + j, none⟩) (by simp; omega) _).far (p := ⟨g3, i + j, none⟩) (by simp; omega) _
        ·exact (HOb.out.far (p := ⟨g3, i + j, none⟩) (by simp; omega) _).far (p := ⟨g3, i + j, none⟩) (by simp; omega) _
        ·exact (HBw.out.setCell (p := ⟨g3, i + j, none⟩) hg3 _).setCell (p := ⟨g3, i + j, none⟩) hg3 _
       ·go_wp2_with fail
        have hst := HS.out.step (a' := gt X (i + j) - (gs * gt bb j + o) % 1000000000) (o' := (gs * gt bb j + o) / 1000000000) (by omega) (by omega) (by omega)
        refine ⟨⟨j + 1, (gs * gt bb j + o) / 1000000000, X.set (i + j) (gt X (i + j) - (gs * gt bb j + o) % 1000000000), by omega, by go_num, by congr 1, by omega, hst, ?_, ?_, ?_, ?_⟩, by simp [intOf]; omega⟩
        ·exact HOX.out.set' (k := i + j) hXl2 _ (by omega)
        ·exact HOQ.out.far (p := ⟨g3, i + j, none⟩) (by simp; omega) _
        ·exact HOb.out.far (p := ⟨g3, i + j, none⟩) (by simp; omega) _
        ·exact HBw.out.setCell (p := ⟨g3, i + j, none⟩) hg3 _
      ·obtain rfl : j = bb.length := by omega
       have hcx := hOX.cell (k := i + bb.length) (by omega)
       rw [hS.2.2.1 _ (Nat.le_refl _)] at hcx
       have hfx := hOX.frozen (i + bb.length)
       have y2 := HD.out.2.1.get (i + bb.length)
       change gt B (i + bb.length) < _ at y2
       have hcq := hOQ.cell (k := i) (by simp; omega)
       have hfq := hOQ.frozen i
       have hXl2 : i + bb.length < X.length := by omega
       clear hS hOX hOQ hOb hBw
       have HXl := Lib.hid hXl
       clear hXl
       by_cases hfit : o ≤ gt B (i + bb.length)
       ·have HF := Lib.hid (HS.out.fits (by omega) HD.out.2.1 hfit)
        have HLE := Lib.hid (HS.out.le (by omega) HD.out.2.1 hfit HVp.out)
        go_wp2_with fail
        have hq : gs = mval (B.drop i) / mval bb := Nat.le_antisymm HLE.out HG2.out.1
        have hst := HD.out.step hq HF.out.1 HF.out.2.1 HF.out.2.2.1 HF.out.2.2.2 (by omega) HW.out.1
        refine ⟨⟨i, _, _, by omega, by congr 1, hst, ?_, ?_, ?_, ?_⟩, by simp [intOf]⟩
        ·exact (HOX.out.set' (k := i + bb.length) hXl2 _ (by omega)).far (p := ⟨gq, i, none⟩) (by simp; omega) _
        ·have h5 := (HOQ.out.far (p := ⟨g3, i + bb.length, none⟩) (by simp; omega) (.int .u64 ((gt B (i + bb.length) : Int) - (o : Int)))).set' (k := i) (z := (gs : Int)) (by simp; omega) gs rfl
         rw [set_zeros] at h5
         exact h5
        ·exact (HOb.out.far (p := ⟨g3, i + bb.length, none⟩) (by simp; omega) _).far (p := ⟨gq, i, none⟩) (by simp; omega) _
        ·exact (HBw.out.setCell (p := ⟨g3, i + bb.length, none⟩) hg3 _).setCell (p := ⟨gq, i, none⟩) hwq _
       ·have hov := HS.out.over (by omega) HZ.out (by omega) HVp.out
        have hgp : 1 ≤ gs := Nat.lt_of_le_of_lt (Nat.zero_le _) hov
        have HOV := Lib.hid hov
        clear hov
        go_wp2_with fail
        clear hcq hfq hcx hfx
        obtain ⟨wo, rfl⟩ : ∃ wo : World, wo = wr := ⟨_, rfl⟩
        go_loopw [20, 200] (fun cy jj wq => ∃ (j q : Nat) (Y : List Nat), j ≤ bb.length ∧ jj = .int .i64 (j : Int) ∧ cy = .int .u64 (q : Int) ∧ q ≤ 1 ∧ AddR X bb i j Y q ∧ OwnM wq g3 Y sp3 ∧ OwnM wq gq (List.replicate (i + 1) 0 ++ Q) [] ∧ OwnM wq g4 bb sp4 ∧ Below w.heap.size w wq) (fun _ jj _ => bb.length - (intOf jj).toNat)
        case atStart => exact ⟨0, 0, X, Nat.zero_le _, rfl, rfl, by omega, AddR.start HS.out.2.1, HOX.out, HOQ.out, HOb.out, HBw.out⟩
        case round =>
         obtain ⟨j, q, Y, hj, rfl, rfl, hq, hAd, hOY, hOQ, hOb, hBw⟩ := hrel
         have HAd := Lib.hid hAd
         have HOY := Lib.hid hOY
         have HOQ2 := Lib.hid hOQ
         have HOb2 := Lib.hid hOb
         have HBw2 := Lib.hid hBw
         have hYl := hAd.1
         by_cases hjl : j < bb.length
         ·have hcb := hOb.cell hjl
          have hcy := hOY.cell (k := i + j) (by omega)
          have hfy := hOY.frozen (i + j)
          have y1 := HBB.out.1.get j
          change gt bb j < _ at y1
          have y2 := hAd.2.1.get (i + j)
          change gt Y (i + j) < _ at y2
          have hYl2 : i + j < Y.length := by omega
          clear hAd hOY hOQ hOb hBw hYl
          go_wp2_with fail
          go_region
          go_wp2_with fail
          have hst := HAd.out.step (by have := HXl.out; omega) HBB.out.1 hq
          refine ⟨⟨j + 1, (gt Y (i + j) + (gt bb j + q)) / 1000000000, Y.set (i + j) ((gt Y (i + j) + (gt bb j + q)) % 1000000000), by omega, by go_num, by congr 1, hst.1, hst.2, ?_, ?_, ?_, ?_⟩, by simp [intOf]; omega⟩
          ·have h5 := ((HOY.out.set' (k := i + j) (z := (gt Y (i + j) : Int) + ((gt bb j : Int) + (q : Int))) hYl2 (gt Y (i + j) + (gt bb j + q)) (by omega)).set' (k := i + j) (z := ((gt Y (i + j) : Int) + ((gt bb j : Int) + (q : Int))) % 1000000000) (by simpa using hYl2) ((gt Y (i + j) + (gt bb j + q)) % 1000000000) (by omega)).drew
           rw [set_set] at h5
           exact h5
          ·exact ((HOQ2.out.far (p := ⟨g3, i + j, none⟩) (by simp; omega) _).far (p := ⟨g3, i + j, none⟩) (by simp; omega) _).drew
          ·exact ((HOb2.out.far (p := ⟨g3, i + j, none⟩) (by simp; omega) _).far (p := ⟨g3, i + j, none⟩) (by simp; omega) _).drew
          ·exact ((HBw2.out.setCell (p := ⟨g3, i + j, none⟩) hg3 _).setCell (p := ⟨g3, i + j, none⟩) hg3 _).drew
         ·obtain rfl : j = bb.length := by omega
          have hgq : gs = mval (B.drop i) / mval bb + 1 := Nat.le_antisymm HG2.out.2 HOV.out
          have hbk := HS.out.back hAd (by omega) HD.out.2.1 HBB.out.1 HZ.out hgq HVp.out
          have hcy := hOY.cell (k := i + bb.length) (by have := HXl.out; omega)
          rw [hbk.1] at hcy
          have hfy := hOY.frozen (i + bb.length)
          have hcq := hOQ.cell (k := i) (by simp; omega)
          have hfq := hOQ.frozen i
          have hYl2 : i + bb.length < Y.length := by have := HXl.out; omega
          have hxo : gt B (i + bb.length) + q ≤ o := by omega
          have hxo' : o ≤ gt B (i + bb.length) + q := by omega
          have HBK := Lib.hid hbk
          have HGQ := Lib.hid hgq
          clear hAd hOY hOQ hOb hBw hYl hbk hgq
          go_wp2_with fail
          have hst := HD.out.step (g := gs - 1) (by have := HGQ.out; omega) HBK.out.2.2.1 HBK.out.2.2.2.1 HBK.out.2.2.2.2.1 HBK.out.2.2.2.2.2 (by omega) HW.out.1
          refine ⟨⟨i, _, _, by omega, by congr 1, hst, ?_, ?_, ?_, ?_⟩, by simp [intOf]⟩
          ·exact (HOY.out.set' (k := i + bb.length) hYl2 0 (by omega)).far (p := ⟨gq, i, none⟩) (by simp; omega) _
          ·have h5 := (HOQ2.out.far (p := ⟨g3, i + bb.length, none⟩) (by simp; omega) (.int .u64 ((gt B (i + bb.length) : Int) + (q : Int) - (o : Int)))).set' (k := i) (z := (gs : Int) - 1) (by simp; omega) (gs - 1) (by omega)
           rw [set_zeros] at h5
           exact h5
          ·exact (HOb2.out.far (p := ⟨g3, i + bb.length, none⟩) (by simp; omega) _).far (p := ⟨gq, i, none⟩) (by simp; omega) _
          ·exact (HBw2.out.setCell (p := ⟨g3, i + bb.length, none⟩) hg3 _).setCell (p := ⟨gq, i, none⟩) hwq _
theorem divide_any (A A' : Option Addr) (l n : List Nat) (c c' : Nat) (w : World) (b1 : l.length ≤ 536870000) (b2 : n.length ≤ 536870000)
 (hl : Dig l) (hn : Dig n) (nl : Norm l) (nn : Norm n) (hr : Mg w A c l) (hr' : Mg w A' c' n) (hpos : 0 < mval n) :
 Calls Tryz.prog 215 #[.slice A l.length c, .slice A' n.length c'] w (DivPost w l n) := by
 rcases Nat.lt_or_ge (mval l) (mval n) with h | h
 ·exact divide_less A A' l n c c' w b1 b2 hl hn nl nn hr hr' h
 ·rcases Nat.lt_or_ge n.length 2 with h2 | h2
  ·have hne : n ≠ [] := by rintro rfl; simp [mval] at hpos
   obtain ⟨d, rfl⟩ : ∃ d, n = [d] := by
    cases n with
    | nil => exact absurd rfl hne
    | cons d t =>
      cases t with
      | nil => exact ⟨d, rfl⟩
      | cons _ _ => exact absurd h2 (by simp)
   rw [mval_single] at hpos h
   exact divide_one A A' l d c c' w b1 hl hpos (hn d (by simp)) nl hr hr' h
  ·exact divide_long A A' l n c c' w b1 b2 h2 hl hn nl nn hr hr' h
end Go.Proofs.YtbkmhmaldljgmaaGreatDoor
