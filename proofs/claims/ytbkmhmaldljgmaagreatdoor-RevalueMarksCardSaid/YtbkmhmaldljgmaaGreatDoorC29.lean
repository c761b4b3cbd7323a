/-
  price.Value, date.Weekday.
  slices.SortFunc over at most 12 ints.
  allocate: the sum and the check of weights, the comparison of rests.
  allocate.check of valid weights, the comparison of rests (allocate.positive$1).
  allocate.positive: a total that is not negative, divided by weights. The blocks.
  allocate.positive.
  allocate.divide, allocate.Split of valid weights.
-/
import Derived.Test.YtbkmhmaldljgmaaGreatDoorC27
import Derived.Test.YtbkmhmaldljgmaaGreatDoorC13
import Derived.Test.YtbkmhmaldljgmaaGreatDoorC16
import Derived.Test.YtbkmhmaldljgmaaGreatDoorC19
import Derived.Test.YtbkmhmaldljgmaaGreatDoorC02
import Derived.Test.YtbkmhmaldljgmaaGreatDoorC10
set_option linter.unusedVariables false
set_option linter.unusedSimpArgs false
set_option maxHeartbeats 16000000
set_option maxRecDepth 100000
namespace Go.Proofs.YtbkmhmaldljgmaaGreatDoor
open Go.RowKit Tr Go.Shelf
theorem dWeekday_yes (d : Int) (hd : okDay d) (w : World) : Calls Tryz.prog 112 #[.int .i64 d] w fun e w' => (∃ k, e = .returned (.tuple #[.int .i64 k, .int .i64 0])) ∧ w' = w := by
 have HV := hI (dvalid_any d w)
 rw [decide_eq_true hd] at HV
 unfold okDay at hd
 have e1 : IntKind.i64.wrap (d + 3) = d + 3 := by rw [IntKind.wrap_i64]; omega
 have e2 : IntKind.i64.wrap (d + 3 + 28000) = d + 3 + 28000 := by rw [IntKind.wrap_i64]; omega
 clear hd
 go_enter Tryz.func112, Tryz.ntmps112
 go_wp2_with fail
 refine HV.out.mono ?_
 rintro e w1 ⟨rfl, rfl⟩
 go_wp2_with fail
 refine bodyPost_ret (results_tmp2 rfl _ _ _) rfl ?_
 exact ⟨⟨_, rfl⟩, rfl⟩
def valQ (n d q : ByteArray) : Rat := fv n d * (vl q : Rat)
theorem pValue_any (n d q : ByteArray) (s1 : n.size ≤ 100) (s2 : d.size ≤ 100) (s3 : q.size ≤ 100) (w : World) (ht : Tabs w) :
 Calls Tryz.prog 69 #[.agg #[.string n, .string d], .string q] w fun e w' => e = .returned (.string (I (rnd (valQ n d q)))) ∧ Below w.heap.size w w' := by
 have mixed : Tryz.prog.follows .mixedOrders = true := by kernel_rfl
 obtain ⟨W0, hW0⟩ : ∃ W0, w.alloc (.cells #[.string n, .string d] 25) = W0 := ⟨_, rfl⟩
 have hb0 : Below w.heap.size w W0 := by rw [← hW0]; exact (Below.refl _ w).alloc (Nat.le_refl _) _
 have HG : Hid (BX w [(w.heap.size, .cells #[.string n, .string d] 25 (0, 0))] W0) := ⟨hb0, fun z hz => by rw [List.mem_singleton] at hz; subst hz; rw [← hW0]; exact heap_alloc_new w _⟩
 have HT := hI ht
 obtain ⟨z, hz⟩ : ∃ z : Rat, (vl q : Rat) = z := ⟨_, rfl⟩
 have bz : BdQ z 101 := by rw [← hz]; exact BdQ.int (k := 101) (Nat.lt_of_lt_of_le (vl_lt q) (pow_mono (by omega))) (by omega)
 have HO := hI (fun W (hW : BX w [(w.heap.size, .cells #[.string n, .string d] 25 (0, 0))] W) => fOf_any q W (by omega) (HT.out.below hW.1))
 rw [hz] at HO
 have HM := hI (fun W (hW : BX w [(w.heap.size, .cells #[.string n, .string d] 25 (0, 0))] W) => fMul_any n d (I z.num) (dn z) W (by omega) (by omega) (Nat.le_trans bz.num (by omega)) (Nat.le_trans bz.dn (by omega)) (HT.out.below hW.1))
 rw [fv_enc] at HM
 obtain ⟨p, hp⟩ : ∃ p : Rat, valQ n d q = p := ⟨_, rfl⟩
 have hp' : fv n d * z = p := by rw [← hp, ← hz]; rfl
 rw [hp'] at HM
 have bp : BdQ p 202 := by rw [← hp']; exact BdQ.mul (a := 101) (b := 101) (fv_bd _ _ (by omega) (by omega)) bz
 have HR := hI (fun W (hW : BX w [(w.heap.size, .cells #[.string n, .string d] 25 (0, 0))] W) => Round_any (I p.num) (dn p) W (Nat.le_trans bp.num (by omega)) (Nat.le_trans bp.dn (by omega)) (HT.out.below hW.1))
 rw [fv_enc] at HR
 rw [hp]
 unfold fenc at HO HM
 clear hb0 ht bz bp hz hp hp' s1 s2 s3
 go_enter Tryz.func69, Tryz.ntmps69
 go_wp2_with fail
 refine wp_region_quietC (fun W => BX w [(w.heap.size, .cells #[.string n, .string d] 25 (0, 0))] W) mixed (by kernel_rfl) ⟨HG.out.1.drew, HG.out.2⟩ ?_
 iterate 10
  refine wpQuiet_step (fun K hK => ?_)
  go_simp
  first
  | (refine hK _ ?_; clear hK K)
  | (refine ⟨_, fun _ _ => rfl, hK _ ?_⟩; clear hK K)
  | (refine ⟨.agg #[.string n, .string d], fun W hW => ?_, hK _ ?_⟩
     focus
      have a0 := Lib.cell_of_heap (hW.get 0 rfl) 0
      have a1 := Lib.cell_of_heap (hW.get 0 rfl) 1
      simp at a0 a1
      go_simp
      done
     clear hK K)
  | (refine ⟨.agg #[.string (I z.num), .string (dn z)], fun W hW => ?_, hK _ ?_⟩
     focus
      refine (HO.out W hW).mono ?_
      rintro e wn ⟨rfl, hb⟩
      exact ⟨rfl, hW.below hb⟩
     clear hK K)
  | (refine ⟨.agg #[.string (I p.num), .string (dn p)], fun W hW => ?_, hK _ ?_⟩
     focus
      refine (HM.out W hW).mono ?_
      rintro e wn ⟨rfl, hb⟩
      exact ⟨rfl, hW.below hb⟩
     clear hK K)
  | (refine ⟨.tuple #[.string (I (rnd p)), .int .i64 0], fun W hW => ?_, hK _ ?_⟩
     focus
      refine (HR.out W hW).mono ?_
      rintro e wn ⟨rfl, hb⟩
      exact ⟨rfl, hW.below hb⟩
     clear hK K)
 refine wpQuiet_nil ?_
 intro w5 hw5
 have HG5 := hI hw5
 clear hw5
 go_wp2_with fail
 go_ret
 exact ⟨rfl, HG5.out.1⟩
theorem bitsLen_any (n : Nat) (hn : n ≤ 1000000) (w : World) : Calls Tryz.prog 222 #[.int .u64 (n : Int)] w fun e w' => (∃ k : Int, e = .returned (.int .i64 k)) ∧ w' = w := by
 have HL := hI (Tryz.bits_Len64 (n : Int) w (by omega) (by omega))
 have hw1 : IntKind.u64.wrap (n : Int) = (n : Int) := by unfold IntKind.wrap; simp [IntKind.signed, IntKind.bits]; omega
 go_enter Tryz.func222, Tryz.ntmps222
 go_wp2_with fail
 refine HL.out.mono ?_
 rintro e w1 ⟨rfl, rfl⟩
 go_wp2_with fail
 go_ret
 exact ⟨⟨_, rfl⟩, rfl⟩
theorem pdqI_any (p : Nat → Prop) (cf : Nat → Nat → Int) (lt : Nat → Nat → Bool) (hw : Weak lt) (w0 : World) (g N c f : Nat) (L : Int) (bd : Array Value) (hlt : ∀ x y, p x → p y → decide (cf x y < 0) = lt x y) (hC : CmpI p cf f bd w0 g) (D0 : List Nat) (hN : D0.length = N) (hm : N ≤ 12) (hp : ∀ x ∈ D0, p x) (w : World) (hrow : IRow w0 g D0 w) :
 Calls Tryz.prog 221 #[.slice (some ⟨g, 0, none⟩) N c, .int .i64 0, .int .i64 (N : Int), .int .i64 L, .func (.func f) #[] bd] w fun e w' => e = .returned (.tuple #[]) ∧ IRow w0 g (ssort lt D0) w' := by
 have HI := hI (isortI_any p cf lt hw w0 g N c 0 N f bd hlt hC D0 hN (by omega) (by omega) (by omega) hp w hrow)
 have hs : sortSeg lt D0 0 N = ssort lt D0 := by unfold sortSeg; rw [← hN]; simp
 rw [hs] at HI
 have hw1 : IntKind.i64.wrap ((N : Int) - 0) = (N : Int) := by rw [IntKind.wrap_i64]; omega
 have hw2 : IntKind.i64.wrap (N : Int) = (N : Int) := by rw [IntKind.wrap_i64]; omega
 have hc : decide ((N : Int) ≤ 12) = true := by simp; omega
 have hc2 : N ≤ 12 := hm
 clear hrow hN hlt hC hw hp hs
 go_enter Tryz.func221, Tryz.ntmps221
 go_wp2_with fail
 go_loopw [1, 2] (fun v1 v2 wr => v1 = .int .i64 0 ∧ v2 = .int .i64 (N : Int) ∧ wr = w) (fun _ _ _ => 0)
 case atStart => exact ⟨rfl, rfl, rfl⟩
 case round =>
  obtain ⟨rfl, rfl, rfl⟩ := hrel
  go_wp2_with fail
  refine HI.out.mono ?_
  rintro e w1 ⟨rfl, hr⟩
  go_wp2_with fail
  refine bodyPost_ret (results_none rfl _ _ _) rfl ?_
  exact ⟨rfl, hr⟩
theorem sortFI_any (p : Nat → Prop) (cf : Nat → Nat → Int) (lt : Nat → Nat → Bool) (hw : Weak lt) (w0 : World) (g N c f : Nat) (bd : Array Value) (hlt : ∀ x y, p x → p y → decide (cf x y < 0) = lt x y) (hC : CmpI p cf f bd w0 g) (D0 : List Nat) (hN : D0.length = N) (hm : N ≤ 12) (hp : ∀ x ∈ D0, p x) (w : World) (hrow : IRow w0 g D0 w) :
 Calls Tryz.prog 167 #[.slice (some ⟨g, 0, none⟩) N c, .func (.func f) #[] bd] w fun e w' => e = .returned (.tuple #[]) ∧ IRow w0 g (ssort lt D0) w' := by
 have HB := hI (bitsLen_any N (by omega) w)
 have HI := hI (fun L => pdqI_any p cf lt hw w0 g N c f L bd hlt hC D0 hN hm hp w hrow)
 have hw1 : IntKind.u64.wrap (N : Int) = (N : Int) := by unfold IntKind.wrap; simp [IntKind.signed, IntKind.bits]; omega
 clear hrow hN hlt hC hw hp hm
 go_enter Tryz.func167, Tryz.ntmps167
 go_wp2_with fail
 refine HB.out.mono ?_
 rintro e w1 ⟨⟨k, rfl⟩, rfl⟩
 go_wp2_with fail
 refine (HI.out _).mono ?_
 rintro e w2 ⟨rfl, hr⟩
 go_wp2_with fail
 go_end0
 exact ⟨rfl, hr⟩
structure SRd (W : World) (A : Addr) (l : List Int) : Prop where
 lt : A.block < W.heap.size
 rd : ∀ k z, l[k]? = some z → W.cell? (A.add k) = some (.string (I z))
theorem SRd.below {W W' : World} {A : Addr} {l : List Int} (h : SRd W A l) (hb : Below W.heap.size W W') : SRd W' A l :=
 ⟨Nat.lt_of_lt_of_le h.lt hb.size, fun k z hz => (hb.cell (by rw [add_block]; exact h.lt)).trans (h.rd k z hz)⟩
theorem SRd.below' {n₀ : Nat} {W W' : World} {A : Addr} {l : List Int} (h : SRd W A l) (hn : A.block < n₀) (hb : Below n₀ W W') : SRd W' A l :=
 ⟨Nat.lt_of_lt_of_le h.lt hb.size, fun k z hz => (hb.cell (by rw [add_block]; exact hn)).trans (h.rd k z hz)⟩
theorem aneg_any (a : ByteArray) (w : World) (s : a.size ≤ 4000000) :
 Calls Tryz.prog 121 #[.string a] w fun e w' => e = .returned (.bool (decide (vl a < 0))) ∧ Below w.heap.size w w' := by
 have HC := hI (Compare_any a ⟨#[]⟩ w s (by show 0 ≤ _; omega))
 rw [show vl (⟨#[]⟩ : ByteArray) = 0 from by rw [zero_eq, vl_I]] at HC
 have hc : decide (cmpI (vl a) 0 < 0) = decide (vl a < 0) := by rw [decide_eq_decide]; exact cmpI_lt
 obtain ⟨b, hb⟩ : ∃ b, decide (vl a < 0) = b := ⟨_, rfl⟩
 rw [hb] at hc ⊢
 clear hb
 go_enter Tryz.func121, Tryz.ntmps121
 go_wp2_with fail
 refine HC.out.mono ?_
 rintro e w1 ⟨rfl, B1⟩
 clear HC
 go_wp2_with fail
 go_ret
 exact ⟨rfl, B1⟩
def sumZ (l : List Int) (k : Nat) : Int := (l.take k).foldl (· + ·) 0
theorem sumZ_succ {l : List Int} {k : Nat} {z : Int} (h : l[k]? = some z) : sumZ l (k + 1) = sumZ l k + z := by
 unfold sumZ
 rw [List.take_add_one, h]
 simp
theorem sumZ_all (l : List Int) {n : Nat} (h : l.length = n) : sumZ l n = l.foldl (· + ·) 0 := by unfold sumZ; rw [List.take_of_length_le (by omega)]
theorem sumZ_bd {l : List Int} {B : Nat} (hB : ∀ z ∈ l, z.natAbs ≤ B) : ∀ k, (sumZ l k).natAbs ≤ k * B
 | 0 => by simp [sumZ]
 | k + 1 => by
   have ih := sumZ_bd hB k
   rw [Nat.succ_mul]
   cases h : l[k]? with
   | none =>
     have : sumZ l (k + 1) = sumZ l k := by unfold sumZ; rw [List.take_add_one, h]; simp
     rw [this]; omega
   | some z =>
     rw [sumZ_succ h]
     have := hB z (List.mem_of_getElem? h)
     omega
theorem sumZ_size {l : List Int} {K : Nat} (hB : ∀ z ∈ l, z.natAbs < 10 ^ K) {k : Nat} (hk : k ≤ 1000) : (I (sumZ l k)).size ≤ K + 4 := by
 refine I_size_le (k := K + 3) ?_
 have h := sumZ_bd (l := l) (B := 10 ^ K - 1) (fun z hz => by have := hB z hz; omega) k
 have hp : 0 < 10 ^ K := Nat.pow_pos (by omega)
 have h2 : k * (10 ^ K - 1) ≤ 1000 * (10 ^ K - 1) := Nat.mul_le_mul_right _ hk
 rw [Nat.pow_add]
 omega
theorem alwhole_any (A : Addr) (l : List Int) (c K : Nat) (hK : K ≤ 1000) (hl : l.length ≤ 1000) (hB : ∀ z ∈ l, z.natAbs < 10 ^ K) (w : World) (hs : SRd w A l) (ht : Tabs w) :
 Calls Tryz.prog 122 #[.slice (some A) l.length c] w fun e w' => e = .returned (.string (I (l.foldl (· + ·) 0))) ∧ Below w.heap.size w w' := by
 have HS := hI hs
 have HT := hI ht
 have HB := hI hB
 obtain ⟨n, hn⟩ : ∃ n, l.length = n := ⟨_, rfl⟩
 have HN := hI hn
 rw [hn, ← sumZ_all l hn]
 rw [hn] at hl
 clear hs ht hB hn
 go_enter Tryz.func122, Tryz.ntmps122
 go_wp2_with fail
 go_loopw [3, 8] (fun v3 v8 wr => ∃ k : Nat, v3 = .string (I (sumZ l k)) ∧ v8 = .int .i64 (k : Int) ∧ k ≤ n ∧ Below w.heap.size w wr) (fun _ v _ => n - (intOf v).toNat)
 case atStart => exact ⟨0, rfl, rfl, by omega, Below.refl _ _⟩
 case round =>
  obtain ⟨k, rfl, rfl, hk, hb⟩ := hrel
  have HBw := hI hb
  clear hb
  rcases Nat.lt_or_ge k n with hlt | hge
  ·have hcx : decide ((k : Int) < (n : Int)) = true := by simp; omega
   have hbk : (k : Int) < (n : Int) := by omega
   obtain ⟨z, hz⟩ : ∃ z, l[k]? = some z := ⟨_, List.getElem?_eq_getElem (by rw [HN.out]; exact hlt)⟩
   have hc := (HS.out.below HBw.out).rd k z hz
   have HZ := hI hz
   have HA := hI (Add_any (I (sumZ l k)) (I z) wr (Nat.le_trans (sumZ_size HB.out (by omega)) (by omega)) (Nat.le_trans (I_size_le (HB.out z (List.mem_of_getElem? hz))) (by omega)) (HT.out.below HBw.out))
   rw [vl_I, vl_I, ← sumZ_succ hz] at HA
   clear hz
   go_wp2_with fail
   refine HA.out.mono ?_
   rintro e w1 ⟨rfl, b1⟩
   go_wp2_with fail
   go_roundw
   case rel => exact ⟨k + 1, rfl, by go_num, by omega, HBw.out.trans (b1.mono HBw.out.size)⟩
   case measure => simp [intOf]; omega
  ·have hcx : decide ((k : Int) < (n : Int)) = false := by simp; omega
   obtain rfl : k = n := by omega
   go_wp2_with fail
   go_ret
   exact ⟨rfl, HBw.out⟩
theorem alcheck1_no (z : Int) (K : Nat) (hK : K ≤ 1000) (hz : z.natAbs < 10 ^ K) (h0 : 0 ≤ z) (w : World) :
 Calls Tryz.prog 120 #[.string (I z)] w fun e w' => e = .returned (.bool false) ∧ Below w.heap.size w w' := by
 have hs := I_size_le hz
 have HC := hI (Check_yes (I z) w (by omega) (by show I (vl (I z)) = I z; rw [vl_I]))
 have HN := hI (fun W => aneg_any (I z) W (by omega))
 rw [vl_I, decide_eq_false (show ¬ z < 0 by omega)] at HN
 generalize I z = s at HC HN
 clear hs
 go_enter Tryz.func120, Tryz.ntmps120
 go_wp2_with fail
 refine HC.out.mono ?_
 rintro e w1 ⟨rfl, b1⟩
 go_wp2_with fail
 refine (HN.out w1).mono ?_
 rintro e w2 ⟨rfl, b2⟩
 go_wp2_with fail
 go_ret
 exact ⟨rfl, b1.trans (b2.mono b1.size)⟩
theorem idxInt_no (f : Nat) (A : Addr) (l : List Int) (c : Nat) (hl : l.length ≤ 1000) (w : World) (hs : SRd w A l) (hen : ∀ args w, (callFunc f args).run Tryz.prog w = .ok (.enter f args) w)
 (hf : ∀ W, Below w.heap.size w W → ∀ z ∈ l, Calls Tryz.prog f #[.string (I z)] W fun e w' => e = .returned (.bool false) ∧ Below W.heap.size W w') :
 Calls Tryz.prog 38 #[.slice (some A) l.length c, .func (.func f) #[] #[]] w fun e w' => e = .returned (.int .i64 (-1)) ∧ Below w.heap.size w w' := by
 have HS := hI hs
 have HF := hI hf
 obtain ⟨n, hn⟩ : ∃ n, l.length = n := ⟨_, rfl⟩
 have HN := hI hn
 rw [hn] at hl ⊢
 clear hs hf hn
 go_enter Tryz.func38, Tryz.ntmps38
 go_wp2_with fail
 go_loopw [8] (fun v8 wr => ∃ k : Nat, v8 = .int .i64 (k : Int) ∧ k ≤ n ∧ Below w.heap.size w wr) (fun v _ => n - (intOf v).toNat)
 case atStart => exact ⟨0, rfl, by omega, Below.refl _ _⟩
 case round =>
  obtain ⟨k, rfl, hk, hb⟩ := hrel
  have HBw := hI hb
  clear hb
  rcases Nat.lt_or_ge k n with hlt | hge
  ·have hcx : decide ((k : Int) < (n : Int)) = true := by simp; omega
   have hbk : (k : Int) < (n : Int) := by omega
   obtain ⟨z, hz⟩ : ∃ z, l[k]? = some z := ⟨_, List.getElem?_eq_getElem (by rw [HN.out]; exact hlt)⟩
   have hc := (HS.out.below HBw.out).rd k z hz
   have HA := hI (HF.out wr HBw.out z (List.mem_of_getElem? hz))
   clear hz
   go_wp2_with fail
   refine HA.out.mono ?_
   rintro e w1 ⟨rfl, b1⟩
   go_wp2_with fail
   go_roundw
   case rel => exact ⟨k + 1, by go_num, by omega, HBw.out.trans (b1.mono HBw.out.size)⟩
   case measure => simp [intOf]; omega
  ·have hcx : decide ((k : Int) < (n : Int)) = false := by simp; omega
   obtain rfl : k = n := by omega
   go_wp2_with fail
   go_ret
   exact ⟨rfl, HBw.out⟩
theorem hasInt_no (f : Nat) (A : Addr) (l : List Int) (c : Nat) (hl : l.length ≤ 1000) (w : World) (hs : SRd w A l) (hen : ∀ args w, (callFunc f args).run Tryz.prog w = .ok (.enter f args) w)
 (hf : ∀ W, Below w.heap.size w W → ∀ z ∈ l, Calls Tryz.prog f #[.string (I z)] W fun e w' => e = .returned (.bool false) ∧ Below W.heap.size W w') :
 Calls Tryz.prog 18 #[.slice (some A) l.length c, .func (.func f) #[] #[]] w fun e w' => e = .returned (.bool false) ∧ Below w.heap.size w w' := by
 have HI := hI (idxInt_no f A l c hl w hs hen hf)
 clear hs hf
 go_enter Tryz.func18, Tryz.ntmps18
 go_wp2_with fail
 refine HI.out.mono ?_
 rintro e w1 ⟨rfl, b1⟩
 go_wp2_with fail
 go_ret
 exact ⟨rfl, b1⟩
theorem isE (a : ByteArray) : a.toList.isEmpty = decide (a = ⟨#[]⟩) := by
 rw [Lib.toList_data]
 by_cases hc : a = ⟨#[]⟩
 ·rw [decide_eq_true hc, hc]; rfl
 ·rw [decide_eq_false hc]
  cases hd : a.data.toList with
  | nil => exact absurd (by rw [show a = ⟨a.data⟩ from rfl, Array.toList_eq_nil_iff.1 hd]) hc
  | cons x r => rfl
structure WOk (l : List Int) (K : Nat) : Prop where
 k : K ≤ 1000
 n1 : l.length ≤ 12
 nn : ∀ z ∈ l, 0 ≤ z
 sz : ∀ z ∈ l, z.natAbs < 10 ^ K
 s : l.foldl (· + ·) 0 ≠ 0
theorem WOk.n0 {l : List Int} {K : Nat} (h : WOk l K) : l.length ≠ 0 := fun e => h.s (by rw [List.eq_nil_of_length_eq_zero e]; rfl)
theorem alcheck_ok (t : Int) (A : Addr) (l : List Int) (c K : Nat) (h : WOk l K) (htz : (I t).size ≤ 1000) (w : World) (hs : SRd w A l) (ht : Tabs w) :
 Calls Tryz.prog 72 #[.string (I t), .slice (some A) l.length c] w fun e w' => e = .returned (.int .i64 0) ∧ Below w.heap.size w w' := by
 have HC := hI (Check_yes (I t) w (by omega) (by show I (vl (I t)) = I t; rw [vl_I]))
 have hen : ∀ args w, (callFunc 120 args).run Tryz.prog w = .ok (.enter 120 args) w := fun args w => by kernel_rfl
 have HH := hI (fun W (hb : Below w.heap.size w W) => hasInt_no 120 A l c (by have := h.n1; omega) W (hs.below hb) hen (fun W' _ z hz => alcheck1_no z K h.k (h.sz z hz) (h.nn z hz) W'))
 have HW := hI (fun W (hb : Below w.heap.size w W) => alwhole_any A l c K h.k (by have := h.n1; omega) h.sz W (hs.below hb) (ht.below hb))
 have n0 := h.n0
 have n1 := h.n1
 have hne : (I (l.foldl (· + ·) 0)).toList.isEmpty = false := by
  rw [isE, decide_eq_false_iff_not]
  exact fun e => h.s (I_inj (e.trans zero_eq))
 generalize I (l.foldl (· + ·) 0) = sm at hne HW
 generalize I t = ts at HC htz
 obtain ⟨n, hn⟩ : ∃ n, l.length = n := ⟨_, rfl⟩
 rw [hn] at HH HW n0 n1 ⊢
 have c1 : ((n : Int) == 0) = false := beq_eq_false_iff_ne.2 (by omega)
 have c2 : decide ((n : Int) > 1000) = false := decide_eq_false (by omega)
 have c3 : decide ((1000 : Int) < (n : Int)) = false := decide_eq_false (by omega)
 have c4 : ¬ 1000 < n := by omega
 clear hs ht hn htz hen
 go_enter Tryz.func72, Tryz.ntmps72
 go_wp2_with fail
 refine HC.out.mono ?_
 rintro e w1 ⟨rfl, b1⟩
 have HB1 := hI b1
 clear b1
 go_wp2_with fail
 refine (HH.out w1 HB1.out).mono ?_
 rintro e w2 ⟨rfl, b2⟩
 have HB2 := hI (HB1.out.trans (b2.mono HB1.out.size))
 clear b2
 go_wp2_with fail
 refine (HW.out w2 HB2.out).mono ?_
 rintro e w3 ⟨rfl, b3⟩
 have HB3 := hI (HB2.out.trans (b3.mono HB2.out.size))
 clear b3
 go_wp2_with fail
 go_ret
 exact ⟨rfl, HB3.out⟩
def rcmp (r : Nat → Int) (i k : Nat) : Int := if cmpI (r k) (r i) = 0 then Lib.compareInt (i : Int) (k : Int) else cmpI (r k) (r i)
theorem rcmp_lt (r : Nat → Int) (i k : Nat) : decide (rcmp r i k < 0) = bf r i k := by
 unfold rcmp bf
 rw [decide_eq_decide]
 split
 ·rename_i h
  rw [cmpI_eq] at h
  unfold Lib.compareInt
  constructor
  ·intro h2; right; refine ⟨h.symm, ?_⟩
   split at h2
   ·omega
   ·split at h2 <;> omega
  ·intro h2
   rw [if_pos (by omega)]; omega
 ·rename_i h
  rw [cmpI_eq] at h
  rw [cmpI_lt]
  omega
theorem apos1_any (r : Nat → Int) (q N c bx i k K : Nat) (hK : K ≤ 1000000) (hsz : ∀ j, j < N → (r j).natAbs < 10 ^ K) (hi : i < N) (hk : k < N) (w : World) (hq : q < w.heap.size)
 (hrd : ∀ j, j < N → w.cell? ⟨q, j, none⟩ = some (.string (I (r j)))) (hbq : bx < w.heap.size) (hbx : w.cell? ⟨bx, 0, none⟩ = some (.slice (some ⟨q, 0, none⟩) N c)) :
 Calls Tryz.prog 168 #[.int .i64 (i : Int), .int .i64 (k : Int), .pointer (some ⟨bx, 0, none⟩)] w fun e w' => e = .returned (.int .i64 (rcmp r i k)) ∧ Below w.heap.size w w' := by
 have mixed : Tryz.prog.follows .mixedOrders = true := by kernel_rfl
 have HBX : Hid (∀ W, Below w.heap.size w W → W.cell? ⟨bx, 0, none⟩ = some (.slice (some ⟨q, 0, none⟩) N c)) := fun W hb => (hb.cell hbq).trans hbx
 have HRD : Hid (∀ W, Below w.heap.size w W → ∀ j, j < N → W.cell? ⟨q, j, none⟩ = some (.string (I (r j)))) := fun W hb j hj => (hb.cell hq).trans (hrd j hj)
 have HI : Hid (i < N) := hi
 have HKK : Hid (k < N) := hk
 have hib : (i : Int) < (N : Int) := by omega
 have hkb : (k : Int) < (N : Int) := by omega
 have HC := hI (fun W => Compare_any (I (r k)) (I (r i)) W (Nat.le_trans (I_size_le (hsz k hk)) (by omega)) (Nat.le_trans (I_size_le (hsz i hi)) (by omega)))
 rw [vl_I, vl_I] at HC
 have HD := hI (fun W => Tryz.cmp_Compare_int (i : Int) (k : Int) W)
 obtain ⟨c1, hc1⟩ : ∃ c1, cmpI (r k) (r i) = c1 := ⟨_, rfl⟩
 obtain ⟨c2, hc2⟩ : ∃ c2, Lib.compareInt (i : Int) (k : Int) = c2 := ⟨_, rfl⟩
 have hrc : rcmp r i k = if c1 = 0 then c2 else c1 := by unfold rcmp; rw [hc1, hc2]
 obtain ⟨cz, hcz⟩ : ∃ cz, (if c1 = 0 then c2 else c1) = cz := ⟨_, rfl⟩
 rw [hc1] at HC
 rw [hc2] at HD
 rw [hrc, hcz]
 have HO := hI (fun B W (hB : W.heap[B]? = some (.cells #[.int .i64 c1, .int .i64 c2] 3 (0, 0))) => cmpOr_any c1 c2 B 2 W hB)
 rw [hcz] at HO
 obtain ⟨sk, hsk⟩ : ∃ s, I (r k) = s := ⟨_, rfl⟩
 obtain ⟨si, hsi⟩ : ∃ s, I (r i) = s := ⟨_, rfl⟩
 rw [hsk, hsi] at HC
 have HSK : Hid (∀ W, Below w.heap.size w W → W.cell? ⟨q, k, none⟩ = some (.string sk)) := fun W hb => by rw [← hsk]; exact HRD.out W hb k HKK.out
 have HSI : Hid (∀ W, Below w.heap.size w W → W.cell? ⟨q, i, none⟩ = some (.string si)) := fun W hb => by rw [← hsi]; exact HRD.out W hb i HI.out
 clear hsk hsi hc1 hc2 hcz hrc hsz hrd hbx hbq hq
 go_enter Tryz.func168, Tryz.ntmps168
 go_upto_region 1 with fail
 refine region_marks (m := { C := fun W => Below w.heap.size w W, V := [fun v => v = .slice (some ⟨q, 0, none⟩) N c, fun v => v = .int .i64 (k : Int), fun v => v = .pointer (some ⟨q, k, none⟩), fun v => v = .string sk, fun v => v = .slice (some ⟨q, 0, none⟩) N c, fun v => v = .int .i64 (i : Int), fun v => v = .pointer (some ⟨q, i, none⟩), fun v => v = .string si, fun v => v = .int .i64 c1, fun v => v = .int .i64 (i : Int), fun v => v = .int .i64 (k : Int), fun v => v = .int .i64 c2, fun _ => True, fun v => v = .int .i64 cz, fun v => v = .int .i64 cz], N := [(12, fun v W => ∃ B, v = .slice (some ⟨B, 0, none⟩) 2 2 ∧ W.heap[B]? = some (.cells #[.int .i64 c1, .int .i64 c2] 3 (0, 0)))] }) (F := ?F) mixed (by kernel_rfl) (by kernel_rfl) (by kernel_rfl) (fun s => ?hF) (Below.refl _ w).drew True.intro ?hs ?he
 case hF =>
  simp only [putAll, Act.put, List.setIfInBounds_toArray, List.set_cons_succ, List.set_cons_zero, Nat.reduceAdd, Nat.zero_add]
  exact rfl
 case hs =>
  have keepN : ∀ W W' : World, Below W.heap.size W W' → ∀ v : Value, (∃ B, v = .slice (some ⟨B, 0, none⟩) 2 2 ∧ W.heap[B]? = some (.cells #[.int .i64 c1, .int .i64 c2] 3 (0, 0))) → ∃ B, v = .slice (some ⟨B, 0, none⟩) 2 2 ∧ W'.heap[B]? = some (.cells #[.int .i64 c1, .int .i64 c2] 3 (0, 0)) := by
   rintro W W' hb v ⟨B, rfl, h⟩
   exact ⟨B, rfl, (hb.block _ (Array.getElem?_eq_some_iff.1 h).1).trans h⟩
  have HKN := hI keepN
  clear keepN
  iterate 12
   refine mSteps_cons (fun s W hW hd hz K hK => ?_) ?_
   focus
    simp [depsOk, Mk.ok, mkV, mkN, Region.binds] at hd
    try simp only [hd] at hK ⊢
    first
    | (go_simp
       refine hK _ _ ?_ _ rfl
       exact nx_pure hW (And.intro rfl True.intro) rfl)
    | (have z := HBX.out W hW
       go_simp
       refine hK _ _ ?_ _ rfl
       exact nx_pure hW (And.intro rfl True.intro) rfl)
    | (have z := HSK.out W hW
       have z2 := HSI.out W hW
       go_simp
       refine hK _ _ ?_ _ rfl
       exact nx_pure hW (And.intro rfl True.intro) rfl)
    | (go_simp
       refine (HC.out W).mono ?_
       rintro e wn ⟨rfl, hb⟩
       refine hK _ _ ?_ _ rfl
       exact ⟨hW.trans (hb.mono hW.size), ⟨HKN.out _ _ hb, True.intro⟩, True.intro, hb.size, And.intro rfl True.intro, (fun h => by cases h), True.intro⟩)
    | (go_simp
       refine (HD.out W).mono ?_
       rintro e wn ⟨rfl, rfl⟩
       refine hK _ _ ?_ _ rfl
       exact nx_pure hW (And.intro rfl True.intro) rfl)
  refine mSteps_cons (fun s W hW hd hz K hK => ?_) ?_
  focus
   simp [depsOk, Mk.ok, mkV, mkN, Region.binds] at hd
   try simp only [hd] at hK ⊢
   go_simp
   refine hK _ _ ?_ _ rfl
   have hb : Below W.heap.size W (W.alloc (.cells #[.int .i64 c1, .int .i64 c2] 3)) := (Below.refl _ W).alloc (Nat.le_refl _) _
   exact ⟨hW.trans (hb.mono hW.size), ⟨True.intro, True.intro⟩, True.intro, hb.size, And.intro True.intro ⟨_, rfl, heap_alloc_new W _⟩, (fun h => by cases h), True.intro⟩
  refine mSteps_cons (fun s W hW hd hz K hK => ?_) ?_
  focus
   simp [depsOk, Mk.ok, mkV, mkN, Region.binds] at hd
   have hd1 : ∃ B, s 12 = .slice (some ⟨B, 0, none⟩) 2 2 ∧ W.heap[B]? = some (.cells #[.int .i64 c1, .int .i64 c2] 3 (0, 0)) := by
    first | exact hd | exact hd.1 | exact hd.2.1 | exact hd.2.2.1 | exact hd.2.2
   clear hd
   obtain ⟨B, e, hB⟩ := hd1
   simp only [e] at hK ⊢
   go_simp
   refine (HO.out B W hB).mono ?_
   rintro e wn ⟨rfl, rfl⟩
   refine hK _ _ ?_ _ rfl
   exact nx_pure hW (And.intro rfl True.intro) rfl
  refine mSteps_cons (fun s W hW hd hz K hK => ?_) ?_
  focus
   simp [depsOk, Mk.ok, mkV, mkN, Region.binds] at hd
   try simp only [hd] at hK ⊢
   go_simp
   refine hK _ _ ?_ _ rfl
   exact nx_pure hW (And.intro rfl True.intro) rfl
  exact mSteps_nil
 case he =>
  intro s W hC hall hd
  have e14 : s 14 = .int .i64 cz := hall.2.1
  simp only [e14]
  clear hall hd e14
  go_wp2_with fail
  go_ret
  exact ⟨rfl, hC⟩
def sRow (l : List Int) : Obj := .cells (l.map fun z => Value.string (I z)).toArray 23 (0, 0)
theorem sRow_cell {W : World} {g : Nat} {l : List Int} (h : W.heap[g]? = some (sRow l)) {k : Nat} {z : Int} (hk : l[k]? = some z) : W.cell? ⟨g, k, none⟩ = some (.string (I z)) := by
 rw [Lib.cell_of_heap h k]; simp [hk]
theorem sRow_frozen {W : World} {g : Nat} {l : List Int} (h : W.heap[g]? = some (sRow l)) (k : Nat) : W.frozen? ⟨g, k, none⟩ = false := by
 simp [World.frozen?, h, sRow]
theorem sRow_put {W : World} {g : Nat} {l : List Int} (h : W.heap[g]? = some (sRow l)) {k : Nat} (z : Int) : (W.setCell ⟨g, k, none⟩ (.string (I z))).heap[g]? = some (sRow (l.set k z)) := by
 unfold sRow at h ⊢
 simp only [World.setCell, Array.getElem?_modify, h, if_true, Option.map_some]
 congr 2
 rw [List.setIfInBounds_toArray, List.map_set]; rfl
theorem heap_far (W : World) (g k : Nat) (v : Value) {j : Nat} (h : j ≠ g) : (W.setCell ⟨g, k, none⟩ v).heap[j]? = W.heap[j]? := by
 simp only [World.setCell, Array.getElem?_modify]
 rw [if_neg (fun e => h e.symm)]
theorem Tryz.infoIntS : (Tryz.prog.info? 23).map (fun i => (i.zero, i.size, i.bytes)) = some (some (.string ⟨#[]⟩), 1, 16) := by kernel_rfl
theorem madeEmpty (c : Nat) : madeCells #[Value.string ⟨#[]⟩] c = ((List.replicate c (0 : Int)).map fun z => Value.string (I z)).toArray := by
 apply Array.toList_inj.1
 rw [toList_madeCells_one]; simp; exact .inr zero_eq
theorem make_runS (n : Nat) (hn : n ≤ 1000) (W : World) :
 (Instr.makeSlice 28 (.int .i64 (n : Int)) (.int .i64 (n : Int))).run Tryz.prog W = .ok (.slice (some ⟨W.heap.size, 0, none⟩) n n) (W.alloc (sRow (List.replicate n 0))) := by
 obtain ⟨i0, hi, hz0, hz1, hz2⟩ := info_parts Tryz.infoIntS
 have h := run_make (P := Tryz.prog) W 28 23 i0 (.string ⟨#[]⟩) Tryz.underlying28 hi hz0 .i64 .i64 n n (by omega) (by omega) (by rw [hz2]; omega) (by omega)
 rw [h, hz1]
 simp only [Int.toNat_natCast, Nat.mul_one]
 rw [show (Value.string ⟨#[]⟩).cells = #[.string ⟨#[]⟩] from rfl, madeEmpty]
 rfl
def newS (w : World) (n : Nat) (v : Value) (W : World) : Prop := ∃ q, v = .slice (some ⟨q, 0, none⟩) n n ∧ w.heap.size ≤ q ∧ W.heap[q]? = some (sRow (List.replicate n 0))
def newSB (w : World) (v : Value) (W : World) : Prop := ∃ b, v = .pointer (some ⟨b, 0, none⟩) ∧ w.heap.size ≤ b ∧ ∃ x, W.heap[b]? = some (.cells #[x] 28 (0, 0))
def fulB (w : World) (n : Nat) (v : Value) (W : World) : Prop := ∃ b r, v = .tuple #[.pointer (some ⟨b, 0, none⟩), .slice (some ⟨r, 0, none⟩) n n] ∧ w.heap.size ≤ b ∧ W.heap[b]? = some (.cells #[.slice (some ⟨r, 0, none⟩) n n] 28 (0, 0))
theorem newS_below {w W W' : World} {n : Nat} {v : Value} (hb : Below W.heap.size W W') (h : newS w n v W) : newS w n v W' := by
 obtain ⟨q, rfl, h1, h2⟩ := h
 exact ⟨q, rfl, h1, (hb.block _ (Array.getElem?_eq_some_iff.1 h2).1).trans h2⟩
theorem newB_below {w W W' : World} {v : Value} (hb : Below W.heap.size W W') (h : newSB w v W) : newSB w v W' := by
 obtain ⟨q, rfl, h1, x, h2⟩ := h
 exact ⟨q, rfl, h1, x, (hb.block _ (Array.getElem?_eq_some_iff.1 h2).1).trans h2⟩
theorem fulB_below {w W W' : World} {n : Nat} {v : Value} (hb : Below W.heap.size W W') (h : fulB w n v W) : fulB w n v W' := by
 obtain ⟨b, r, rfl, h1, h2⟩ := h
 exact ⟨b, r, rfl, h1, (hb.block _ (Array.getElem?_eq_some_iff.1 h2).1).trans h2⟩
theorem put_one {W : World} {b : Nat} {x y : Value} {t : TypeId} (h : W.heap[b]? = some (.cells #[x] t (0, 0))) : (W.setCell ⟨b, 0, none⟩ y).heap[b]? = some (.cells #[y] t (0, 0)) := by
 simp [World.setCell, Array.getElem?_modify, h]
theorem newS_put {w W : World} {n b : Nat} {v x y : Value} (hb : W.heap[b]? = some (.cells #[x] 28 (0, 0))) (h : newS w n v W) : newS w n v (W.setCell ⟨b, 0, none⟩ y) := by
 obtain ⟨q, rfl, h1, h2⟩ := h
 refine ⟨q, rfl, h1, (heap_far W b 0 y ?_).trans h2⟩
 rintro rfl
 rw [hb] at h2
 unfold sRow at h2
 simp at h2
theorem newB_put {w W : World} {b : Nat} {v x y : Value} (hb : W.heap[b]? = some (.cells #[x] 28 (0, 0))) (h : newSB w v W) : newSB w v (W.setCell ⟨b, 0, none⟩ y) := by
 obtain ⟨q, rfl, h1, z, h2⟩ := h
 refine ⟨q, rfl, h1, ?_⟩
 by_cases e : q = b
 ·subst e; exact ⟨y, put_one hb⟩
 ·exact ⟨z, (heap_far W b 0 y e).trans h2⟩
def wfn (l : List Int) (i : Nat) : Int := l.getD i 0
theorem wfn_at {l : List Int} {k : Nat} {z : Int} (h : l[k]? = some z) : wfn l k = z := by unfold wfn; rw [List.getD_eq_getElem?_getD, h]; rfl
theorem sumZ_N (l : List Int) : ∀ k, k ≤ l.length → sumZ l k = sumN (wfn l) k
 | 0, _ => rfl
 | k + 1, h => by
   have hz : l[k]? = some l[k] := List.getElem?_eq_getElem (by omega)
   rw [sumZ_succ hz, sumZ_N l k (by omega), sumN, wfn_at hz]
theorem WOk.sum {l : List Int} {K : Nat} (h : WOk l K) : l.foldl (· + ·) 0 = sumN (wfn l) l.length := by rw [← sumZ_all l rfl, sumZ_N l _ (Nat.le_refl _)]
theorem WOk.pos {l : List Int} {K : Nat} (h : WOk l K) : 0 < l.foldl (· + ·) 0 := by
 have h1 := h.sum
 have h2 := (sumN_bound (f := wfn l) (S := 10 ^ K) l.length (fun i hi => by
  have hz : l[i]? = some l[i] := List.getElem?_eq_getElem hi
  rw [wfn_at hz]
  have a := h.nn _ (List.getElem_mem hi)
  have b := h.sz _ (List.getElem_mem hi)
  refine ⟨a, ?_⟩
  have : ((10 ^ K : Nat) : Int) = (10 : Int) ^ K := by simp
  omega)).1
 have := h.s
 omega
def tab (f : Nat → Int) (n : Nat) : List Int := (List.range n).map f
theorem tab_len (f : Nat → Int) (n : Nat) : (tab f n).length = n := by unfold tab; simp
theorem tab_at (f : Nat → Int) {n k : Nat} (h : k < n) : (tab f n)[k]? = some (f k) := by unfold tab; simp [h]
theorem tab_set {f g : Nat → Int} {n k : Nat} {z : Int} (hk : g k = z) (ho : ∀ i, i < n → i ≠ k → g i = f i) : (tab f n).set k z = tab g n := by
 apply List.ext_getElem?
 intro i
 by_cases hi : i < n
 ·by_cases e : i = k
  ·subst e; rw [List.getElem?_set_self (by rw [tab_len]; exact hi), tab_at _ hi, hk]
  ·rw [List.getElem?_set_ne (Ne.symm e), tab_at _ hi, tab_at _ hi, ho i hi e]
 ·rw [List.getElem?_eq_none (by simp [tab_len]; omega), List.getElem?_eq_none (by simp [tab_len]; omega)]
theorem tab_zero {f : Nat → Int} {n : Nat} (h : ∀ i, f i = 0) : List.replicate n (0 : Int) = tab f n := by
 apply List.ext_getElem?
 intro i
 by_cases hi : i < n
 ·rw [tab_at _ hi, h]; simp [hi]
 ·rw [List.getElem?_eq_none (by simp; omega), List.getElem?_eq_none (by simp [tab_len]; omega)]
def tabN (f : Nat → Nat) (n : Nat) : List Nat := (List.range n).map f
theorem tabN_len (f : Nat → Nat) (n : Nat) : (tabN f n).length = n := by unfold tabN; simp
theorem tabN_at (f : Nat → Nat) {n k : Nat} (h : k < n) : (tabN f n)[k]? = some (f k) := by unfold tabN; simp [h]
theorem tabN_set {f g : Nat → Nat} {n k z : Nat} (hk : g k = z) (ho : ∀ i, i ≠ k → g i = f i) : (tabN f n).set k z = tabN g n := by
 apply List.ext_getElem?
 intro i
 by_cases hi : i < n
 ·by_cases e : i = k
  ·subst e; rw [List.getElem?_set_self (by rw [tabN_len]; exact hi), tabN_at _ hi, hk]
  ·rw [List.getElem?_set_ne (Ne.symm e), tabN_at _ hi, tabN_at _ hi, ho i e]
 ·rw [List.getElem?_eq_none (by simp [tabN_len]; omega), List.getElem?_eq_none (by simp [tabN_len]; omega)]
structure PS (w : World) (q r b o : Nat) : Prop where
 q1 : w.heap.size ≤ q
 r1 : w.heap.size ≤ r
 b1 : w.heap.size ≤ b
 o1 : w.heap.size ≤ o
 qr : q ≠ r
 qb : q ≠ b
 rb : r ≠ b
 qo : q ≠ o
 ro : r ≠ o
 bo : b ≠ o
structure PX (w : World) (q r b o n : Nat) (P R : List Int) (D : List Nat) (W : World) : Prop where
 bw : Below w.heap.size w W
 hq : W.heap[q]? = some (sRow P)
 hr : W.heap[r]? = some (sRow R)
 hb : W.heap[b]? = some (.cells #[.slice (some ⟨r, 0, none⟩) n n] 28 (0, 0))
 ho : OwnN W o D
section
variable {w W W' : World} {q r b o n k : Nat} {P R : List Int} {D : List Nat}
theorem PX.below (h : PX w q r b o n P R D W) (hb : Below W.heap.size W W') : PX w q r b o n P R D W' :=
 ⟨h.bw.trans (hb.mono h.bw.size), (hb.block _ (Array.getElem?_eq_some_iff.1 h.hq).1).trans h.hq, (hb.block _ (Array.getElem?_eq_some_iff.1 h.hr).1).trans h.hr, (hb.block _ (Array.getElem?_eq_some_iff.1 h.hb).1).trans h.hb, (hb.block _ h.ho.lt).trans h.ho⟩
theorem PX.putq (h : PX w q r b o n P R D W) (s : PS w q r b o) (z : Int) : PX w q r b o n (P.set k z) R D (W.setCell ⟨q, k, none⟩ (.string (I z))) :=
 ⟨h.bw.setCell s.q1 _, sRow_put h.hq z, (heap_far _ _ _ _ s.qr.symm).trans h.hr, (heap_far _ _ _ _ s.qb.symm).trans h.hb, (heap_far _ _ _ _ s.qo.symm).trans h.ho⟩
theorem PX.putr (h : PX w q r b o n P R D W) (s : PS w q r b o) (z : Int) : PX w q r b o n P (R.set k z) D (W.setCell ⟨r, k, none⟩ (.string (I z))) :=
 ⟨h.bw.setCell s.r1 _, (heap_far _ _ _ _ s.qr).trans h.hq, sRow_put h.hr z, (heap_far _ _ _ _ s.rb.symm).trans h.hb, (heap_far _ _ _ _ s.ro.symm).trans h.ho⟩
theorem PX.puto (h : PX w q r b o n P R D W) (s : PS w q r b o) (hk : k < D.length) (z : Nat) : PX w q r b o n P R (D.set k z) (W.setCell ⟨o, k, none⟩ (.int .i64 (z : Int))) :=
 ⟨h.bw.setCell s.o1 _, (heap_far _ _ _ _ s.qo).trans h.hq, (heap_far _ _ _ _ s.ro).trans h.hr, (heap_far _ _ _ _ s.bo).trans h.hb, h.ho.set hk z⟩
end
theorem flo_bd {t : Int} {w : Nat → Int} {S : Int} {K i : Nat} (ht : 0 ≤ t) (htk : t.natAbs < 10 ^ K) (hS : 0 < S) (hw : 0 ≤ w i) (hwk : (w i).natAbs < 10 ^ K) : 0 ≤ flo t w S i ∧ flo t w S i ≤ ((10 ^ (K + K) : Nat) : Int) ∧ 0 ≤ rsts t w S i ∧ (rsts t w S i).natAbs < 10 ^ (K + K) := by
 have h0 : 0 ≤ t * w i := Int.mul_nonneg ht hw
 have h1 : (t * w i).natAbs < 10 ^ (K + K) := by rw [Int.natAbs_mul, Nat.pow_add]; exact Nat.mul_lt_mul'' htk hwk
 have h2 : flo t w S i ≤ t * w i := Int.ediv_le_self _ h0
 have h4 : 0 ≤ rsts t w S i := Int.emod_nonneg _ (by omega)
 have h5 : 0 ≤ flo t w S i := Int.ediv_nonneg h0 (by omega)
 have h3 : rsts t w S i ≤ t * w i := by
  have e := Int.mul_ediv_add_emod (t * w i) S
  have e2 : 0 ≤ S * (t * w i / S) := Int.mul_nonneg (by omega) h5
  unfold rsts; omega
 refine ⟨h5, by omega, h4, by omega⟩
def upto (f : Nat → Int) (k i : Nat) : Int := if i < k then f i else 0
def uptoN (k i : Nat) : Nat := if i < k then i else 0
theorem upto_set {f : Nat → Int} {n k : Nat} {z : Int} (h : f k = z) : (tab (upto f k) n).set k z = tab (upto f (k + 1)) n :=
 tab_set (by unfold upto; rw [if_pos (by omega)]; exact h) (fun i _ hi => by unfold upto; by_cases h : i < k <;> simp [h] <;> omega)
theorem uptoN_set {n k : Nat} : (tabN (uptoN k) n).set k k = tabN (uptoN (k + 1)) n :=
 tabN_set (by unfold uptoN; rw [if_pos (by omega)]) (fun i hi => by unfold uptoN; by_cases h : i < k <;> simp [h] <;> omega)
theorem upto_all {f : Nat → Int} {n : Nat} : tab (upto f n) n = tab f n := by
 unfold tab; exact List.map_congr_left (fun i hi => by unfold upto; rw [if_pos (List.mem_range.1 hi)])
theorem uptoN_all {n : Nat} : tabN (uptoN n) n = List.range n := by
 unfold tabN
 rw [show List.range n = (List.range n).map id from by simp]
 simp only [List.map_map]
 exact List.map_congr_left (fun i hi => by show uptoN n (id i) = i; unfold uptoN; rw [id, if_pos (List.mem_range.1 hi)])
def more (f : Nat → Int) (r : Nat → Int) (n j i : Nat) : Int := f i + (if rk r n i < j then 1 else 0)
def shL (t : Int) (l : List Int) : List Int := tab (shr t (wfn l) (l.foldl (· + ·) 0) l.length) l.length
theorem alpositive_any (t : Int) (ht0 : 0 ≤ t) (A : Addr) (l : List Int) (c K : Nat) (h : WOk l K) (hts : t.natAbs < 10 ^ K) (w : World) (hs : SRd w A l) (ht : Tabs w) :
 Calls Tryz.prog 123 #[.string (I t), .slice (some A) l.length c] w fun e w' => ∃ q, e = .returned (.slice (some ⟨q, 0, none⟩) l.length l.length) ∧ w.heap.size ≤ q ∧ w'.heap[q]? = some (sRow (shL t l)) ∧ Below w.heap.size w w' := by
 have mixed : Tryz.prog.follows .mixedOrders = true := by kernel_rfl
 have HS := hI hs
 have HT := hI ht
 have HO := hI h
 have hpos := h.pos
 have hsm := h.sum
 have hW := alwhole_any A l c K h.k (by have := h.n1; omega) h.sz w hs ht
 unfold shL
 obtain ⟨S, hS⟩ : ∃ S, l.foldl (· + ·) 0 = S := ⟨_, rfl⟩
 have hsz : (I S).size ≤ K + 4 := by
  rw [← hS, ← sumZ_all l rfl]; exact sumZ_size h.sz (by have := h.n1; omega)
 rw [hS] at hpos hsm hW ⊢
 have n1 := h.n1
 obtain ⟨n, hn⟩ : ∃ n, l.length = n := ⟨_, rfl⟩
 rw [hn] at hsm hW n1 ⊢
 have HW := hI hW
 have HN := hI hn
 have HPOS := hI hpos
 have HSM := hI hsm
 have HSZ := hI hsz
 have hmk := fun W => make_runS n (by omega) W
 have hmkN := fun W => make_runN (n : Int) (n : Int) n n rfl rfl (Nat.le_refl _) (by omega) W
 clear hs ht h hpos hsm hW hsz hn hS
 go_enter Tryz.func123, Tryz.ntmps123
 go_wp2_with fail
 refine HW.out.mono ?_
 rintro e w1 ⟨rfl, b1⟩
 have HB1 := hI b1
 clear b1 HW
 go_upto_region 2 with fail
 refine region_marks (m := { C := fun W => Below w.heap.size w W, V := [fun v => v = .slice (some A) n c, fun v => v = .int .i64 (n : Int), fun _ => True, fun v => v = .slice (some A) n c, fun v => v = .int .i64 (n : Int)], N := [(2, newS w n), (5, newS w n), (6, newSB w), (7, newS w n), (8, fulB w n)], E := [(7, [2], fun l v => l = [v]), (8, [6, 5], fun l v => v = .tuple l.toArray)], F := [2, 5, 6] }) (F := ?F) mixed (by kernel_rfl) (by kernel_rfl) (by kernel_rfl) (fun s => ?hF) HB1.out.drew True.intro ?hs ?he
 case hF =>
  simp only [putAll, Act.put, List.setIfInBounds_toArray, List.set_cons_succ, List.set_cons_zero, Nat.reduceAdd, Nat.zero_add]
  exact rfl
 case hs =>
  refine mSteps_cons (fun s W hW hd hz K hK => ?_) ?_
  ·simp [depsOk, Mk.ok, mkV, mkN, Region.binds] at hd
   go_simp
   refine hK _ _ ?_ _ rfl
   exact nx_pure hW (And.intro rfl True.intro) rfl
  refine mSteps_cons (fun s W hW hd hz K hK => ?_) ?_
  ·simp [depsOk, Mk.ok, mkV, mkN, Region.binds] at hd
   try simp only [hd] at hK ⊢
   go_simp
   refine hK _ _ ?_ _ rfl
   exact nx_pure hW (And.intro rfl True.intro) rfl
  refine mSteps_cons (fun s W hW hd hz K hK => ?_) ?_
  ·simp [depsOk, Mk.ok, mkV, mkN, Region.binds] at hd
   try simp only [hd] at hK ⊢
   go_simp
   refine hK _ _ ?_ _ rfl
   have hb : Below W.heap.size W (W.alloc (sRow (List.replicate n 0))) := (Below.refl _ W).alloc (Nat.le_refl _) _
   exact ⟨hW.trans (hb.mono hW.size), ⟨True.intro, fun _ => newS_below hb, fun _ => newB_below hb, fun _ => newS_below hb, fun _ => fulB_below hb, True.intro⟩, True.intro, hb.size, And.intro True.intro ⟨_, rfl, hW.size, heap_alloc_new W _⟩, fun _ => ⟨_, rfl, Nat.le_refl _, by simp⟩, True.intro⟩
  refine mSteps_cons (fun s W hW hd hz K hK => ?_) ?_
  ·simp [depsOk, Mk.ok, mkV, mkN, Region.binds] at hd
   go_simp
   refine hK _ _ ?_ _ rfl
   exact nx_pure hW (And.intro rfl True.intro) rfl
  refine mSteps_cons (fun s W hW hd hz K hK => ?_) ?_
  ·simp [depsOk, Mk.ok, mkV, mkN, Region.binds] at hd
   try simp only [hd] at hK ⊢
   go_simp
   refine hK _ _ ?_ _ rfl
   exact nx_pure hW (And.intro rfl True.intro) rfl
  refine mSteps_cons (fun s W hW hd hz K hK => ?_) ?_
  ·simp [depsOk, Mk.ok, mkV, mkN, Region.binds] at hd
   try simp only [hd] at hK ⊢
   go_simp
   refine hK _ _ ?_ _ rfl
   have hb : Below W.heap.size W (W.alloc (sRow (List.replicate n 0))) := (Below.refl _ W).alloc (Nat.le_refl _) _
   exact ⟨hW.trans (hb.mono hW.size), ⟨fun _ => newS_below hb, True.intro, fun _ => newB_below hb, fun _ => newS_below hb, fun _ => fulB_below hb, True.intro⟩, True.intro, hb.size, And.intro True.intro ⟨_, rfl, hW.size, heap_alloc_new W _⟩, fun _ => ⟨_, rfl, Nat.le_refl _, by simp⟩, True.intro⟩
  refine mSteps_cons (fun s W hW hd hz K hK => ?_) ?_
  ·simp [depsOk, Mk.ok, mkV, mkN, Region.binds] at hd
   try simp only [hd] at hK ⊢
   go_simp
   refine hK _ _ ?_ _ rfl
   have hb : Below W.heap.size W (W.alloc (.cells #[.slice none 0 0] 28)) := (Below.refl _ W).alloc (Nat.le_refl _) _
   exact ⟨hW.trans (hb.mono hW.size), ⟨fun _ => newS_below hb, fun _ => newS_below hb, True.intro, fun _ => newS_below hb, fun _ => fulB_below hb, True.intro⟩, True.intro, hb.size, And.intro True.intro ⟨_, rfl, hW.size, _, heap_alloc_new W _⟩, fun _ => ⟨_, rfl, Nat.le_refl _, by simp⟩, True.intro⟩
  refine mSteps_cons (fun s W hW hd hz K hK => ?_) ?_
  ·simp [depsOk, Mk.ok, mkV, mkN, Region.binds] at hd
   have hd1 : newS w n (s 2) W := by first | exact hd | exact hd.1 | exact hd.2
   clear hd
   go_simp
   refine hK _ _ ?_ _ rfl
   exact nx_pure hW (And.intro True.intro hd1) rfl ⟨rfl, True.intro⟩
  refine mSteps_cons (fun s W hW hd hz K hK => ?_) ?_
  ·simp [depsOk, Mk.ok, mkV, mkN, Region.binds] at hd
   have hd1 : newSB w (s 6) W := by first | exact hd.1 | exact hd.2.1 | exact hd.2.2.1
   have hd2 : newS w n (s 5) W := by first | exact hd.1 | exact hd.2.1 | exact hd.2.2.1 | exact hd.2.2.2.1
   clear hd
   obtain ⟨b, e1, hb1, x, hb2⟩ := hd1
   obtain ⟨r, e2, hr1, hr2⟩ := hd2
   have hf : W.frozen? ⟨b, 0, none⟩ = false := by simp [World.frozen?, hb2]
   have hcl := Lib.cell_of_heap hb2 0
   simp only [e1, e2] at hK ⊢
   go_simp
   refine hK (.tuple #[.pointer (some ⟨b, 0, none⟩), .slice (some ⟨r, 0, none⟩) n n]) _ ?_ _ rfl
   exact ⟨hW.setCell hb1 _, ⟨fun _ => newS_put hb2, fun _ => newS_put hb2, fun _ => newB_put hb2, fun _ => newS_put hb2, True.intro, True.intro⟩, True.intro, by simp [World.setCell], And.intro True.intro ⟨b, r, rfl, hb1, put_one hb2⟩, fun h => (by simp at h), by simp [eNow, e1, e2]⟩
  exact mSteps_nil
 case he =>
  intro s W hC hall hd
  simp [allOk, Mk.ok, mkV, mkN] at hall
  have h7 : newS w n (s 7) W := by simp [hall]
  have h5 : newS w n (s 5) W := by simp [hall]
  have h8 : fulB w n (s 8) W := by simp [hall]
  have d25 := hd.1 2 (by simp) 5 (by simp) (by omega)
  have d26 := hd.1 2 (by simp) 6 (by simp) (by omega)
  have d56 := hd.1 5 (by simp) 6 (by simp) (by omega)
  have e72 : s 7 = s 2 := by have := hd.2.1; simp at this; exact this.symm
  have e8 : s 8 = .tuple #[s 6, s 5] := by have := hd.2.2.1; simpa using this
  clear hall hd
  obtain ⟨b, r, e8', hb1, hb2⟩ := h8
  rw [e8] at e8'
  injection e8' with e8'
  simp at e8'
  obtain ⟨e6, e5⟩ := e8'
  obtain ⟨r', e5', hr1, hr2⟩ := h5
  rw [e5] at e5'
  simp at e5'
  subst e5'
  obtain ⟨q, e7, hq1, hq2⟩ := h7
  rw [← e72, e7] at d25 d26
  rw [e5] at d25 d56
  rw [e6] at d26 d56
  have nqr : q ≠ r := fun e => d25 (by rw [e]; first | done | rfl)
  have nqb : q ≠ b := fun e => d26 (by rw [e]; first | done | rfl)
  have nrb : r ≠ b := fun e => d56 (by rw [e]; first | done | rfl)
  simp only [e7, e6]
  clear e72 e8 e6 e5 e7 d25 d26 d56
  have HQ := hI hq2
  have HR := hI hr2
  have HBB := hI hb2
  have HC := hI hC
  have HLT : Hid (q < W.heap.size ∧ r < W.heap.size ∧ b < W.heap.size) := ⟨(Array.getElem?_eq_some_iff.1 hq2).1, (Array.getElem?_eq_some_iff.1 hr2).1, (Array.getElem?_eq_some_iff.1 hb2).1⟩
  clear hq2 hr2 hb2 hC hmk
  go_wp2_with fail
  clear hmkN
  obtain ⟨W2, hW2⟩ : ∃ W2, W.alloc (.cells (zrowN n) 3) = W2 := ⟨_, rfl⟩
  obtain ⟨o, ho⟩ : ∃ o, W.heap.size = o := ⟨_, rfl⟩
  have HPS : Hid (PS w q r b o) := by
   have hL := HLT.out
   exact ⟨hq1, hr1, hb1, by rw [← ho]; exact HC.out.size, nqr, nqb, nrb, by omega, by omega, by omega⟩
  have HPX : Hid (PX w q r b o n (tab (upto (flo t (wfn l) S) 0) n) (tab (upto (rsts t (wfn l) S) 0) n) (tabN (uptoN 0) n) W2) := by
   have hL := HLT.out
   have hz : ∀ f : Nat → Int, List.replicate n (0 : Int) = tab (upto f 0) n := fun f => tab_zero (fun i => by unfold upto; rw [if_neg (by omega)])
   refine ⟨?_, ?_, ?_, ?_, ?_⟩
   ·rw [← hW2]; exact HC.out.alloc HC.out.size _
   ·rw [← hz, ← hW2]; exact ((Below.refl W.heap.size W).alloc (Nat.le_refl _) _).block _ hL.1 |>.trans HQ.out
   ·rw [← hz, ← hW2]; exact ((Below.refl W.heap.size W).alloc (Nat.le_refl _) _).block _ hL.2.1 |>.trans HR.out
   ·rw [← hW2]; exact ((Below.refl W.heap.size W).alloc (Nat.le_refl _) _).block _ hL.2.2 |>.trans HBB.out
   ·have e : List.replicate n 0 = tabN (uptoN 0) n := by
     apply List.ext_getElem?
     intro i
     by_cases hi : i < n
     ·rw [tabN_at _ hi]; simp [hi, uptoN]
     ·rw [List.getElem?_eq_none (by simp; omega), List.getElem?_eq_none (by simp [tabN_len]; omega)]
    rw [← e, ← hW2, ← ho]; exact OwnN.made W n
  rw [hW2, ho]
  clear HQ HR HBB HC HLT hW2 ho hq1 hr1 hb1 nqr nqb nrb
  go_loopw [9, 30] (fun v9 v30 wr => ∃ k : Nat, v9 = .string (I (t - sumN (flo t (wfn l) S) k)) ∧ v30 = .int .i64 (k : Int) ∧ k ≤ n ∧ PX w q r b o n (tab (upto (flo t (wfn l) S) k) n) (tab (upto (rsts t (wfn l) S) k) n) (tabN (uptoN k) n) wr) (fun _ v _ => n - (intOf v).toNat)
  case atStart => exact ⟨0, by rw [show sumN (flo t (wfn l) S) 0 = 0 from rfl, Int.sub_zero], rfl, by omega, HPX.out⟩
  case round =>
   clear HPX
   obtain ⟨k, rfl, rfl, hk, hpx⟩ := hrel
   have HX := hI hpx
   clear hpx
   rcases Nat.lt_or_ge k n with hlt | hge
   ·have hcx : decide ((k : Int) < (n : Int)) = true := by simp; omega
    have hbk : (k : Int) < (n : Int) := by omega
    obtain ⟨z, hz⟩ : ∃ z, l[k]? = some z := ⟨_, List.getElem?_eq_getElem (by rw [HN.out]; exact hlt)⟩
    have hc := (HS.out.below' (n₀ := w.heap.size) HS.out.lt HX.out.bw).rd k z hz
    have hwz : wfn l k = z := wfn_at hz
    have zk := HO.out.sz z (List.mem_of_getElem? hz)
    have z0 := HO.out.nn z (List.mem_of_getElem? hz)
    have hfb := flo_bd (w := wfn l) (i := k) ht0 hts HPOS.out (by rw [hwz]; exact z0) (by rw [hwz]; exact zk)
    obtain ⟨fl, hfl⟩ : ∃ x, flo t (wfn l) S k = x := ⟨_, rfl⟩
    obtain ⟨rs, hrs⟩ : ∃ x, rsts t (wfn l) S k = x := ⟨_, rfl⟩
    have hSp := HPOS.out
    have hdq : dq (t * z) S = fl := by unfold dq; rw [if_pos hSp, ← hfl, ← hwz]; rfl
    have hdr : dr (t * z) S = rs := by
     unfold dr; rw [hdq, ← hrs, ← hfl]; unfold flo rsts; rw [hwz]
     have := Int.mul_ediv_add_emod (t * z) S; omega
    rw [hfl, hrs] at hfb
    have hKK := HO.out.k
    have HM := hI (fun W (hW : Below w.heap.size w W) => Mul_any (I t) (I z) W (Nat.le_trans (I_size_le hts) (by omega)) (Nat.le_trans (I_size_le zk) (by omega)) (HT.out.below hW))
    rw [vl_I, vl_I] at HM
    have hms : (I (t * z)).size ≤ 2003 := by
     have := mul_size (a := I t) (b := I z) (I_size_le hts) (I_size_le zk); rw [vl_I, vl_I] at this; omega
    have HD := hI (fun W (hW : Below w.heap.size w W) => Div_any (I (t * z)) (I S) W (by omega) (by have := HSZ.out; omega) (by rw [vl_I]; omega) (HT.out.below hW))
    rw [vl_I, vl_I, hdq, hdr] at HD
    have HUQ : Hid ((tab (upto (flo t (wfn l) S) k) n).set k fl = tab (upto (flo t (wfn l) S) (k + 1)) n) := upto_set hfl
    have HUR : Hid ((tab (upto (rsts t (wfn l) S) k) n).set k rs = tab (upto (rsts t (wfn l) S) (k + 1)) n) := upto_set hrs
    have HLQ : Hid (k < (tab (upto (flo t (wfn l) S) k) n).length) := by rw [Hid, tab_len]; exact hlt
    have HLR : Hid (k < (tab (upto (rsts t (wfn l) S) k) n).length) := by rw [Hid, tab_len]; exact hlt
    have HLD : Hid (k < (tabN (uptoN k) n).length) := by rw [Hid, tabN_len]; exact hlt
    have HQ0 : Hid ((tab (upto (flo t (wfn l) S) k) n)[k]? = some 0) := by rw [Hid, tab_at _ hlt]; unfold upto; rw [if_neg (by omega)]
    have HR0 : Hid ((tab (upto (rsts t (wfn l) S) k) n)[k]? = some 0) := by rw [Hid, tab_at _ hlt]; unfold upto; rw [if_neg (by omega)]
    have HD0 : Hid ((tabN (uptoN k) n)[k]? = some 0) := by rw [Hid, tabN_at _ hlt]; unfold uptoN; rw [if_neg (by omega)]
    have HMS : Hid (t - sumN (flo t (wfn l) S) (k + 1) = t - sumN (flo t (wfn l) S) k - fl) := by rw [Hid, sumN, hfl]; omega
    obtain ⟨mk, hmk⟩ : ∃ x, t - sumN (flo t (wfn l) S) k = x := ⟨_, rfl⟩
    rw [hmk] at HMS ⊢
    have hmz : (I mk).size ≤ 3000 := by
     have hb := sumN_bound (f := flo t (wfn l) S) (S := ((10 ^ (K + K) : Nat) : Int)) k (fun i hi => by
      obtain ⟨zz, hz2⟩ : ∃ x, l[i]? = some x := ⟨_, List.getElem?_eq_getElem (by rw [HN.out]; omega)⟩
      have hm2 := List.mem_of_getElem? hz2
      have := flo_bd (w := wfn l) (i := i) ht0 hts HPOS.out (by rw [wfn_at hz2]; exact HO.out.nn _ hm2) (by rw [wfn_at hz2]; exact HO.out.sz _ hm2)
      exact ⟨this.1, this.2.1⟩)
     refine Nat.le_trans (I_size_le (k := K + K + 2) ?_) (by omega)
     rw [← hmk, Nat.pow_add]
     have hp : 10 ^ K ≤ 10 ^ (K + K) := Nat.pow_le_pow_right (by omega) (by omega)
     have hp1 : 0 < 10 ^ K := Nat.pow_pos (by omega)
     have hk12 : (k : Int) * ((10 ^ (K + K) : Nat) : Int) ≤ 12 * ((10 ^ (K + K) : Nat) : Int) := Int.mul_le_mul_of_nonneg_right (by omega) (by omega)
     generalize 10 ^ (K + K) = X at *
     generalize 10 ^ K = Y at *
     omega
    have HSB := hI (fun W (hW : Below w.heap.size w W) => Sub_any (I mk) (I fl) W (by omega) (Nat.le_trans (I_size_le (k := K + K + 1) (by rw [Nat.pow_succ]; have : 0 < 10 ^ (K + K) := Nat.pow_pos (by omega); omega)) (by omega)) (HT.out.below hW))
    rw [vl_I, vl_I] at HSB
    have hnn : (k : Int) < ((n : Nat) : Int) := hbk
    clear hz hwz zk z0 hfb hfl hrs hdq hdr hms hmz hKK hSp
    obtain ⟨P, hP⟩ : ∃ P, tab (upto (flo t (wfn l) S) k) n = P := ⟨_, rfl⟩
    obtain ⟨R, hR⟩ : ∃ R, tab (upto (rsts t (wfn l) S) k) n = R := ⟨_, rfl⟩
    obtain ⟨D, hD⟩ : ∃ D, tabN (uptoN k) n = D := ⟨_, rfl⟩
    have HUD : Hid (D.set k k = tabN (uptoN (k + 1)) n) := by rw [← hD]; exact uptoN_set
    rw [hP] at HUQ HLQ HQ0 HX
    rw [hR] at HUR HLR HR0 HX
    rw [hD] at HLD HD0 HX
    clear hP hR hD hmk
    go_upto_region 8 with fail
    refine region_marks (m := { C := fun W => ∃ u v : Int, PX w q r b o n (P.set k u) (R.set k v) D W, V := [fun v => v = .slice (some ⟨q, 0, none⟩) n n, fun v => v = .int .i64 (k : Int), fun v => v = .slice (some ⟨r, 0, none⟩) n n, fun v => v = .int .i64 (k : Int), fun v => v = .string (I t), fun v => v = .string (I z), fun v => v = .string (I (t * z)), fun v => v = .string (I S), fun v => v = .tuple #[.string (I fl), .string (I rs), .int .i64 0], fun v => v = .tuple #[.string (I fl), .string (I rs), .int .i64 0], fun v => v = .string (I fl), fun v => v = .string (I rs), fun v => v = .int .i64 0, fun v => v = .pointer (some ⟨q, k, none⟩), fun _ => True, fun v => v = .pointer (some ⟨r, k, none⟩)], N := [(14, fun _ W => W.cell? ⟨q, k, none⟩ = some (.string (I fl))), (16, fun _ W => W.cell? ⟨r, k, none⟩ = some (.string (I rs)))] }) (F := ?F2) mixed (by kernel_rfl) (by kernel_rfl) (by kernel_rfl) (fun s => ?hF2) ?hC2 True.intro ?hs2 ?he2
    case hF2 =>
     simp only [putAll, Act.put, List.setIfInBounds_toArray, List.set_cons_succ, List.set_cons_zero, Nat.reduceAdd, Nat.zero_add]
     exact rfl
    case hC2 => exact ⟨0, 0, by rw [set_id HQ0.out, set_id HR0.out]; exact HX.out.below (Below.refl _ _).drew⟩
    case hs2 =>
     iterate 14
      refine mSteps_cons (fun s W hW hd hz K hK => ?_) ?_
      focus
       simp [depsOk, Mk.ok, mkV, mkN, Region.binds] at hd
       try simp only [hd] at hK ⊢
       first
       | (go_simp
          refine hK _ _ ?_ _ rfl
          exact nx_pure hW (And.intro rfl True.intro) rfl)
       | (obtain ⟨u, v, hx⟩ := hW
          have hcl := Lib.cell_of_heap hx.hb 0
          simp at hcl
          go_simp
          refine hK _ _ ?_ _ rfl
          exact nx_pure ⟨u, v, hx⟩ (And.intro rfl True.intro) rfl)
       | (obtain ⟨u, v, hx⟩ := hW
          go_simp
          refine (HM.out W hx.bw).mono ?_
          rintro e wn ⟨rfl, hb⟩
          refine hK _ _ ?_ _ rfl
          exact ⟨⟨u, v, hx.below hb⟩, ⟨fun _ h => (hb.cell (Array.getElem?_eq_some_iff.1 hx.hq).1).trans h, fun _ h => (hb.cell (Array.getElem?_eq_some_iff.1 hx.hr).1).trans h, True.intro⟩, True.intro, hb.size, And.intro rfl True.intro, fun h => (by cases h), True.intro⟩)
       | (obtain ⟨u, v, hx⟩ := hW
          go_simp
          refine (HD.out W hx.bw).mono ?_
          rintro e wn ⟨rfl, hb⟩
          refine hK _ _ ?_ _ rfl
          exact ⟨⟨u, v, hx.below hb⟩, ⟨fun _ h => (hb.cell (Array.getElem?_eq_some_iff.1 hx.hq).1).trans h, fun _ h => (hb.cell (Array.getElem?_eq_some_iff.1 hx.hr).1).trans h, True.intro⟩, True.intro, hb.size, And.intro rfl True.intro, fun h => (by cases h), True.intro⟩)
     refine mSteps_cons (fun s W hW hd hz K hK => ?_) ?_
     focus
      simp [depsOk, Mk.ok, mkV, mkN, Region.binds] at hd
      try simp only [hd] at hK ⊢
      obtain ⟨u, v, hx⟩ := hW
      have hf := sRow_frozen hx.hq k
      have hcl := sRow_cell hx.hq (k := k) (z := u) (by simp [HLQ.out])
      have hcr := sRow_cell hx.hr (k := k) (z := v) (by simp [HLR.out])
      have hx' := hx.putq (k := k) HPS.out fl
      rw [List.set_set] at hx'
      have hcl' := sRow_cell hx'.hq (k := k) (z := fl) (by simp [HLQ.out])
      have hcr' := sRow_cell hx'.hr (k := k) (z := v) (by simp [HLR.out])
      clear hd
      go_simp
      refine hK undef _ ?_ _ rfl
      exact ⟨⟨fl, v, hx'⟩, ⟨True.intro, fun _ h => hcr'.trans (hcr.symm.trans h), True.intro⟩, True.intro, by simp [World.setCell], And.intro True.intro hcl', fun h => (by cases h), True.intro⟩
     refine mSteps_cons (fun s W hW hd hz K hK => ?_) ?_
     focus
      simp [depsOk, Mk.ok, mkV, mkN, Region.binds] at hd
      try simp only [hd] at hK ⊢
      go_simp
      refine hK _ _ ?_ _ rfl
      exact nx_pure hW (And.intro rfl True.intro) rfl
     refine mSteps_cons (fun s W hW hd hz K hK => ?_) ?_
     focus
      simp [depsOk, Mk.ok, mkV, mkN, Region.binds] at hd
      try simp only [hd] at hK ⊢
      obtain ⟨u, v, hx⟩ := hW
      have hf := sRow_frozen hx.hr k
      have hcl := sRow_cell hx.hr (k := k) (z := v) (by simp [HLR.out])
      have hcr := sRow_cell hx.hq (k := k) (z := u) (by simp [HLQ.out])
      have hx' := hx.putr (k := k) HPS.out rs
      rw [List.set_set] at hx'
      have hcl' := sRow_cell hx'.hr (k := k) (z := rs) (by simp [HLR.out])
      have hcr' := sRow_cell hx'.hq (k := k) (z := u) (by simp [HLQ.out])
      clear hd
      go_simp
      refine hK undef _ ?_ _ rfl
      exact ⟨⟨u, rs, hx'⟩, ⟨fun _ h => hcr'.trans (hcr.symm.trans h), True.intro, True.intro⟩, True.intro, by simp [World.setCell], And.intro True.intro hcl', fun h => (by cases h), True.intro⟩
     exact mSteps_nil
    case he2 =>
     intro s W hC hall hd
     simp [allOk, Mk.ok, mkV, mkN] at hall
     obtain ⟨u, v, hx⟩ := hC
     have hcl := sRow_cell hx.hq (k := k) (z := u) (by simp [HLQ.out])
     have hcr := sRow_cell hx.hr (k := k) (z := v) (by simp [HLR.out])
     have eu : u = fl := by simp [hall] at hcl; exact (I_inj hcl).symm
     have ev : v = rs := by simp [hall] at hcr; exact (I_inj hcr).symm
     subst eu ev
     clear hall hd hcr
     have HX1 := hI hx
     have hfo := hx.ho.frozen k
     have hco := hx.ho.cell HLD.out
     clear hx
     go_wp2_with fail
     refine (HSB.out _ HX1.out.bw).mono ?_
     rintro e w2 ⟨rfl, hb2⟩
     have HX2 := hI (HX1.out.below hb2)
     clear hfo hco hcl hb2 hc
     have hfo := HX2.out.ho.frozen k
     have hco := HX2.out.ho.cell HLD.out
     go_wp2_with fail
     go_roundw
     case rel => exact ⟨k + 1, by rw [HMS.out], by go_num, by omega, by have h := HX2.out.puto (k := k) HPS.out HLD.out k; rwa [HUQ.out, HUR.out, HUD.out] at h⟩
     case measure => simp [intOf]; omega
   ·have hkn : n = k := by omega
    subst hkn
    have hcx : decide ((n : Int) < (n : Int)) = false := by simp
    have hpx := HX.out
    rw [upto_all, upto_all, uptoN_all] at hpx
    have HY := hI hpx
    clear hpx HX
    have hmb := miss_bd (t := t) (w := wfn l) (n := n) (by rw [← HSM.out]; exact HPOS.out)
    rw [← HSM.out] at hmb
    obtain ⟨m, hm⟩ : ∃ m : Nat, missN t (wfn l) S n = (m : Int) := ⟨(missN t (wfn l) S n).toNat, by omega⟩
    rw [hm] at hmb
    have hm' : t - sumN (flo t (wfn l) S) n = (m : Int) := hm
    rw [hm']
    obtain ⟨rf, hrf⟩ : ∃ rf, rsts t (wfn l) S = rf := ⟨_, rfl⟩
    have hrb : ∀ j, j < n → (rf j).natAbs < 10 ^ (K + K) := fun j hj => by
     obtain ⟨zz, hz2⟩ : ∃ x, l[j]? = some x := ⟨_, List.getElem?_eq_getElem (by rw [HN.out]; exact hj)⟩
     have hm2 := List.mem_of_getElem? hz2
     have := flo_bd (w := wfn l) (i := j) ht0 hts HPOS.out (by rw [wfn_at hz2]; exact HO.out.nn _ hm2) (by rw [wfn_at hz2]; exact HO.out.sz _ hm2)
     rw [← hrf]; exact this.2.2.2
    rw [hrf] at HY
    have hb0 : b < wr.heap.size := (Array.getElem?_eq_some_iff.1 HY.out.hb).1
    have hr0 : r < wr.heap.size := (Array.getElem?_eq_some_iff.1 HY.out.hr).1
    have hCI : CmpI (fun i => i < n) (rcmp rf) 168 #[.pointer (some ⟨b, 0, none⟩)] wr o := ⟨fun args w => by kernel_rfl, fun W hg i k hi hk => by
     have e1 : W.heap[r]? = some (sRow (tab rf n)) := (hg.block r hr0 (by simp; exact HPS.out.ro)).trans HY.out.hr
     have e2 : W.heap[b]? = some (.cells #[.slice (some ⟨r, 0, none⟩) n n] 28 (0, 0)) := (hg.block b hb0 (by simp; exact HPS.out.bo)).trans HY.out.hb
     exact apos1_any rf r n n b i k (K + K) (by have := HO.out.k; omega) hrb hi hk W (Array.getElem?_eq_some_iff.1 e1).1 (fun j hj => sRow_cell e1 (tab_at _ hj)) (Array.getElem?_eq_some_iff.1 e2).1 (by have := Lib.cell_of_heap e2 0; simpa using this)⟩
    have HSO := hI (sortFI_any (fun i => i < n) (rcmp rf) (bf rf) (bf_weak rf) wr o n n 168 #[.pointer (some ⟨b, 0, none⟩)] (fun x y _ _ => rcmp_lt rf x y) hCI (List.range n) (List.length_range) n1 (fun x hx => List.mem_range.1 hx) wr ⟨HY.out.ho, World.grownBy.refl _ _, HY.out.ho.lt⟩)
    have HSL := hI (fun W => nSmall_any m (by omega) W)
    have HMB := hI hmb
    have HM := hI hm
    clear hb0 hr0 hCI hrb hm' hmb hm hge hk
    go_wp2_with fail
    refine HSO.out.mono ?_
    rintro e w2 ⟨rfl, hir⟩
    have HY2 : Hid (PX w q r b o n (tab (flo t (wfn l) S) n) (tab rf n) (ords rf n) w2) :=
     ⟨HY.out.bw.grown hir.gr HY.out.bw.size (fun k e => by cases e; exact HPS.out.o1), (hir.gr.block q (Array.getElem?_eq_some_iff.1 HY.out.hq).1 (by simp; exact HPS.out.qo)).trans HY.out.hq, (hir.gr.block r (Array.getElem?_eq_some_iff.1 HY.out.hr).1 (by simp; exact HPS.out.ro)).trans HY.out.hr, (hir.gr.block b (Array.getElem?_eq_some_iff.1 HY.out.hb).1 (by simp; exact HPS.out.bo)).trans HY.out.hb, hir.row⟩
    clear hir HSO HY
    go_wp2_with fail
    refine (HSL.out w2).mono ?_
    rintro e w3 ⟨rfl, hb3⟩
    have HY3 := hI (HY2.out.below hb3)
    clear hb3 HY2 HSL
    have hmn : (m : Int) ≤ (n : Int) := by have := HMB.out; omega
    have hmn' : m ≤ n := by have := HMB.out; omega
    go_wp2_with fail
    have HP0 : Hid (PX w q r b o n (tab (more (flo t (wfn l) S) rf n 0) n) (tab rf n) (ords rf n) w3) := by
     have e : tab (more (flo t (wfn l) S) rf n 0) n = tab (flo t (wfn l) S) n := by
      unfold tab; exact List.map_congr_left (fun i _ => by unfold more; rw [if_neg (by omega), Int.add_zero])
     rw [Hid, e]; exact HY3.out
    clear HY3
    go_loopw [73] (fun v73 wq => ∃ j : Nat, v73 = .int .i64 (j : Int) ∧ j ≤ m ∧ PX w q r b o n (tab (more (flo t (wfn l) S) rf n j) n) (tab rf n) (ords rf n) wq) (fun v _ => m - (intOf v).toNat)
    case atStart => exact ⟨0, rfl, by omega, HP0.out⟩
    case round =>
     clear HP0
     obtain ⟨j, rfl, hj, hpx⟩ := hrel
     have HX := hI hpx
     clear hpx
     rcases Nat.lt_or_ge j m with hlt | hge
     ·have hcx : decide ((j : Int) < (m : Int)) = true := by simp; omega
      have hbj : (j : Int) < (m : Int) := by omega
      have hjn : (j : Int) < (n : Int) := by omega
      obtain ⟨i, hi⟩ : ∃ i, (ords rf n)[j]? = some i := ⟨_, List.getElem?_eq_getElem (by rw [ords_len]; omega)⟩
      have hin : i < n := ords_mem.1 (List.mem_of_getElem? hi)
      have hrk := ords_at hi
      have hoc : wr.cell? ⟨o, j, none⟩ = some (.int .i64 (i : Int)) := by
       rw [HX.out.ho.cell (by rw [ords_len]; omega)]; unfold gt; simp [hi]
      have hqc := sRow_cell HX.out.hq (tab_at (more (flo t (wfn l) S) rf n j) hin)
      have hfq := sRow_frozen HX.out.hq i
      have hibn : (i : Int) < (n : Int) := by omega
      have hfb : 0 ≤ flo t (wfn l) S i ∧ flo t (wfn l) S i ≤ ((10 ^ (K + K) : Nat) : Int) := by
       obtain ⟨zz, hz2⟩ : ∃ x, l[i]? = some x := ⟨_, List.getElem?_eq_getElem (by rw [HN.out]; exact hin)⟩
       have hm2 := List.mem_of_getElem? hz2
       have hh := flo_bd (w := wfn l) (i := i) ht0 hts HPOS.out (by rw [wfn_at hz2]; exact HO.out.nn _ hm2) (by rw [wfn_at hz2]; exact HO.out.sz _ hm2)
       exact ⟨hh.1, hh.2.1⟩
      have hmi : more (flo t (wfn l) S) rf n j i = flo t (wfn l) S i := by unfold more; rw [hrk, if_neg (by omega), Int.add_zero]
      have HSET : Hid ((tab (more (flo t (wfn l) S) rf n j) n).set i (flo t (wfn l) S i + 1) = tab (more (flo t (wfn l) S) rf n (j + 1)) n) := tab_set (by unfold more; rw [hrk, if_pos (by omega)]) (fun i' hi' hne => by
       unfold more
       have hne2 : rk rf n i' ≠ j := fun e => hne (rk_inj hi' hin (e.trans hrk.symm))
       by_cases h : rk rf n i' < j
       ·rw [if_pos h, if_pos (by omega)]
       ·rw [if_neg h, if_neg (by omega)])
      rw [hmi] at hqc
      have hKK := HO.out.k
      have HA := hI (Add_any (I (flo t (wfn l) S i)) ⟨#[49]⟩ wr (Nat.le_trans (I_size_le (k := K + K + 1) (by rw [Nat.pow_succ]; have : 0 < 10 ^ (K + K) := Nat.pow_pos (by omega); omega)) (by omega)) (by show 1 ≤ _; omega) (HT.out.below HX.out.bw))
      rw [show vl (⟨#[49]⟩ : ByteArray) = 1 from by rw [show (⟨#[49]⟩ : ByteArray) = I 1 from rfl, vl_I], vl_I] at HA
      have HP2 := hI (fun W (h : PX w q r b o n (tab (more (flo t (wfn l) S) rf n j) n) (tab rf n) (ords rf n) W) => h.putq (k := i) HPS.out (flo t (wfn l) S i + 1))
      rw [HSET.out] at HP2
      obtain ⟨fl, hfl⟩ : ∃ x, flo t (wfn l) S i = x := ⟨_, rfl⟩
      rw [hfl] at hqc HA HP2
      have HHI : Hid (i < n) := hin
      have HMO : Hid (more (flo t (wfn l) S) rf n j i = fl) := by rw [Hid, hmi, hfl]
      clear hfb hmi hfl hKK HSET hrk hi hin
      go_wp2_with fail
      refine HA.out.mono ?_
      rintro e w4 ⟨rfl, hb4⟩
      have HX4 := hI (HX.out.below hb4)
      clear hb4 hqc hfq hoc HA
      have hqc := sRow_cell HX4.out.hq (tab_at (more (flo t (wfn l) S) rf n j) HHI.out)
      have hfq := sRow_frozen HX4.out.hq i
      go_wp2_with fail
      go_roundw
      case rel => exact ⟨j + 1, by go_num, by omega, HP2.out _ HX4.out⟩
      case measure => simp [intOf]; omega
     ·have hcx : decide ((j : Int) < (m : Int)) = false := by simp; omega
      have hjm : j = m := by omega
      have HF : Hid (tab (more (flo t (wfn l) S) rf n j) n = tab (shr t (wfn l) S n) n) := by
       unfold tab
       refine List.map_congr_left (fun i _ => ?_)
       unfold more shr
       rw [hrf, HM.out, hjm]
       by_cases h : rk rf n i < m
       ·rw [if_pos h, if_pos (by omega)]
       ·rw [if_neg h, if_neg (by omega)]
      go_wp2_with fail
      go_ret
      exact ⟨q, rfl, HPS.out.q1, by rw [← HF.out]; exact HX.out.hq, HX.out.bw⟩
end Go.Proofs.YtbkmhmaldljgmaaGreatDoor
namespace Go.Proofs.YtbkmhmaldljgmaaGreatDoor
open Go.RowKit Tr Go.Shelf
def spL (t : Int) (l : List Int) : List Int := if t < 0 then (shL (-t) l).map (fun z => -z) else shL t l
theorem shL_len (t : Int) (l : List Int) : (shL t l).length = l.length := tab_len _ _
def negUp (l : List Int) (k : Nat) : List Int := (l.take k).map (fun z => -z) ++ l.drop k
theorem negUp_at {l : List Int} {k : Nat} {z : Int} (h : l[k]? = some z) : (negUp l k)[k]? = some z := by
 have hk := (List.getElem?_eq_some_iff.1 h).1
 unfold negUp
 rw [List.getElem?_append_right (by simp; omega)]
 simp
 rw [show k + (k - min k l.length) = k from by omega]; exact h
theorem negUp_set {l : List Int} {k : Nat} {z : Int} (h : l[k]? = some z) : (negUp l k).set k (-z) = negUp l (k + 1) := by
 obtain ⟨hk, he⟩ := List.getElem?_eq_some_iff.1 h
 unfold negUp
 rw [List.take_add_one, h, List.drop_eq_getElem_cons hk, he, List.set_append_right _ _ (by simp; omega)]
 simp
 rw [show k - min k l.length = 0 from by omega]; rfl
theorem shL_bd {t : Int} {l : List Int} {K : Nat} (h : WOk l K) (ht0 : 0 ≤ t) (hts : t.natAbs < 10 ^ K) {k : Nat} {z : Int} (hz : (shL t l)[k]? = some z) : z.natAbs < 10 ^ (K + K + 1) := by
 have hk : k < l.length := by have := (List.getElem?_eq_some_iff.1 hz).1; rwa [shL_len] at this
 unfold shL at hz
 rw [tab_at _ hk] at hz
 have e := Option.some.inj hz
 have hl : l[k]? = some l[k] := List.getElem?_eq_getElem hk
 have hb := flo_bd (w := wfn l) (i := k) ht0 hts h.pos (by rw [wfn_at hl]; exact h.nn _ (List.getElem_mem hk)) (by rw [wfn_at hl]; exact h.sz _ (List.getElem_mem hk))
 unfold shr at e
 have hp : 0 < 10 ^ (K + K) := Nat.pow_pos (by omega)
 rw [Nat.pow_succ]
 split at e <;> omega
theorem aldivide_any (t : Int) (A : Addr) (l : List Int) (c K : Nat) (h : WOk l K) (hts : t.natAbs < 10 ^ K) (w : World) (hs : SRd w A l) (ht : Tabs w) :
 Calls Tryz.prog 73 #[.string (I t), .slice (some A) l.length c] w fun e w' => ∃ q, e = .returned (.slice (some ⟨q, 0, none⟩) l.length l.length) ∧ w.heap.size ≤ q ∧ w'.heap[q]? = some (sRow (spL t l)) ∧ Below w.heap.size w w' := by
 have hK := h.k
 have hsz := I_size_le hts
 have HN := hI (aneg_any (I t) w (by omega))
 rw [vl_I] at HN
 by_cases ht0 : t < 0
 ·rw [decide_eq_true ht0] at HN
  have HNG := hI (fun W (hb : Below w.heap.size w W) => Neg_any (I t) W (by omega) (ht.below hb))
  rw [vl_I] at HNG
  have HP := hI (fun W (hb : Below w.heap.size w W) => alpositive_any (-t) (by omega) A l c K h (by omega) W (hs.below hb) (ht.below hb))
  have HT := hI ht
  have HSP : Hid (spL t l = negUp (shL (-t) l) l.length) := by
   rw [Hid]; unfold spL negUp; rw [if_pos ht0, List.take_of_length_le (by rw [shL_len]; exact Nat.le_refl _), List.drop_of_length_le (by rw [shL_len]; exact Nat.le_refl _), List.append_nil]
  have HBD := hI (fun k z (hz : (shL (-t) l)[k]? = some z) => shL_bd h (by omega) (by omega) hz)
  have HL : Hid ((shL (-t) l).length = l.length) := shL_len _ _
  have n1 := h.n1
  rw [HSP.out]
  generalize shL (-t) l = L at HP HBD HL
  obtain ⟨n, hn⟩ : ∃ n, l.length = n := ⟨_, rfl⟩
  rw [hn] at HP HL n1 ⊢
  generalize I t = ts at HN HNG
  clear hs ht hn hsz hts HSP
  go_enter Tryz.func73, Tryz.ntmps73
  go_wp2_with fail
  refine HN.out.mono ?_
  rintro e w1 ⟨rfl, b1⟩
  have HB1 := hI b1
  clear b1
  go_wp2_with fail
  refine (HNG.out w1 HB1.out).mono ?_
  rintro e w2 ⟨rfl, b2⟩
  have HB2 := hI (HB1.out.trans (b2.mono HB1.out.size))
  clear b2
  go_wp2_with fail
  refine (HP.out w2 HB2.out).mono ?_
  rintro e w3 ⟨q, rfl, hq1, hq2, b3⟩
  have HB3 := hI (HB2.out.trans (b3.mono HB2.out.size))
  have HQ : Hid (w.heap.size ≤ q) := Nat.le_trans HB2.out.size hq1
  have HR : Hid (w3.heap[q]? = some (sRow (negUp L 0))) := by rw [Hid, hq2]; unfold negUp; simp
  clear b3 hq1 hq2
  go_wp2_with fail
  go_loopw [19] (fun v19 wr => ∃ k : Nat, v19 = .int .i64 (k : Int) ∧ k ≤ n ∧ wr.heap[q]? = some (sRow (negUp L k)) ∧ Below w.heap.size w wr) (fun v _ => n - (intOf v).toNat)
  case atStart => exact ⟨0, rfl, by omega, HR.out, HB3.out⟩
  case round =>
   clear HR HB3
   obtain ⟨k, rfl, hk, hrow, hbw⟩ := hrel
   have HR := hI hrow
   have HBW := hI hbw
   clear hrow hbw
   rcases Nat.lt_or_ge k n with hlt | hge
   ·have hcx : decide ((k : Int) < (n : Int)) = true := by simp; omega
    have hbk : (k : Int) < (n : Int) := by omega
    obtain ⟨z, hz⟩ : ∃ z, L[k]? = some z := ⟨_, List.getElem?_eq_getElem (by rw [HL.out]; exact hlt)⟩
    have hcl := sRow_cell HR.out (negUp_at hz)
    have HNZ := hI (Neg_any (I z) wr (Nat.le_trans (I_size_le (HBD.out k z hz)) (by omega)) (HT.out.below HBW.out))
    rw [vl_I] at HNZ
    have HSET := hI (negUp_set hz)
    have HAT := hI (negUp_at hz)
    clear hz
    go_wp2_with fail
    refine HNZ.out.mono ?_
    rintro e w4 ⟨rfl, b4⟩
    have HR4 : Hid (w4.heap[q]? = some (sRow (negUp L k))) := (b4.block q (Array.getElem?_eq_some_iff.1 HR.out).1).trans HR.out
    have HB4 := hI (HBW.out.trans (b4.mono HBW.out.size))
    clear b4 hcl HNZ
    have hcl := sRow_cell HR4.out HAT.out
    have hfq := sRow_frozen HR4.out k
    go_wp2_with fail
    go_roundw
    case rel => exact ⟨k + 1, by go_num, by omega, by have h := sRow_put HR4.out (k := k) (-z); rwa [HSET.out] at h, HB4.out.setCell HQ.out _⟩
    case measure => simp [intOf]; omega
   ·have hcx : decide ((k : Int) < (n : Int)) = false := by simp; omega
    have hkn : n = k := by omega
    have HF : Hid (wr.heap[q]? = some (sRow (negUp L n))) := by rw [hkn]; exact HR.out
    go_wp2_with fail
    go_ret
    exact ⟨q, rfl, HQ.out, HF.out, HBW.out⟩
 ·rw [decide_eq_false ht0] at HN
  have HP := hI (fun W (hb : Below w.heap.size w W) => alpositive_any t (by omega) A l c K h hts W (hs.below hb) (ht.below hb))
  have HSP : Hid (spL t l = shL t l) := by rw [Hid]; unfold spL; rw [if_neg ht0]
  rw [HSP.out]
  generalize I t = ts at HN HP
  generalize shL t l = L at HP
  clear hs ht hsz hts HSP
  go_enter Tryz.func73, Tryz.ntmps73
  go_wp2_with fail
  refine HN.out.mono ?_
  rintro e w1 ⟨rfl, b1⟩
  have HB1 := hI b1
  clear b1
  go_wp2_with fail
  refine (HP.out w1 HB1.out).mono ?_
  rintro e w2 ⟨q, rfl, hq1, hq2, b2⟩
  have HQ : Hid (w.heap.size ≤ q ∧ w2.heap[q]? = some (sRow L) ∧ Below w.heap.size w w2) := ⟨Nat.le_trans HB1.out.size hq1, hq2, HB1.out.trans (b2.mono HB1.out.size)⟩
  clear hq1 hq2 b2
  go_wp2_with fail
  go_ret
  exact ⟨q, rfl, HQ.out⟩
theorem alSplit_ok (t : Int) (A : Addr) (l : List Int) (c K : Nat) (h : WOk l K) (hts : t.natAbs < 10 ^ K) (hK : K ≤ 900) (w : World) (hs : SRd w A l) (ht : Tabs w) :
 Calls Tryz.prog 41 #[.string (I t), .slice (some A) l.length c] w fun e w' => ∃ q, e = .returned (.tuple #[.slice (some ⟨q, 0, none⟩) l.length l.length, .int .i64 0]) ∧ w.heap.size ≤ q ∧ w'.heap[q]? = some (sRow (spL t l)) ∧ Below w.heap.size w w' := by
 have HC := hI (alcheck_ok t A l c K h (Nat.le_trans (I_size_le hts) (by omega)) w hs ht)
 have HD := hI (fun W (hb : Below w.heap.size w W) => aldivide_any t A l c K h hts W (hs.below hb) (ht.below hb))
 generalize I t = ts at HC HD
 generalize spL t l = L at HD
 clear hs ht hts
 go_enter Tryz.func41, Tryz.ntmps41
 go_wp2_with fail
 refine HC.out.mono ?_
 rintro e w1 ⟨rfl, b1⟩
 have HB1 := hI b1
 clear b1
 go_wp2_with fail
 refine (HD.out w1 HB1.out).mono ?_
 rintro e w2 ⟨q, rfl, hq1, hq2, b2⟩
 have HQ : Hid (w.heap.size ≤ q ∧ w2.heap[q]? = some (sRow L) ∧ Below w.heap.size w w2) := ⟨Nat.le_trans HB1.out.size hq1, hq2, HB1.out.trans (b2.mono HB1.out.size)⟩
 clear hq1 hq2 b2
 go_wp2_with fail
 refine bodyPost_ret (results_tmp2 rfl _ _ _) rfl ?_
 exact ⟨q, rfl, HQ.out⟩
end Go.Proofs.YtbkmhmaldljgmaaGreatDoor
