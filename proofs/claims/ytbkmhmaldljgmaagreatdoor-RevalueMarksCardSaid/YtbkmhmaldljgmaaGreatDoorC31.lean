/-
  tranchelaw40.apply: measures changed by effects.
-/
import Derived.Test.YtbkmhmaldljgmaaGreatDoorC30
import Derived.Test.YtbkmhmaldljgmaaGreatDoorC21
import Derived.Test.YtbkmhmaldljgmaaGreatDoorC20
import Derived.Test.YtbkmhmaldljgmaaGreatDoorC14
import Derived.Test.YtbkmhmaldljgmaaGreatDoorC27
set_option linter.unusedVariables false
set_option linter.unusedSimpArgs false
set_option maxHeartbeats 16000000
set_option maxRecDepth 100000
namespace Go.Proofs.YtbkmhmaldljgmaaGreatDoor
open Go.RowKit Tr Go.Shelf
def bRow (P : List ByteArray) (sp : List Value) : Obj := .cells (P.map Value.string ++ sp).toArray 23 (0, 0)
theorem bRow_cell {W : World} {g : Nat} {P : List ByteArray} {sp : List Value} (h : W.heap[g]? = some (bRow P sp)) {k : Nat} {x : ByteArray} (hk : P[k]? = some x) : W.cell? ⟨g, k, none⟩ = some (.string x) := by
 have hl : k < P.length := (List.getElem?_eq_some_iff.1 hk).1
 rw [Lib.cell_of_heap h k]
 simp only [List.getElem?_toArray]
 rw [List.getElem?_append_left (by simpa using hl), List.getElem?_map, hk]
 rfl
theorem bRow_frozen {W : World} {g : Nat} {P : List ByteArray} {sp : List Value} (h : W.heap[g]? = some (bRow P sp)) (k : Nat) : W.frozen? ⟨g, k, none⟩ = false := by
 have := Lib.frozen_of_heap h k; simpa using this
theorem bRow_put {W : World} {g : Nat} {P : List ByteArray} {sp : List Value} (h : W.heap[g]? = some (bRow P sp)) {k : Nat} (hk : k < P.length) (u : ByteArray) : (W.setCell ⟨g, k, none⟩ (.string u)).heap[g]? = some (bRow (P.set k u) sp) := by
 have := heap_setCell_same W g k _ _ (.string u) h
 rw [this]
 unfold bRow
 simp [List.map_set, List.set_append_left _ _ (show k < (P.map Value.string).length from by simpa using hk)]
theorem bRow_rds {W : World} {g : Nat} {P : List ByteArray} {sp : List Value} (h : W.heap[g]? = some (bRow P sp)) : RdS W (some ⟨g, 0, none⟩) P :=
 fun _ => ⟨_, rfl, (Array.getElem?_eq_some_iff.1 h).1, fun k b hk => by rw [addr_add0]; exact bRow_cell h hk⟩
theorem cloneInts_some (ad : Addr) (b : List ByteArray) (c : Nat) (w : World) (hR : RdS w (some ad) b) (h0 : b ≠ []) (hl : b.length ≤ 100000) :
 Calls Tryz.prog 27 #[.slice (some ad) b.length c] w fun e w' => ∃ g cg sp, e = .returned (.slice (some ⟨g, 0, none⟩) b.length cg) ∧ w.heap.size ≤ g ∧ w'.heap[g]? = some (bRow b sp) ∧ Below w.heap.size w w' := by
 obtain ⟨i0, hi0, hz0, hz1, hz2⟩ := info_parts Tryz.infoInt
 obtain ⟨N, hN⟩ : ∃ N, b.length = N := ⟨_, rfl⟩
 have hfl : (b.map Value.string).length = N * 1 := by simp [hN]
 have hN0 : N ≠ 0 := by intro e; exact h0 (List.eq_nil_of_length_eq_zero (hN.trans e))
 rw [hN] at hl ⊢
 have hown : (w.alloc (.cells #[] 23)).ownsRow w.heap.size 23 1 (.slice (some ⟨w.heap.size, 0, none⟩) 0 0) 0 [] := World.ownsRow_made w #[] 0 (Nat.le_refl _) (Nat.zero_le _) rfl
 have HO := hI hown
 have HB : Hid (Below w.heap.size w (w.alloc (.cells #[] 23))) := (Below.refl _ w).alloc (Nat.le_refl _) _
 have HF : Hid (∀ j u, (b.map Value.string)[j]? = some u → (w.alloc (.cells #[] 23)).cell? (ad.add j) = some u) := fun j u hj => by
  rw [List.getElem?_map] at hj
  obtain ⟨x, hx, rfl⟩ := Option.map_eq_some_iff.1 hj
  obtain ⟨ad', e, h1, h2⟩ := hR.below HB.out h0
  cases e
  exact h2 j x hx
 have H1 : Hid (∀ u ∈ b.map Value.string, u.oneCell' = true) := fun u hu => by
  obtain ⟨x, _, rfl⟩ := List.mem_map.1 hu; rfl
 clear hown hR
 have he : ∀ W : World, (binOp .eql 28 (.slice (some ad) N c) (.slice none 0 0)).run Tryz.prog W = .ok (.bool false) W := fun _ => rfl
 go_enter Tryz.func27, Tryz.ntmps27
 go_wp2_with (at_builtin; refine wpList_append_own _ rfl _ _ 28 rfl w.heap.size 23 i0 (.string ⟨#[]⟩) 1 16 Tryz.underlying28 hi0 hz0 hz1 hz2 rfl (by decide) _ _ _ rfl HO.out ad N c (b.map Value.string) rfl hfl HF.out H1.out (by unfold maxLen; omega) (by omega) (by simp) ?_; intro v2 w2 hown2 hgrow2 _; have HO2 := hI hown2; have HB2 := hI (HB.out.grown hgrow2 HB.out.size (fun k hk => (HO.out.lt k hk).1)); clear hown2 hgrow2)
 have hrow := HO2.out
 rw [Nat.zero_add, List.nil_append] at hrow
 obtain ⟨g, cap, cur, rfl, hb, hg, hnc, hcm, hcs, hct⟩ : ∃ g cap cur, v2 = .slice (some ⟨g, 0, none⟩) N cap ∧ w.heap.size ≤ g ∧ w2.heap[g]? = some (.cells cur 23 (0, 0)) ∧ N ≤ cap ∧ cap ≤ maxLen ∧ cur.size = cap * 1 ∧ cur.toList.take (N * 1) = b.map Value.string := by
  rcases hrow.2 with ⟨_, e⟩ | h
  ·exact absurd e hN0
  ·exact h
 have HG : Hid (w2.heap[g]? = some (bRow b (cur.toList.drop N))) := by
  rw [Hid, hg]
  unfold bRow
  rw [← hct, Nat.mul_one, List.take_append_drop, Array.toArray_toList]
 clear hrow hg hct hcs hcm hnc HO HB HF H1 HO2
 go_ret
 exact ⟨g, cap, _, rfl, hb, HG.out, HB2.out⟩
theorem add_sizeA {a b : ByteArray} {K : Nat} (ha : a.size ≤ K) (hb : b.size ≤ K) : (I (vl a + vl b)).size ≤ K + 2 := by
 refine I_size_le (k := K + 1) ?_
 have h1 := vl_lt a
 have h2 := vl_lt b
 have h3 : 10 ^ a.size ≤ 10 ^ K := Nat.pow_le_pow_right (by omega) ha
 have h4 : 10 ^ b.size ≤ 10 ^ K := Nat.pow_le_pow_right (by omega) hb
 rw [Nat.pow_succ]
 generalize 10 ^ K = X at *
 omega
def stA (P : List ByteArray) (x : Int × ByteArray) : List ByteArray := P.set (x.1 - 17).toNat (I (vl (P.getD (x.1 - 17).toNat ⟨#[]⟩) + vl x.2))
def applN (b : List ByteArray) (M : List (Int × ByteArray)) (k : Nat) : List ByteArray := (M.take k).foldl stA b
theorem applN_succ (b : List ByteArray) {M : List (Int × ByteArray)} {k : Nat} {x : Int × ByteArray} (h : M[k]? = some x) : applN b M (k + 1) = stA (applN b M k) x := by
 unfold applN; rw [List.take_add_one, h]; simp
theorem applN_len (b : List ByteArray) (M : List (Int × ByteArray)) (k : Nat) : (applN b M k).length = b.length := by
 unfold applN
 generalize M.take k = l
 induction l generalizing b with
 | nil => rfl
 | cons x r ih => rw [List.foldl_cons, ih]; simp [stA]
structure MOk (M : List (Int × ByteArray)) : Prop where
 rg : ∀ x ∈ M, 17 ≤ x.1 ∧ x.1 ≤ 19 ∧ x.2 ≠ ⟨#[]⟩ ∧ x.2.size ≤ 1000
 asc : ∀ j x y, M[j]? = some x → M[j + 1]? = some y → x.1 < y.1
 len : M.length ≤ 3
theorem applN_size {b : List ByteArray} {M : List (Int × ByteArray)} (hM : MOk M) {K : Nat} (hb : ∀ x ∈ b, x.size ≤ K) (hK : 1000 ≤ K) : ∀ k, ∀ x ∈ applN b M k, x.size ≤ K + 2 * k := by
 intro k
 induction k with
 | zero => intro x hx; have := hb x hx; omega
 | succ k ih =>
   intro x hx
   cases hm : M[k]? with
   | none =>
     have : applN b M (k + 1) = applN b M k := by unfold applN; rw [List.take_add_one, hm]; simp
     rw [this] at hx
     have := ih x hx
     omega
   | some y =>
     rw [applN_succ b hm] at hx
     unfold stA at hx
     rcases List.mem_or_eq_of_mem_set hx with h | rfl
     ·have := ih x h; omega
     ·have hy := (hM.rg y (List.mem_of_getElem? hm)).2.2.2
      have hp : ((applN b M k).getD (y.1 - 17).toNat ⟨#[]⟩).size ≤ K + 2 * k := by
       rw [List.getD_eq_getElem?_getD]
       cases hg : (applN b M k)[(y.1 - 17).toNat]? with
       | none => exact Nat.zero_le _
       | some z => exact ih z (List.mem_of_getElem? hg)
      have := add_sizeA (a := (applN b M k).getD (y.1 - 17).toNat ⟨#[]⟩) (b := y.2) (K := K + 2 * k) hp (by omega)
      omega
structure ApB (W : World) (g q t k N : Nat) (P : List ByteArray) (sp : List Value) (C : Array Value) (ch u : ByteArray) (D : Obj) : Prop where
 r : W.heap[g]? = some (bRow (P.set k u) sp)
 e : W.heap[q]? = some (.cells C 47 (0, 0))
 t : W.heap[t]? = some (.cells #[.string ⟨#[97, 109, 111, 117, 110, 116]⟩, .string ch] 82 (0, 0))
 i : W.heap[N]? = some D
theorem ApB.below {W W' : World} {g q t k N : Nat} {P : List ByteArray} {sp : List Value} {C : Array Value} {ch u : ByteArray} {D : Obj} (h : ApB W g q t k N P sp C ch u D) (hb : Below W.heap.size W W') : ApB W' g q t k N P sp C ch u D := ⟨bkeepK hb h.r, bkeepK hb h.e, bkeepK hb h.t, bkeepK hb h.i⟩
theorem apply40_any (d : Int) (hd : okDay d) (i : Inst) (hi : i.small) (hok : i.ok) (bd : Addr) (b : List ByteArray) (hb3 : b.length = 3) (hbz : ∀ x ∈ b, x.size ≤ 2000) (cb : Nat) (v : Value) (L : List EE) (M : List (Int × ByteArray)) (hM : MOk M) (hLM : L.map (fun x => (x.1, x.2.1)) = M) (w : World) (hB : RdS w (some bd) b) (hv : EfSl w v d i L) (ht : Tabs w) :
 Calls Tryz.prog 10 #[.slice (some bd) 3 cb, v, .int .i64 d, i.enc] w fun e w' => ∃ g c, e = .returned (.tuple #[.slice (some ⟨g, 0, none⟩) 3 c, .bool true]) ∧ RdS w' (some ⟨g, 0, none⟩) (applN b M M.length) ∧ Below w.heap.size w w' := by
 have mixed : Tryz.prog.follows .mixedOrders = true := by kernel_rfl
 obtain ⟨Av, cv, rfl, hv⟩ := hv
 have hlen : L.length = M.length := by rw [← hLM]; simp
 rw [hlen] at hv ⊢
 obtain ⟨n, hn⟩ : ∃ n, M.length = n := ⟨_, rfl⟩
 have hn3 : n ≤ 3 := by rw [← hn]; exact hM.len
 obtain ⟨W0, hW0⟩ : ∃ W0, w.alloc (.cells i.cells 27) = W0 := ⟨_, rfl⟩
 have k0 : W0.heap[w.heap.size]? = some (.cells i.cells 27 (0, 0)) := by rw [← hW0]; exact heap_alloc_new w _
 have b0 : Below w.heap.size w W0 := by rw [← hW0]; exact (Below.refl _ w).alloc (Nat.le_refl _) _
 have HC := hI (rvCause_any d i.id hi.id W0 (ht.below b0))
 have hce : causeE d i.id = 0 ∧ causeT d i.id = causeB d i.id := cause_ok hd hok.id
 rw [hce.1, hce.2] at HC
 have HCL := hI (fun W (hb : Below w.heap.size w W) => cloneInts_some bd b cb W (hB.below hb) (fun e => by rw [e] at hb3; cases hb3) (by omega))
 rw [hb3] at HCL
 have HV := hI hv
 have HM := hI hM
 have HLM := hI hLM
 have HT := hI ht
 have HBZ := hI hbz
 have HB3 := hI hb3
 have HNN := hI hn
 have HLN := hI (hlen.trans hn)
 have HK0 := hI k0
 have HB0 := hI b0
 rw [hn] at HV ⊢
 obtain ⟨c0, c1, c2, c3, c4, c5, c6, c7, c8, c9, c10, c11, c12, c13, c14⟩ := icellsV k0
 clear hv hM hLM ht hbz hb3 hn hlen hB k0 b0 hd hok hi hce
 obtain ⟨cs, hcs⟩ : ∃ cs, causeB d i.id = cs := ⟨_, rfl⟩
 rw [hcs] at HC
 have HCS := hI hcs
 clear hcs
 unfold Inst.enc Inst.cells at *
 go_enter Tryz.func10, Tryz.ntmps10
 go_wp2_with fail
 refine HC.out.mono ?_
 rintro e w1 ⟨rfl, b1⟩
 have HB1 := hI (HB0.out.trans (b1.mono HB0.out.size))
 have HK1 := hI (bkeepK b1 HK0.out)
 clear b1 HC HB0 HK0 hW0 c0 c1 c2 c3 c4 c5 c6 c7 c8 c9 c10 c11 c12 c13 c14
 go_wp2_with fail
 refine (HCL.out w1 HB1.out).mono ?_
 rintro e w2 ⟨g, cg, sp, rfl, hg, hgr, b2⟩
 have HB2 := hI (HB1.out.trans (b2.mono HB1.out.size))
 have HK2 := hI (bkeepK b2 HK1.out)
 have HGR := hI hgr
 have HG : Hid (w.heap.size ≤ g ∧ w.heap.size < g) := ⟨Nat.le_trans HB1.out.size hg, Nat.lt_of_lt_of_le (Array.getElem?_eq_some_iff.1 HK1.out).1 hg⟩
 clear b2 hg hgr HB1 HK1 HCL
 go_wp2_with fail
 go_loopw [13, 28] (fun v13 v28 wr => ∃ (j : Nat) (lst : Int), v28 = .int .i64 (j : Int) ∧ v13 = .int .i64 lst ∧ j ≤ n ∧ (∀ x, M[j]? = some x → lst < x.1) ∧ wr.heap[g]? = some (bRow (applN b M j) sp) ∧ wr.heap[w.heap.size]? = some (.cells #[.string i.id, .int .i64 i.kind, .string i.cur, .int .i64 i.places, .int .i64 i.issued, .int .i64 i.matures, .string i.fn, .string i.fd, .string i.cn, .string i.cd, .int .i64 i.months, .int .i64 i.count, .string i.other, .string i.sn, .string i.sd] 27 (0, 0)) ∧ Below w.heap.size w wr) (fun _ v _ => n - (intOf v).toNat)
 case atStart => exact ⟨0, 0, rfl, rfl, Nat.zero_le _, fun x hx => by have := (HM.out.rg x (List.mem_of_getElem? hx)).1; omega, HGR.out, HK2.out, HB2.out⟩
 case round =>
  obtain ⟨j, lst, rfl, rfl, hj, hls, hgj, hkj, hbj⟩ := hrel
  clear HGR HK2 HB2
  have HGJ := hI hgj
  have HKJ := hI hkj
  have HBJ := hI hbj
  clear hgj hkj hbj
  rcases Nat.lt_or_ge j n with hlt | hge
  ·have hcx : decide ((j : Int) < (n : Int)) = true := by simp; omega
   have hbk : (j : Int) < (n : Int) := by omega
   obtain ⟨x, hx⟩ : ∃ x, M[j]? = some x := ⟨_, List.getElem?_eq_getElem (by rw [HNN.out]; exact hlt)⟩
   obtain ⟨kd, ch⟩ := x
   obtain ⟨y, hy⟩ : ∃ y, L[j]? = some y := ⟨_, List.getElem?_eq_getElem (by rw [HLN.out]; exact hlt)⟩
   have hxy : (y.1, y.2.1) = (kd, ch) := by
    have e1 : (L.map (fun x => (x.1, x.2.1)))[j]? = some (y.1, y.2.1) := by rw [List.getElem?_map, hy]; rfl
    rw [HLM.out, hx] at e1
    exact (Option.some.inj e1).symm
   obtain ⟨kd', ch', BT⟩ := y
   injection hxy with e1 e2
   simp only at e1 e2
   subst e1
   subst e2
   have hrg := HM.out.rg _ (List.mem_of_getElem? hx)
   simp only at hrg
   have hlk := hls _ hx
   simp only at hlk
   have HNX : Hid (∀ x, M[j + 1]? = some x → kd' < x.1) := fun x h => HM.out.asc j _ x hx h
   have HSUC := hI (applN_succ b hx)
   obtain ⟨kk, hkk⟩ : ∃ kk : Nat, kd' = 17 + (kk : Int) := ⟨(kd' - 17).toNat, by omega⟩
   subst hkk
   have hk3 : kk < 3 := by omega
   have hkt : ((17 + (kk : Int)) - 17).toNat = kk := by omega
   obtain ⟨g1, rfl, hr1⟩ := HV.out (by omega)
   have q1 := hr1.below HBJ.out
   have HR1 := hI (q1.rd j _ hy)
   have HT1 : Hid (wr.heap[BT]? = some (.cells #[.string ⟨#[97, 109, 111, 117, 110, 116]⟩, .string ch'] 82 (0, 0))) := q1.tm _ (List.mem_of_getElem? hy)
   have HTL : Hid (BT < w.heap.size) := (Array.getElem?_eq_some_iff.1 (hr1.tm _ (List.mem_of_getElem? hy))).1
   obtain ⟨o, ho⟩ : ∃ o, (applN b M j)[kk]? = some o := ⟨_, List.getElem?_eq_getElem (by rw [applN_len, HB3.out]; exact hk3)⟩
   have hoz := applN_size HM.out HBZ.out (by omega) j o (List.mem_of_getElem? ho)
   have HPL : Hid (kk < (applN b M j).length) := (List.getElem?_eq_some_iff.1 ho).1
   have HO := hI ho
   have HSET : Hid ((applN b M j).set kk (I (vl o + vl ch')) = applN b M (j + 1)) := by
    rw [Hid, HSUC.out]
    unfold stA
    simp only
    rw [hkt, List.getD_eq_getElem?_getD, ho]
    rfl
   obtain ⟨P, hP⟩ : ∃ P, applN b M j = P := ⟨_, rfl⟩
   rw [hP] at HGJ HPL HO HSET
   have HAD : Hid (∀ W, Below w.heap.size w W → Calls Tryz.prog 28 #[.string o, .string ch'] W fun e w' => e = .returned (.string (I (vl o + vl ch'))) ∧ Below W.heap.size W w') := fun W hb => Add_any o ch' W (by omega) (by omega) (HT.out.below hb)
   obtain ⟨r, hr⟩ : ∃ r, I (vl o + vl ch') = r := ⟨_, rfl⟩
   rw [hr] at HAD HSET
   obtain ⟨W5, hW5⟩ : ∃ W5, wr.alloc (.cells effZero 47) = W5 := ⟨_, rfl⟩
   have k5 : W5.heap[wr.heap.size]? = some (.cells effZero 47 (0, 0)) := by rw [← hW5]; exact heap_alloc_new wr _
   have b5 : Below wr.heap.size wr W5 := by rw [← hW5]; exact (Below.refl _ wr).alloc (Nat.le_refl _) _
   have hrun := run_store_rowK W5 wr.heap.size 7 47 _ (efkC (17 + (kk : Int)) d i BT) (by kernel_rfl) k5 rfl rfl (cE_one true _ _ _ _)
   obtain ⟨W6, hW6⟩ : ∃ W6, W5.setRow wr.heap.size (efkC (17 + (kk : Int)) d i BT) = W6 := ⟨_, rfl⟩
   rw [hW6] at hrun
   have b6 : Below wr.heap.size wr W6 := by rw [← hW6]; exact below_setRowK b5 (Nat.le_refl _) _
   have k6 : W6.heap[wr.heap.size]? = some (.cells (efkC (17 + (kk : Int)) d i BT) 47 (0, 0)) := by rw [← hW6]; exact setRow_heap W5 _ _ _ _ _ k5
   have HK6 := hI k6
   have HG6 : Hid (W6.heap[g]? = some (bRow P sp)) := bkeepK b6 HGJ.out
   have HI6 := hI (bkeepK b6 HKJ.out)
   have HT6 := hI (bkeepK b6 HT1.out)
   have HB6 := hI (HBJ.out.trans (b6.mono HBJ.out.size))
   have hgl : g < wr.heap.size := (Array.getElem?_eq_some_iff.1 HGJ.out).1
   obtain ⟨q, hq⟩ : ∃ q, wr.heap.size = q := ⟨_, rfl⟩
   rw [hq] at hrun k6 HK6 hgl
   have HNE : Hid (g ≠ q ∧ w.heap.size ≤ g ∧ BT ≠ g ∧ w.heap.size ≠ g) := ⟨by omega, HG.out.1, by have := HG.out.1; have := HTL.out; omega, by have := HG.out.2; omega⟩
   have m0 := Lib.cell_of_heap k6 0
   have m1 := Lib.cell_of_heap k6 1
   have m2 := Lib.cell_of_heap k6 2
   have m3 := Lib.cell_of_heap k6 3
   have m4 := Lib.cell_of_heap k6 4
   have m5 := Lib.cell_of_heap k6 5
   have m6 := Lib.cell_of_heap k6 6
   simp [efkC] at m0 m1 m2 m3 m4 m5 m6
   rw [HCS.out] at m2
   have t0 := Lib.cell_of_heap HT6.out 0
   have t1 := Lib.cell_of_heap HT6.out 1
   simp at t0 t1
   have i0 := Lib.cell_of_heap HI6.out 0
   have i2 := Lib.cell_of_heap HI6.out 2
   simp at i0 i2
   have d1 : decide (17 + (kk : Int) ≤ lst) = false := decide_eq_false (by omega)
   have d2 : decide (17 + (kk : Int) < 17) = false := decide_eq_false (by omega)
   have d3 : decide (17 + (kk : Int) > 19) = false := decide_eq_false (by omega)
   have d4 : (ch'.toList == []) = false := by
    have h0 := neq_toList hrg.2.2.1
    simpa using h0
   have hwr : IntKind.i64.wrap (17 + (kk : Int) - 17) = (kk : Int) := by rw [IntKind.wrap_i64]; omega
   have hki : (kk : Int) < 3 := by omega
   clear k5 b5 hW6 b6 k6 q1 hr1 hx hy ho hrg hlk hls hoz hP hr HT1 HKJ HGJ HBJ HSUC hkt hgl
   unfold efkC at hrun HR1 HK6
   unfold effZero at hW5
   rw [HCS.out] at hrun HR1 HK6
   go_upto_region 12 with (first | (refine wpList_store_runK hrun rfl _ _ rfl rfl rfl ?_) | (refine wpList_load_mid rfl 47 _ rfl g1 (j * 7) rfl _ _ HR1.out Tryz.underlying47 rfl (by kernel_rfl) ?_) | fail)
   refine region_marks (m := { C := fun W => ∃ u : ByteArray, ApB W g q BT kk w.heap.size P sp #[.int .i64 (17 + (kk : Int)), .int .i64 d, .string cs, .string i.id, .string ⟨#[]⟩, .string i.cur, .slice (some ⟨BT, 0, none⟩) 1 1] ch' u (.cells #[.string i.id, .int .i64 i.kind, .string i.cur, .int .i64 i.places, .int .i64 i.issued, .int .i64 i.matures, .string i.fn, .string i.fd, .string i.cn, .string i.cd, .int .i64 i.months, .int .i64 i.count, .string i.other, .string i.sn, .string i.sd] 27 (0, 0)) ∧ Below w.heap.size w W, V := [fun v => v = .slice (some ⟨g, 0, none⟩) 3 cg, fun v => v = .int .i64 (kk : Int), fun v => v = .slice (some ⟨g, 0, none⟩) 3 cg, fun v => v = .int .i64 (kk : Int), fun v => v = .pointer (some ⟨g, kk, none⟩), fun v => v = .string o, fun v => v = .pointer (some ⟨q, 6, none⟩), fun v => v = .slice (some ⟨BT, 0, none⟩) 1 1, fun v => v = .pointer (some ⟨BT, 0, none⟩), fun v => v = .pointer (some ⟨BT, 1, none⟩), fun v => v = .string ch', fun v => v = .string r, fun v => v = .pointer (some ⟨g, kk, none⟩)], N := [(13, fun _ W => W.cell? ⟨g, kk, none⟩ = some (.string r))], Z := [(13, fun W => W.cell? ⟨g, kk, none⟩ = some (.string o))], E := [], F := [] }) (F := ?F) mixed (by kernel_rfl) (by kernel_rfl) (by kernel_rfl) (fun s => ?hF) ?hC ?hZ ?hs ?he
   case hF =>
    simp only [putAll, Act.put, List.setIfInBounds_toArray, List.set_cons_succ, List.set_cons_zero, Nat.reduceAdd, Nat.zero_add]
    exact rfl
   case hC => exact ⟨o, ⟨by rw [set_id HO.out]; exact HG6.out, HK6.out, HT6.out, HI6.out⟩, HB6.out.drew⟩
   case hZ => exact ⟨bRow_cell (show W6.drew.heap[g]? = _ from HG6.out) HO.out, True.intro⟩
   case hs =>
    iterate 13
     refine mSteps_cons (fun s W hW hd hz K hK => ?_) ?_
     focus
      simp [depsOk, Mk.ok, mkV, mkN, Region.binds] at hd
      try simp only [hd] at hK ⊢
      first
      | (go_simp
         refine hK _ _ ?_ _ rfl
         exact nx_pure hW (And.intro rfl True.intro) rfl)
      | (have z := hz.1 (by kernel_rfl)
         simp only at z
         go_simp
         refine hK _ _ ?_ _ rfl
         exact nx_pure hW (And.intro rfl True.intro) rfl)
      | (have z := Lib.cell_of_heap hW.choose_spec.1.e 6
         simp at z
         go_simp
         refine hK _ _ ?_ _ rfl
         exact nx_pure hW (And.intro rfl True.intro) rfl)
      | (have z := Lib.cell_of_heap hW.choose_spec.1.t 1
         simp at z
         go_simp
         refine hK _ _ ?_ _ rfl
         exact nx_pure hW (And.intro rfl True.intro) rfl)
      | (obtain ⟨u, hx, hbw⟩ := hW
         go_simp
         refine (HAD.out W hbw).mono ?_
         rintro e wn ⟨rfl, hb⟩
         refine hK _ _ ?_ _ rfl
         exact ⟨⟨u, hx.below hb, hbw.trans (hb.mono hbw.size)⟩, ⟨fun _ h => (hb.cell (Array.getElem?_eq_some_iff.1 hx.r).1).trans h, True.intro⟩, ⟨fun h => (hb.cell (Array.getElem?_eq_some_iff.1 hx.r).1).trans h, True.intro⟩, hb.size, And.intro rfl True.intro, (fun h => by cases h), True.intro⟩)
    refine mSteps_cons (fun s W hW hd hz K hK => ?_) ?_
    focus
     simp [depsOk, Mk.ok, mkV, mkN, Region.binds] at hd
     try simp only [hd] at hK ⊢
     obtain ⟨u, hx, hbw⟩ := hW
     have hf := bRow_frozen hx.r kk
     have hl : kk < (P.set kk u).length := by rw [List.length_set]; exact HPL.out
     have hcl := bRow_cell hx.r (k := kk) (x := u) (by simp [HPL.out])
     have hp := bRow_put hx.r hl r
     rw [List.set_set] at hp
     have hcl' := bRow_cell hp (k := kk) (x := r) (by simp [HPL.out])
     have hp2 := (Below.heap_setCell W ⟨g, kk, none⟩ (.string r) q (Ne.symm HNE.out.1)).trans hx.e
     have hp3 := (Below.heap_setCell W ⟨g, kk, none⟩ (.string r) BT HNE.out.2.2.1).trans hx.t
     have hp4 := (Below.heap_setCell W ⟨g, kk, none⟩ (.string r) w.heap.size HNE.out.2.2.2).trans hx.i
     have hb2 : Below w.heap.size w (W.setCell ⟨g, kk, none⟩ (.string r)) := hbw.setCell (p := ⟨g, kk, none⟩) HNE.out.2.1 _
     clear hd
     go_simp
     refine hK undef _ ?_ _ rfl
     exact ⟨⟨r, ⟨hp, hp2, hp3, hp4⟩, hb2⟩, ⟨True.intro, True.intro⟩, ⟨True.intro, True.intro⟩, by simp [World.setCell], And.intro True.intro hcl', fun h => (by cases h), True.intro⟩
    exact mSteps_nil
   case he =>
    intro s W hC hall hdd
    simp [allOk, Mk.ok, mkV, mkN] at hall
    obtain ⟨u, hx, hbw⟩ := hC
    have hcl := bRow_cell hx.r (k := kk) (x := u) (by simp [HPL.out])
    have eu : u = r := by simp [hall] at hcl; exact hcl.symm
    subst eu
    have HF : Hid (W.heap[g]? = some (bRow (applN b M (j + 1)) sp) ∧ W.heap[w.heap.size]? = some (.cells #[.string i.id, .int .i64 i.kind, .string i.cur, .int .i64 i.places, .int .i64 i.issued, .int .i64 i.matures, .string i.fn, .string i.fd, .string i.cn, .string i.cd, .int .i64 i.months, .int .i64 i.count, .string i.other, .string i.sn, .string i.sd] 27 (0, 0)) ∧ Below w.heap.size w W) := ⟨by rw [← HSET.out]; exact hx.r, hx.i, hbw⟩
    have a0 := Lib.cell_of_heap hx.e 0
    simp at a0
    clear hall hdd hcl hx hbw m0 m1 m2 m3 m4 m5 m6 t0 t1 i0 i2 d1 d2 d3 d4 hwr hrun hW5
    go_wp2_with fail
    go_roundw
    case rel => exact ⟨j + 1, 17 + (kk : Int), by go_num, rfl, by omega, HNX.out, HF.out.1, HF.out.2.1, HF.out.2.2⟩
    case measure => simp [intOf]; omega
  ·have hjn : j = n := by omega
   subst hjn
   have hcx : decide ((j : Int) < (j : Int)) = false := by simp
   go_wp2_with fail
   refine bodyPost_ret (results_tmp2 rfl _ _ _) rfl ?_
   exact ⟨g, cg, rfl, bRow_rds HGJ.out, HBJ.out⟩
end Go.Proofs.YtbkmhmaldljgmaaGreatDoor
