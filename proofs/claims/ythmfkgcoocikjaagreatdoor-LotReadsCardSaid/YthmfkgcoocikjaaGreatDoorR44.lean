/-
  The walks of trancheref19.Of and Total. (Printed by gen_ref42.py.)
-/
import Derived.Test.YthmfkgcoocikjaaGreatDoorP35
import Derived.Test.YthmfkgcoocikjaaGreatDoorR43
set_option linter.unusedVariables false
set_option linter.unusedSimpArgs false
namespace Go.Proofs.YthmfkgcoocikjaaGreatDoor
open Go.RowKit Tr Go.Shelf

structure RTV (n₀ : Nat) (w : World) (ad : Addr) (N c k : Nat) (l : Lot) (q cc : ByteArray)  (L : Array Bool) (W : World) (s6 s7 s22 s23 s24 s25 s26 s27 s28 s29 s30 s31 s32 s33 s34 s35 : Value) : Prop where
  k0 : L.getD 0 false = true → s22 = .string q
  k1 : L.getD 1 false = true → s23 = .slice (some ad) N c
  k2 : L.getD 2 false = true → s24 = .int .i64 (k : Int)
  k3 : L.getD 3 false = true → s25 = .pointer (some (ad.add (k * 7)))
  k4 : L.getD 4 false = true → s26 = .pointer (some ⟨(ad.add (k * 7)).block, (ad.add (k * 7)).off + 4, none⟩)
  k5 : L.getD 5 false = true → s27 = .string l.qty
  k6 : L.getD 6 false = true → s28 = .string (I (vl q + vl l.qty))
  k7 : L.getD 7 false = true → s29 = .string cc
  k8 : L.getD 8 false = true → s30 = .slice (some ad) N c
  k9 : L.getD 9 false = true → s31 = .int .i64 (k : Int)
  k10 : L.getD 10 false = true → s32 = .pointer (some (ad.add (k * 7)))
  k11 : L.getD 11 false = true → s33 = .pointer (some ⟨(ad.add (k * 7)).block, (ad.add (k * 7)).off + 5, none⟩)
  k12 : L.getD 12 false = true → s34 = .string l.cost
  k13 : L.getD 13 false = true → s35 = .string (I (vl cc + vl l.cost))
  k14 : L.getD 14 false = true → s6 = .string (I (vl q + vl l.qty))
  k15 : L.getD 15 false = true → s7 = .string (I (vl cc + vl l.cost))
  n14 : L.getD 14 false = false → s6 = .string q
  n15 : L.getD 15 false = false → s7 = .string cc
  be : Below n₀ w W
  q14 : L.getD 14 false = true → L.getD 6 false = true
  q15 : L.getD 15 false = true → L.getD 13 false = true
  q6 : L.getD 6 false = true → L.getD 0 false = true
  q13 : L.getD 13 false = true → L.getD 7 false = true
structure RTJ (n₀ : Nat) (w : World) (ad : Addr) (N c k : Nat) (l : Lot) (q cc : ByteArray) (x1 x2 x3 x4 x5 x9 x10 x11 x12 x13 x14 x15 x16 x17 x18 x19 x20 x21 x36 x37 : Value) (L : Array Bool) (a : Act) (W : World) : Prop where
  sz : L.size = 16
  fr : ∃ s6 s7 s22 s23 s24 s25 s26 s27 s28 s29 s30 s31 s32 s33 s34 s35 : Value, a = { tmps := #[.slice (some ad) N c, x1, x2, x3, x4, x5, s6, s7, .int .i64 (k : Int), x9, x10, x11, x12, x13, x14, x15, x16, x17, x18, x19, x20, x21, s22, s23, s24, s25, s26, s27, s28, s29, s30, s31, s32, s33, s34, s35, x36, x37], defers := [] } ∧ RTV n₀ w ad N c k l q cc  L W s6 s7 s22 s23 s24 s25 s26 s27 s28 s29 s30 s31 s32 s33 s34 s35

set_option maxHeartbeats 4000000 in
set_option maxRecDepth 100000 in
theorem rTotal19_any (n₀ : Nat) (A : Option Addr) (ls : List SLot) (c : Nat) (s : ByteArray) (w : World) (hlen : ls.length ≤ 1000000) (hR : RdB n₀ w A ls) (hnw : n₀ ≤ w.heap.size) :
    Calls Tryz.prog 12 #[.slice A ls.length c, .string s] w fun e w' => e = .returned (.tuple #[.string (I (sumBy qtyOf (ownL ls s))), .string (I (sumBy costOf (ownL ls s)))]) ∧ Below n₀ w w' := by
  have HR := Lib.hid hR
  have HN0 := Lib.hid hnw
  clear hR hnw
  obtain ⟨K, hK⟩ : ∃ K, K = 1000 := ⟨_, rfl⟩
  have HKK := Lib.hid hK
  clear hK
  go_enter Tryz.func12, Tryz.ntmps12
  go_wp2_with fail
  go_loopw [6, 7, 8] (fun v6 v7 v8 wr => ∃ (k : Nat) (q cc : ByteArray), v6 = .string q ∧ v7 = .string cc ∧ v8 = .int .i64 (k : Int) ∧ k ≤ ls.length ∧ q = I (sumBy qtyOf (ownL (ls.take k) s)) ∧ cc = I (sumBy costOf (ownL (ls.take k) s)) ∧ Below n₀ w wr) (fun _ _ v _ => ls.length - (intOf v).toNat)
  case atStart => exact ⟨0, _, _, rfl, rfl, rfl, by omega, zero_eq, zero_eq, Below.refl _ _⟩
  case round =>
    obtain ⟨k, q, cc, rfl, rfl, rfl, hk, hq, hcc, hb⟩ := hrel
    have HQ := Lib.hid hq
    have HCC := Lib.hid hcc
    have HB := Lib.hid hb
    clear hq hcc hb
    rcases Nat.lt_or_ge k ls.length with hlt | hge
    · obtain ⟨x, hl⟩ : ∃ x, ls[k]? = some x := ⟨_, List.getElem?_eq_getElem hlt⟩
      obtain ⟨ad, rfl, had, hcell⟩ := HR.out (by intro e; rw [e] at hlt; cases hlt)
      have hcx : decide ((k : Int) < (ls.length : Int)) = true := by simp; omega
      have HKN : Hid ((k : Int) < (ls.length : Int)) := by show (k : Int) < _; omega
      have HC : Hid (∀ W, Below n₀ w W → LotAt W (ad.add (k * 7)) x.1) := fun W hW => (hcell k x hl).below hW (by rw [add_block]; exact had)
      obtain ⟨c0, c1, c2, c3, c4, c5, c6⟩ := HC.out wr HB.out
      have HOS := Lib.hid (ownL_succ (s := s) hl)
      have hse := str_eq x.1.inst s
      clear hcell hl
      by_cases he : x.1.inst = s
      · rw [decide_eq_true he] at hse
        have hos := HOS.out
        rw [if_pos he] at hos
        have HSQ : Hid (I (vl q + vl x.1.qty) = I (sumBy qtyOf (ownL (ls.take (k + 1)) s))) := by rw [Hid, HQ.out, vl_I, hos, sumBy_snoc]; rfl
        have HSC : Hid (I (vl cc + vl x.1.cost) = I (sumBy costOf (ownL (ls.take (k + 1)) s))) := by rw [Hid, HCC.out, vl_I, hos, sumBy_snoc]; rfl
        have hlen' := Nat.lt_of_le_of_lt (List.length_take_le k ls) (by omega : k < 10 ^ 7)
        have zq := sumBy_size (qty_lt HKK.out) (ownL (ls.take k) s) (Nat.lt_of_le_of_lt (List.length_filter_le _ _) hlen')
        have zc := sumBy_size (cost_lt HKK.out) (ownL (ls.take k) s) (Nat.lt_of_le_of_lt (List.length_filter_le _ _) hlen')
        rw [← HQ.out] at zq
        rw [← HCC.out] at zc
        have hkk := HKK.out
        have zxq : x.1.qty.size ≤ 1000 := x.2.2.2.1
        have zxc : x.1.cost.size ≤ 1000 := x.2.2.2.2.1
        have HA1 := Lib.hid (fun W => rAdd_any q x.1.qty (by omega) (by omega) W)
        have HA2 := Lib.hid (fun W => rAdd_any cc x.1.cost (by omega) (by omega) W)
        clear he hos hlen' zq zc zxq zxc hkk
        go_upto_region 6 with fail
        clear c0 c1 c2 c3 c4 c5 c6
        have mixed : Tryz.prog.follows .mixedOrders = true := by kernel_rfl
        refine wp_region_any mixed (wpAny_inv (RTJ n₀ w ad _ c k x.1 q cc _ _ _ _ _ _ _ _ _ _ _ _ _ _ _ _ _ _ _ _) ?stRT ?dnRT _ _ _ _ ⟨by simp, ⟨_, _, _, _, _, _, _, _, _, _, _, _, _, _, _, _, rfl, fun h => by simp at h, fun h => by simp at h, fun h => by simp at h, fun h => by simp at h, fun h => by simp at h, fun h => by simp at h, fun h => by simp at h, fun h => by simp at h, fun h => by simp at h, fun h => by simp at h, fun h => by simp at h, fun h => by simp at h, fun h => by simp at h, fun h => by simp at h, fun h => by simp at h, fun h => by simp at h, fun _ => rfl, fun _ => rfl, HB.out.trans ((Below.refl _ _).drew.mono (Nat.le_trans HN0.out HB.out.size)), fun h => by simp at h, fun h => by simp at h, fun h => by simp at h, fun h => by simp at h⟩⟩ (by decide))
        case dnRT =>
          intro L a w' hj hr
          have all : ∀ i, i < 16 → L.getD i false = true := by
            intro i
            induction i using Nat.strongRecOn with
            | ind i ih =>
              intro hi
              refine (off_or_on L i).resolve_left fun h => ?_
              refine List.eq_nil_iff_forall_not_mem.1 hr i (ready_of (by rw [hj.sz]; exact hi) h (Array.getElem?_eq_getElem (by simpa using hi)) (fun e he hbd => ih e.on ?_ ?_))
              all_goals
                rcases (show i = 0 ∨ i = 1 ∨ i = 2 ∨ i = 3 ∨ i = 4 ∨ i = 5 ∨ i = 6 ∨ i = 7 ∨ i = 8 ∨ i = 9 ∨ i = 10 ∨ i = 11 ∨ i = 12 ∨ i = 13 ∨ i = 14 ∨ i = 15 from by omega) with rfl | rfl | rfl | rfl | rfl | rfl | rfl | rfl | rfl | rfl | rfl | rfl | rfl | rfl | rfl | rfl
                all_goals
                  first | (simp at he; done) | (simp at he; first | (subst he; first | decide | (exact absurd hbd (by decide))) | (rcases he with rfl | rfl | rfl | rfl | rfl | rfl | rfl | rfl | rfl | rfl | rfl | rfl | rfl | rfl | rfl | rfl | rfl | rfl | rfl | rfl | rfl <;> first | decide | (exact absurd hbd (by decide))) | (rcases he with rfl | rfl | rfl | rfl | rfl | rfl | rfl | rfl | rfl | rfl | rfl | rfl | rfl | rfl | rfl | rfl | rfl | rfl | rfl | rfl <;> first | decide | (exact absurd hbd (by decide))) | (rcases he with rfl | rfl | rfl | rfl | rfl | rfl | rfl | rfl | rfl | rfl | rfl | rfl | rfl | rfl | rfl | rfl | rfl | rfl | rfl <;> first | decide | (exact absurd hbd (by decide))) | (rcases he with rfl | rfl | rfl | rfl | rfl | rfl | rfl | rfl | rfl | rfl | rfl | rfl | rfl | rfl | rfl | rfl | rfl | rfl <;> first | decide | (exact absurd hbd (by decide))) | (rcases he with rfl | rfl | rfl | rfl | rfl | rfl | rfl | rfl | rfl | rfl | rfl | rfl | rfl | rfl | rfl | rfl | rfl <;> first | decide | (exact absurd hbd (by decide))) | (rcases he with rfl | rfl | rfl | rfl | rfl | rfl | rfl | rfl | rfl | rfl | rfl | rfl | rfl | rfl | rfl | rfl <;> first | decide | (exact absurd hbd (by decide))) | (rcases he with rfl | rfl | rfl | rfl | rfl | rfl | rfl | rfl | rfl | rfl | rfl | rfl | rfl | rfl | rfl <;> first | decide | (exact absurd hbd (by decide))) | (rcases he with rfl | rfl | rfl | rfl | rfl | rfl | rfl | rfl | rfl | rfl | rfl | rfl | rfl | rfl <;> first | decide | (exact absurd hbd (by decide))) | (rcases he with rfl | rfl | rfl | rfl | rfl | rfl | rfl | rfl | rfl | rfl | rfl | rfl | rfl <;> first | decide | (exact absurd hbd (by decide))) | (rcases he with rfl | rfl | rfl | rfl | rfl | rfl | rfl | rfl | rfl | rfl | rfl | rfl <;> first | decide | (exact absurd hbd (by decide))) | (rcases he with rfl | rfl | rfl | rfl | rfl | rfl | rfl | rfl | rfl | rfl | rfl <;> first | decide | (exact absurd hbd (by decide))) | (rcases he with rfl | rfl | rfl | rfl | rfl | rfl | rfl | rfl | rfl | rfl <;> first | decide | (exact absurd hbd (by decide))) | (rcases he with rfl | rfl | rfl | rfl | rfl | rfl | rfl | rfl | rfl <;> first | decide | (exact absurd hbd (by decide))) | (rcases he with rfl | rfl | rfl | rfl | rfl | rfl | rfl | rfl <;> first | decide | (exact absurd hbd (by decide))) | (rcases he with rfl | rfl | rfl | rfl | rfl | rfl | rfl <;> first | decide | (exact absurd hbd (by decide))) | (rcases he with rfl | rfl | rfl | rfl | rfl | rfl <;> first | decide | (exact absurd hbd (by decide))) | (rcases he with rfl | rfl | rfl | rfl | rfl <;> first | decide | (exact absurd hbd (by decide))) | (rcases he with rfl | rfl | rfl | rfl <;> first | decide | (exact absurd hbd (by decide))) | (rcases he with rfl | rfl | rfl <;> first | decide | (exact absurd hbd (by decide))) | (rcases he with rfl | rfl <;> first | decide | (exact absurd hbd (by decide))))
          obtain ⟨s6, s7, s22, s23, s24, s25, s26, s27, s28, s29, s30, s31, s32, s33, s34, s35, rfl, hv⟩ := hj.fr
          have e6 := hv.k14 (all 14 (by omega)); have e7 := hv.k15 (all 15 (by omega))
          subst e6 e7
          have HF := Lib.hid hv.be
          clear all hv hj hr
          dsimp only
          go_wp2_with fail
          go_roundw
          case rel => exact ⟨k + 1, _, _, rfl, rfl, (by go_num), (by omega), HSQ.out, HSC.out, HF.out⟩
          case measure => simp [intOf]; omega
        case stRT =>
          intro L a w' hj i hi
          obtain ⟨hun, o, ho, hall⟩ := mem_ready.1 hi
          have hoff := getD_off hun
          have hlt := (Array.getElem?_eq_some_iff.1 ho).1
          simp at hlt
          obtain ⟨s6, s7, s22, s23, s24, s25, s26, s27, s28, s29, s30, s31, s32, s33, s34, s35, rfl, hv⟩ := hj.fr
          have HV := Lib.hid hv
          have HJ := Lib.hid hj
          clear hv hj
          rcases (show i = 0 ∨ i = 1 ∨ i = 2 ∨ i = 3 ∨ i = 4 ∨ i = 5 ∨ i = 6 ∨ i = 7 ∨ i = 8 ∨ i = 9 ∨ i = 10 ∨ i = 11 ∨ i = 12 ∨ i = 13 ∨ i = 14 ∨ i = 15 from by omega) with rfl | rfl | rfl | rfl | rfl | rfl | rfl | rfl | rfl | rfl | rfl | rfl | rfl | rfl | rfl | rfl
          · simp at ho
            subst ho
            clear hall hi
            have h14 : L.getD 14 false = false := (off_or_on L 14).resolve_right (fun h => not_on hoff (HV.out.q6 (HV.out.q14 h)))
            have e0 := HV.out.n14 h14
            subst e0
            refine wpOp_step rfl (fun K' hK' => ?_)
            have HK := Lib.hid hK'
            clear hK'
            go_simp
            exact HK.out _ _ ⟨by simp [HJ.out.sz], ⟨_, _, _, _, _, _, _, _, _, _, _, _, _, _, _, _, rfl, fun _ => rfl, fun h0 => HV.out.k1 (getD_dn (by decide) h0), fun h0 => HV.out.k2 (getD_dn (by decide) h0), fun h0 => HV.out.k3 (getD_dn (by decide) h0), fun h0 => HV.out.k4 (getD_dn (by decide) h0), fun h0 => HV.out.k5 (getD_dn (by decide) h0), fun h0 => HV.out.k6 (getD_dn (by decide) h0), fun h0 => HV.out.k7 (getD_dn (by decide) h0), fun h0 => HV.out.k8 (getD_dn (by decide) h0), fun h0 => HV.out.k9 (getD_dn (by decide) h0), fun h0 => HV.out.k10 (getD_dn (by decide) h0), fun h0 => HV.out.k11 (getD_dn (by decide) h0), fun h0 => HV.out.k12 (getD_dn (by decide) h0), fun h0 => HV.out.k13 (getD_dn (by decide) h0), fun h => (not_on h14 (getD_dn (by decide) h)).elim, fun h0 => HV.out.k15 (getD_dn (by decide) h0), fun _ => rfl, fun h0 => HV.out.n15 (getD_df (by decide) h0), HV.out.be, fun h => getD_up hun (HV.out.q14 (getD_dn (by decide) h)), fun h => getD_up hun (HV.out.q15 (getD_dn (by decide) h)), fun h => getD_up hun (HV.out.q6 (getD_dn (by decide) h)), fun h => getD_up hun (HV.out.q13 (getD_dn (by decide) h))⟩⟩
          · simp at ho
            subst ho
            clear hall hi
            refine wpOp_step rfl (fun K' hK' => ?_)
            have HK := Lib.hid hK'
            clear hK'
            go_simp
            exact HK.out _ _ ⟨by simp [HJ.out.sz], ⟨_, _, _, _, _, _, _, _, _, _, _, _, _, _, _, _, rfl, fun h0 => HV.out.k0 (getD_dn (by decide) h0), fun _ => rfl, fun h0 => HV.out.k2 (getD_dn (by decide) h0), fun h0 => HV.out.k3 (getD_dn (by decide) h0), fun h0 => HV.out.k4 (getD_dn (by decide) h0), fun h0 => HV.out.k5 (getD_dn (by decide) h0), fun h0 => HV.out.k6 (getD_dn (by decide) h0), fun h0 => HV.out.k7 (getD_dn (by decide) h0), fun h0 => HV.out.k8 (getD_dn (by decide) h0), fun h0 => HV.out.k9 (getD_dn (by decide) h0), fun h0 => HV.out.k10 (getD_dn (by decide) h0), fun h0 => HV.out.k11 (getD_dn (by decide) h0), fun h0 => HV.out.k12 (getD_dn (by decide) h0), fun h0 => HV.out.k13 (getD_dn (by decide) h0), fun h0 => HV.out.k14 (getD_dn (by decide) h0), fun h0 => HV.out.k15 (getD_dn (by decide) h0), fun h0 => HV.out.n14 (getD_df (by decide) h0), fun h0 => HV.out.n15 (getD_df (by decide) h0), HV.out.be, fun h => getD_up hun (HV.out.q14 (getD_dn (by decide) h)), fun h => getD_up hun (HV.out.q15 (getD_dn (by decide) h)), fun h => getD_up hun (HV.out.q6 (getD_dn (by decide) h)), fun h => getD_up hun (HV.out.q13 (getD_dn (by decide) h))⟩⟩
          · simp at ho
            subst ho
            clear hall hi
            refine wpOp_step rfl (fun K' hK' => ?_)
            have HK := Lib.hid hK'
            clear hK'
            go_simp
            exact HK.out _ _ ⟨by simp [HJ.out.sz], ⟨_, _, _, _, _, _, _, _, _, _, _, _, _, _, _, _, rfl, fun h0 => HV.out.k0 (getD_dn (by decide) h0), fun h0 => HV.out.k1 (getD_dn (by decide) h0), fun _ => rfl, fun h0 => HV.out.k3 (getD_dn (by decide) h0), fun h0 => HV.out.k4 (getD_dn (by decide) h0), fun h0 => HV.out.k5 (getD_dn (by decide) h0), fun h0 => HV.out.k6 (getD_dn (by decide) h0), fun h0 => HV.out.k7 (getD_dn (by decide) h0), fun h0 => HV.out.k8 (getD_dn (by decide) h0), fun h0 => HV.out.k9 (getD_dn (by decide) h0), fun h0 => HV.out.k10 (getD_dn (by decide) h0), fun h0 => HV.out.k11 (getD_dn (by decide) h0), fun h0 => HV.out.k12 (getD_dn (by decide) h0), fun h0 => HV.out.k13 (getD_dn (by decide) h0), fun h0 => HV.out.k14 (getD_dn (by decide) h0), fun h0 => HV.out.k15 (getD_dn (by decide) h0), fun h0 => HV.out.n14 (getD_df (by decide) h0), fun h0 => HV.out.n15 (getD_df (by decide) h0), HV.out.be, fun h => getD_up hun (HV.out.q14 (getD_dn (by decide) h)), fun h => getD_up hun (HV.out.q15 (getD_dn (by decide) h)), fun h => getD_up hun (HV.out.q6 (getD_dn (by decide) h)), fun h => getD_up hun (HV.out.q13 (getD_dn (by decide) h))⟩⟩
          · simp at ho
            subst ho
            have h1x : L.getD 1 false = true := hall { on := 1, ground := Ground.data } (by simp) (by decide)
            have h2x : L.getD 2 false = true := hall { on := 2, ground := Ground.data } (by simp) (by decide)
            have H1 := Lib.hid h1x
            have H2 := Lib.hid h2x
            clear hall hi h1x h2x
            have e0 := HV.out.k1 H1.out
            subst e0
            have e1 := HV.out.k2 H2.out
            subst e1
            have hb := HKN.out
            refine wpOp_step rfl (fun K' hK' => ?_)
            have HK := Lib.hid hK'
            clear hK'
            go_simp
            exact HK.out _ _ ⟨by simp [HJ.out.sz], ⟨_, _, _, _, _, _, _, _, _, _, _, _, _, _, _, _, rfl, fun h0 => HV.out.k0 (getD_dn (by decide) h0), fun h0 => HV.out.k1 (getD_dn (by decide) h0), fun h0 => HV.out.k2 (getD_dn (by decide) h0), fun _ => rfl, fun h0 => HV.out.k4 (getD_dn (by decide) h0), fun h0 => HV.out.k5 (getD_dn (by decide) h0), fun h0 => HV.out.k6 (getD_dn (by decide) h0), fun h0 => HV.out.k7 (getD_dn (by decide) h0), fun h0 => HV.out.k8 (getD_dn (by decide) h0), fun h0 => HV.out.k9 (getD_dn (by decide) h0), fun h0 => HV.out.k10 (getD_dn (by decide) h0), fun h0 => HV.out.k11 (getD_dn (by decide) h0), fun h0 => HV.out.k12 (getD_dn (by decide) h0), fun h0 => HV.out.k13 (getD_dn (by decide) h0), fun h0 => HV.out.k14 (getD_dn (by decide) h0), fun h0 => HV.out.k15 (getD_dn (by decide) h0), fun h0 => HV.out.n14 (getD_df (by decide) h0), fun h0 => HV.out.n15 (getD_df (by decide) h0), HV.out.be, fun h => getD_up hun (HV.out.q14 (getD_dn (by decide) h)), fun h => getD_up hun (HV.out.q15 (getD_dn (by decide) h)), fun h => getD_up hun (HV.out.q6 (getD_dn (by decide) h)), fun h => getD_up hun (HV.out.q13 (getD_dn (by decide) h))⟩⟩
          · simp at ho
            subst ho
            have h3x : L.getD 3 false = true := hall { on := 3, ground := Ground.data } (by simp) (by decide)
            have H3 := Lib.hid h3x
            clear hall hi h3x
            have e0 := HV.out.k3 H3.out
            subst e0
            refine wpOp_step rfl (fun K' hK' => ?_)
            have HK := Lib.hid hK'
            clear hK'
            go_simp
            exact HK.out _ _ ⟨by simp [HJ.out.sz], ⟨_, _, _, _, _, _, _, _, _, _, _, _, _, _, _, _, rfl, fun h0 => HV.out.k0 (getD_dn (by decide) h0), fun h0 => HV.out.k1 (getD_dn (by decide) h0), fun h0 => HV.out.k2 (getD_dn (by decide) h0), fun h0 => HV.out.k3 (getD_dn (by decide) h0), fun _ => rfl, fun h0 => HV.out.k5 (getD_dn (by decide) h0), fun h0 => HV.out.k6 (getD_dn (by decide) h0), fun h0 => HV.out.k7 (getD_dn (by decide) h0), fun h0 => HV.out.k8 (getD_dn (by decide) h0), fun h0 => HV.out.k9 (getD_dn (by decide) h0), fun h0 => HV.out.k10 (getD_dn (by decide) h0), fun h0 => HV.out.k11 (getD_dn (by decide) h0), fun h0 => HV.out.k12 (getD_dn (by decide) h0), fun h0 => HV.out.k13 (getD_dn (by decide) h0), fun h0 => HV.out.k14 (getD_dn (by decide) h0), fun h0 => HV.out.k15 (getD_dn (by decide) h0), fun h0 => HV.out.n14 (getD_df (by decide) h0), fun h0 => HV.out.n15 (getD_df (by decide) h0), HV.out.be, fun h => getD_up hun (HV.out.q14 (getD_dn (by decide) h)), fun h => getD_up hun (HV.out.q15 (getD_dn (by decide) h)), fun h => getD_up hun (HV.out.q6 (getD_dn (by decide) h)), fun h => getD_up hun (HV.out.q13 (getD_dn (by decide) h))⟩⟩
          · simp at ho
            subst ho
            have h4x : L.getD 4 false = true := hall { on := 4, ground := Ground.data } (by simp) (by decide)
            have H4 := Lib.hid h4x
            clear hall hi h4x
            have e0 := HV.out.k4 H4.out
            subst e0
            obtain ⟨p0, p1, p2, p3, p4, p5, p6⟩ := HC.out _ HV.out.be
            refine wpOp_step rfl (fun K' hK' => ?_)
            have HK := Lib.hid hK'
            clear hK'
            go_simp
            exact HK.out _ _ ⟨by simp [HJ.out.sz], ⟨_, _, _, _, _, _, _, _, _, _, _, _, _, _, _, _, rfl, fun h0 => HV.out.k0 (getD_dn (by decide) h0), fun h0 => HV.out.k1 (getD_dn (by decide) h0), fun h0 => HV.out.k2 (getD_dn (by decide) h0), fun h0 => HV.out.k3 (getD_dn (by decide) h0), fun h0 => HV.out.k4 (getD_dn (by decide) h0), fun _ => rfl, fun h0 => HV.out.k6 (getD_dn (by decide) h0), fun h0 => HV.out.k7 (getD_dn (by decide) h0), fun h0 => HV.out.k8 (getD_dn (by decide) h0), fun h0 => HV.out.k9 (getD_dn (by decide) h0), fun h0 => HV.out.k10 (getD_dn (by decide) h0), fun h0 => HV.out.k11 (getD_dn (by decide) h0), fun h0 => HV.out.k12 (getD_dn (by decide) h0), fun h0 => HV.out.k13 (getD_dn (by decide) h0), fun h0 => HV.out.k14 (getD_dn (by decide) h0), fun h0 => HV.out.k15 (getD_dn (by decide) h0), fun h0 => HV.out.n14 (getD_df (by decide) h0), fun h0 => HV.out.n15 (getD_df (by decide) h0), HV.out.be, fun h => getD_up hun (HV.out.q14 (getD_dn (by decide) h)), fun h => getD_up hun (HV.out.q15 (getD_dn (by decide) h)), fun h => getD_up hun (HV.out.q6 (getD_dn (by decide) h)), fun h => getD_up hun (HV.out.q13 (getD_dn (by decide) h))⟩⟩
          · simp at ho
            subst ho
            have h0x : L.getD 0 false = true := hall { on := 0, ground := Ground.data } (by simp) (by decide)
            have h5x : L.getD 5 false = true := hall { on := 5, ground := Ground.data } (by simp) (by decide)
            have H0 := Lib.hid h0x
            have H5 := Lib.hid h5x
            clear hall hi h0x h5x
            have e0 := HV.out.k0 H0.out
            subst e0
            have e1 := HV.out.k5 H5.out
            subst e1
            refine wpOp_step rfl (fun K' hK' => ?_)
            have HK := Lib.hid hK'
            clear hK'
            go_simp
            refine (HA1.out _).mono ?_
            rintro e wn ⟨rfl, bn⟩
            exact HK.out _ _ ⟨by simp [HJ.out.sz], ⟨_, _, _, _, _, _, _, _, _, _, _, _, _, _, _, _, rfl, fun h0 => HV.out.k0 (getD_dn (by decide) h0), fun h0 => HV.out.k1 (getD_dn (by decide) h0), fun h0 => HV.out.k2 (getD_dn (by decide) h0), fun h0 => HV.out.k3 (getD_dn (by decide) h0), fun h0 => HV.out.k4 (getD_dn (by decide) h0), fun h0 => HV.out.k5 (getD_dn (by decide) h0), fun _ => rfl, fun h0 => HV.out.k7 (getD_dn (by decide) h0), fun h0 => HV.out.k8 (getD_dn (by decide) h0), fun h0 => HV.out.k9 (getD_dn (by decide) h0), fun h0 => HV.out.k10 (getD_dn (by decide) h0), fun h0 => HV.out.k11 (getD_dn (by decide) h0), fun h0 => HV.out.k12 (getD_dn (by decide) h0), fun h0 => HV.out.k13 (getD_dn (by decide) h0), fun h0 => HV.out.k14 (getD_dn (by decide) h0), fun h0 => HV.out.k15 (getD_dn (by decide) h0), fun h0 => HV.out.n14 (getD_df (by decide) h0), fun h0 => HV.out.n15 (getD_df (by decide) h0), HV.out.be.trans (bn.mono (Nat.le_trans HN0.out HV.out.be.size)), fun h => getD_up hun (HV.out.q14 (getD_dn (by decide) h)), fun h => getD_up hun (HV.out.q15 (getD_dn (by decide) h)), fun _ => getD_up hun H0.out, fun h => getD_up hun (HV.out.q13 (getD_dn (by decide) h))⟩⟩
          · simp at ho
            subst ho
            clear hall hi
            have h15 : L.getD 15 false = false := (off_or_on L 15).resolve_right (fun h => not_on hoff (HV.out.q13 (HV.out.q15 h)))
            have e0 := HV.out.n15 h15
            subst e0
            refine wpOp_step rfl (fun K' hK' => ?_)
            have HK := Lib.hid hK'
            clear hK'
            go_simp
            exact HK.out _ _ ⟨by simp [HJ.out.sz], ⟨_, _, _, _, _, _, _, _, _, _, _, _, _, _, _, _, rfl, fun h0 => HV.out.k0 (getD_dn (by decide) h0), fun h0 => HV.out.k1 (getD_dn (by decide) h0), fun h0 => HV.out.k2 (getD_dn (by decide) h0), fun h0 => HV.out.k3 (getD_dn (by decide) h0), fun h0 => HV.out.k4 (getD_dn (by decide) h0), fun h0 => HV.out.k5 (getD_dn (by decide) h0), fun h0 => HV.out.k6 (getD_dn (by decide) h0), fun _ => rfl, fun h0 => HV.out.k8 (getD_dn (by decide) h0), fun h0 => HV.out.k9 (getD_dn (by decide) h0), fun h0 => HV.out.k10 (getD_dn (by decide) h0), fun h0 => HV.out.k11 (getD_dn (by decide) h0), fun h0 => HV.out.k12 (getD_dn (by decide) h0), fun h0 => HV.out.k13 (getD_dn (by decide) h0), fun h0 => HV.out.k14 (getD_dn (by decide) h0), fun h => (not_on h15 (getD_dn (by decide) h)).elim, fun h0 => HV.out.n14 (getD_df (by decide) h0), fun _ => rfl, HV.out.be, fun h => getD_up hun (HV.out.q14 (getD_dn (by decide) h)), fun h => getD_up hun (HV.out.q15 (getD_dn (by decide) h)), fun h => getD_up hun (HV.out.q6 (getD_dn (by decide) h)), fun h => getD_up hun (HV.out.q13 (getD_dn (by decide) h))⟩⟩
          · simp at ho
            subst ho
            clear hall hi
            refine wpOp_step rfl (fun K' hK' => ?_)
            have HK := Lib.hid hK'
            clear hK'
            go_simp
            exact HK.out _ _ ⟨by simp [HJ.out.sz], ⟨_, _, _, _, _, _, _, _, _, _, _, _, _, _, _, _, rfl, fun h0 => HV.out.k0 (getD_dn (by decide) h0), fun h0 => HV.out.k1 (getD_dn (by decide) h0), fun h0 => HV.out.k2 (getD_dn (by decide) h0), fun h0 => HV.out.k3 (getD_dn (by decide) h0), fun h0 => HV.out.k4 (getD_dn (by decide) h0), fun h0 => HV.out.k5 (getD_dn (by decide) h0), fun h0 => HV.out.k6 (getD_dn (by decide) h0), fun h0 => HV.out.k7 (getD_dn (by decide) h0), fun _ => rfl, fun h0 => HV.out.k9 (getD_dn (by decide) h0), fun h0 => HV.out.k10 (getD_dn (by decide) h0), fun h0 => HV.out.k11 (getD_dn (by decide) h0), fun h0 => HV.out.k12 (getD_dn (by decide) h0), fun h0 => HV.out.k13 (getD_dn (by decide) h0), fun h0 => HV.out.k14 (getD_dn (by decide) h0), fun h0 => HV.out.k15 (getD_dn (by decide) h0), fun h0 => HV.out.n14 (getD_df (by decide) h0), fun h0 => HV.out.n15 (getD_df (by decide) h0), HV.out.be, fun h => getD_up hun (HV.out.q14 (getD_dn (by decide) h)), fun h => getD_up hun (HV.out.q15 (getD_dn (by decide) h)), fun h => getD_up hun (HV.out.q6 (getD_dn (by decide) h)), fun h => getD_up hun (HV.out.q13 (getD_dn (by decide) h))⟩⟩
          · simp at ho
            subst ho
            clear hall hi
            refine wpOp_step rfl (fun K' hK' => ?_)
            have HK := Lib.hid hK'
            clear hK'
            go_simp
            exact HK.out _ _ ⟨by simp [HJ.out.sz], ⟨_, _, _, _, _, _, _, _, _, _, _, _, _, _, _, _, rfl, fun h0 => HV.out.k0 (getD_dn (by decide) h0), fun h0 => HV.out.k1 (getD_dn (by decide) h0), fun h0 => HV.out.k2 (getD_dn (by decide) h0), fun h0 => HV.out.k3 (getD_dn (by decide) h0), fun h0 => HV.out.k4 (getD_dn (by decide) h0), fun h0 => HV.out.k5 (getD_dn (by decide) h0), fun h0 => HV.out.k6 (getD_dn (by decide) h0), fun h0 => HV.out.k7 (getD_dn (by decide) h0), fun h0 => HV.out.k8 (getD_dn (by decide) h0), fun _ => rfl, fun h0 => HV.out.k10 (getD_dn (by decide) h0), fun h0 => HV.out.k11 (getD_dn (by decide) h0), fun h0 => HV.out.k12 (getD_dn (by decide) h0), fun h0 => HV.out.k13 (getD_dn (by decide) h0), fun h0 => HV.out.k14 (getD_dn (by decide) h0), fun h0 => HV.out.k15 (getD_dn (by decide) h0), fun h0 => HV.out.n14 (getD_df (by decide) h0), fun h0 => HV.out.n15 (getD_df (by decide) h0), HV.out.be, fun h => getD_up hun (HV.out.q14 (getD_dn (by decide) h)), fun h => getD_up hun (HV.out.q15 (getD_dn (by decide) h)), fun h => getD_up hun (HV.out.q6 (getD_dn (by decide) h)), fun h => getD_up hun (HV.out.q13 (getD_dn (by decide) h))⟩⟩
          · simp at ho
            subst ho
            have h8x : L.getD 8 false = true := hall { on := 8, ground := Ground.data } (by simp) (by decide)
            have h9x : L.getD 9 false = true := hall { on := 9, ground := Ground.data } (by simp) (by decide)
            have H8 := Lib.hid h8x
            have H9 := Lib.hid h9x
            clear hall hi h8x h9x
            have e0 := HV.out.k8 H8.out
            subst e0
            have e1 := HV.out.k9 H9.out
            subst e1
            have hb := HKN.out
            refine wpOp_step rfl (fun K' hK' => ?_)
            have HK := Lib.hid hK'
            clear hK'
            go_simp
            exact HK.out _ _ ⟨by simp [HJ.out.sz], ⟨_, _, _, _, _, _, _, _, _, _, _, _, _, _, _, _, rfl, fun h0 => HV.out.k0 (getD_dn (by decide) h0), fun h0 => HV.out.k1 (getD_dn (by decide) h0), fun h0 => HV.out.k2 (getD_dn (by decide) h0), fun h0 => HV.out.k3 (getD_dn (by decide) h0), fun h0 => HV.out.k4 (getD_dn (by decide) h0), fun h0 => HV.out.k5 (getD_dn (by decide) h0), fun h0 => HV.out.k6 (getD_dn (by decide) h0), fun h0 => HV.out.k7 (getD_dn (by decide) h0), fun h0 => HV.out.k8 (getD_dn (by decide) h0), fun h0 => HV.out.k9 (getD_dn (by decide) h0), fun _ => rfl, fun h0 => HV.out.k11 (getD_dn (by decide) h0), fun h0 => HV.out.k12 (getD_dn (by decide) h0), fun h0 => HV.out.k13 (getD_dn (by decide) h0), fun h0 => HV.out.k14 (getD_dn (by decide) h0), fun h0 => HV.out.k15 (getD_dn (by decide) h0), fun h0 => HV.out.n14 (getD_df (by decide) h0), fun h0 => HV.out.n15 (getD_df (by decide) h0), HV.out.be, fun h => getD_up hun (HV.out.q14 (getD_dn (by decide) h)), fun h => getD_up hun (HV.out.q15 (getD_dn (by decide) h)), fun h => getD_up hun (HV.out.q6 (getD_dn (by decide) h)), fun h => getD_up hun (HV.out.q13 (getD_dn (by decide) h))⟩⟩
          · simp at ho
            subst ho
            have h10x : L.getD 10 false = true := hall { on := 10, ground := Ground.data } (by simp) (by decide)
            have H10 := Lib.hid h10x
            clear hall hi h10x
            have e0 := HV.out.k10 H10.out
            subst e0
            refine wpOp_step rfl (fun K' hK' => ?_)
            have HK := Lib.hid hK'
            clear hK'
            go_simp
            exact HK.out _ _ ⟨by simp [HJ.out.sz], ⟨_, _, _, _, _, _, _, _, _, _, _, _, _, _, _, _, rfl, fun h0 => HV.out.k0 (getD_dn (by decide) h0), fun h0 => HV.out.k1 (getD_dn (by decide) h0), fun h0 => HV.out.k2 (getD_dn (by decide) h0), fun h0 => HV.out.k3 (getD_dn (by decide) h0), fun h0 => HV.out.k4 (getD_dn (by decide) h0), fun h0 => HV.out.k5 (getD_dn (by decide) h0), fun h0 => HV.out.k6 (getD_dn (by decide) h0), fun h0 => HV.out.k7 (getD_dn (by decide) h0), fun h0 => HV.out.k8 (getD_dn (by decide) h0), fun h0 => HV.out.k9 (getD_dn (by decide) h0), fun h0 => HV.out.k10 (getD_dn (by decide) h0), fun _ => rfl, fun h0 => HV.out.k12 (getD_dn (by decide) h0), fun h0 => HV.out.k13 (getD_dn (by decide) h0), fun h0 => HV.out.k14 (getD_dn (by decide) h0), fun h0 => HV.out.k15 (getD_dn (by decide) h0), fun h0 => HV.out.n14 (getD_df (by decide) h0), fun h0 => HV.out.n15 (getD_df (by decide) h0), HV.out.be, fun h => getD_up hun (HV.out.q14 (getD_dn (by decide) h)), fun h => getD_up hun (HV.out.q15 (getD_dn (by decide) h)), fun h => getD_up hun (HV.out.q6 (getD_dn (by decide) h)), fun h => getD_up hun (HV.out.q13 (getD_dn (by decide) h))⟩⟩
          · simp at ho
            subst ho
            have h11x : L.getD 11 false = true := hall { on := 11, ground := Ground.data } (by simp) (by decide)
            have H11 := Lib.hid h11x
            clear hall hi h11x
            have e0 := HV.out.k11 H11.out
            subst e0
            obtain ⟨p0, p1, p2, p3, p4, p5, p6⟩ := HC.out _ HV.out.be
            refine wpOp_step rfl (fun K' hK' => ?_)
            have HK := Lib.hid hK'
            clear hK'
            go_simp
            exact HK.out _ _ ⟨by simp [HJ.out.sz], ⟨_, _, _, _, _, _, _, _, _, _, _, _, _, _, _, _, rfl, fun h0 => HV.out.k0 (getD_dn (by decide) h0), fun h0 => HV.out.k1 (getD_dn (by decide) h0), fun h0 => HV.out.k2 (getD_dn (by decide) h0), fun h0 => HV.out.k3 (getD_dn (by decide) h0), fun h0 => HV.out.k4 (getD_dn (by decide) h0), fun h0 => HV.out.k5 (getD_dn (by decide) h0), fun h0 => HV.out.k6 (getD_dn (by decide) h0), fun h0 => HV.out.k7 (getD_dn (by decide) h0), fun h0 => HV.out.k8 (getD_dn (by decide) h0), fun h0 => HV.out.k9 (getD_dn (by decide) h0), fun h0 => HV.out.k10 (getD_dn (by decide) h0), fun h0 => HV.out.k11 (getD_dn (by decide) h0), fun _ => rfl, fun h0 => HV.out.k13 (getD_dn (by decide) h0), fun h0 => HV.out.k14 (getD_dn (by decide) h0), fun h0 => HV.out.k15 (getD_dn (by decide) h0), fun h0 => HV.out.n14 (getD_df (by decide) h0), fun h0 => HV.out.n15 (getD_df (by decide) h0), HV.out.be, fun h => getD_up hun (HV.out.q14 (getD_dn (by decide) h)), fun h => getD_up hun (HV.out.q15 (getD_dn (by decide) h)), fun h => getD_up hun (HV.out.q6 (getD_dn (by decide) h)), fun h => getD_up hun (HV.out.q13 (getD_dn (by decide) h))⟩⟩
          · simp at ho
            subst ho
            have h7x : L.getD 7 false = true := hall { on := 7, ground := Ground.data } (by simp) (by decide)
            have h12x : L.getD 12 false = true := hall { on := 12, ground := Ground.data } (by simp) (by decide)
            have H7 := Lib.hid h7x
            have H12 := Lib.hid h12x
            clear hall hi h7x h12x
            have e0 := HV.out.k7 H7.out
            subst e0
            have e1 := HV.out.k12 H12.out
            subst e1
            refine wpOp_step rfl (fun K' hK' => ?_)
            have HK := Lib.hid hK'
            clear hK'
            go_simp
            refine (HA2.out _).mono ?_
            rintro e wn ⟨rfl, bn⟩
            exact HK.out _ _ ⟨by simp [HJ.out.sz], ⟨_, _, _, _, _, _, _, _, _, _, _, _, _, _, _, _, rfl, fun h0 => HV.out.k0 (getD_dn (by decide) h0), fun h0 => HV.out.k1 (getD_dn (by decide) h0), fun h0 => HV.out.k2 (getD_dn (by decide) h0), fun h0 => HV.out.k3 (getD_dn (by decide) h0), fun h0 => HV.out.k4 (getD_dn (by decide) h0), fun h0 => HV.out.k5 (getD_dn (by decide) h0), fun h0 => HV.out.k6 (getD_dn (by decide) h0), fun h0 => HV.out.k7 (getD_dn (by decide) h0), fun h0 => HV.out.k8 (getD_dn (by decide) h0), fun h0 => HV.out.k9 (getD_dn (by decide) h0), fun h0 => HV.out.k10 (getD_dn (by decide) h0), fun h0 => HV.out.k11 (getD_dn (by decide) h0), fun h0 => HV.out.k12 (getD_dn (by decide) h0), fun _ => rfl, fun h0 => HV.out.k14 (getD_dn (by decide) h0), fun h0 => HV.out.k15 (getD_dn (by decide) h0), fun h0 => HV.out.n14 (getD_df (by decide) h0), fun h0 => HV.out.n15 (getD_df (by decide) h0), HV.out.be.trans (bn.mono (Nat.le_trans HN0.out HV.out.be.size)), fun h => getD_up hun (HV.out.q14 (getD_dn (by decide) h)), fun h => getD_up hun (HV.out.q15 (getD_dn (by decide) h)), fun h => getD_up hun (HV.out.q6 (getD_dn (by decide) h)), fun _ => getD_up hun H7.out⟩⟩
          · simp at ho
            subst ho
            have h6x : L.getD 6 false = true := hall { on := 6, ground := Ground.data } (by simp) (by decide)
            have H6 := Lib.hid h6x
            clear hall hi h6x
            have e0 := HV.out.k6 H6.out
            subst e0
            refine wpOp_step rfl (fun K' hK' => ?_)
            have HK := Lib.hid hK'
            clear hK'
            go_simp
            exact HK.out _ _ ⟨by simp [HJ.out.sz], ⟨_, _, _, _, _, _, _, _, _, _, _, _, _, _, _, _, rfl, fun h0 => HV.out.k0 (getD_dn (by decide) h0), fun h0 => HV.out.k1 (getD_dn (by decide) h0), fun h0 => HV.out.k2 (getD_dn (by decide) h0), fun h0 => HV.out.k3 (getD_dn (by decide) h0), fun h0 => HV.out.k4 (getD_dn (by decide) h0), fun h0 => HV.out.k5 (getD_dn (by decide) h0), fun h0 => HV.out.k6 (getD_dn (by decide) h0), fun h0 => HV.out.k7 (getD_dn (by decide) h0), fun h0 => HV.out.k8 (getD_dn (by decide) h0), fun h0 => HV.out.k9 (getD_dn (by decide) h0), fun h0 => HV.out.k10 (getD_dn (by decide) h0), fun h0 => HV.out.k11 (getD_dn (by decide) h0), fun h0 => HV.out.k12 (getD_dn (by decide) h0), fun h0 => HV.out.k13 (getD_dn (by decide) h0), fun _ => rfl, fun h0 => HV.out.k15 (getD_dn (by decide) h0), fun h => (not_on h (getD_set_same hun)).elim, fun h0 => HV.out.n15 (getD_df (by decide) h0), HV.out.be, fun _ => getD_up hun H6.out, fun h => getD_up hun (HV.out.q15 (getD_dn (by decide) h)), fun h => getD_up hun (HV.out.q6 (getD_dn (by decide) h)), fun h => getD_up hun (HV.out.q13 (getD_dn (by decide) h))⟩⟩
          · simp at ho
            subst ho
            have h13x : L.getD 13 false = true := hall { on := 13, ground := Ground.data } (by simp) (by decide)
            have H13 := Lib.hid h13x
            clear hall hi h13x
            have e0 := HV.out.k13 H13.out
            subst e0
            refine wpOp_step rfl (fun K' hK' => ?_)
            have HK := Lib.hid hK'
            clear hK'
            go_simp
            exact HK.out _ _ ⟨by simp [HJ.out.sz], ⟨_, _, _, _, _, _, _, _, _, _, _, _, _, _, _, _, rfl, fun h0 => HV.out.k0 (getD_dn (by decide) h0), fun h0 => HV.out.k1 (getD_dn (by decide) h0), fun h0 => HV.out.k2 (getD_dn (by decide) h0), fun h0 => HV.out.k3 (getD_dn (by decide) h0), fun h0 => HV.out.k4 (getD_dn (by decide) h0), fun h0 => HV.out.k5 (getD_dn (by decide) h0), fun h0 => HV.out.k6 (getD_dn (by decide) h0), fun h0 => HV.out.k7 (getD_dn (by decide) h0), fun h0 => HV.out.k8 (getD_dn (by decide) h0), fun h0 => HV.out.k9 (getD_dn (by decide) h0), fun h0 => HV.out.k10 (getD_dn (by decide) h0), fun h0 => HV.out.k11 (getD_dn (by decide) h0), fun h0 => HV.out.k12 (getD_dn (by decide) h0), fun h0 => HV.out.k13 (getD_dn (by decide) h0), fun h0 => HV.out.k14 (getD_dn (by decide) h0), fun _ => rfl, fun h0 => HV.out.n14 (getD_df (by decide) h0), fun h => (not_on h (getD_set_same hun)).elim, HV.out.be, fun h => getD_up hun (HV.out.q14 (getD_dn (by decide) h)), fun _ => getD_up hun H13.out, fun h => getD_up hun (HV.out.q6 (getD_dn (by decide) h)), fun h => getD_up hun (HV.out.q13 (getD_dn (by decide) h))⟩⟩
      · rw [decide_eq_false he] at hse
        have hos := HOS.out
        rw [if_neg he, List.append_nil] at hos
        have HO := Lib.hid hos
        clear hos he
        go_wp2_with fail
        go_roundw
        case rel => exact ⟨k + 1, q, cc, rfl, rfl, by go_num, by omega, by rw [HO.out]; exact HQ.out, by rw [HO.out]; exact HCC.out, HB.out⟩
        case measure => simp [intOf]; omega
    · have hcx : decide ((k : Int) < (ls.length : Int)) = false := by simp; omega
      have hq := HQ.out
      have hcc := HCC.out
      rw [List.take_of_length_le hge] at hq hcc
      have HF := Lib.hid (And.intro hq hcc)
      clear hq hcc
      go_wp2_with fail
      go_ret2
      exact ⟨by rw [HF.out.1, HF.out.2]; rfl, HB.out⟩

set_option maxHeartbeats 4000000 in
set_option maxRecDepth 100000 in
theorem rOf19_any (n₀ : Nat) (A : Option Addr) (ls : List SLot) (c : Nat) (s : ByteArray) (w : World) (hlen : ls.length ≤ 1000000) (hR : RdB n₀ w A ls) (hnw : n₀ ≤ w.heap.size) :
    Calls Tryz.prog 15 #[.slice A ls.length c, .string s] w (LotsPost w (ownL ls s)) := by
  have HR := Lib.hid hR
  have HN0 := Lib.hid hnw
  clear hR hnw
  go_enter Tryz.func15, Tryz.ntmps15
  have hb0 : Below w.heap.size w (w.alloc (.cells #[] 36)) := (Below.refl _ w).alloc (Nat.le_refl _) _
  have ho0 : (w.alloc (.cells #[] 36)).ownsRow w.heap.size 36 7 (.slice (some ⟨w.heap.size, 0, none⟩) 0 0) 0 [] := World.ownsRow_made w #[] 0 (Nat.le_refl _) (by unfold maxLen; omega) rfl
  have H0 := Lib.hid (And.intro hb0 ho0)
  clear hb0 ho0
  go_wp2_with fail
  go_loopw [5, 6] (fun v5 v wr => ∃ k : Nat, v = .int .i64 (k : Int) ∧ k ≤ ls.length ∧ (∃ A' n' c', v5 = .slice A' n' c') ∧ wr.ownsRow w.heap.size 36 7 v5 (ownL (ls.take k) s).length (flatL (ownL (ls.take k) s)) ∧ Below w.heap.size w wr) (fun _ v _ => ls.length - (intOf v).toNat)
  case atStart => exact ⟨0, rfl, by omega, ⟨_, _, _, rfl⟩, H0.out.2, H0.out.1⟩
  case round =>
    obtain ⟨k, rfl, hk, ⟨A', n', c', rfl⟩, hrow, hb⟩ := hrel
    have HROW := Lib.hid hrow
    have HB := Lib.hid hb
    clear hrow hb
    rcases Nat.lt_or_ge k ls.length with hlt | hge
    · obtain ⟨x, hl⟩ : ∃ x, ls[k]? = some x := ⟨_, List.getElem?_eq_getElem hlt⟩
      obtain ⟨ad, rfl, had, hcell⟩ := HR.out (by intro e; rw [e] at hlt; cases hlt)
      have hcx : decide ((k : Int) < (ls.length : Int)) = true := by simp; omega
      obtain ⟨c0, c1, c2, c3, c4, c5, c6⟩ := (hcell k x hl).below (HB.out.mono HN0.out) (by rw [add_block]; exact had)
      have HOS := Lib.hid (ownL_succ (s := s) hl)
      have hse := str_eq x.1.inst s
      clear hcell hl
      by_cases he : x.1.inst = s
      · rw [decide_eq_true he] at hse
        have hos := HOS.out
        rw [if_pos he] at hos
        have HO := Lib.hid hos
        have hkl := ownL_len ls s k
        have hbs := HB.out.size
        obtain ⟨m, hm⟩ : ∃ m, (ownL (ls.take k) s).length = m := ⟨_, rfl⟩
        have hrow := HROW.out
        rw [hm] at hrow hkl
        have HRW := Lib.hid hrow
        have HM := Lib.hid hm
        have HSS : Hid (∀ j u, x.1.cells.toList[j]? = some u → (wr.alloc (.cells x.1.cells 36)).cell? ((⟨wr.heap.size, 0, none⟩ : Addr).add j) = some u) := cells_new wr x.1.cells 36
        obtain ⟨i0, hi0, hz0, hz1, hz2⟩ := info_parts Tryz.infoLot
        clear he hos hrow hm
        unfold Lot.cells at HSS
        go_wp2_with (at_builtin; refine wpList_append_own _ rfl _ _ 22 rfl w.heap.size 36 i0 (.agg #[.string ⟨#[]⟩, .string ⟨#[]⟩, .int .i64 0, .int .i64 0, .string ⟨#[]⟩, .string ⟨#[]⟩, .string ⟨#[]⟩]) 7 96 Tryz.underlying22 hi0 hz0 hz1 hz2 rfl (by decide) _ _ _ rfl (HRW.out.alloc _) ⟨wr.heap.size, 0, none⟩ 1 1 [.string x.1.id, .string x.1.inst, .int .i64 x.1.acq, .int .i64 x.1.opn, .string x.1.qty, .string x.1.cost, .string x.1.used] rfl rfl HSS.out (by simp [Value.oneCell']) (by unfold maxLen; omega) (by omega) (by simp; omega) ?_; intro v4 w4 hown4 hgrow4 _; obtain ⟨g4, c4, rfl⟩ := ownsRow_succ hown4; have HO4 := Lib.hid hown4; have HG4 := Lib.hid hgrow4; clear hown4 hgrow4)
        go_roundw
        case rel =>
          have hlo := HRW.out.lt
          refine ⟨k + 1, by go_num, by omega, ⟨_, _, _, rfl⟩, ?_, (HB.out.alloc HB.out.size _).grown HG4.out (by simp; omega) (fun k hk => by have := hlo k hk; omega)⟩
          rw [HO.out, List.length_append, HM.out, flatL_snoc]
          exact HO4.out
        case measure => simp [intOf]; omega
      · rw [decide_eq_false he] at hse
        have hos := HOS.out
        rw [if_neg he, List.append_nil] at hos
        have HO := Lib.hid hos
        clear hos he
        go_wp2_with fail
        go_roundw
        case rel => exact ⟨k + 1, by go_num, by omega, ⟨_, _, _, rfl⟩, by rw [HO.out]; exact HROW.out, HB.out⟩
        case measure => simp [intOf]; omega
    · have hcx : decide ((k : Int) < (ls.length : Int)) = false := by simp; omega
      have hrow := HROW.out
      rw [List.take_of_length_le hge] at hrow
      obtain ⟨A2, c2, e2, q1, q2, q3⟩ := RdB.of_own hrow
      have HF : Hid (LotsPost w (ownL ls s) (.returned (.slice A' n' c')) wr) := by rw [e2]; exact ⟨A2, c2, rfl, q1, q2, q3, HB.out⟩
      clear hrow e2 q1 q2 q3
      go_wp2_with fail
      go_ret
      exact HF.out
end Go.Proofs.YthmfkgcoocikjaaGreatDoor
