/-
  What relief.Take holds while it takes.
  The walk of relief.Take.
  The walks of relief.Cost, relief.Check.
  The example of the chapter on relief, plainly.
  tranchelaw20.awake returns true.
  Picks compared as the machine does it; slices.Equal over picks; tranchelaw20.great. (Printed by gen_eqk.py.)
  tranchelaw20.ReliefNames returns true.
  What was chosen, plainly.
-/
import Derived.Test.YtdnmpgoigagjmaaGreatDoorU37
import Derived.Test.YtdnmpgoigagjmaaGreatDoorU41
import Derived.Test.YtdnmpgoigagjmaaGreatDoorU27
import Derived.Test.YtdnmpgoigagjmaaGreatDoorU22
import Derived.Test.YtdnmpgoigagjmaaGreatDoorU14
import Derived.Test.YtdnmpgoigagjmaaGreatDoorU30
import Derived.Laws.StructEq
set_option linter.unusedVariables false
set_option linter.unusedSimpArgs false
set_option maxHeartbeats 16000000
set_option maxRecDepth 100000
namespace Go.Proofs.YtdnmpgoigagjmaaGreatDoor
open Go.RowKit Tr Go.Shelf
noncomputable def takE (lz : List Lot) (ps : List Pk) : Int := open Classical in if lall lz ≠ 0 then 1 else posE lz none [] ps
theorem takE_all {lz : List Lot} (h : lall lz ≠ 0) (ps : List Pk) : takE lz ps = 1 := by unfold takE; rw [if_pos h]
theorem takE_pos {lz : List Lot} (h : lall lz = 0) (ps : List Pk) : takE lz ps = posE lz none [] ps := by unfold takE; rw [if_neg (fun y => y h)]
def TakPost (w : World) (lz : List Lot) (ps : List Pk) (e : Ending) (w' : World) : Prop :=
 ∃ (A1 : Option Addr) (c1 : Nat) (r1 : List SLot) (A2 : Option Addr) (c2 : Nat) (r2 : List SLot), e = .returned (.tuple #[.slice A1 r1.length c1, .slice A2 r2.length c2, .int .i64 (takE lz ps)]) ∧ Below w.heap.size w w' ∧ RdB w'.heap.size w' A1 r1 ∧ RdB w'.heap.size w' A2 r2 ∧ r1.length ≤ c1 ∧ r2.length ≤ c2 ∧
  (A1 = none → r1.length = 0 ∧ c1 = 0) ∧ (A2 = none → r2.length = 0 ∧ c2 = 0) ∧ (takE lz ps ≠ 0 → r1 = [] ∧ r2 = []) ∧ (takE lz ps = 0 → r1.map Subtype.val = restR lz ps ∧ r2.map Subtype.val = takenR lz ps)
theorem takPost_no {w w' : World} {lz : List Lot} {ps : List Pk} {E : Int} (h : takE lz ps = E) (h0 : E ≠ 0) (hb : Below w.heap.size w w') : TakPost w lz ps (.returned (.tuple #[.slice none 0 0, .slice none 0 0, .int .i64 E])) w' :=
 ⟨none, 0, [], none, 0, [], by rw [h]; rfl, hb, (fun e => absurd rfl e), (fun e => absurd rfl e), Nat.le_refl _, Nat.le_refl _, (fun _ => ⟨rfl, rfl⟩), (fun _ => ⟨rfl, rfl⟩), (fun _ => ⟨rfl, rfl⟩), fun e => absurd (h.symm.trans e) h0⟩
theorem SRow.self {V : Lot → Prop} {w0 W : World} {g : Nat} {sp : List Value} {D : List Lot} (h : SRow V w0 g sp D W) : SRow V W g sp D W := ⟨h.row, h.ok, ⟨rfl, rfl, rfl, Nat.le_refl _, fun _ _ _ => rfl⟩, h.ltW⟩
theorem SRow.kept {V : Lot → Prop} {W W' : World} {g : Nat} {sp : List Value} {D : List Lot} (h : SRow V W g sp D W) {row : Option Nat} (hg : W.grownBy W' row) (hne : row ≠ some g) : SRow V W' g sp D W' :=
 ⟨(hg.block g h.lt (fun e => hne e.symm)).trans h.row, h.ok, ⟨rfl, rfl, rfl, Nat.le_refl _, fun _ _ _ => rfl⟩, Nat.lt_of_lt_of_le h.lt hg.size⟩
theorem SRow.stay {V : Lot → Prop} {W W' : World} {g : Nat} {sp : List Value} {D : List Lot} (h : SRow V W g sp D W) (hb : Below W.heap.size W W') : SRow V W' g sp D W' :=
 h.kept (row := none) ⟨hb.os, hb.tape, hb.output, hb.size, fun k hk _ => hb.block k hk⟩ (by simp)
theorem SRow.rdb {V : Lot → Prop} {w0 W : World} {g : Nat} {sp : List Value} {D : List Lot} (h : SRow V w0 g sp D W) : RdB' W.heap.size W (some ⟨g, 0, none⟩) D :=
 fun _ => ⟨_, rfl, h.ltW, fun j l hj => by rw [addr_add0]; exact h.at hj⟩
theorem own_grown {w w' : World} {base n : Nat} {v : Value} {xs : List Value} {row : Option Nat} (h : w.ownsRow base 49 7 v n xs) (hg : w.grownBy w' row) (hne : v.ownBlock = none ∨ v.ownBlock ≠ row) : w'.ownsRow base 49 7 v n xs := h.kept hg hne
theorem run_app_lot (w : World) (base : Nat) (v : Value) (n : Nat) (xs : List Value) (x : Lot) (B cB : Nat) (hown : w.ownsRow base 49 7 v n xs) (hx : LotBox w B x) (hn : n ≤ 100000) (hb : base ≤ w.heap.size) :
 ∃ v' w', (Builtin.append_ #[22, 22] 22 #[v, .slice (some ⟨B, 0, none⟩) 1 cB]).run Tryz.prog w = .ok v' w' ∧
  w'.ownsRow base 49 7 v' (n + 1) (xs ++ x.cells.toList) ∧ w.grownBy w' v.ownBlock ∧ ∀ g, g < w.heap.size → v.ownBlock ≠ some g → v'.ownBlock ≠ some g := by
 obtain ⟨i0, hi0, hz0, hz1, hz2⟩ := info_parts Tryz.infoLot
 obtain ⟨g', cap, w', h1, h2, h3, h4, _⟩ := run_append_lies (P := Tryz.prog) w 22 22 base 49 i0 _ 7 96 Tryz.underlying22 hi0 hz0 hz1 hz2 rfl (by decide) v n xs hown ⟨B, 0, none⟩ 1 cB x.cells.toList rfl (lotbox_src hx) (lotcells_one x) (by decide) (by unfold maxLen; omega) (by omega) hb w.heap.size rfl
 refine ⟨_, w', h1, h2, h3, fun g hg hne e => ?_⟩
 have e2 : g' = g := by simpa [Value.ownBlock] using e
 rcases h4 with h4 | h4
 ·exact hne (by rw [h4, e2])
 ·omega
theorem two_boxes (w : World) (a b : Lot) : ∃ W1 W2 W3 W4, w.alloc (.cells #[.string ⟨#[]⟩, .string ⟨#[]⟩, .int .i64 0, .int .i64 0, .string ⟨#[]⟩, .string ⟨#[]⟩, .string ⟨#[]⟩] 49) = W1 ∧ W1.alloc (.cells #[.string ⟨#[]⟩, .string ⟨#[]⟩, .int .i64 0, .int .i64 0, .string ⟨#[]⟩, .string ⟨#[]⟩, .string ⟨#[]⟩] 49) = W2 ∧
 (Instr.storeAt 49 (.pointer (some ⟨w.heap.size, 0, none⟩)) a.enc).run Tryz.prog W2 = .ok () W3 ∧ (Instr.storeAt 49 (.pointer (some ⟨W1.heap.size, 0, none⟩)) b.enc).run Tryz.prog W3 = .ok () W4 ∧ LotBox W4 w.heap.size a ∧ LotBox W4 W1.heap.size b ∧ Below w.heap.size w W4 ∧ W1.heap.size = w.heap.size + 1 := by
 obtain ⟨W1, hW1⟩ : ∃ W1, w.alloc (.cells #[.string ⟨#[]⟩, .string ⟨#[]⟩, .int .i64 0, .int .i64 0, .string ⟨#[]⟩, .string ⟨#[]⟩, .string ⟨#[]⟩] 49) = W1 := ⟨_, rfl⟩
 obtain ⟨W2, hW2⟩ : ∃ W2, W1.alloc (.cells #[.string ⟨#[]⟩, .string ⟨#[]⟩, .int .i64 0, .int .i64 0, .string ⟨#[]⟩, .string ⟨#[]⟩, .string ⟨#[]⟩] 49) = W2 := ⟨_, rfl⟩
 have hs : W1.heap.size = w.heap.size + 1 := by rw [← hW1, World.size_alloc]
 have hb1 : Below w.heap.size w W1 := by rw [← hW1]; exact (Below.refl _ w).alloc (Nat.le_refl _) _
 have hb2 : Below W1.heap.size W1 W2 := by rw [← hW2]; exact (Below.refl _ W1).alloc (Nat.le_refl _) _
 have k1 : W1.heap[w.heap.size]? = some (.cells #[.string ⟨#[]⟩, .string ⟨#[]⟩, .int .i64 0, .int .i64 0, .string ⟨#[]⟩, .string ⟨#[]⟩, .string ⟨#[]⟩] 49 (0, 0)) := by rw [← hW1]; exact heap_alloc_new w _
 have k1' := (hb2.block _ (by omega)).trans k1
 have k2 : W2.heap[W1.heap.size]? = some (.cells #[.string ⟨#[]⟩, .string ⟨#[]⟩, .int .i64 0, .int .i64 0, .string ⟨#[]⟩, .string ⟨#[]⟩, .string ⟨#[]⟩] 49 (0, 0)) := by rw [← hW2]; exact heap_alloc_new W1 _
 have r3 := run_store_row W2 w.heap.size 7 49 _ a.cells (by kernel_rfl) k1' rfl rfl (lotcells_one a)
 have k3 : (W2.setRow w.heap.size a.cells).heap[W1.heap.size]? = _ := (setRow_other _ _ _ _ (by omega)).trans k2
 have r4 := run_store_row (W2.setRow w.heap.size a.cells) W1.heap.size 7 49 _ b.cells (by kernel_rfl) k3 rfl rfl (lotcells_one b)
 refine ⟨W1, W2, _, _, hW1, hW2, r3, r4, ?_, ?_, ?_, hs⟩
 ·exact (setRow_other _ _ _ _ (by omega)).trans (setRow_heap _ _ _ _ _ _ k1')
 ·exact setRow_heap _ _ _ _ _ _ k3
 ·exact below_setRow (below_setRow (hb1.trans (hb2.mono hb1.size)) (Nat.le_refl _) _) (by omega) _
theorem flatV_one' (x : Lot) : flatV [x] = x.cells.toList := by rw [flatV_cons, flatV_nil, List.append_nil]
structure TkS (w : World) (lz : List Lot) (ps : List Pk) (k g : Nat) (v9 : Value) (W : World) : Prop where
 row : ∃ sp, SRow Lot.mid W g sp (restR lz (ps.take k)) W
 own : W.ownsRow w.heap.size 49 7 v9 k (flatV (takenR lz (ps.take k)))
 ne : v9.ownBlock ≠ some g
 be : Below w.heap.size w W
 ge : w.heap.size ≤ g
theorem TkS.below {w : World} {lz : List Lot} {ps : List Pk} {k g : Nat} {v9 : Value} {W W' : World} (h : TkS w lz ps k g v9 W) (hb : Below W.heap.size W W') : TkS w lz ps k g v9 W' := by
 obtain ⟨sp, hr⟩ := h.row
 exact ⟨⟨sp, hr.stay hb⟩, own_below h.own hb, h.ne, h.be.trans (hb.mono h.be.size), h.ge⟩
theorem Take20_any (n₀ : Nat) (A : Option Addr) (ls : List SLot) (c : Nat) (hc : ls.length ≤ c) (hlen : ls.length ≤ 10000) (hti : ∀ l ∈ ls, l.1.tiny) (Ap : Option Addr) (ps : List Pk) (cp : Nat) (hpl : ps.length ≤ 10000) (hcp : ps.length ≤ cp) (hps : ∀ p ∈ ps, p.qty.size ≤ 1000) (h13 : posE (ls.map Subtype.val) none [] ps = 0 → ∀ p ∈ ps, p.qty.size ≤ 13) (w : World)
 (hR : RdB n₀ w A ls) (hn : n₀ ≤ w.heap.size) (hA : A = none → ls.length = 0 ∧ c = 0) (hK : RdK n₀ w Ap ps) (ht : Tabs w) :
 Calls Tryz.prog 20 #[.slice A ls.length c, .slice Ap ps.length cp] w (TakPost w (ls.map Subtype.val) ps) := by
 obtain ⟨lz, hlz⟩ : ∃ lz, ls.map Subtype.val = lz := ⟨_, rfl⟩
 have hlzn : lz.length = ls.length := by rw [← hlz, List.length_map]
 have htz : ∀ l ∈ lz, l.tiny := fun l hl => by rw [← hlz] at hl; obtain ⟨y, hy, rfl⟩ := List.mem_map.1 hl; exact hti y hy
 have HCA := hI (lCheckAll_any A c (ls.map Subtype.val) (by rw [List.length_map]; exact hc) (by rw [List.length_map]; omega) w ((hR.rdb').rdl hn) (fun l hl => by obtain ⟨y, _, rfl⟩ := List.mem_map.1 hl; exact y.2) ht)
 have HPO := fun W (hW : Below w.heap.size w W) => possible_any n₀ A ls c (by omega) none (.pointer none) Ap ps cp hpl hcp hps W (hR.below (hW.mono hn)) (Nat.le_trans hn hW.size) (hK.below (hW.mono hn)) (.inl ⟨rfl, rfl⟩)
 have HCL := fun W (hW : Below w.heap.size w W) => cloneLots_own A ls c n₀ W (hR.below (hW.mono hn)) (Nat.le_trans hn hW.size) (by omega) hA
 have hfl : flatL ls = flatV lz := by rw [← hlz, flatV_val]
 rw [hfl] at HCL
 rw [List.length_map] at HCA
 rw [hlz] at HCA HPO h13 ⊢
 obtain ⟨N, hN⟩ : ∃ N, ls.length = N := ⟨_, rfl⟩
 obtain ⟨P, hP⟩ : ∃ P, ps.length = P := ⟨_, rfl⟩
 rw [hN] at HCA HPO HCL hlzn ⊢
 rw [hP] at HPO ⊢
 replace HPO := hI HPO
 replace HCL := hI HCL
 have HKP := hI hK
 have HNn := hI hn
 have HT := hI ht
 have HTZ := hI htz
 have H13 := hI h13
 have HPZ := hI hps
 have HLN := hI hlzn
 have HP := hI hP
 have hPl : P ≤ 10000 := by omega
 have hNl : N ≤ 10000 := by omega
 clear hR hn hA hK ht hti htz hc hlen hpl hcp h13 hlz hlzn hfl hps hN hP
 go_enter Tryz.func20, Tryz.ntmps20
 go_wp2_with fail
 refine HCA.out.mono ?_
 rintro e w1 ⟨rfl, b1⟩
 have HB1 := hI b1
 clear b1 HCA
 by_cases h0 : lall lz = 0
 case neg =>
  have t1 : (lall lz == 0) = false := beq_eq_false_iff_ne.2 h0
  have t2 : (lall lz != 0) = true := by rw [bne, t1]; rfl
  have HE := hI (takE_all h0 ps)
  clear h0
  go_wp2_with fail
  go_ret3
  exact takPost_no HE.out (by decide) HB1.out
 have H0 := hI h0
 rw [h0]
 clear h0
 have HPOS := hI (HPO.out w1 HB1.out)
 clear HPO
 go_wp2_with fail
 refine HPOS.out.mono ?_
 rintro e w2 ⟨rfl, b2⟩
 have HB2 := hI (HB1.out.trans (b2.mono HB1.out.size))
 clear b2 HPOS HB1
 by_cases hpo : posE lz none [] ps = 0
 case neg =>
  have HE := hI (And.intro (takE_pos H0.out ps) hpo)
  generalize posE lz none [] ps = z at hpo HE ⊢
  have t1 : (z == 0) = false := beq_eq_false_iff_ne.2 hpo
  have t2 : (z != 0) = true := by rw [bne, t1]; rfl
  clear hpo
  go_wp2_with fail
  go_ret3
  exact takPost_no HE.out.1 HE.out.2 HB2.out
 have HE : Hid (takE lz ps = 0) := (takE_pos H0.out ps).trans hpo
 have HOK := hI ((posE_zero lz none ps []).1 hpo).2
 have HQ13 := hI (H13.out hpo)
 rw [hpo]
 clear hpo H13
 have HCLC := hI (HCL.out w2 HB2.out)
 clear HCL
 go_wp2_with fail
 refine HCLC.out.mono ?_
 rintro e w3 ⟨v, rfl, hown, b3⟩
 have HB3 := hI (HB2.out.trans (b3.mono HB2.out.size))
 have HOWN := hI (own_mono hown HB2.out.size)
 clear hown b3 HCLC HB2
 have hall := (lall_zero lz).1 H0.out
 have HALL := hI hall
 rcases Nat.eq_zero_or_pos P with hp0 | hpp
 ·subst hp0
  have HPS : Hid (ps = []) := List.eq_nil_of_length_eq_zero HP.out
  have hfin : TakPost w lz ps (.returned (.tuple #[v, .slice none 0 0, .int .i64 0])) w3 := by
   obtain ⟨sl, hsl⟩ := sl_of lz (fun l hl => (HTZ.out l hl).sized)
   have hln : sl.length = N := by rw [← HLN.out, ← hsl, List.length_map]
   have ho := HOWN.out
   rw [← hsl, flatV_val, ← hln] at ho
   have hnil : ∀ A1 c1, v = .slice A1 sl.length c1 → A1 = none → sl.length = 0 ∧ c1 = 0 := fun A1 c1 hv h1 => by
    rcases ho.2 with ⟨h, h2⟩ | ⟨g, cap, cur, h, _⟩
    ·rw [h] at hv; injection hv with _ _ h3; exact ⟨h2, h3.symm⟩
    ·rw [h] at hv; injection hv with h3 _ _; rw [h1] at h3; cases h3
   obtain ⟨A1, c1, rfl, hc1, _, hr1⟩ := RdB.of_own ho
   exact ⟨A1, c1, sl, none, 0, [], by rw [HE.out]; rfl, HB3.out, hr1, (fun e => absurd rfl e), hc1, Nat.le_refl _, hnil A1 c1 rfl, (fun _ => ⟨rfl, rfl⟩), (fun h => absurd HE.out h), fun _ => ⟨by rw [HPS.out, restR_nil, hsl], by rw [HPS.out]; rfl⟩⟩
  have HFIN := hI hfin
  clear hfin hall
  go_wp2_with fail
  refine wp_loop_rounds 1 ?_
  rw [rounds_succ]
  go_wp2_with fail
  go_ret3
  exact HFIN.out
 ·have hNp : 0 < N := by
   obtain ⟨p, hp⟩ : ∃ p, ps[0]? = some p := ⟨_, List.getElem?_eq_getElem (by rw [HP.out]; exact hpp)⟩
   obtain ⟨x, hx⟩ := HOK.out.ok p (List.mem_of_getElem? hp)
   have := (lotOf_mem hx.lot).1
   rw [← HLN.out]
   exact List.length_pos_of_mem this
  obtain ⟨g, cap, rfl, hbg, hgl⟩ := HOWN.out.form hNp
  have hcap : N ≤ cap ∧ cap ≤ maxLen ∧ ∃ sp, w3.heap[g]? = some (.cells (flatV lz ++ sp).toArray 49 (0, 0)) := by
   rcases HOWN.out.2 with ⟨h, _⟩ | ⟨g', cap', cur, h, _, hg, hnc, hcm, _, ht⟩
   ·simp at h
   ·simp at h
    obtain ⟨rfl, rfl⟩ := h
    refine ⟨hnc, hcm, cur.toList.drop (N * 7), ?_⟩
    rw [← ht, List.take_append_drop]
    exact hg
  obtain ⟨hcap1, hcap2, sp0, hrow0⟩ := hcap
  have hS0 : TkS w lz ps 0 g (.slice none 0 0) w3 := ⟨⟨sp0, by rw [List.take_zero, restR_nil]; exact ⟨hrow0, fun x hx => (HTZ.out x hx).mid, ⟨rfl, rfl, rfl, Nat.le_refl _, fun _ _ _ => rfl⟩, hgl⟩⟩, World.ownsRow_nil _ _ _ _, by simp [Value.ownBlock], HB3.out, hbg⟩
  have HS0 := hI hS0
  have HL0 : Hid ((restR lz (ps.take 0)).length = N) := by rw [Hid, List.take_zero, restR_nil, HLN.out]
  have hcapm : cap ≤ 9223372036854775807 := by unfold maxLen at hcap2; omega
  clear hall hbg hgl hcap2 hrow0 hS0 HOWN HB3
  go_wp2_with fail
  go_loopw [8, 9, 31] (fun v8 v9 v wr => ∃ (k M : Nat) (t9 : Value), t9 = v9 ∧ v = .int .i64 (k : Int) ∧ k ≤ P ∧ v8 = .slice (some ⟨g, 0, none⟩) M cap ∧ M ≤ cap ∧ M ≤ N ∧ (restR lz (ps.take k)).length = M ∧ TkS w lz ps k g t9 wr) (fun _ _ v _ => P - (intOf v).toNat)
  case atStart => exact ⟨0, N, _, rfl, rfl, Nat.zero_le _, rfl, hcap1, Nat.le_refl _, HL0.out, HS0.out⟩
  case round =>
   clear HS0 HL0 hcap1
   obtain ⟨k, M, t9, rfl, rfl, hkP, rfl, hMc, hMN, hlen, hS⟩ := hrel
   have HLEN := hI hlen
   have HS := hI hS
   clear hlen hS
   rcases Nat.lt_or_ge k P with hlt | hge
   ·obtain ⟨p, hp⟩ : ∃ p, ps[k]? = some p := ⟨_, List.getElem?_eq_getElem (by rw [HP.out]; exact hlt)⟩
    obtain ⟨ad, rfl, had, hcell⟩ := HKP.out (by intro e; rw [e] at hp; cases hp)
    have hcx : decide ((k : Int) < (P : Int)) = true := by simp; omega
    obtain ⟨c0, c1⟩ := (hcell k p hp).below (HS.out.be.mono HNn.out) (by rw [add_block]; exact had)
    have htk := take_snoc hp
    have hpm := List.mem_of_getElem? hp
    obtain ⟨x, hx⟩ := HOK.out.ok p hpm
    have hxm := (lotOf_mem hx.lot).1
    have hxo := lchk_zero.1 (HALL.out.ok x hxm)
    have hnin : p.lot ∉ (ps.take k).map Pk.lot := by
     have hd := HOK.out.nd
     have h2 : ps = ps.take k ++ p :: ps.drop (k + 1) := by
      obtain ⟨h1, h2⟩ := List.getElem?_eq_some_iff.1 hp
      rw [← h2, ← List.drop_eq_getElem_cons h1, List.take_append_drop]
     rw [h2, List.map_append, List.map_cons, List.nodup_append] at hd
     exact fun hm => hd.2.2 _ hm _ (List.mem_cons_self ..) rfl
    obtain ⟨Pr, Q, e1, e2, e3⟩ := restR_step HALL.out.nd hx.lot hnin
    have e4 := tknO_some hx.lot
    have HX := hI hx
    have HPM := hI hpm
    have HXO := hI hxo
    have HXT := hI (HTZ.out x hxm)
    have HTKN : Hid (takenR lz (ps.take (k + 1)) = takenR lz (ps.take k) ++ [tknO lz p]) := by rw [Hid, htk, takenR_snoc]
    have HE1 := hI e1
    have HE3 : Hid (restR lz (ps.take (k + 1)) = Pr ++ (if x.qty = p.qty then [] else [cutB x p.qty]) ++ Q) := by rw [Hid, htk]; exact e3
    have HE4 := hI e4
    obtain ⟨W5, hW5⟩ : ∃ W5, wr.alloc (.cells p.cells 43) = W5 := ⟨_, rfl⟩
    have b5 : Below wr.heap.size wr W5 := by rw [← hW5]; exact (Below.refl _ wr).alloc (Nat.le_refl _) _
    have k5 : PkBox W5 wr.heap.size p := by rw [← hW5]; exact heap_alloc_new wr _
    have HS5 := hI (HS.out.below b5)
    have HK5 := hI k5
    obtain ⟨sp5, hr5⟩ := HS5.out.row
    have hfi := lFind_any W5.heap.size (some ⟨g, 0, none⟩) (restR lz (ps.take k)) cap p.lot (by rw [HLEN.out]; omega) W5 hr5.rdb (Nat.le_refl _)
    rw [HLEN.out, e2] at hfi
    have HFI := hI hfi
    obtain ⟨i, hi⟩ : ∃ i, Pr.length = i := ⟨_, rfl⟩
    have hiM : i < M := by rw [← HLEN.out, e1, List.length_append, List.length_cons]; omega
    have HIX : Hid ((restR lz (ps.take k))[i]? = some x) := by rw [Hid, e1, ← hi, List.getElem?_append_right (Nat.le_refl _), Nat.sub_self]; rfl
    rw [hi] at HFI
    have HI := hI hi
    have d0 := Lib.cell_of_heap k5 0
    simp [Pk.cells] at d0
    clear b5 k5 hr5 hfi hcell hp htk hpm hx hxm hxo hnin e1 e2 e3 e4 had hi HS
    unfold Pk.cells at hW5
    go_wp2_with fail
    refine HFI.out.mono ?_
    rintro e w6 ⟨rfl, b6⟩
    have HS6 := hI (HS5.out.below b6)
    have HK6 := hI (HK5.out.below b6)
    clear b6 HS5 HK5 HFI d0 c0 c1
    obtain ⟨sp6, hr6⟩ := HS6.out.row
    obtain ⟨ad2, had2⟩ : ∃ ad2 : Addr, ad2 = ⟨g, 0, none⟩ := ⟨_, rfl⟩
    rw [← had2]
    obtain ⟨c0, c1, c2, c3, c4, c5, c6⟩ := hr6.at' had2 HIX.out
    obtain ⟨W7, hW7⟩ : ∃ W7, w6.alloc (.cells x.cells 49) = W7 := ⟨_, rfl⟩
    have b7 : Below w6.heap.size w6 W7 := by rw [← hW7]; exact (Below.refl _ w6).alloc (Nat.le_refl _) _
    have k7 : LotBox W7 w6.heap.size x := by rw [← hW7]; exact heap_alloc_new w6 _
    have HS7 := hI (HS6.out.below b7)
    have HK7 := hI (HK6.out.below b7)
    have HX7 := hI k7
    have p1 := Lib.cell_of_heap HK7.out 1
    have x0 := Lib.cell_of_heap k7 0
    have x1 := Lib.cell_of_heap k7 1
    have x2 := Lib.cell_of_heap k7 2
    have x3 := Lib.cell_of_heap k7 3
    have x4 := Lib.cell_of_heap k7 4
    have x5 := Lib.cell_of_heap k7 5
    have x6 := Lib.cell_of_heap k7 6
    simp [Pk.cells, Lot.cells] at p1 x0 x1 x2 x3 x4 x5 x6
    have HAD := hI had2
    have hse := str_eq x.qty p.qty
    clear b7 k7 hr6 had2 HS6 HK6
    unfold Lot.cells at hW7
    by_cases hq : x.qty = p.qty
    ·have t1 : (x.qty.toList == p.qty.toList) = true := by rw [hse]; exact decide_eq_true hq
     have HQ := hI hq
     clear hq hse
     obtain ⟨W8, hW8⟩ : ∃ W8, W7.alloc (.cells x.cells 49) = W8 := ⟨_, rfl⟩
     have b8 : Below W7.heap.size W7 W8 := by rw [← hW8]; exact (Below.refl _ W7).alloc (Nat.le_refl _) _
     have k8 : LotBox W8 W7.heap.size x := by rw [← hW8]; exact heap_alloc_new W7 _
     have hS8 := HS7.out.below b8
     obtain ⟨v9', w9, r9, o9, g9, l9⟩ := run_app_lot W8 w.heap.size _ k _ x W7.heap.size 1 hS8.own k8 (by omega) hS8.be.size
     obtain ⟨sp8, hr8⟩ := hS8.row
     have hr9 := hr8.kept g9 (fun e => hS8.ne e)
     have hb9 : Below w.heap.size w w9 := hS8.be.grown g9 hS8.be.size (fun k e => (hS8.own.lt k e).1)
     have hne9 := l9 g hr8.lt hS8.ne
     have HD := hI (delLots_any Lot.mid w9 g M cap i (i + 1) rfl sp8 _ HLEN.out hMc hcapm hiM w9 hr9)
     have HR9 : Hid (w9.ownsRow w.heap.size 49 7 v9' (k + 1) (flatV (takenR lz (ps.take (k + 1)))) ∧ v9'.ownBlock ≠ some g ∧ Below w.heap.size w w9 ∧ w.heap.size ≤ g) := by
      refine ⟨?_, hne9, hb9, hS8.ge⟩
      rw [HTKN.out, HE4.out, if_pos HQ.out, flatV_append, flatV_one']
      exact o9
     clear b8 k8 hS8 o9 g9 l9 hr8 hr9 hb9 hne9 HS7 HX7 HK7
     unfold Lot.cells at hW8
     rw [← HAD.out] at HD
     go_wp2_with (at_builtin; refine Lib.wpList_append_run _ rfl _ _ _ _ rfl _ _ rfl rfl _ _ r9 ?_)
     refine HD.out.mono ?_
     rintro e w10 ⟨rfl, sp', hr10⟩
     have hfin : (restR lz (ps.take (k + 1))).length = M - 1 ∧ TkS w lz ps (k + 1) g v9' w10 := by
      obtain ⟨q1, q2, q3, q4⟩ := HR9.out
      have hD : (restR lz (ps.take k)).take i ++ (restR lz (ps.take k)).drop (i + 1) = restR lz (ps.take (k + 1)) := by
       rw [HE3.out, if_pos HQ.out, HE1.out, ← HI.out, List.take_left, show Pr ++ x :: Q = (Pr ++ [x]) ++ Q from by simp, show Pr.length + 1 = (Pr ++ [x]).length from by simp, List.drop_left]
       simp
      rw [hD] at hr10
      refine ⟨?_, ⟨⟨sp', hr10.self⟩, own_grown q1 hr10.gr (.inr q2), q2, q3.grown hr10.gr q3.size (fun k e => by injection e with e; rw [← e]; exact q4), q4⟩⟩
      have h1 := HLEN.out
      rw [HE1.out, List.length_append, List.length_cons] at h1
      rw [HE3.out, if_pos HQ.out, List.length_append, List.length_append]
      simp; omega
     have HFIN := hI hfin
     clear hr10 hfin HD r9 HR9 c0 c1 c2 c3 c4 c5 c6 p1 x0 x1 x2 x3 x4 x5 x6
     rw [HAD.out]
     go_wp2_with fail
     go_roundw
     case rel => exact ⟨k + 1, M - 1, _, rfl, by go_num, by omega, rfl, by omega, by omega, HFIN.out.1, HFIN.out.2⟩
     case measure => simp [intOf]; omega
    ·have t1 : (x.qty.toList == p.qty.toList) = false := by rw [hse]; exact decide_eq_false hq
     have hlt2 := pk_lt HXO.out HX.out hq
     have HQ := hI hq
     have hsz2 := cut_sizes HXT.out HXO.out (HQ13.out p HPM.out) HX.out.pos hlt2
     obtain ⟨LA, hLA⟩ : ∃ LA, cutA x p.qty = LA := ⟨_, rfl⟩
     obtain ⟨LB, hLB⟩ : ∃ LB, cutB x p.qty = LB := ⟨_, rfl⟩
     have hcut := lCut_ok x p.qty HXT.out.sized HXO.out HX.out.can (HPZ.out p HPM.out) HX.out.pos hlt2 W7 (HT.out.below HS7.out.be)
     rw [hLA, hLB] at hcut hsz2
     have HSZ2 := hI hsz2
     have HLA : Hid (tknO lz p = LA) := by rw [Hid, HE4.out, if_neg HQ.out, hLA]
     have HLB : Hid (restR lz (ps.take (k + 1)) = Pr ++ [LB] ++ Q) := by rw [Hid, HE3.out, if_neg HQ.out, hLB]
     unfold Lot.enc Lot.cells at hcut
     have HCUT := hI hcut
     clear hq hse hlt2 hsz2 hcut hLA hLB
     go_wp2_with fail
     refine HCUT.out.mono ?_
     rintro e w8 ⟨rfl, b8⟩
     have HS8 := hI (HS7.out.below b8)
     clear b8 HCUT HS7 HX7 HK7 c0 c1 c2 c3 c4 c5 c6 p1 x0 x1 x2 x3 x4 x5 x6
     obtain ⟨W9, W10, W11, W12, hW9, hW10, r11, r12, kA, kB, b12, hz9⟩ := two_boxes w8 LA LB
     obtain ⟨z9, hz⟩ : ∃ z9, W9.heap.size = z9 := ⟨_, rfl⟩
     rw [hz] at r12 kB hz9
     have hS12 := HS8.out.below b12
     have a0 := Lib.cell_of_heap kA 0
     have a1 := Lib.cell_of_heap kA 1
     have a2 := Lib.cell_of_heap kA 2
     have a3 := Lib.cell_of_heap kA 3
     have a4 := Lib.cell_of_heap kA 4
     have a5 := Lib.cell_of_heap kA 5
     have a6 := Lib.cell_of_heap kA 6
     simp [Lot.cells] at a0 a1 a2 a3 a4 a5 a6
     obtain ⟨W13, hW13⟩ : ∃ W13, W12.alloc (.cells LA.cells 49) = W13 := ⟨_, rfl⟩
     have b13 : Below W12.heap.size W12 W13 := by rw [← hW13]; exact (Below.refl _ W12).alloc (Nat.le_refl _) _
     have k13 : LotBox W13 W12.heap.size LA := by rw [← hW13]; exact heap_alloc_new W12 _
     have hS13 := hS12.below b13
     obtain ⟨v9', w14, r14, o14, g14, l14⟩ := run_app_lot W13 w.heap.size _ k _ LA W12.heap.size 1 hS13.own k13 (by omega) hS13.be.size
     obtain ⟨sp13, hr13⟩ := hS13.row
     have hr14 := hr13.kept g14 (fun e => hS13.ne e)
     have hb14 : Below w.heap.size w w14 := hS13.be.grown g14 hS13.be.size (fun k e => (hS13.own.lt k e).1)
     have hne14 := l14 g hr13.lt hS13.ne
     have kB14 : LotBox w14 z9 LB := by
      have hzl := kB.lt
      have h1 : W13.heap[z9]? = some (.cells LB.cells 49 (0, 0)) := (b13.block z9 hzl).trans kB
      refine (g14.block z9 (Nat.lt_of_lt_of_le hzl b13.size) (fun e => ?_)).trans h1
      have := (HS8.out.own.lt _ e.symm).2
      omega
     have y0 := Lib.cell_of_heap kB14 0
     have y1 := Lib.cell_of_heap kB14 1
     have y2 := Lib.cell_of_heap kB14 2
     have y3 := Lib.cell_of_heap kB14 3
     have y4 := Lib.cell_of_heap kB14 4
     have y5 := Lib.cell_of_heap kB14 5
     have y6 := Lib.cell_of_heap kB14 6
     simp [Lot.cells] at y0 y1 y2 y3 y4 y5 y6
     obtain ⟨w15, r15, hr15⟩ := hr14.st HAD.out HIX.out HSZ2.out.2
     have hfin : (restR lz (ps.take (k + 1))).length = M ∧ TkS w lz ps (k + 1) g v9' w15 := by
      have hD : (restR lz (ps.take k)).set i LB = restR lz (ps.take (k + 1)) := by
       rw [HLB.out, HE1.out, ← HI.out, List.set_append_right _ _ (Nat.le_refl _), Nat.sub_self]
       simp
      have hl : (restR lz (ps.take (k + 1))).length = M := by rw [← hD, List.length_set]; exact HLEN.out
      rw [hD] at hr15
      refine ⟨hl, ⟨⟨_, hr15.self⟩, own_grown ?_ hr15.gr (.inr hne14), hne14, hb14.grown hr15.gr hb14.size (fun k e => by injection e with e; rw [← e]; exact hS13.ge), hS13.ge⟩⟩
      rw [HTKN.out, HLA.out, flatV_append, flatV_one']
      exact o14
     have HFIN := hI hfin
     clear hS12 hS13 b12 b13 k13 kA kB kB14 o14 g14 l14 hr13 hr14 hb14 hne14 hr15 hfin HS8 hz9
     unfold Lot.enc Lot.cells at r11 r12
     unfold Lot.cells at hW13
     go_wp2_with (first | (at_builtin; refine Lib.wpList_append_run _ rfl _ _ _ _ rfl _ _ rfl rfl _ _ r14 ?_) | (refine wpList_store_run r11 rfl _ _ rfl rfl rfl ?_) | (refine wpList_store_run r12 rfl _ _ rfl rfl rfl ?_) | (refine wpList_store_run r15 rfl _ _ rfl rfl rfl ?_))
     clear r11 r12 r14 r15 a0 a1 a2 a3 a4 a5 a6 y0 y1 y2 y3 y4 y5 y6
     try rw [HAD.out]
     go_roundw
     case rel => exact ⟨k + 1, M, _, rfl, by go_num, by omega, rfl, by omega, by omega, HFIN.out.1, HFIN.out.2⟩
     case measure => simp [intOf]; omega
   ·have hcx : decide ((k : Int) < (P : Int)) = false := by simp; omega
    have hfin : TakPost w lz ps (.returned (.tuple #[.slice (some ⟨g, 0, none⟩) M cap, t9, .int .i64 0])) wr := by
     have hkp : ps.take k = ps := List.take_of_length_le (by rw [HP.out]; exact hge)
     obtain ⟨⟨sp, hr⟩, ho, hne, hbe, hgg⟩ := HS.out
     have hl := HLEN.out
     rw [hkp] at hr ho hl
     obtain ⟨s1, hs1⟩ := sl_of (restR lz ps) (fun l hl => (hr.ok l hl).sized)
     obtain ⟨s2, hs2⟩ := sl_of (takenR lz ps) (fun l hl => (taken_mid HALL.out HTZ.out HOK.out HQ13.out hl).sized)
     have hl1 : s1.length = M := by rw [← hl, ← hs1, List.length_map]
     have hl2 : s2.length = k := by
      have h : (takenR lz ps).length = ps.length := by unfold takenR; rw [List.length_map]
      rw [← hs2, List.length_map] at h
      have := HP.out
      omega
     rw [← hs2, flatV_val, ← hl2] at ho
     have hnil : ∀ A1 c1, t9 = .slice A1 s2.length c1 → A1 = none → s2.length = 0 ∧ c1 = 0 := fun A1 c1 hv h1 => by
      rcases ho.2 with ⟨h, h2⟩ | ⟨g, cap, cur, h, _⟩
      ·rw [h] at hv; injection hv with _ _ h3; exact ⟨h2, h3.symm⟩
      ·rw [h] at hv; injection hv with h3 _ _; rw [h1] at h3; cases h3
     obtain ⟨A2, c2, rfl, hc2, _, hr2⟩ := RdB.of_own ho
     refine ⟨_, cap, s1, A2, c2, s2, by rw [HE.out, hl1], hbe, ?_, hr2, by rw [hl1]; exact hMc, hc2, (fun h => by cases h), hnil A2 c2 rfl, (fun h => absurd HE.out h), fun _ => ⟨hs1, hs2⟩⟩
     intro hne1
     obtain ⟨ad, e, h1, h2⟩ := hr.rdb (by rw [← hs1]; intro h; exact hne1 (List.map_eq_nil_iff.1 h))
     exact ⟨ad, e, h1, fun j l hj => h2 j l.1 (by rw [← hs1, List.getElem?_map, hj]; rfl)⟩
    have HFIN := hI hfin
    clear hfin
    go_wp2_with fail
    go_ret3
    exact HFIN.out
theorem cost_size (n : Nat) (hn : 1000 ≤ n) (sl : List SLot) (h : sl.length ≤ 10000) : (I (sumL (fun l => vl l.cost) (sl.map Subtype.val))).size ≤ n + 6 := by
 suffices hh : (sumL (fun l => vl l.cost) (sl.map Subtype.val)).natAbs < 10 ^ (5 + n) by
  have := I_size_le hh
  omega
 rw [← sumL_own]
 have h1 := sumBy_bd (f := fun x : SLot => vl x.1.cost) (K := 10 ^ n) (fun x => Nat.lt_of_lt_of_le (vl_lt x.1.cost) (pow_mono (Nat.le_trans x.2.2.2.2.1 hn))) sl
 rw [Nat.pow_add]
 have h0 : 0 < (10 : Nat) ^ n := Nat.pow_pos (by decide)
 generalize (10 : Nat) ^ n = K at *
 have h2 : sl.length * K ≤ 10000 * K := Nat.mul_le_mul_right _ h
 omega
noncomputable def cstZ (lz : List Lot) (ps : List Pk) : Int := if takE lz ps = 0 then sumL (fun l => vl l.cost) (takenR lz ps) else 0
theorem sumL_take {f : Lot → Int} {l : List Lot} {k : Nat} {x : Lot} (h : l[k]? = some x) : sumL f (l.take (k + 1)) = sumL f (l.take k) + f x := by
 rw [take_snoc h, sumL_append, sumL_cons, sumL_nil]; omega
theorem Cost20_any (n₀ : Nat) (A : Option Addr) (ls : List SLot) (c : Nat) (hc : ls.length ≤ c) (hlen : ls.length ≤ 10000) (hti : ∀ l ∈ ls, l.1.tiny) (Ap : Option Addr) (ps : List Pk) (cp : Nat) (hpl : ps.length ≤ 10000) (hcp : ps.length ≤ cp) (hps : ∀ p ∈ ps, p.qty.size ≤ 1000) (h13 : posE (ls.map Subtype.val) none [] ps = 0 → ∀ p ∈ ps, p.qty.size ≤ 13) (w : World)
 (hR : RdB n₀ w A ls) (hn : n₀ ≤ w.heap.size) (hA : A = none → ls.length = 0 ∧ c = 0) (hK : RdK n₀ w Ap ps) (ht : Tabs w) :
 Calls Tryz.prog 18 #[.slice A ls.length c, .slice Ap ps.length cp] w fun e w' => e = .returned (.tuple #[.string (I (cstZ (ls.map Subtype.val) ps)), .int .i64 (takE (ls.map Subtype.val) ps)]) ∧ Below w.heap.size w w' := by
 have HTK := hI (Take20_any n₀ A ls c hc hlen hti Ap ps cp hpl hcp hps h13 w hR hn hA hK ht)
 have HT := hI ht
 obtain ⟨lz, hlz⟩ : ∃ lz, ls.map Subtype.val = lz := ⟨_, rfl⟩
 rw [hlz] at HTK ⊢
 have hPl := hpl
 have HHP : Hid (ps.length ≤ 10000) := hpl
 clear hR hn hA hK ht hti hc hlen hpl hcp hps h13 hlz hPl
 go_enter Tryz.func18, Tryz.ntmps18
 go_wp2_with fail
 refine HTK.out.mono ?_
 rintro e w1 ⟨A1, c1, r1, A2, c2, r2, rfl, b1, _, hr2, _, _, _, _, h0, h1⟩
 have HB1 := hI b1
 have HR2 := hI hr2
 have hrl : r2.length ≤ 10000 := by
  have := HHP.out
  by_cases hz : takE lz ps = 0
  ·have h := congrArg List.length (h1 hz).2
   unfold takenR at h
   rw [List.length_map, List.length_map] at h
   omega
  ·rw [(h0 hz).2]; exact Nat.zero_le _
 have hcs : sumL (fun l => vl l.cost) (r2.map Subtype.val) = cstZ lz ps := by
  unfold cstZ
  by_cases hz : takE lz ps = 0
  ·rw [if_pos hz, (h1 hz).2]
  ·rw [if_neg hz, (h0 hz).2]; rfl
 have HCS := hI hcs
 obtain ⟨zE, hzE⟩ : ∃ z, takE lz ps = z := ⟨_, rfl⟩
 rw [hzE]
 have HZE := hI hzE
 obtain ⟨M, hM⟩ : ∃ M, r2.length = M := ⟨_, rfl⟩
 rw [hM] at hrl ⊢
 have HM := hI hM
 clear b1 hr2 h0 h1 hcs HTK hM hzE
 go_wp2_with fail
 go_loopw [9, 21] (fun v9 v wr => ∃ k : Nat, v = .int .i64 (k : Int) ∧ k ≤ M ∧ v9 = .string (I (sumL (fun l => vl l.cost) ((r2.map Subtype.val).take k))) ∧ Below w1.heap.size w1 wr) (fun _ v _ => M - (intOf v).toNat)
 case atStart => exact ⟨0, rfl, Nat.zero_le _, rfl, Below.refl _ _⟩
 case round =>
  obtain ⟨k, rfl, hk, rfl, hb⟩ := hrel
  have HB := hI hb
  clear hb
  rcases Nat.lt_or_ge k M with hlt | hge
  ·obtain ⟨y, hy⟩ : ∃ y, r2[k]? = some y := ⟨_, List.getElem?_eq_getElem (by rw [HM.out]; exact hlt)⟩
   obtain ⟨ad, rfl, had, hcell⟩ := HR2.out (by intro e; rw [e] at hy; cases hy)
   have hcx : decide ((k : Int) < (M : Int)) = true := by simp; omega
   obtain ⟨c0, c1', c2', c3, c4, c5, c6⟩ := (hcell k y hy).below HB.out (by rw [add_block]; exact had)
   have hym : (r2.map Subtype.val)[k]? = some y.1 := by rw [List.getElem?_map, hy]; rfl
   have HTK := hI (sumL_take (f := fun l => vl l.cost) hym)
   obtain ⟨z, hz⟩ : ∃ z, sumL (fun l => vl l.cost) ((r2.map Subtype.val).take k) = z := ⟨_, rfl⟩
   have hzs : (I z).size ≤ 4000000 := by
    rw [← hz, ← List.map_take]
    have := cost_size 1000 (Nat.le_refl _) (r2.take k) (by rw [List.length_take]; omega)
    omega
   rw [hz]
   have HZ := hI hz
   obtain ⟨W5, hW5⟩ : ∃ W5, wr.alloc (.cells y.1.cells 49) = W5 := ⟨_, rfl⟩
   have b5 : Below wr.heap.size wr W5 := by rw [← hW5]; exact (Below.refl _ wr).alloc (Nat.le_refl _) _
   have k5 : LotBox W5 wr.heap.size y.1 := by rw [← hW5]; exact heap_alloc_new wr _
   have HB5 := hI (HB.out.trans (b5.mono HB.out.size))
   have d5 := Lib.cell_of_heap k5 5
   simp [Lot.cells] at d5
   have hadd := Add_any (I z) y.1.cost W5 hzs (by have := y.2.2.2.2.1; omega) (HT.out.below (HB1.out.trans (HB5.out.mono HB1.out.size)))
   rw [vl_I] at hadd
   have HADD := hI hadd
   clear b5 k5 hcell hy hym had hadd hz hzs
   unfold Lot.cells at hW5
   go_wp2_with fail
   refine HADD.out.mono ?_
   rintro e w6 ⟨rfl, b6⟩
   have HB6 := hI (HB5.out.trans (b6.mono HB5.out.size))
   clear b6 HADD d5 c0 c1' c2' c3 c4 c5 c6
   go_wp2_with fail
   go_roundw
   case rel => exact ⟨k + 1, by go_num, by omega, by rw [HTK.out, HZ.out], HB6.out⟩
   case measure => simp [intOf]; omega
  ·have hcx : decide ((k : Int) < (M : Int)) = false := by simp; omega
   have he : sumL (fun l => vl l.cost) ((r2.map Subtype.val).take k) = cstZ lz ps := by rw [List.take_of_length_le (by rw [List.length_map, HM.out]; exact hge)]; exact HCS.out
   rw [he]
   clear he
   go_wp2_with fail
   go_ret2
   exact ⟨by rw [HZE.out]; rfl, HB1.out.trans (HB.out.mono HB1.out.size)⟩
noncomputable def chkE (lz : List Lot) (s : ByteArray) (ps : List Pk) : Int := open Classical in if lall lz ≠ 0 then 1 else posE lz (some s) [] ps
theorem Check20_any (n₀ : Nat) (A : Option Addr) (ls : List SLot) (c : Nat) (hc : ls.length ≤ c) (hlen : ls.length ≤ 10000) (s : ByteArray) (Ap : Option Addr) (ps : List Pk) (cp : Nat) (hpl : ps.length ≤ 10000) (hcp : ps.length ≤ cp) (hps : ∀ p ∈ ps, p.qty.size ≤ 1000) (w : World)
 (hR : RdB n₀ w A ls) (hn : n₀ ≤ w.heap.size) (hK : RdK n₀ w Ap ps) (ht : Tabs w) :
 Calls Tryz.prog 25 #[.slice A ls.length c, .string s, .slice Ap ps.length cp] w fun e w' => e = .returned (.int .i64 (chkE (ls.map Subtype.val) s ps)) ∧ Below w.heap.size w w' := by
 obtain ⟨W0, hW0⟩ : ∃ W0, w.alloc (.cells #[.string s] 9) = W0 := ⟨_, rfl⟩
 have hb0 : Below w.heap.size w W0 := by rw [← hW0]; exact (Below.refl _ w).alloc (Nat.le_refl _) _
 have k0 : Boxed W0 w.heap.size 9 (.string s) := by rw [← hW0]; exact heap_alloc_new w _
 have HCA := hI (lCheckAll_any A c (ls.map Subtype.val) (by rw [List.length_map]; exact hc) (by rw [List.length_map]; omega) W0 (((hR.below (hb0.mono hn)).rdb').rdl (Nat.le_trans hn hb0.size)) (fun l hl => by obtain ⟨y, _, rfl⟩ := List.mem_map.1 hl; exact y.2) (ht.below hb0))
 have HPO := fun W (hW : Below w.heap.size w W) (hk : Boxed W w.heap.size 9 (.string s)) => possible_any n₀ A ls c (by omega) (some s) (.pointer (some ⟨w.heap.size, 0, none⟩)) Ap ps cp hpl hcp hps W (hR.below (hW.mono hn)) (Nat.le_trans hn hW.size) (hK.below (hW.mono hn)) (.inr ⟨s, _, rfl, rfl, hk⟩)
 rw [List.length_map] at HCA
 obtain ⟨lz, hlz⟩ : ∃ lz, ls.map Subtype.val = lz := ⟨_, rfl⟩
 rw [hlz] at HCA HPO ⊢
 replace HPO := hI HPO
 have HB0 := hI hb0
 have HK0 := hI k0
 obtain ⟨N, hN⟩ : ∃ N, ls.length = N := ⟨_, rfl⟩
 obtain ⟨P, hP⟩ : ∃ P, ps.length = P := ⟨_, rfl⟩
 rw [hN] at HCA HPO ⊢
 rw [hP] at HPO ⊢
 clear hR hn hK ht hc hlen hpl hcp hps hlz hb0 k0 hN hP
 go_enter Tryz.func25, Tryz.ntmps25
 go_wp2_with fail
 refine HCA.out.mono ?_
 rintro e w1 ⟨rfl, b1⟩
 have HB1 := hI (HB0.out.trans (b1.mono HB0.out.size))
 have HK1 : Hid (Boxed w1 w.heap.size 9 (.string s)) := (b1.block _ HK0.out.lt).trans HK0.out
 clear b1 HCA
 by_cases h0 : lall lz = 0
 case neg =>
  have t1 : (lall lz == 0) = false := beq_eq_false_iff_ne.2 h0
  have t2 : (lall lz != 0) = true := by rw [bne, t1]; rfl
  have HE : Hid (chkE lz s ps = 1) := by unfold Hid chkE; rw [if_pos h0]
  clear h0
  go_wp2_with fail
  go_ret
  exact ⟨by rw [HE.out]; rfl, HB1.out⟩
 have HE : Hid (chkE lz s ps = posE lz (some s) [] ps) := by unfold Hid chkE; rw [if_neg (fun y => y h0)]
 have HPOS := hI (HPO.out w1 HB1.out HK1.out)
 rw [h0]
 clear h0 HPO
 go_wp2_with fail
 refine HPOS.out.mono ?_
 rintro e w2 ⟨rfl, b2⟩
 have HB2 := hI (HB1.out.trans (b2.mono HB1.out.size))
 clear b2 HPOS
 go_wp2_with fail
 go_ret
 exact ⟨by rw [HE.out]; rfl, HB2.out⟩
def la : Lot := ⟨⟨#[97, 47, 49]⟩, ⟨#[97, 98, 99]⟩, 1, 1, ⟨#[49, 48]⟩, ⟨#[49, 48, 48]⟩, ⟨#[]⟩⟩
def lb : Lot := ⟨⟨#[98, 47, 49]⟩, ⟨#[97, 98, 99]⟩, 2, 2, ⟨#[49, 48]⟩, ⟨#[51, 48, 48]⟩, ⟨#[]⟩⟩
def lc : Lot := ⟨⟨#[99, 47, 49]⟩, ⟨#[97, 98, 99]⟩, 2, 2, ⟨#[49, 48]⟩, ⟨#[50, 48, 48]⟩, ⟨#[]⟩⟩
def abc : ByteArray := ⟨#[97, 98, 99]⟩
def q15 : ByteArray := ⟨#[49, 53]⟩
theorem la_tiny : la.tiny := ⟨by decide, by decide, by decide, by decide, by decide⟩
theorem lb_tiny : lb.tiny := ⟨by decide, by decide, by decide, by decide, by decide⟩
theorem lc_tiny : lc.tiny := ⟨by decide, by decide, by decide, by decide, by decide⟩
theorem la_ok : la.ok where
 id := by kernel_rfl
 inst := by decide
 acq := by unfold okDay; decide
 opn := by unfold okDay; decide
 ord := by decide
 cq := by unfold Can; decide
 cc := by unfold Can; decide
 cu := by unfold Can; decide
 pq := by decide
 pc := by decide
 us := .inl rfl
theorem lb_ok : lb.ok where
 id := by kernel_rfl
 inst := by decide
 acq := by unfold okDay; decide
 opn := by unfold okDay; decide
 ord := by decide
 cq := by unfold Can; decide
 cc := by unfold Can; decide
 cu := by unfold Can; decide
 pq := by decide
 pc := by decide
 us := .inl rfl
theorem lc_ok : lc.ok where
 id := by kernel_rfl
 inst := by decide
 acq := by unfold okDay; decide
 opn := by unfold okDay; decide
 ord := by decide
 cq := by unfold Can; decide
 cc := by unfold Can; decide
 cu := by unfold Can; decide
 pq := by decide
 pc := by decide
 us := .inl rfl
def s3 : List SLot := [⟨la, la_tiny.sized⟩, ⟨lb, lb_tiny.sized⟩, ⟨lc, lc_tiny.sized⟩]
def l3 : List Lot := [la, lb, lc]
theorem s3_l3 : s3.map Subtype.val = l3 := rfl
theorem l3_all : AllOk l3 := by
 refine ⟨by decide, fun l hl => ?_, ?_⟩
 ·unfold l3 at hl
  simp at hl
  rcases hl with rfl | rfl | rfl
  ·exact lchk_zero.2 la_ok
  ·exact lchk_zero.2 lb_ok
  ·exact lchk_zero.2 lc_ok
 ·show List.Nodup [la.id, lb.id, lc.id]
  simp [la, lb, lc]
theorem l3_lall : lall l3 = 0 := (lall_zero l3).2 l3_all
theorem own3 : ownB l3 abc = l3 := by kernel_rfl
theorem q15_vl : vl q15 = 15 := by decide
theorem tot3 : totQ l3 = 30 := by kernel_rfl
def wz (k : Nat) : Int := if k = 0 then 250 else if k = 1 then 350 else if k = 2 then 400 else 200
theorem wz_is (k : Nat) (hk : k < 4) : sumL (fun l => vl l.cost) (takenR l3 (pksOf (chsSt l3 ((k : Int) + 1) 15 []).1)) = wz k := by
 rcases (show k = 0 ∨ k = 1 ∨ k = 2 ∨ k = 3 from by omega) with rfl | rfl | rfl | rfl
 ·kernel_rfl
 ·kernel_rfl
 ·kernel_rfl
 ·kernel_rfl
theorem chs3 (k : Nat) (hk : k < 4) : chsE l3 abc q15 ((k : Int) + 1) [] = 0 :=
 chsE_ok l3_lall (by unfold Can; decide) (fun h => Bool.false_ne_true h.2) (by omega) (by rw [q15_vl]; decide) (by rw [own3, q15_vl, tot3]; decide)
theorem inv3 (k : Nat) : InvA l3 15 (chsSt l3 ((k : Int) + 1) 15 []) := InvA.chs l3_all.nd (fun x hx => (lchk_zero.1 (l3_all.ok x hx)).pq) (by decide) _ _
theorem pos3 (k : Nat) : posE l3 none [] (pksOf (chsSt l3 ((k : Int) + 1) 15 []).1) = 0 :=
 (posE_zero _ _ _ _).2 ⟨fun p _ h => (by simp at h), (inv3 k).pks l3_all.nd (s := abc) (fun x hx => ⟨hx, by unfold l3 at hx; simp at hx; rcases hx with rfl | rfl | rfl <;> rfl⟩) none (fun t e => by cases e)⟩
theorem tak3 (k : Nat) : takE l3 (pksOf (chsSt l3 ((k : Int) + 1) 15 []).1) = 0 := (takE_pos l3_lall _).trans (pos3 k)
theorem cst3 (k : Nat) (hk : k < 4) : cstZ l3 (pksOf (chsSt l3 ((k : Int) + 1) 15 []).1) = wz k := by unfold cstZ; rw [if_pos (tak3 k), wz_is k hk]
theorem size3 (k : Nat) : ∀ p ∈ pksOf (chsSt l3 ((k : Int) + 1) 15 []).1, p.qty.size ≤ 3 := by
 intro p hp
 obtain ⟨a, ha, rfl⟩ := List.mem_map.1 hp
 have h := inv3 k
 obtain ⟨x, hx, e⟩ := h.sub a ha
 have h1 := h.le x hx
 rw [e, amt_mem h.nd ha] at h1
 have h2 := h.pos a ha
 have hq : vl x.qty = 10 ∧ x.qty.size = 2 := by unfold l3 at hx; simp at hx; rcases hx with rfl | rfl | rfl <;> decide
 have := I_size_in (a := x.qty) (Int.le_of_lt h2) h1
 show (I a.2).size ≤ 3
 omega
theorem len3 (k : Nat) : (pksOf (chsSt l3 ((k : Int) + 1) 15 []).1).length ≤ 10000 := by
 have key : ∀ (S : List Lot) (st : Am × Int), (tkAll S st).1.length ≤ st.1.length + S.length := by
  intro S
  induction S with
  | nil => intro st; exact Nat.le_refl _
  | cons x r ih =>
    intro st
    have h1 := ih (tk st x (vl x.qty))
    have h2 := tk_len st x (vl x.qty)
    show (tkAll r (tk st x (vl x.qty))).1.length ≤ _
    rw [List.length_cons]; omega
 unfold pksOf
 rw [List.length_map]
 unfold chsSt
 have h1 := key (ordP ((k : Int) + 1) l3) (if (k : Int) + 1 = 5 then [].foldl (tkP l3) ([], 15) else ([], 15))
 have h2 := (ordP_perm ((k : Int) + 1) l3).length_eq
 have h3 : l3.length = 3 := rfl
 have h4 : (if (k : Int) + 1 = 5 then ([] : List Pk).foldl (tkP l3) ([], (15 : Int)) else ([], 15)).1.length = 0 := by split <;> rfl
 omega
theorem I250 : I 250 = ⟨#[50, 53, 48]⟩ := by decide
theorem I350 : I 350 = ⟨#[51, 53, 48]⟩ := by decide
theorem I400 : I 400 = ⟨#[52, 48, 48]⟩ := by decide
theorem I200 : I 200 = ⟨#[50, 48, 48]⟩ := by decide
theorem awake20_any (w : World) (ht : Tabs w) : Calls Tryz.prog 15 #[] w fun e w' => e = .returned (.bool true) ∧ Below w.heap.size w w' := by
 obtain ⟨W0, hW0⟩ : ∃ W0, w.alloc (.cells #[.string ⟨#[97, 47, 49]⟩, .string ⟨#[97, 98, 99]⟩, .int .i64 1, .int .i64 1, .string ⟨#[49, 48]⟩, .string ⟨#[49, 48, 48]⟩, .string ⟨#[]⟩, .string ⟨#[98, 47, 49]⟩, .string ⟨#[97, 98, 99]⟩, .int .i64 2, .int .i64 2, .string ⟨#[49, 48]⟩, .string ⟨#[51, 48, 48]⟩, .string ⟨#[]⟩, .string ⟨#[99, 47, 49]⟩, .string ⟨#[97, 98, 99]⟩, .int .i64 2, .int .i64 2, .string ⟨#[49, 48]⟩, .string ⟨#[50, 48, 48]⟩, .string ⟨#[]⟩] 49) = W0 := ⟨_, rfl⟩
 have k0 : W0.heap[w.heap.size]? = some (.cells (flatV l3).toArray 49 (0, 0)) := by rw [← hW0]; exact heap_alloc_new w _
 have b0 : Below w.heap.size w W0 := by rw [← hW0]; exact (Below.refl _ w).alloc (Nat.le_refl _) _
 obtain ⟨W1, hW1⟩ : ∃ W1, W0.alloc (.cells #[.string ⟨#[50, 53, 48]⟩, .string ⟨#[51, 53, 48]⟩, .string ⟨#[52, 48, 48]⟩, .string ⟨#[50, 48, 48]⟩] 25) = W1 := ⟨_, rfl⟩
 have k1 : W1.heap[W0.heap.size]? = some (.cells #[.string ⟨#[50, 53, 48]⟩, .string ⟨#[51, 53, 48]⟩, .string ⟨#[52, 48, 48]⟩, .string ⟨#[50, 48, 48]⟩] 25 (0, 0)) := by rw [← hW1]; exact heap_alloc_new W0 _
 have b1 : Below W0.heap.size W0 W1 := by rw [← hW1]; exact (Below.refl _ W0).alloc (Nat.le_refl _) _
 have HB1 := hI (b0.trans (b1.mono b0.size))
 have k0' := (b1.block _ (Array.getElem?_eq_some_iff.1 k0).1).trans k0
 have hrow : SRow (fun _ => True) W1 w.heap.size [] l3 W1 := ⟨by rw [List.append_nil]; exact k0', fun _ _ => trivial, ⟨rfl, rfl, rfl, Nat.le_refl _, fun _ _ _ => rfl⟩, (Array.getElem?_eq_some_iff.1 k0').1⟩
 have hrd : RdB W1.heap.size W1 (some ⟨w.heap.size, 0, none⟩) s3 := fun _ => ⟨_, rfl, hrow.lt, fun j l hj => by rw [addr_add0]; exact hrow.at (by rw [← s3_l3, List.getElem?_map, hj]; rfl)⟩
 have HRD := hI hrd
 have HK1 := hI k1
 have HT := hI ht
 have hti : ∀ l ∈ s3, l.1.tiny := by intro l hl; unfold s3 at hl; simp at hl; rcases hl with rfl | rfl | rfl; exact la_tiny; exact lb_tiny; exact lc_tiny
 have HCH := hI (fun (k : Nat) (W : World) (hW : Below W1.heap.size W1 W) => Choose20_any W1.heap.size (some ⟨w.heap.size, 0, none⟩) s3 3 (by decide) (by decide) abc q15 (by decide) ((k : Int) + 1) none [] 0 (by decide) (fun p h => by cases h) W (hrd.below hW) hW.size (fun h => by cases h) (RdK.nil _ _ _) (ht.below (HB1.out.trans (hW.mono HB1.out.size))))
 have HCO := hI (fun (k : Nat) (hk : k < 4) (A : Option Addr) (c n : Nat) (hc : (pksOf (chsSt l3 ((k : Int) + 1) 15 []).1).length ≤ c) (W : World) (hW : Below W1.heap.size W1 W) (hn : n ≤ W.heap.size) (hK : RdK n W A (pksOf (chsSt l3 ((k : Int) + 1) 15 []).1)) =>
  Cost20_any W.heap.size (some ⟨w.heap.size, 0, none⟩) s3 3 (by decide) (by decide) hti A _ c (len3 k) hc (fun p hp => by have := size3 k p hp; omega) (fun _ p hp => by have := size3 k p hp; omega) W (fun h => by obtain ⟨ad, e, h1, h2⟩ := hrd.below hW h; exact ⟨ad, e, Nat.lt_of_lt_of_le h1 hW.size, h2⟩) (Nat.le_refl _) (fun h => by cases h) (hK.mono hn) (ht.below (HB1.out.trans (hW.mono HB1.out.size))))
 rw [s3_l3, show s3.length = 3 from rfl] at HCH HCO
 clear k0 b0 k1 b1 k0' hrow hrd hti ht
 go_enter Tryz.func15, Tryz.ntmps15
 go_wp2_with fail
 go_loopw [14] (fun v wr => ∃ k : Nat, v = .int .i64 (k : Int) ∧ k ≤ 4 ∧ Below W1.heap.size W1 wr) (fun v _ => 4 - (intOf v).toNat)
 case atStart => exact ⟨0, rfl, Nat.zero_le _, Below.refl _ _⟩
 case round =>
  obtain ⟨k, rfl, hk, hb⟩ := hrel
  have HB := hI hb
  clear hb
  rcases Nat.lt_or_ge k 4 with hlt | hge
  ·have hcx : decide ((k : Int) < (4 : Int)) = true := by simp; omega
   have hcell : wr.cell? ⟨W0.heap.size, k, none⟩ = some (.string (I (wz k))) := by
    have h := (HB.out.block _ (Array.getElem?_eq_some_iff.1 HK1.out).1).trans HK1.out
    rw [Lib.cell_of_heap h k]
    rcases (show k = 0 ∨ k = 1 ∨ k = 2 ∨ k = 3 from by omega) with rfl | rfl | rfl | rfl
    ·show some (Value.string _) = some (Value.string (I 250)); rw [I250]
    ·show some (Value.string _) = some (Value.string (I 350)); rw [I350]
    ·show some (Value.string _) = some (Value.string (I 400)); rw [I400]
    ·show some (Value.string _) = some (Value.string (I 200)); rw [I200]
   have hchs := HCH.out k wr HB.out
   have HC := hI hchs
   have HLT := hI hlt
   obtain ⟨zw, hzw⟩ : ∃ z, wz k = z := ⟨_, rfl⟩
   rw [hzw] at hcell
   have HZW := hI hzw
   clear hchs hzw
   go_wp2_with fail
   refine HC.out.mono ?_
   rintro e w2 ⟨A, c, res, rfl, b2, hk2, hc2, _, hres⟩
   have hr := hres (chs3 k HLT.out)
   rw [own3, q15_vl] at hr
   subst hr
   rw [chs3 k HLT.out]
   have HB2 := hI (HB.out.trans (b2.mono HB.out.size))
   have hco := HCO.out k HLT.out A c w2.heap.size hc2 w2 HB2.out (Nat.le_refl _) hk2
   rw [tak3, cst3 k HLT.out, HZW.out] at hco
   have HCC := hI hco
   generalize (pksOf (chsSt l3 ((k : Int) + 1) 15 []).1).length = n at HCC ⊢
   clear b2 hk2 hc2 hres hco HC hcell
   go_wp2_with fail
   refine HCC.out.mono ?_
   rintro e w3 ⟨rfl, b3⟩
   have HB3 := hI (HB2.out.trans (b3.mono HB2.out.size))
   clear b3 HCC
   go_wp2_with fail
   go_roundw
   case rel => exact ⟨k + 1, by go_num, by omega, HB3.out⟩
   case measure => simp [intOf]; omega
  ·have hcx : decide ((k : Int) < (4 : Int)) = false := by simp; omega
   go_wp2_with fail
   go_ret
   exact ⟨rfl, HB1.out.trans (HB.out.mono HB1.out.size)⟩
theorem pick_iff (x y : Pk) : x = y ↔ x.lot = y.lot ∧ x.qty = y.qty := by cases x; cases y; simp
theorem eqGuard_pick (op : BinOp) (x y : Operand) (xs ys : Array Value) (w : World) : (eqGuard op 43 x y (.agg xs) (.agg ys)).run Tryz.prog w = .ok () w := run_eqGuard_agg w op _ x y xs ys (by kernel_rfl)
attribute [local go_sem] eqGuard_pick
theorem run_neq_pick (x y : Pk) (w : World) : (binOp .neq 43 (.agg #[.string x.lot, .string x.qty]) (.agg #[.string y.lot, .string y.qty])).run Tryz.prog w = .ok (.bool (!sameB x y)) w := by
 have hS : Tryz.prog.underlying 43 = some (.struct (Tryz.prog.fieldsOf 43)) := by kernel_rfl
 have hp : Tryz.prog.stoodInHeld 43 = false := by kernel_rfl
 have u0 := Tryz.underlying9
 have a0 := Tryz.isAgg9
 have z0 := Tryz.sizeOf9
 have u1 := Tryz.underlying25
 have a1 := Tryz.isAgg25
 have z1 := Tryz.sizeOf25
 rw [run_neq_struct, show (10000 : Nat) = 9999 + 1 from rfl, run_equalIn_agg w 9999 _ _ _ hS hp]
 simp only [Program.fieldsOf, Tryz.underlying43]
 go_simp
 by_cases h0 : x.lot = y.lot
 case neg => rw [sameB_no (fun e => h0 (by rw [e]))]; simp [tl_iff, h0]
 by_cases h1 : x.qty = y.qty
 case neg => rw [sameB_no (fun e => h1 (by rw [e]))]; simp [tl_iff, h0, h1]
 rw [sameB_yes ((pick_iff x y).2 ⟨h0, h1⟩)]; simp [tl_iff, h0, h1]
theorem eqPicks_any (A1 A2 : Option Addr) (l1 l2 : List Pk) (c1 c2 : Nat) (h1 : l1.length ≤ 1000000) (h2 : l2.length ≤ 1000000) (n1 n2 : Nat) (w : World) (r1 : RdK n1 w A1 l1) (r2 : RdK n2 w A2 l2) :
 Calls Tryz.prog 26 #[.slice A1 l1.length c1, .slice A2 l2.length c2] w fun e w' => e = .returned (.bool (sameB l1 l2)) ∧ ∃ m, w' = w.drewN m := by
 have R1 := hI r1
 have R2 := hI r2
 clear r1 r2
 by_cases hl : l1.length = l2.length
 case neg =>
  have tn : ((l1.length : Int) != (l2.length : Int)) = true := by rw [bne, beq_eq_false_iff_ne.2 (by omega)]; rfl
  have tn' : (l1.length != l2.length) = true := by rw [bne, beq_eq_false_iff_ne.2 hl]; rfl
  have te : ((l1.length : Int) == (l2.length : Int)) = false := beq_eq_false_iff_ne.2 (by omega)
  have te' : (l1.length == l2.length) = false := beq_eq_false_iff_ne.2 hl
  have HS := hI (sameB_no (fun e => hl (by rw [e])) : sameB l1 l2 = false)
  clear hl
  go_enter Tryz.func26, Tryz.ntmps26
  go_wp2_with fail
  go_ret
  exact ⟨by rw [HS.out]; rfl, 0, rfl⟩
 obtain ⟨n, hn⟩ : ∃ n, l1.length = n := ⟨_, rfl⟩
 rw [← hl, hn]
 have tn : ((n : Int) != (n : Int)) = false := by simp
 have HL : Hid (l1.length = n ∧ l2.length = n) := ⟨hn, hl ▸ hn⟩
 have hnn : n ≤ 1000000 := by omega
 clear hl hn h1 h2
 go_enter Tryz.func26, Tryz.ntmps26
 go_wp2_with fail
 go_loopw [5, 13] (fun _ v wr => ∃ k m : Nat, v = .int .i64 (k : Int) ∧ k ≤ n ∧ wr = w.drewN m ∧ l1.take k = l2.take k) (fun _ v _ => n - (intOf v).toNat)
 case atStart => exact ⟨0, 0, rfl, by omega, rfl, rfl⟩
 case round =>
  obtain ⟨k, m, rfl, hk, rfl, htk⟩ := hrel
  have HTK := hI htk
  clear tn htk
  rcases Nat.lt_or_ge k n with hlt | hge
  ·obtain ⟨x, hx⟩ : ∃ x, l1[k]? = some x := ⟨_, List.getElem?_eq_getElem (by rw [HL.out.1]; exact hlt)⟩
   obtain ⟨y, hy⟩ : ∃ y, l2[k]? = some y := ⟨_, List.getElem?_eq_getElem (by rw [HL.out.2]; exact hlt)⟩
   obtain ⟨a1, rfl, _, hc1⟩ := R1.out (by intro e; rw [e] at hx; cases hx)
   obtain ⟨a2, rfl, _, hc2⟩ := R2.out (by intro e; rw [e] at hy; cases hy)
   have p := hc1 k x hx
   have q := hc2 k y hy
   obtain ⟨p0, p1⟩ := p
   obtain ⟨q0, q1⟩ := q
   have hcx : decide ((k : Int) < (n : Int)) = true := by simp; omega
   have hb : (k : Int) < (n : Int) := by omega
   have hne := run_neq_pick x y
   by_cases he : x = y
   ·rw [sameB_yes he] at hne
    have HST := hI (take_same HTK.out hx hy he)
    clear hc1 hc2 hx hy he
    go_wp2_with fail
    go_quiet (fail)
    go_wp2_with fail
    go_roundw
    case rel => exact ⟨k + 1, m + nq, by go_num, by omega, by first | rfl | rw [World.drewN_drewN], HST.out⟩
    case measure => simp [intOf]; omega
   ·rw [sameB_no he] at hne
    have HST := hI (sameB_no (ne_at hx hy he))
    clear hc1 hc2 hx hy he
    go_wp2_with fail
    go_quiet (fail)
    go_wp2_with fail
    go_ret
    exact ⟨by rw [HST.out]; rfl, _, by first | rfl | rw [World.drewN_drewN]⟩
  ·have hcx : decide ((k : Int) < (n : Int)) = false := by simp; omega
   have HST : Hid (sameB l1 l2 = true) := sameB_yes (by have := HTK.out; rwa [List.take_of_length_le (by rw [HL.out.1]; exact hge), List.take_of_length_le (by rw [HL.out.2]; exact hge)] at this)
   go_wp2_with fail
   go_ret
   exact ⟨by rw [HST.out]; rfl, _, rfl⟩
def bigP (p : Pk) : Bool := decide (24 < p.lot.size) || decide (13 < p.qty.size)
theorem bigP_no {p : Pk} (h : bigP p = false) : p.lot.size ≤ 24 ∧ p.qty.size ≤ 13 := by
 unfold bigP at h
 simp at h
 exact h
theorem bigClo_any (p : Pk) (w : World) : Calls Tryz.prog 64 #[p.enc] w fun e w' => e = .returned (.bool (bigP p)) ∧ Below w.heap.size w w' := by
 obtain ⟨W0, hW0⟩ : ∃ W0, w.alloc (.cells p.cells 43) = W0 := ⟨_, rfl⟩
 have hb : Below w.heap.size w W0 := by rw [← hW0]; exact (Below.refl _ w).alloc (Nat.le_refl _) _
 have k1 : PkBox W0 w.heap.size p := by rw [← hW0]; exact heap_alloc_new w _
 have d0 := Lib.cell_of_heap k1 0
 have d1 := Lib.cell_of_heap k1 1
 simp [Pk.cells] at d0 d1
 have HB := hI hb
 obtain ⟨b, hbp⟩ : ∃ b, bigP p = b := ⟨_, rfl⟩
 rw [hbp]
 have HE := hI hbp
 clear k1 hb hbp
 unfold Pk.cells at hW0
 unfold Pk.enc Pk.cells
 by_cases h1 : 24 < p.lot.size
 ·have t1 : decide ((24 : Int) < (p.lot.size : Int)) = true := decide_eq_true (by omega)
  have t2 : decide ((p.lot.size : Int) > 24) = true := t1
  have HD : Hid (b = true) := by rw [Hid, ← HE.out]; unfold bigP; rw [decide_eq_true h1]; rfl
  clear h1
  go_enter Tryz.func64, Tryz.ntmps64
  go_wp2_with fail
  go_ret
  exact ⟨by rw [HD.out]; rfl, HB.out⟩
 ·have t1 : decide ((24 : Int) < (p.lot.size : Int)) = false := decide_eq_false (by omega)
  have t2 : decide ((p.lot.size : Int) > 24) = false := t1
  by_cases h2 : 13 < p.qty.size
  ·have t3 : decide ((13 : Int) < (p.qty.size : Int)) = true := decide_eq_true (by omega)
   have t4 : decide ((p.qty.size : Int) > 13) = true := t3
   have HD : Hid (b = true) := by rw [Hid, ← HE.out]; unfold bigP; rw [decide_eq_false h1, decide_eq_true h2]; rfl
   clear h1 h2
   go_enter Tryz.func64, Tryz.ntmps64
   go_wp2_with fail
   go_ret
   exact ⟨by rw [HD.out]; rfl, HB.out⟩
  ·have t3 : decide ((13 : Int) < (p.qty.size : Int)) = false := decide_eq_false (by omega)
   have t4 : decide ((p.qty.size : Int) > 13) = false := t3
   have HD : Hid (b = false) := by rw [Hid, ← HE.out]; unfold bigP; rw [decide_eq_false h1, decide_eq_false h2]; rfl
   clear h1 h2
   go_enter Tryz.func64, Tryz.ntmps64
   go_wp2_with fail
   go_ret
   exact ⟨by rw [HD.out]; rfl, HB.out⟩
structure Sml (ls : List Lot) (ps : List Pk) (s q : ByteArray) : Prop where
 len : (ls.length ≤ 12 ∨ 999 ≤ ls.length) ∧ ls.length ≤ 1002
 tiny : ∀ l ∈ ls, l.tiny
 pl : ps.length ≤ 8
 s : s.size ≤ 24
 q : q.size ≤ 13
 p : ∀ p ∈ ps, p.lot.size ≤ 24 ∧ p.qty.size ≤ 13
theorem great20_any (n₀ : Nat) (A : Option Addr) (ls : List Lot) (c : Nat) (hlm : ls.length ≤ 9223372036854775807) (Ap : Option Addr) (ps : List Pk) (cp : Nat) (hpm : ps.length ≤ 9223372036854775807) (s q : ByteArray) (w : World) (hR : RdL w A ls) (hK : RdK n₀ w Ap ps) (hn : n₀ ≤ w.heap.size) :
 Calls Tryz.prog 13 #[.slice A ls.length c, .slice Ap ps.length cp, .string s, .string q] w (GreatPost w (Sml ls ps s q)) := by
 have HG := hI (rGreat19_len A ls c hlm w hR)
 have HBC := fun (h : ps.length ≤ 8) W (hW : Below w.heap.size w W) => hasPicks_any bigP 64 #[] n₀ Ap ps cp (by omega) W (hK.below (hW.mono hn)) (Nat.le_trans hn hW.size) ⟨enters_of Tryz.func64 (by kernel_rfl) rfl, fun W2 _ p _ => bigClo_any p W2⟩
 obtain ⟨N, hN⟩ : ∃ N, ls.length = N := ⟨_, rfl⟩
 obtain ⟨P, hP⟩ : ∃ P, ps.length = P := ⟨_, rfl⟩
 rw [hN] at HG ⊢
 rw [hP] at HBC ⊢
 replace HBC := hI HBC
 have HN := hI hN
 have HP := hI hP
 clear hR hK hlm hpm hN hP
 go_enter Tryz.func13, Tryz.ntmps13
 go_wp2_with fail
 refine HG.out.mono ?_
 rintro e w1 ⟨b, rfl, hb, b1⟩
 have HB1 := hI b1
 clear b1 HG
 cases b
 case true =>
  clear hb
  go_wp2_with fail
  go_ret
  exact ⟨true, rfl, (fun h => by cases h), HB1.out⟩
 have HL := hI (hb rfl)
 clear hb
 by_cases h1 : 8 < P
 ·have t1 : decide ((8 : Int) < (P : Int)) = true := decide_eq_true (by omega)
  have t2 : decide ((P : Int) > 8) = true := t1
  clear h1
  go_wp2_with fail
  go_ret
  exact ⟨true, rfl, (fun h => by cases h), HB1.out⟩
 have t1 : decide ((8 : Int) < (P : Int)) = false := decide_eq_false (by omega)
 have t2 : decide ((P : Int) > 8) = false := t1
 by_cases h2 : 24 < s.size
 ·have t3 : decide ((24 : Int) < (s.size : Int)) = true := decide_eq_true (by omega)
  have t4 : decide ((s.size : Int) > 24) = true := t3
  clear h1 h2
  go_wp2_with fail
  go_ret
  exact ⟨true, rfl, (fun h => by cases h), HB1.out⟩
 have t3 : decide ((24 : Int) < (s.size : Int)) = false := decide_eq_false (by omega)
 have t4 : decide ((s.size : Int) > 24) = false := t3
 by_cases h3 : 13 < q.size
 ·have t5 : decide ((13 : Int) < (q.size : Int)) = true := decide_eq_true (by omega)
  have t6 : decide ((q.size : Int) > 13) = true := t5
  clear h1 h2 h3
  go_wp2_with fail
  go_ret
  exact ⟨true, rfl, (fun h => by cases h), HB1.out⟩
 have t5 : decide ((13 : Int) < (q.size : Int)) = false := decide_eq_false (by omega)
 have t6 : decide ((q.size : Int) > 13) = false := t5
 have HS : Hid (P ≤ 8 ∧ s.size ≤ 24 ∧ q.size ≤ 13) := ⟨by omega, by omega, by omega⟩
 have HC := hI (HBC.out HS.out.1 w1 HB1.out)
 clear h1 h2 h3 HBC
 go_wp2_with fail
 refine HC.out.mono ?_
 rintro e w2 ⟨rfl, b2⟩
 have HB2 := hI (HB1.out.trans (b2.mono HB1.out.size))
 clear b2 HC
 obtain ⟨z, hz⟩ : ∃ z, ps.any bigP = z := ⟨_, rfl⟩
 rw [hz]
 have HZ := hI hz
 clear hz
 go_wp2_with fail
 go_ret
 refine ⟨z, rfl, (fun h => ?_), HB2.out⟩
 subst h
 exact ⟨by rw [HN.out]; exact ⟨HL.out.1, HL.out.2.1⟩, HL.out.2.2, by rw [HP.out]; exact HS.out.1, HS.out.2.1, HS.out.2.2, fun p hp => bigP_no (by have := List.any_eq_false.1 HZ.out p hp; cases hb : bigP p; rfl; exact (this hb).elim)⟩
end Go.Proofs.YtdnmpgoigagjmaaGreatDoor
namespace Go.Proofs.YtdnmpgoigagjmaaGreatDoor
open Go.RowKit Tr Go.Shelf
theorem sumPk_take {ps : List Pk} {k : Nat} {p : Pk} (h : ps[k]? = some p) : sumPk (ps.take (k + 1)) = sumPk (ps.take k) + vl p.qty := by rw [take_snoc h, sumPk_snoc]
structure ChsOk (lz : List Lot) (s q : ByteArray) (m : Int) (ps : List Pk) : Prop where
 all : lall lz = 0
 can : Can q
 bad : ¬ (m = 5 ∧ ps.any badP = true)
 kind : 1 ≤ m ∧ m ≤ 6
 pos : 0 < vl q
 le : vl q ≤ totQ (ownB lz s)
theorem chsE_zero {lz : List Lot} {s q : ByteArray} {m : Int} {ps : List Pk} (h : chsE lz s q m ps = 0) : ChsOk lz s q m ps := by
 by_cases h1 : lall lz ≠ 0 ∨ ¬ Can q
 ·rw [chsE_arg h1] at h; exact absurd h (by decide)
 have h0 : lall lz = 0 := Classical.byContradiction fun x => h1 (.inl x)
 have hc : Can q := Classical.byContradiction fun x => h1 (.inr x)
 by_cases h2 : m = 5 ∧ ps.any badP = true
 ·rw [chsE_bad h0 hc h2] at h; exact absurd h (by decide)
 by_cases h3 : 1 ≤ m ∧ m ≤ 6
 case neg => rw [chsE_kind h0 hc h2 h3] at h; exact absurd h (by decide)
 by_cases h4 : vl q ≤ 0
 ·rw [chsE_range h0 hc h2 h3 h4] at h; exact absurd h (by decide)
 by_cases h5 : totQ (ownB lz s) < vl q
 ·rw [chsE_short h0 hc h2 h3 (by omega) h5] at h; exact absurd h (by decide)
 exact ⟨h0, hc, h2, h3, by omega, by omega⟩
theorem sumPk_bd (n : Nat) (ps : List Pk) (hl : ps.length ≤ 10000) (h : ∀ p ∈ ps, p.qty.size ≤ n) : (I (sumPk ps)).size ≤ n + 6 := by
 suffices hh : (sumPk ps).natAbs < 10 ^ (5 + n) by
  have := I_size_le hh
  omega
 rw [Nat.pow_add]
 have h0 : 0 < (10 : Nat) ^ n := Nat.pow_pos (by decide)
 have key : ∀ r : List Pk, (∀ p ∈ r, p.qty.size ≤ n) → (sumPk r).natAbs ≤ r.length * 10 ^ n := by
  intro r
  induction r with
  | nil => intro _; exact Nat.zero_le _
  | cons p r ih =>
    intro h
    have e : sumPk (p :: r) = vl p.qty + sumPk r := by unfold sumPk; rw [List.foldl_cons, foldl_pk (fun p => vl p.qty)]; omega
    have h1 := ih (fun y hy => h y (List.mem_cons_of_mem _ hy))
    have h2 : (vl p.qty).natAbs < 10 ^ n := Nat.lt_of_lt_of_le (vl_lt p.qty) (pow_mono (h p (List.mem_cons_self ..)))
    rw [e, List.length_cons, Nat.add_mul, Nat.one_mul]
    generalize (10 : Nat) ^ n = K at *
    omega
 have h1 := key ps h
 generalize (10 : Nat) ^ n = K at *
 have h2 : ps.length * K ≤ 10000 * K := Nat.mul_le_mul_right _ hl
 omega
def chsR (lz : List Lot) (s q : ByteArray) (m : Int) (ps : List Pk) : List Pk := pksOf (chsSt (ownB lz s) m (vl q) ps).1
section
variable {lz : List Lot} {s q : ByteArray} {m : Int} {ps : List Pk}
theorem ChsOk.pos' (h : ChsOk lz s q m ps) : ∀ x ∈ lz, 0 < vl x.qty := fun x hx => (lchk_zero.1 (((lall_zero lz).1 h.all).ok x hx)).pq
theorem ChsOk.nd (h : ChsOk lz s q m ps) : ((ownB lz s).map Lot.id).Nodup := ownB_nd s ((lall_zero lz).1 h.all).nd
theorem ChsOk.inv (h : ChsOk lz s q m ps) : InvA (ownB lz s) (vl q) (chsSt (ownB lz s) m (vl q) ps) := InvA.chs h.nd (fun x hx => h.pos' x (ownB_mem.1 hx).1) (Int.le_of_lt h.pos) m ps
theorem ChsOk.pks (h : ChsOk lz s q m ps) (io : Option ByteArray) (hio : ∀ t, io = some t → t = s) : PksOk lz io (chsR lz s q m ps) := h.inv.pks ((lall_zero lz).1 h.all).nd (fun x hx => ownB_mem.1 hx) io hio
theorem ChsOk.chk (h : ChsOk lz s q m ps) : chkE lz s (chsR lz s q m ps) = 0 := by
 unfold chkE
 rw [if_neg (fun y => y h.all)]
 exact (posE_zero _ _ _ _).2 ⟨fun p _ hm => (by simp at hm), h.pks (some s) (fun t e => by injection e with e; exact e.symm)⟩
theorem ChsOk.sum (h : ChsOk lz s q m ps) : sumPk (chsR lz s q m ps) = vl q := by
 have h1 := h.inv.sum
 have h2 := chs_all h.nd (fun x hx => h.pos' x (ownB_mem.1 hx).1) (Int.le_of_lt h.pos) h.le m ps
 unfold chsR
 rw [sumPk_pks]
 omega
theorem chs_len (own : List Lot) (m q : Int) (ps : List Pk) : (chsSt own m q ps).1.length ≤ ps.length + own.length := by
 have key : ∀ (S : List Lot) (st : Am × Int), (tkAll S st).1.length ≤ st.1.length + S.length := by
  intro S
  induction S with
  | nil => intro st; exact Nat.le_refl _
  | cons x r ih =>
    intro st
    have h1 := ih (tk st x (vl x.qty))
    have h2 := tk_len st x (vl x.qty)
    show (tkAll r (tk st x (vl x.qty))).1.length ≤ _
    rw [List.length_cons]; omega
 have key2 : ∀ (ps : List Pk) (st : Am × Int), (ps.foldl (tkP own) st).1.length ≤ st.1.length + ps.length := by
  intro ps
  induction ps with
  | nil => intro st; exact Nat.le_refl _
  | cons p r ih =>
    intro st
    have h1 := ih (tkP own st p)
    have h2 : (tkP own st p).1.length ≤ st.1.length + 1 := by
     unfold tkP
     split
     ·exact tk_len _ _ _
     ·exact Nat.le_succ _
    rw [List.foldl_cons, List.length_cons]; omega
 unfold chsSt
 have h1 := key (ordP m own) (if m = 5 then ps.foldl (tkP own) ([], q) else ([], q))
 have h2 := (ordP_perm m own).length_eq
 have h3 : (if m = 5 then ps.foldl (tkP own) ([], q) else ([], q)).1.length ≤ ps.length := by
  split
  ·have := key2 ps ([], q)
   simpa using this
  ·exact Nat.zero_le _
 omega
theorem chsR_len (lz : List Lot) (s q : ByteArray) (m : Int) (ps : List Pk) : (chsR lz s q m ps).length ≤ ps.length + lz.length := by
 unfold chsR pksOf
 rw [List.length_map]
 have h1 := chs_len (ownB lz s) m (vl q) ps
 have h2 : (ownB lz s).length ≤ lz.length := List.length_filter_le _ _
 omega
theorem ChsOk.size (h : ChsOk lz s q m ps) (hti : ∀ l ∈ lz, l.tiny) : ∀ p ∈ chsR lz s q m ps, p.qty.size ≤ 14 := by
 intro p hp
 obtain ⟨a, ha, rfl⟩ := List.mem_map.1 hp
 obtain ⟨x, hx, e⟩ := h.inv.sub a ha
 have h1 := h.inv.le x hx
 rw [e, amt_mem h.inv.nd ha] at h1
 have h2 := I_size_in (a := x.qty) (Int.le_of_lt (h.inv.pos a ha)) h1
 have h3 := (hti x (ownB_mem.1 hx).1).1
 show (I a.2).size ≤ 14
 omega
theorem ChsOk.whole (h : ChsOk lz s q m ps) (hm : m ≠ 5) {i : Nat} {p : Pk} {x : Lot} (hp : (chsR lz s q m ps)[i]? = some p) (hi : i + 1 < (chsR lz s q m ps).length) (hx : lotOf lz p.lot = some x) : p.qty = x.qty := by
 have hg := chs_greedy h.nd (fun x hx => h.pos' x (ownB_mem.1 hx).1) (Int.le_of_lt h.pos) hm ps
 unfold chsR at hp hi
 rw [hg] at hp hi
 unfold pksOf at hp hi
 rw [List.length_map] at hi
 rw [List.getElem?_map] at hp
 obtain ⟨a, ha, rfl⟩ := Option.map_eq_some_iff.1 hp
 obtain ⟨y, hy, rfl⟩ := greedy_whole _ _ i a ha hi
 have hyo := (ordP_perm m (ownB lz s)).mem_iff.1 hy
 have hym := (ownB_mem.1 hyo).1
 have := nd_inj ((lall_zero lz).1 h.all).nd (lotOf_mem hx).1 hym (lotOf_mem hx).2
 subst this
 have hc := (lchk_zero.1 (((lall_zero lz).1 h.all).ok x hym)).cq
 exact hc
theorem ChsOk.nil (h : ChsOk lz s q m ps) (hm : m ≠ 5) : chsE lz s q m [] = 0 ∧ chsR lz s q m [] = chsR lz s q m ps := by
 refine ⟨chsE_ok h.all h.can (fun x => hm x.1) h.kind h.pos h.le, ?_⟩
 unfold chsR chsSt
 rw [if_neg hm, if_neg hm]
end
end Go.Proofs.YtdnmpgoigagjmaaGreatDoor
