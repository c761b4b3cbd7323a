/-
  What relief.Take holds while it takes.
  The walk of relief.Take.
  The walks of relief.Cost, relief.Check.
  The reference of relief: check, Check, Order.
  The reference of relief: Take. (Printed by gen_rr6.py.)
  The reference of relief: Choose. (Printed by gen_rr5.py.)
  The example of the chapter on relief, plainly.
  tranchelaw20.awake returns true.
  Picks compared as the machine does it; slices.Equal over picks; tranchelaw20.great. (Printed by gen_eqk.py.)
  What was chosen, plainly.
  The names of the methods: relief.Name and its reference.
-/
import Derived.Test.YtjlakdocjpmblaaGreatDoorK37
import Derived.Test.YtjlakdocjpmblaaGreatDoorK40
import Derived.Test.YtjlakdocjpmblaaGreatDoorK26
import Derived.Test.YtjlakdocjpmblaaGreatDoorK22
import Derived.Test.YtjlakdocjpmblaaGreatDoorK15
import Derived.Test.YtjlakdocjpmblaaGreatDoorK35
import Derived.BigQuiet
import Derived.Deep.DeepCutAuto
import Derived.Test.YtjlakdocjpmblaaGreatDoorK36
import Derived.Test.YtjlakdocjpmblaaGreatDoorK24
import Derived.Test.YtjlakdocjpmblaaGreatDoorK29
import Derived.Laws.StructEq
set_option linter.unusedVariables false
set_option linter.unusedSimpArgs false
set_option maxHeartbeats 16000000
set_option maxRecDepth 100000
namespace Go.Proofs.YtjlakdocjpmblaaGreatDoor
open Go.RowKit Tr Go.Shelf
noncomputable def takE (lz : List Lot) (ps : List Pk) : Int := open Classical in if lall lz ≠ 0 then 1 else posE lz none [] ps
theorem takE_all {lz : List Lot} (h : lall lz ≠ 0) (ps : List Pk) : takE lz ps = 1 := by unfold takE; rw [if_pos h]
theorem takE_pos {lz : List Lot} (h : lall lz = 0) (ps : List Pk) : takE lz ps = posE lz none [] ps := by unfold takE; rw [if_neg (fun y => y h)]
def TakPost (w : World) (lz : List Lot) (ps : List Pk) (e : Ending) (w' : World) : Prop :=
 ∃ (A1 : Option Addr) (c1 : Nat) (r1 : List SLot) (A2 : Option Addr) (c2 : Nat) (r2 : List SLot), e = .returned (.tuple #[.slice A1 r1.length c1, .slice A2 r2.length c2, .int .i64 (takE lz ps)]) ∧ Below w.heap.size w w' ∧ RdB w'.heap.size w' A1 r1 ∧ RdB w'.heap.size w' A2 r2 ∧ r1.length ≤ c1 ∧ r2.length ≤ c2 ∧
  (A1 = none → r1.length = 0 ∧ c1 = 0) ∧ (A2 = none → r2.length = 0 ∧ c2 = 0) ∧ (takE lz ps ≠ 0 → r1 = [] ∧ r2 = []) ∧ (takE lz ps = 0 → r1.map Subtype.val = restR lz ps ∧ r2.map Subtype.val = takenR lz ps)
theorem takPost_no {w w' : World} {lz : List Lot} {ps : List Pk} {E : Int} (h : takE lz ps = E) (h0 : E ≠ 0) (hb : Below w.heap.size w w') : TakPost w lz ps (.returned (.tuple #[.slice none 0 0, .slice none 0 0, .int .i64 E])) w' :=
 ⟨none, 0, [], none, 0, [], by rw [h]; rfl, hb, (fun e => absurd rfl e), (fun e => absurd rfl e), Nat.le_refl _, Nat.le_refl _, (fun _ => ⟨rfl, rfl⟩), (fun _ => ⟨rfl, rfl⟩), (fun _ => ⟨rfl, rfl⟩), fun e => absurd (h.symm.trans e) h0⟩
theorem SRow.self {V : Lot → Prop} {w0 W : World} {g : Nat} {sp : List Value} {D : List Lot} (h : SRow V w0 g sp D W) : SRow V W g sp D W := ⟨h.row, h.ok, ⟨rfl, rfl, rfl, Nat.le_refl _, fun _ _ _ => rfl⟩, h.ltW⟩
theorem SRow.kept {V : Lot → Prop} {W W' : World} {g : Nat} {sp : List Value} {D : List Lot} (h : SRow V W g sp D W) {row : Option Nat} (hg : W.grownBy W' row) (hne : row ≠ some g) : SRow V W' g sp D W' :=
 ⟨(hg.block g h.lt (fun e => hne e.symm)).trans h.row, h.ok, ⟨rfl, rfl, rfl, Nat.le_refl _, fun _ _ _ => rfl⟩, Nat.lt_of_lt_of_le h.lt hg.size⟩
theorem SRow.stay {V : Lot → Prop} {W W' : World} {g : Nat} {sp : List Value} {D : List Lot} (h : SRow V W g sp D W) (hb : Below W.heap.size W W') : SRow V W' g sp D W' :=
 h.kept (row := none) ⟨hb.os, hb.tape, hb.output, hb.size, fun k hk _ => hb.block k hk⟩ (by simp)
theorem SRow.rdb {V : Lot → Prop} {w0 W : World} {g : Nat} {sp : List Value} {D : List Lot} (h : SRow V w0 g sp D W) : RdB' W.heap.size W (some ⟨g, 0, none⟩) D :=
 fun _ => ⟨_, rfl, h.ltW, fun j l hj => by rw [addr_add0]; exact h.at hj⟩
theorem own_grown {w w' : World} {base n : Nat} {v : Value} {xs : List Value} {row : Option Nat} (h : w.ownsRow base 48 7 v n xs) (hg : w.grownBy w' row) (hne : v.ownBlock = none ∨ v.ownBlock ≠ row) : w'.ownsRow base 48 7 v n xs := h.kept hg hne
theorem run_app_lot (w : World) (base : Nat) (v : Value) (n : Nat) (xs : List Value) (x : Lot) (B cB : Nat) (hown : w.ownsRow base 48 7 v n xs) (hx : LotBox w B x) (hn : n ≤ 100000) (hb : base ≤ w.heap.size) :
 ∃ v' w', (Builtin.append_ #[22, 22] 22 #[v, .slice (some ⟨B, 0, none⟩) 1 cB]).run Tryz.prog w = .ok v' w' ∧
  w'.ownsRow base 48 7 v' (n + 1) (xs ++ x.cells.toList) ∧ w.grownBy w' v.ownBlock ∧ ∀ g, g < w.heap.size → v.ownBlock ≠ some g → v'.ownBlock ≠ some g := by
 obtain ⟨i0, hi0, hz0, hz1, hz2⟩ := info_parts Tryz.infoLot
 obtain ⟨g', cap, w', h1, h2, h3, h4, _⟩ := run_append_lies (P := Tryz.prog) w 22 22 base 48 i0 _ 7 96 Tryz.underlying22 hi0 hz0 hz1 hz2 rfl (by decide) v n xs hown ⟨B, 0, none⟩ 1 cB x.cells.toList rfl (lotbox_src hx) (lotcells_one x) (by decide) (by unfold maxLen; omega) (by omega) hb w.heap.size rfl
 refine ⟨_, w', h1, h2, h3, fun g hg hne e => ?_⟩
 have e2 : g' = g := by simpa [Value.ownBlock] using e
 rcases h4 with h4 | h4
 ·exact hne (by rw [h4, e2])
 ·omega
theorem two_boxes (w : World) (a b : Lot) : ∃ W1 W2 W3 W4, w.alloc (.cells #[.string ⟨#[]⟩, .string ⟨#[]⟩, .int .i64 0, .int .i64 0, .string ⟨#[]⟩, .string ⟨#[]⟩, .string ⟨#[]⟩] 48) = W1 ∧ W1.alloc (.cells #[.string ⟨#[]⟩, .string ⟨#[]⟩, .int .i64 0, .int .i64 0, .string ⟨#[]⟩, .string ⟨#[]⟩, .string ⟨#[]⟩] 48) = W2 ∧
 (Instr.storeAt 48 (.pointer (some ⟨w.heap.size, 0, none⟩)) a.enc).run Tryz.prog W2 = .ok () W3 ∧ (Instr.storeAt 48 (.pointer (some ⟨W1.heap.size, 0, none⟩)) b.enc).run Tryz.prog W3 = .ok () W4 ∧ LotBox W4 w.heap.size a ∧ LotBox W4 W1.heap.size b ∧ Below w.heap.size w W4 ∧ W1.heap.size = w.heap.size + 1 := by
 obtain ⟨W1, hW1⟩ : ∃ W1, w.alloc (.cells #[.string ⟨#[]⟩, .string ⟨#[]⟩, .int .i64 0, .int .i64 0, .string ⟨#[]⟩, .string ⟨#[]⟩, .string ⟨#[]⟩] 48) = W1 := ⟨_, rfl⟩
 obtain ⟨W2, hW2⟩ : ∃ W2, W1.alloc (.cells #[.string ⟨#[]⟩, .string ⟨#[]⟩, .int .i64 0, .int .i64 0, .string ⟨#[]⟩, .string ⟨#[]⟩, .string ⟨#[]⟩] 48) = W2 := ⟨_, rfl⟩
 have hs : W1.heap.size = w.heap.size + 1 := by rw [← hW1, World.size_alloc]
 have hb1 : Below w.heap.size w W1 := by rw [← hW1]; exact (Below.refl _ w).alloc (Nat.le_refl _) _
 have hb2 : Below W1.heap.size W1 W2 := by rw [← hW2]; exact (Below.refl _ W1).alloc (Nat.le_refl _) _
 have k1 : W1.heap[w.heap.size]? = some (.cells #[.string ⟨#[]⟩, .string ⟨#[]⟩, .int .i64 0, .int .i64 0, .string ⟨#[]⟩, .string ⟨#[]⟩, .string ⟨#[]⟩] 48 (0, 0)) := by rw [← hW1]; exact heap_alloc_new w _
 have k1' := (hb2.block _ (by omega)).trans k1
 have k2 : W2.heap[W1.heap.size]? = some (.cells #[.string ⟨#[]⟩, .string ⟨#[]⟩, .int .i64 0, .int .i64 0, .string ⟨#[]⟩, .string ⟨#[]⟩, .string ⟨#[]⟩] 48 (0, 0)) := by rw [← hW2]; exact heap_alloc_new W1 _
 have r3 := run_store_row W2 w.heap.size 7 48 _ a.cells (by kernel_rfl) k1' rfl rfl (lotcells_one a)
 have k3 : (W2.setRow w.heap.size a.cells).heap[W1.heap.size]? = _ := (setRow_other _ _ _ _ (by omega)).trans k2
 have r4 := run_store_row (W2.setRow w.heap.size a.cells) W1.heap.size 7 48 _ b.cells (by kernel_rfl) k3 rfl rfl (lotcells_one b)
 refine ⟨W1, W2, _, _, hW1, hW2, r3, r4, ?_, ?_, ?_, hs⟩
 ·exact (setRow_other _ _ _ _ (by omega)).trans (setRow_heap _ _ _ _ _ _ k1')
 ·exact setRow_heap _ _ _ _ _ _ k3
 ·exact below_setRow (below_setRow (hb1.trans (hb2.mono hb1.size)) (Nat.le_refl _) _) (by omega) _
theorem flatV_one' (x : Lot) : flatV [x] = x.cells.toList := by rw [flatV_cons, flatV_nil, List.append_nil]
structure TkS (w : World) (lz : List Lot) (ps : List Pk) (k g : Nat) (v9 : Value) (W : World) : Prop where
 row : ∃ sp, SRow Lot.mid W g sp (restR lz (ps.take k)) W
 own : W.ownsRow w.heap.size 48 7 v9 k (flatV (takenR lz (ps.take k)))
 ne : v9.ownBlock ≠ some g
 be : Below w.heap.size w W
 ge : w.heap.size ≤ g
theorem TkS.below {w : World} {lz : List Lot} {ps : List Pk} {k g : Nat} {v9 : Value} {W W' : World} (h : TkS w lz ps k g v9 W) (hb : Below W.heap.size W W') : TkS w lz ps k g v9 W' := by
 obtain ⟨sp, hr⟩ := h.row
 exact ⟨⟨sp, hr.stay hb⟩, own_below h.own hb, h.ne, h.be.trans (hb.mono h.be.size), h.ge⟩
theorem Take20_any (n₀ : Nat) (A : Option Addr) (ls : List SLot) (c : Nat) (hc : ls.length ≤ c) (hlen : ls.length ≤ 10000) (hti : ∀ l ∈ ls, l.1.tiny) (Ap : Option Addr) (ps : List Pk) (cp : Nat) (hpl : ps.length ≤ 10000) (hcp : ps.length ≤ cp) (hps : ∀ p ∈ ps, p.qty.size ≤ 1000) (h13 : posE (ls.map Subtype.val) none [] ps = 0 → ∀ p ∈ ps, p.qty.size ≤ 13) (w : World)
 (hR : RdB n₀ w A ls) (hn : n₀ ≤ w.heap.size) (hA : A = none → ls.length = 0 ∧ c = 0) (hK : RdK n₀ w Ap ps) (ht : Tabs w) :
 Calls Tryz.prog 15 #[.slice A ls.length c, .slice Ap ps.length cp] w (TakPost w (ls.map Subtype.val) ps) := by
 obtain ⟨lz, hlz⟩ : ∃ lz, ls.map Subtype.val = lz := ⟨_, rfl⟩
 have hlzn : lz.length = ls.length := by rw [← hlz, List.length_map]
 have htz : ∀ l ∈ lz, l.tiny := fun l hl => by rw [← hlz] at hl; obtain ⟨y, hy, rfl⟩ := List.mem_map.1 hl; exact hti y hy
 have HCA := hI (lCheckAll_any A c (ls.map Subtype.val) (by rw [List.length_map]; exact hc) (by rw [List.length_map]; omega) w ((hR.rdb').rdl hn) (fun l hl => by obtain ⟨y, _, rfl⟩ := List.mem_map.1 hl; exact y.2) ht)
 have HPO := fun W (hW : Below w.heap.size w W) => possible_any n₀ A ls c (by omega) none (.pointer none) Ap ps cp hpl hcp hps W (hR.below (hW.mono hn)) (Nat.le_trans hn hW.size) (hK.below (hW.mono hn)) (.inl ⟨rfl, rfl⟩)
 have HCL := fun W (hW : Below w.heap.size w W) => cloneLots_own A ls c n₀ W (hR.below (hW.mono hn)) (Nat.le_trans hn hW.size) (by omega) hA
 have hfl : flatL ls = flatV lz := by rw [← hlz, flatV_val]
 rw [hfl] at HCL
 rw [List.length_map] at HCA
 rw [hlz] at HCA HPO h13 ⊢
 obtain ⟨N, hN⟩ : ∃ N, ls.length = N := ⟨_, rfl⟩
 obtain ⟨P, hP⟩ : ∃ P, ps.length = P := ⟨_, rfl⟩
 rw [hN] at HCA HPO HCL hlzn ⊢
 rw [hP] at HPO ⊢
 replace HPO := hI HPO
 replace HCL := hI HCL
 have HKP := hI hK
 have HNn := hI hn
 have HT := hI ht
 have HTZ := hI htz
 have H13 := hI h13
 have HPZ := hI hps
 have HLN := hI hlzn
 have HP := hI hP
 have hPl : P ≤ 10000 := by omega
 have hNl : N ≤ 10000 := by omega
 clear hR hn hA hK ht hti htz hc hlen hpl hcp h13 hlz hlzn hfl hps hN hP
 go_enter Tryz.func15, Tryz.ntmps15
 go_wp2_with fail
 refine HCA.out.mono ?_
 rintro e w1 ⟨rfl, b1⟩
 have HB1 := hI b1
 clear b1 HCA
 by_cases h0 : lall lz = 0
 case neg =>
  have t1 : (lall lz == 0) = false := beq_eq_false_iff_ne.2 h0
  have t2 : (lall lz != 0) = true := by rw [bne, t1]; rfl
  have HE := hI (takE_all h0 ps)
  clear h0
  go_wp2_with fail
  go_ret3
  exact takPost_no HE.out (by decide) HB1.out
 have H0 := hI h0
 rw [h0]
 clear h0
 have HPOS := hI (HPO.out w1 HB1.out)
 clear HPO
 go_wp2_with fail
 refine HPOS.out.mono ?_
 rintro e w2 ⟨rfl, b2⟩
 have HB2 := hI (HB1.out.trans (b2.mono HB1.out.size))
 clear b2 HPOS HB1
 by_cases hpo : posE lz none [] ps = 0
 case neg =>
  have HE := hI (And.intro (takE_pos H0.out ps) hpo)
  generalize posE lz none [] ps = z at hpo HE ⊢
  have t1 : (z == 0) = false := beq_eq_false_iff_ne.2 hpo
  have t2 : (z != 0) = true := by rw [bne, t1]; rfl
  clear hpo
  go_wp2_with fail
  go_ret3
  exact takPost_no HE.out.1 HE.out.2 HB2.out
 have HE : Hid (takE lz ps = 0) := (takE_pos H0.out ps).trans hpo
 have HOK := hI ((posE_zero lz none ps []).1 hpo).2
 have HQ13 := hI (H13.out hpo)
 rw [hpo]
 clear hpo H13
 have HCLC := hI (HCL.out w2 HB2.out)
 clear HCL
 go_wp2_with fail
 refine HCLC.out.mono ?_
 rintro e w3 ⟨v, rfl, hown, b3⟩
 have HB3 := hI (HB2.out.trans (b3.mono HB2.out.size))
 have HOWN := hI (own_mono hown HB2.out.size)
 clear hown b3 HCLC HB2
 have hall := (lall_zero lz).1 H0.out
 have HALL := hI hall
 rcases Nat.eq_zero_or_pos P with hp0 | hpp
 ·subst hp0
  have HPS : Hid (ps = []) := List.eq_nil_of_length_eq_zero HP.out
  have hfin : TakPost w lz ps (.returned (.tuple #[v, .slice none 0 0, .int .i64 0])) w3 := by
   obtain ⟨sl, hsl⟩ := sl_of lz (fun l hl => (HTZ.out l hl).sized)
   have hln : sl.length = N := by rw [← HLN.out, ← hsl, List.length_map]
   have ho := HOWN.out
   rw [← hsl, flatV_val, ← hln] at ho
   have hnil : ∀ A1 c1, v = .slice A1 sl.length c1 → A1 = none → sl.length = 0 ∧ c1 = 0 := fun A1 c1 hv h1 => by
    rcases ho.2 with ⟨h, h2⟩ | ⟨g, cap, cur, h, _⟩
    ·rw [h] at hv; injection hv with _ _ h3; exact ⟨h2, h3.symm⟩
    ·rw [h] at hv; injection hv with h3 _ _; rw [h1] at h3; cases h3
   obtain ⟨A1, c1, rfl, hc1, _, hr1⟩ := RdB.of_own ho
   exact ⟨A1, c1, sl, none, 0, [], by rw [HE.out]; rfl, HB3.out, hr1, (fun e => absurd rfl e), hc1, Nat.le_refl _, hnil A1 c1 rfl, (fun _ => ⟨rfl, rfl⟩), (fun h => absurd HE.out h), fun _ => ⟨by rw [HPS.out, restR_nil, hsl], by rw [HPS.out]; rfl⟩⟩
  have HFIN := hI hfin
  clear hfin hall
  go_wp2_with fail
  refine wp_loop_rounds 1 ?_
  rw [rounds_succ]
  go_wp2_with fail
  go_ret3
  exact HFIN.out
 ·have hNp : 0 < N := by
   obtain ⟨p, hp⟩ : ∃ p, ps[0]? = some p := ⟨_, List.getElem?_eq_getElem (by rw [HP.out]; exact hpp)⟩
   obtain ⟨x, hx⟩ := HOK.out.ok p (List.mem_of_getElem? hp)
   have := (lotOf_mem hx.lot).1
   rw [← HLN.out]
   exact List.length_pos_of_mem this
  obtain ⟨g, cap, rfl, hbg, hgl⟩ := HOWN.out.form hNp
  have hcap : N ≤ cap ∧ cap ≤ maxLen ∧ ∃ sp, w3.heap[g]? = some (.cells (flatV lz ++ sp).toArray 48 (0, 0)) := by
   rcases HOWN.out.2 with ⟨h, _⟩ | ⟨g', cap', cur, h, _, hg, hnc, hcm, _, ht⟩
   ·simp at h
   ·simp at h
    obtain ⟨rfl, rfl⟩ := h
    refine ⟨hnc, hcm, cur.toList.drop (N * 7), ?_⟩
    rw [← ht, List.take_append_drop]
    exact hg
  obtain ⟨hcap1, hcap2, sp0, hrow0⟩ := hcap
  have hS0 : TkS w lz ps 0 g (.slice none 0 0) w3 := ⟨⟨sp0, by rw [List.take_zero, restR_nil]; exact ⟨hrow0, fun x hx => (HTZ.out x hx).mid, ⟨rfl, rfl, rfl, Nat.le_refl _, fun _ _ _ => rfl⟩, hgl⟩⟩, World.ownsRow_nil _ _ _ _, by simp [Value.ownBlock], HB3.out, hbg⟩
  have HS0 := hI hS0
  have HL0 : Hid ((restR lz (ps.take 0)).length = N) := by rw [Hid, List.take_zero, restR_nil, HLN.out]
  have hcapm : cap ≤ 9223372036854775807 := by unfold maxLen at hcap2; omega
  clear hall hbg hgl hcap2 hrow0 hS0 HOWN HB3
  go_wp2_with fail
  go_loopw [8, 9, 31] (fun v8 v9 v wr => ∃ (k M : Nat) (t9 : Value), t9 = v9 ∧ v = .int .i64 (k : Int) ∧ k ≤ P ∧ v8 = .slice (some ⟨g, 0, none⟩) M cap ∧ M ≤ cap ∧ M ≤ N ∧ (restR lz (ps.take k)).length = M ∧ TkS w lz ps k g t9 wr) (fun _ _ v _ => P - (intOf v).toNat)
  case atStart => exact ⟨0, N, _, rfl, rfl, Nat.zero_le _, rfl, hcap1, Nat.le_refl _, HL0.out, HS0.out⟩
  case round =>
   clear HS0 HL0 hcap1
   obtain ⟨k, M, t9, rfl, rfl, hkP, rfl, hMc, hMN, hlen, hS⟩ := hrel
   have HLEN := hI hlen
   have HS := hI hS
   clear hlen hS
   rcases Nat.lt_or_ge k P with hlt | hge
   ·obtain ⟨p, hp⟩ : ∃ p, ps[k]? = some p := ⟨_, List.getElem?_eq_getElem (by rw [HP.out]; exact hlt)⟩
    obtain ⟨ad, rfl, had, hcell⟩ := HKP.out (by intro e; rw [e] at hp; cases hp)
    have hcx : decide ((k : Int) < (P : Int)) = true := by simp; omega
    obtain ⟨c0, c1⟩ := (hcell k p hp).below (HS.out.be.mono HNn.out) (by rw [add_block]; exact had)
    have htk := take_snoc hp
    have hpm := List.mem_of_getElem? hp
    obtain ⟨x, hx⟩ := HOK.out.ok p hpm
    have hxm := (lotOf_mem hx.lot).1
    have hxo := lchk_zero.1 (HALL.out.ok x hxm)
    have hnin : p.lot ∉ (ps.take k).map Pk.lot := by
     have hd := HOK.out.nd
     have h2 : ps = ps.take k ++ p :: ps.drop (k + 1) := by
      obtain ⟨h1, h2⟩ := List.getElem?_eq_some_iff.1 hp
      rw [← h2, ← List.drop_eq_getElem_cons h1, List.take_append_drop]
     rw [h2, List.map_append, List.map_cons, List.nodup_append] at hd
     exact fun hm => hd.2.2 _ hm _ (List.mem_cons_self ..) rfl
    obtain ⟨Pr, Q, e1, e2, e3⟩ := restR_step HALL.out.nd hx.lot hnin
    have e4 := tknO_some hx.lot
    have HX := hI hx
    have HPM := hI hpm
    have HXO := hI hxo
    have HXT := hI (HTZ.out x hxm)
    have HTKN : Hid (takenR lz (ps.take (k + 1)) = takenR lz (ps.take k) ++ [tknO lz p]) := by rw [Hid, htk, takenR_snoc]
    have HE1 := hI e1
    have HE3 : Hid (restR lz (ps.take (k + 1)) = Pr ++ (if x.qty = p.qty then [] else [cutB x p.qty]) ++ Q) := by rw [Hid, htk]; exact e3
    have HE4 := hI e4
    obtain ⟨W5, hW5⟩ : ∃ W5, wr.alloc (.cells p.cells 37) = W5 := ⟨_, rfl⟩
    have b5 : Below wr.heap.size wr W5 := by rw [← hW5]; exact (Below.refl _ wr).alloc (Nat.le_refl _) _
    have k5 : PkBox W5 wr.heap.size p := by rw [← hW5]; exact heap_alloc_new wr _
    have HS5 := hI (HS.out.below b5)
    have HK5 := hI k5
    obtain ⟨sp5, hr5⟩ := HS5.out.row
    have hfi := lFind_any W5.heap.size (some ⟨g, 0, none⟩) (restR lz (ps.take k)) cap p.lot (by rw [HLEN.out]; omega) W5 hr5.rdb (Nat.le_refl _)
    rw [HLEN.out, e2] at hfi
    have HFI := hI hfi
    obtain ⟨i, hi⟩ : ∃ i, Pr.length = i := ⟨_, rfl⟩
    have hiM : i < M := by rw [← HLEN.out, e1, List.length_append, List.length_cons]; omega
    have HIX : Hid ((restR lz (ps.take k))[i]? = some x) := by rw [Hid, e1, ← hi, List.getElem?_append_right (Nat.le_refl _), Nat.sub_self]; rfl
    rw [hi] at HFI
    have HI := hI hi
    have d0 := Lib.cell_of_heap k5 0
    simp [Pk.cells] at d0
    clear b5 k5 hr5 hfi hcell hp htk hpm hx hxm hxo hnin e1 e2 e3 e4 had hi HS
    unfold Pk.cells at hW5
    go_wp2_with fail
    refine HFI.out.mono ?_
    rintro e w6 ⟨rfl, b6⟩
    have HS6 := hI (HS5.out.below b6)
    have HK6 := hI (HK5.out.below b6)
    clear b6 HS5 HK5 HFI d0 c0 c1
    obtain ⟨sp6, hr6⟩ := HS6.out.row
    obtain ⟨ad2, had2⟩ : ∃ ad2 : Addr, ad2 = ⟨g, 0, none⟩ := ⟨_, rfl⟩
    rw [← had2]
    obtain ⟨c0, c1, c2, c3, c4, c5, c6⟩ := hr6.at' had2 HIX.out
    obtain ⟨W7, hW7⟩ : ∃ W7, w6.alloc (.cells x.cells 48) = W7 := ⟨_, rfl⟩
    have b7 : Below w6.heap.size w6 W7 := by rw [← hW7]; exact (Below.refl _ w6).alloc (Nat.le_refl _) _
    have k7 : LotBox W7 w6.heap.size x := by rw [← hW7]; exact heap_alloc_new w6 _
    have HS7 := hI (HS6.out.below b7)
    have HK7 := hI (HK6.out.below b7)
    have HX7 := hI k7
    have p1 := Lib.cell_of_heap HK7.out 1
    have x0 := Lib.cell_of_heap k7 0
    have x1 := Lib.cell_of_heap k7 1
    have x2 := Lib.cell_of_heap k7 2
    have x3 := Lib.cell_of_heap k7 3
    have x4 := Lib.cell_of_heap k7 4
    have x5 := Lib.cell_of_heap k7 5
    have x6 := Lib.cell_of_heap k7 6
    simp [Pk.cells, Lot.cells] at p1 x0 x1 x2 x3 x4 x5 x6
    have HAD := hI had2
    have hse := str_eq x.qty p.qty
    clear b7 k7 hr6 had2 HS6 HK6
    unfold Lot.cells at hW7
    by_cases hq : x.qty = p.qty
    ·have t1 : (x.qty.toList == p.qty.toList) = true := by rw [hse]; exact decide_eq_true hq
     have HQ := hI hq
     clear hq hse
     obtain ⟨W8, hW8⟩ : ∃ W8, W7.alloc (.cells x.cells 48) = W8 := ⟨_, rfl⟩
     have b8 : Below W7.heap.size W7 W8 := by rw [← hW8]; exact (Below.refl _ W7).alloc (Nat.le_refl _) _
     have k8 : LotBox W8 W7.heap.size x := by rw [← hW8]; exact heap_alloc_new W7 _
     have hS8 := HS7.out.below b8
     obtain ⟨v9', w9, r9, o9, g9, l9⟩ := run_app_lot W8 w.heap.size _ k _ x W7.heap.size 1 hS8.own k8 (by omega) hS8.be.size
     obtain ⟨sp8, hr8⟩ := hS8.row
     have hr9 := hr8.kept g9 (fun e => hS8.ne e)
     have hb9 : Below w.heap.size w w9 := hS8.be.grown g9 hS8.be.size (fun k e => (hS8.own.lt k e).1)
     have hne9 := l9 g hr8.lt hS8.ne
     have HD := hI (delLots_any Lot.mid w9 g M cap i (i + 1) rfl sp8 _ HLEN.out hMc hcapm hiM w9 hr9)
     have HR9 : Hid (w9.ownsRow w.heap.size 48 7 v9' (k + 1) (flatV (takenR lz (ps.take (k + 1)))) ∧ v9'.ownBlock ≠ some g ∧ Below w.heap.size w w9 ∧ w.heap.size ≤ g) := by
      refine ⟨?_, hne9, hb9, hS8.ge⟩
      rw [HTKN.out, HE4.out, if_pos HQ.out, flatV_append, flatV_one']
      exact o9
     clear b8 k8 hS8 o9 g9 l9 hr8 hr9 hb9 hne9 HS7 HX7 HK7
     unfold Lot.cells at hW8
     rw [← HAD.out] at HD
     go_wp2_with (at_builtin; refine Lib.wpList_append_run _ rfl _ _ _ _ rfl _ _ rfl rfl _ _ r9 ?_)
     refine HD.out.mono ?_
     rintro e w10 ⟨rfl, sp', hr10⟩
     have hfin : (restR lz (ps.take (k + 1))).length = M - 1 ∧ TkS w lz ps (k + 1) g v9' w10 := by
      obtain ⟨q1, q2, q3, q4⟩ := HR9.out
      have hD : (restR lz (ps.take k)).take i ++ (restR lz (ps.take k)).drop (i + 1) = restR lz (ps.take (k + 1)) := by
       rw [HE3.out, if_pos HQ.out, HE1.out, ← HI.out, List.take_left, show Pr ++ x :: Q = (Pr ++ [x]) ++ Q from by simp, show Pr.length + 1 = (Pr ++ [x]).length from by simp, List.drop_left]
       simp
      rw [hD] at hr10
      refine ⟨?_, ⟨⟨sp', hr10.self⟩, own_grown q1 hr10.gr (.inr q2), q2, q3.grown hr10.gr q3.size (fun k e => by injection e with e; rw [← e]; exact q4), q4⟩⟩
      have h1 := HLEN.out
      rw [HE1.out, List.length_append, List.length_cons] at h1
      rw [HE3.out, if_pos HQ.out, List.length_append, List.length_append]
      simp; omega
     have HFIN := hI hfin
     clear hr10 hfin HD r9 HR9 c0 c1 c2 c3 c4 c5 c6 p1 x0 x1 x2 x3 x4 x5 x6
     rw [HAD.out]
     go_wp2_with fail
     go_roundw
     case rel => exact ⟨k + 1, M - 1, _, rfl, by go_num, by omega, rfl, by omega, by omega, HFIN.out.1, HFIN.out.2⟩
     case measure => simp [intOf]; omega
    ·have t1 : (x.qty.toList == p.qty.toList) = false := by rw [hse]; exact decide_eq_false hq
     have hlt2 := pk_lt HXO.out HX.out hq
     have HQ := hI hq
     have hsz2 := cut_sizes HXT.out HXO.out (HQ13.out p HPM.out) HX.out.pos hlt2
     obtain ⟨LA, hLA⟩ : ∃ LA, cutA x p.qty = LA := ⟨_, rfl⟩
     obtain ⟨LB, hLB⟩ : ∃ LB, cutB x p.qty = LB := ⟨_, rfl⟩
     have hcut := lCut_ok x p.qty HXT.out.sized HXO.out HX.out.can (HPZ.out p HPM.out) HX.out.pos hlt2 W7 (HT.out.below HS7.out.be)
     rw [hLA, hLB] at hcut hsz2
     have HSZ2 := hI hsz2
     have HLA : Hid (tknO lz p = LA) := by rw [Hid, HE4.out, if_neg HQ.out, hLA]
     have HLB : Hid (restR lz (ps.take (k + 1)) = Pr ++ [LB] ++ Q) := by rw [Hid, HE3.out, if_neg HQ.out, hLB]
     unfold Lot.enc Lot.cells at hcut
     have HCUT := hI hcut
     clear hq hse hlt2 hsz2 hcut hLA hLB
     go_wp2_with fail
     refine HCUT.out.mono ?_
     rintro e w8 ⟨rfl, b8⟩
     have HS8 := hI (HS7.out.below b8)
     clear b8 HCUT HS7 HX7 HK7 c0 c1 c2 c3 c4 c5 c6 p1 x0 x1 x2 x3 x4 x5 x6
     obtain ⟨W9, W10, W11, W12, hW9, hW10, r11, r12, kA, kB, b12, hz9⟩ := two_boxes w8 LA LB
     obtain ⟨z9, hz⟩ : ∃ z9, W9.heap.size = z9 := ⟨_, rfl⟩
     rw [hz] at r12 kB hz9
     have hS12 := HS8.out.below b12
     have a0 := Lib.cell_of_heap kA 0
     have a1 := Lib.cell_of_heap kA 1
     have a2 := Lib.cell_of_heap kA 2
     have a3 := Lib.cell_of_heap kA 3
     have a4 := Lib.cell_of_heap kA 4
     have a5 := Lib.cell_of_heap kA 5
     have a6 := Lib.cell_of_heap kA 6
     simp [Lot.cells] at a0 a1 a2 a3 a4 a5 a6
     obtain ⟨W13, hW13⟩ : ∃ W13, W12.alloc (.cells LA.cells 48) = W13 := ⟨_, rfl⟩
     have b13 : Below W12.heap.size W12 W13 := by rw [← hW13]; exact (Below.refl _ W12).alloc (Nat.le_refl _) _
     have k13 : LotBox W13 W12.heap.size LA := by rw [← hW13]; exact heap_alloc_new W12 _
     have hS13 := hS12.below b13
     obtain ⟨v9', w14, r14, o14, g14, l14⟩ := run_app_lot W13 w.heap.size _ k _ LA W12.heap.size 1 hS13.own k13 (by omega) hS13.be.size
     obtain ⟨sp13, hr13⟩ := hS13.row
     have hr14 := hr13.kept g14 (fun e => hS13.ne e)
     have hb14 : Below w.heap.size w w14 := hS13.be.grown g14 hS13.be.size (fun k e => (hS13.own.lt k e).1)
     have hne14 := l14 g hr13.lt hS13.ne
     have kB14 : LotBox w14 z9 LB := by
      have hzl := kB.lt
      have h1 : W13.heap[z9]? = some (.cells LB.cells 48 (0, 0)) := (b13.block z9 hzl).trans kB
      refine (g14.block z9 (Nat.lt_of_lt_of_le hzl b13.size) (fun e => ?_)).trans h1
      have := (HS8.out.own.lt _ e.symm).2
      omega
     have y0 := Lib.cell_of_heap kB14 0
     have y1 := Lib.cell_of_heap kB14 1
     have y2 := Lib.cell_of_heap kB14 2
     have y3 := Lib.cell_of_heap kB14 3
     have y4 := Lib.cell_of_heap kB14 4
     have y5 := Lib.cell_of_heap kB14 5
     have y6 := Lib.cell_of_heap kB14 6
     simp [Lot.cells] at y0 y1 y2 y3 y4 y5 y6
     obtain ⟨w15, r15, hr15⟩ := hr14.st HAD.out HIX.out HSZ2.out.2
     have hfin : (restR lz (ps.take (k + 1))).length = M ∧ TkS w lz ps (k + 1) g v9' w15 := by
      have hD : (restR lz (ps.take k)).set i LB = restR lz (ps.take (k + 1)) := by
       rw [HLB.out, HE1.out, ← HI.out, List.set_append_right _ _ (Nat.le_refl _), Nat.sub_self]
       simp
      have hl : (restR lz (ps.take (k + 1))).length = M := by rw [← hD, List.length_set]; exact HLEN.out
      rw [hD] at hr15
      refine ⟨hl, ⟨⟨_, hr15.self⟩, own_grown ?_ hr15.gr (.inr hne14), hne14, hb14.grown hr15.gr hb14.size (fun k e => by injection e with e; rw [← e]; exact hS13.ge), hS13.ge⟩⟩
      rw [HTKN.out, HLA.out, flatV_append, flatV_one']
      exact o14
     have HFIN := hI hfin
     clear hS12 hS13 b12 b13 k13 kA kB kB14 o14 g14 l14 hr13 hr14 hb14 hne14 hr15 hfin HS8 hz9
     unfold Lot.enc Lot.cells at r11 r12
     unfold Lot.cells at hW13
     go_wp2_with (first | (at_builtin; refine Lib.wpList_append_run _ rfl _ _ _ _ rfl _ _ rfl rfl _ _ r14 ?_) | (refine wpList_store_run r11 rfl _ _ rfl rfl rfl ?_) | (refine wpList_store_run r12 rfl _ _ rfl rfl rfl ?_) | (refine wpList_store_run r15 rfl _ _ rfl rfl rfl ?_))
     clear r11 r12 r14 r15 a0 a1 a2 a3 a4 a5 a6 y0 y1 y2 y3 y4 y5 y6
     try rw [HAD.out]
     go_roundw
     case rel => exact ⟨k + 1, M, _, rfl, by go_num, by omega, rfl, by omega, by omega, HFIN.out.1, HFIN.out.2⟩
     case measure => simp [intOf]; omega
   ·have hcx : decide ((k : Int) < (P : Int)) = false := by simp; omega
    have hfin : TakPost w lz ps (.returned (.tuple #[.slice (some ⟨g, 0, none⟩) M cap, t9, .int .i64 0])) wr := by
     have hkp : ps.take k = ps := List.take_of_length_le (by rw [HP.out]; exact hge)
     obtain ⟨⟨sp, hr⟩, ho, hne, hbe, hgg⟩ := HS.out
     have hl := HLEN.out
     rw [hkp] at hr ho hl
     obtain ⟨s1, hs1⟩ := sl_of (restR lz ps) (fun l hl => (hr.ok l hl).sized)
     obtain ⟨s2, hs2⟩ := sl_of (takenR lz ps) (fun l hl => (taken_mid HALL.out HTZ.out HOK.out HQ13.out hl).sized)
     have hl1 : s1.length = M := by rw [← hl, ← hs1, List.length_map]
     have hl2 : s2.length = k := by
      have h : (takenR lz ps).length = ps.length := by unfold takenR; rw [List.length_map]
      rw [← hs2, List.length_map] at h
      have := HP.out
      omega
     rw [← hs2, flatV_val, ← hl2] at ho
     have hnil : ∀ A1 c1, t9 = .slice A1 s2.length c1 → A1 = none → s2.length = 0 ∧ c1 = 0 := fun A1 c1 hv h1 => by
      rcases ho.2 with ⟨h, h2⟩ | ⟨g, cap, cur, h, _⟩
      ·rw [h] at hv; injection hv with _ _ h3; exact ⟨h2, h3.symm⟩
      ·rw [h] at hv; injection hv with h3 _ _; rw [h1] at h3; cases h3
     obtain ⟨A2, c2, rfl, hc2, _, hr2⟩ := RdB.of_own ho
     refine ⟨_, cap, s1, A2, c2, s2, by rw [HE.out, hl1], hbe, ?_, hr2, by rw [hl1]; exact hMc, hc2, (fun h => by cases h), hnil A2 c2 rfl, (fun h => absurd HE.out h), fun _ => ⟨hs1, hs2⟩⟩
     intro hne1
     obtain ⟨ad, e, h1, h2⟩ := hr.rdb (by rw [← hs1]; intro h; exact hne1 (List.map_eq_nil_iff.1 h))
     exact ⟨ad, e, h1, fun j l hj => h2 j l.1 (by rw [← hs1, List.getElem?_map, hj]; rfl)⟩
    have HFIN := hI hfin
    clear hfin
    go_wp2_with fail
    go_ret3
    exact HFIN.out
theorem cost_size (n : Nat) (hn : 1000 ≤ n) (sl : List SLot) (h : sl.length ≤ 10000) : (I (sumL (fun l => vl l.cost) (sl.map Subtype.val))).size ≤ n + 6 := by
 suffices hh : (sumL (fun l => vl l.cost) (sl.map Subtype.val)).natAbs < 10 ^ (5 + n) by
  have := I_size_le hh
  omega
 rw [← sumL_own]
 have h1 := sumBy_bd (f := fun x : SLot => vl x.1.cost) (K := 10 ^ n) (fun x => Nat.lt_of_lt_of_le (vl_lt x.1.cost) (pow_mono (Nat.le_trans x.2.2.2.2.1 hn))) sl
 rw [Nat.pow_add]
 have h0 : 0 < (10 : Nat) ^ n := Nat.pow_pos (by decide)
 generalize (10 : Nat) ^ n = K at *
 have h2 : sl.length * K ≤ 10000 * K := Nat.mul_le_mul_right _ h
 omega
noncomputable def cstZ (lz : List Lot) (ps : List Pk) : Int := if takE lz ps = 0 then sumL (fun l => vl l.cost) (takenR lz ps) else 0
theorem sumL_take {f : Lot → Int} {l : List Lot} {k : Nat} {x : Lot} (h : l[k]? = some x) : sumL f (l.take (k + 1)) = sumL f (l.take k) + f x := by
 rw [take_snoc h, sumL_append, sumL_cons, sumL_nil]; omega
theorem Cost20_any (n₀ : Nat) (A : Option Addr) (ls : List SLot) (c : Nat) (hc : ls.length ≤ c) (hlen : ls.length ≤ 10000) (hti : ∀ l ∈ ls, l.1.tiny) (Ap : Option Addr) (ps : List Pk) (cp : Nat) (hpl : ps.length ≤ 10000) (hcp : ps.length ≤ cp) (hps : ∀ p ∈ ps, p.qty.size ≤ 1000) (h13 : posE (ls.map Subtype.val) none [] ps = 0 → ∀ p ∈ ps, p.qty.size ≤ 13) (w : World)
 (hR : RdB n₀ w A ls) (hn : n₀ ≤ w.heap.size) (hA : A = none → ls.length = 0 ∧ c = 0) (hK : RdK n₀ w Ap ps) (ht : Tabs w) :
 Calls Tryz.prog 17 #[.slice A ls.length c, .slice Ap ps.length cp] w fun e w' => e = .returned (.tuple #[.string (I (cstZ (ls.map Subtype.val) ps)), .int .i64 (takE (ls.map Subtype.val) ps)]) ∧ Below w.heap.size w w' := by
 have HTK := hI (Take20_any n₀ A ls c hc hlen hti Ap ps cp hpl hcp hps h13 w hR hn hA hK ht)
 have HT := hI ht
 obtain ⟨lz, hlz⟩ : ∃ lz, ls.map Subtype.val = lz := ⟨_, rfl⟩
 rw [hlz] at HTK ⊢
 have hPl := hpl
 have HHP : Hid (ps.length ≤ 10000) := hpl
 clear hR hn hA hK ht hti hc hlen hpl hcp hps h13 hlz hPl
 go_enter Tryz.func17, Tryz.ntmps17
 go_wp2_with fail
 refine HTK.out.mono ?_
 rintro e w1 ⟨A1, c1, r1, A2, c2, r2, rfl, b1, _, hr2, _, _, _, _, h0, h1⟩
 have HB1 := hI b1
 have HR2 := hI hr2
 have hrl : r2.length ≤ 10000 := by
  have := HHP.out
  by_cases hz : takE lz ps = 0
  ·have h := congrArg List.length (h1 hz).2
   unfold takenR at h
   rw [List.length_map, List.length_map] at h
   omega
  ·rw [(h0 hz).2]; exact Nat.zero_le _
 have hcs : sumL (fun l => vl l.cost) (r2.map Subtype.val) = cstZ lz ps := by
  unfold cstZ
  by_cases hz : takE lz ps = 0
  ·rw [if_pos hz, (h1 hz).2]
  ·rw [if_neg hz, (h0 hz).2]; rfl
 have HCS := hI hcs
 obtain ⟨zE, hzE⟩ : ∃ z, takE lz ps = z := ⟨_, rfl⟩
 rw [hzE]
 have HZE := hI hzE
 obtain ⟨M, hM⟩ : ∃ M, r2.length = M := ⟨_, rfl⟩
 rw [hM] at hrl ⊢
 have HM := hI hM
 clear b1 hr2 h0 h1 hcs HTK hM hzE
 go_wp2_with fail
 go_loopw [9, 21] (fun v9 v wr => ∃ k : Nat, v = .int .i64 (k : Int) ∧ k ≤ M ∧ v9 = .string (I (sumL (fun l => vl l.cost) ((r2.map Subtype.val).take k))) ∧ Below w1.heap.size w1 wr) (fun _ v _ => M - (intOf v).toNat)
 case atStart => exact ⟨0, rfl, Nat.zero_le _, rfl, Below.refl _ _⟩
 case round =>
  obtain ⟨k, rfl, hk, rfl, hb⟩ := hrel
  have HB := hI hb
  clear hb
  rcases Nat.lt_or_ge k M with hlt | hge
  ·obtain ⟨y, hy⟩ : ∃ y, r2[k]? = some y := ⟨_, List.getElem?_eq_getElem (by rw [HM.out]; exact hlt)⟩
   obtain ⟨ad, rfl, had, hcell⟩ := HR2.out (by intro e; rw [e] at hy; cases hy)
   have hcx : decide ((k : Int) < (M : Int)) = true := by simp; omega
   obtain ⟨c0, c1', c2', c3, c4, c5, c6⟩ := (hcell k y hy).below HB.out (by rw [add_block]; exact had)
   have hym : (r2.map Subtype.val)[k]? = some y.1 := by rw [List.getElem?_map, hy]; rfl
   have HTK := hI (sumL_take (f := fun l => vl l.cost) hym)
   obtain ⟨z, hz⟩ : ∃ z, sumL (fun l => vl l.cost) ((r2.map Subtype.val).take k) = z := ⟨_, rfl⟩
   have hzs : (I z).size ≤ 4000000 := by
    rw [← hz, ← List.map_take]
    have := cost_size 1000 (Nat.le_refl _) (r2.take k) (by rw [List.length_take]; omega)
    omega
   rw [hz]
   have HZ := hI hz
   obtain ⟨W5, hW5⟩ : ∃ W5, wr.alloc (.cells y.1.cells 48) = W5 := ⟨_, rfl⟩
   have b5 : Below wr.heap.size wr W5 := by rw [← hW5]; exact (Below.refl _ wr).alloc (Nat.le_refl _) _
   have k5 : LotBox W5 wr.heap.size y.1 := by rw [← hW5]; exact heap_alloc_new wr _
   have HB5 := hI (HB.out.trans (b5.mono HB.out.size))
   have d5 := Lib.cell_of_heap k5 5
   simp [Lot.cells] at d5
   have hadd := Add_any (I z) y.1.cost W5 hzs (by have := y.2.2.2.2.1; omega) (HT.out.below (HB1.out.trans (HB5.out.mono HB1.out.size)))
   rw [vl_I] at hadd
   have HADD := hI hadd
   clear b5 k5 hcell hy hym had hadd hz hzs
   unfold Lot.cells at hW5
   go_wp2_with fail
   refine HADD.out.mono ?_
   rintro e w6 ⟨rfl, b6⟩
   have HB6 := hI (HB5.out.trans (b6.mono HB5.out.size))
   clear b6 HADD d5 c0 c1' c2' c3 c4 c5 c6
   go_wp2_with fail
   go_roundw
   case rel => exact ⟨k + 1, by go_num, by omega, by rw [HTK.out, HZ.out], HB6.out⟩
   case measure => simp [intOf]; omega
  ·have hcx : decide ((k : Int) < (M : Int)) = false := by simp; omega
   have he : sumL (fun l => vl l.cost) ((r2.map Subtype.val).take k) = cstZ lz ps := by rw [List.take_of_length_le (by rw [List.length_map, HM.out]; exact hge)]; exact HCS.out
   rw [he]
   clear he
   go_wp2_with fail
   go_ret2
   exact ⟨by rw [HZE.out]; rfl, HB1.out.trans (HB.out.mono HB1.out.size)⟩
theorem rOrder20_any (n₀ : Nat) (A : Option Addr) (ls : List SLot) (c : Nat) (hc : ls.length ≤ c) (hlen : ls.length ≤ 10000) (hti : ∀ l ∈ ls, l.1.tiny) (m : Int) (w : World) (hR : RdB n₀ w A ls) (hn : n₀ ≤ w.heap.size) :
 Calls Tryz.prog 8 #[.slice A ls.length c, .int .i64 m] w (OrdPost w (ls.map Subtype.val) m) := by
 obtain ⟨lz, hlz⟩ : ∃ lz, ls.map Subtype.val = lz := ⟨_, rfl⟩
 have hNm : lz.length = ls.length := by rw [← hlz, List.length_map]
 have HCA := rCheckAll19_ex A (ls.map Subtype.val) c (by rw [List.length_map]; exact hc) (by rw [List.length_map]; omega) (fun l hl => by obtain ⟨y, hy, rfl⟩ := List.mem_map.1 hl; exact hti y hy) w ((hR.rdb').rdl hn)
 have HSO := fun W (hW : Below w.heap.size w W) => rSorted20_any n₀ A ls c hlen m W (hR.below (hW.mono hn)) (Nat.le_trans hn hW.size)
 have HKN := hI (fun W => rknown20_any m W)
 rw [hlz, hNm] at HCA
 rw [hlz]
 obtain ⟨N, hN⟩ : ∃ N, ls.length = N := ⟨_, rfl⟩
 rw [hN] at HCA HSO ⊢
 replace HCA := hI HCA
 replace HSO := hI HSO
 have HLZ := hI hlz
 clear hc hlen hti hR hn hN hNm hlz
 go_enter Tryz.func8, Tryz.ntmps8
 go_wp2_with fail
 refine HCA.out.mono ?_
 rintro e w1 ⟨rfl, b1⟩
 have HB1 := hI b1
 clear b1 HCA
 by_cases h0 : lall lz = 0
 case neg =>
  have t1 : (lall lz == 0) = false := beq_eq_false_iff_ne.2 h0
  have t2 : (lall lz != 0) = true := by rw [bne, t1]; rfl
  have HE := hI (ordE_all h0 m)
  clear h0
  go_wp2_with fail
  go_ret2
  exact ordPost_no HE.out (by decide) HB1.out
 have H0 := hI h0
 rw [h0]
 clear h0
 go_wp2_with fail
 refine (HKN.out w1).mono ?_
 rintro e wz ⟨rfl, rfl⟩
 by_cases hm : 1 ≤ m ∧ m ≤ 6
 case neg =>
  rw [decide_eq_false hm]
  have HE := hI (ordE_no H0.out hm)
  clear hm
  go_wp2_with fail
  go_ret2
  exact ordPost_no HE.out (by decide) HB1.out
 rw [decide_eq_true hm]
 have HE := hI (ordE_yes H0.out hm)
 have HSC := hI (HSO.out w1 HB1.out)
 clear hm HSO
 go_wp2_with fail
 refine HSC.out.mono ?_
 rintro e w3 ⟨Ar, cr, r, rfl, hs⟩
 have HS := hI hs
 clear hs HSC
 go_wp2_with fail
 go_ret2
 exact ⟨Ar, cr, r, by rw [HE.out]; rfl, HB1.out.trans (HS.out.be.mono HB1.out.size), HS.out.rd, HS.out.cap, HS.out.nil, fun h => absurd HE.out h, fun _ => by rw [HS.out.eq, HLZ.out]; exact refSorted_eq m lz (allOk_q H0.out)⟩
structure TkA (w : World) (lz : List Lot) (ps : List Pk) (k : Nat) (v8 : Value) (W : World) : Prop where
 own : W.ownsRow w.heap.size 48 7 v8 (restR (lz.take k) ps).length (flatV (restR (lz.take k) ps))
 be : Below w.heap.size w W
theorem TkA.below {w : World} {lz : List Lot} {ps : List Pk} {k : Nat} {v8 : Value} {W W' : World} (h : TkA w lz ps k v8 W) (hb : Below W.heap.size W W') : TkA w lz ps k v8 W' := ⟨own_below h.own hb, h.be.trans (hb.mono h.be.size)⟩
structure OutK (W : World) (A : Option Addr) (c : Nat) (out : Am) : Prop where
 rd : RdK W.heap.size W A (pksOf out)
 cap : (pksOf out).length ≤ c
 nil : A = none → (pksOf out).length = 0 ∧ c = 0
theorem OutK.below {W W' : World} {A : Option Addr} {c : Nat} {out : Am} (h : OutK W A c out) (hb : Below W.heap.size W W') : OutK W' A c out := ⟨(h.rd.below hb).mono hb.size, h.cap, h.nil⟩
theorem OutK.start (W : World) : OutK W none 0 [] := ⟨RdK.nil _ _ _, Nat.le_refl _, fun _ => ⟨rfl, rfl⟩⟩
theorem tk_put {own : List Lot} {q0 : Int} {st : Am × Int} (h : InvA own q0 st) {x : Lot} (hx : x ∈ own) {mo : Int} (hm : 0 ≤ mo) : tk st x mo = (putA st.1 x.id (tkN st x mo), st.2 - tkN st x mo) := tk_ref h hx hm
theorem tk_sizes {own : List Lot} {q : ByteArray} (hq : q.size ≤ 1000) {st : Am × Int} (hinv : InvA own (vl q) st) (hos : ∀ y ∈ own, y.sized) {x : Lot} (hx : x ∈ own) {mo : Int} (hmo : 0 ≤ mo) :
 (I st.2).size ≤ 2000 ∧ (I (amt st.1 x.id)).size ≤ 2000 ∧ (I (vl x.qty - amt st.1 x.id)).size ≤ 2000 ∧ (I (tkN st x mo)).size ≤ 2000 ∧ ∀ a ∈ st.1, (I a.2).size ≤ 2000 := by
 have hxq := (hos x hx).2.2.1
 have h1 := hinv.le x hx
 have h2 := hinv.nn x.id
 have h3 := tkN_nn hinv hx hmo
 have h4 := @tkN_le st x mo
 have h5 := hinv.q_le
 refine ⟨Nat.le_trans (I_size_in hinv.q hinv.q_le) (by omega), Nat.le_trans (I_size_in (a := x.qty) h2 h1) (by omega), Nat.le_trans (I_size_in (a := x.qty) (by omega) (by omega)) (by omega), Nat.le_trans (I_size_in (a := q) h3 (by omega)) (by omega), fun a ha => ?_⟩
 obtain ⟨y, hy, e⟩ := hinv.sub a ha
 have hyq := (hos y hy).2.2.1
 have h3 := hinv.le y hy
 rw [e, amt_mem hinv.nd ha] at h3
 exact Nat.le_trans (I_size_in (a := y.qty) (Int.le_of_lt (hinv.pos a ha)) h3) (by omega)
theorem least_I (a b : Int) : (if vl (I a) < vl (I b) then I a else I b) = I (min a b) := by
 rw [vl_I, vl_I]
 by_cases h : a < b
 ·rw [if_pos h, Int.min_eq_left (by omega)]
 ·rw [if_neg h, Int.min_eq_right (by omega)]
theorem tkP_some {own : List Lot} {st : Am × Int} {p : Pk} {x : Lot} (h : lotOf own p.lot = some x) : tkP own st p = tk st x (vl p.qty) := by unfold lotOf at h; unfold tkP; rw [h]
theorem tkP_none {own : List Lot} {st : Am × Int} {p : Pk} (h : lotOf own p.lot = none) : tkP own st p = st := by unfold lotOf at h; unfold tkP; rw [h]
theorem tkAll_snoc (S : List Lot) (x : Lot) (st : Am × Int) : tkAll (S ++ [x]) st = tk (tkAll S st) x (vl x.qty) := by unfold tkAll; rw [List.foldl_append]; rfl
theorem badP_yes {p : Pk} (h : ¬ (Can p.qty ∧ 0 < vl p.qty)) : badP p = true := by
 cases hb : badP p
 ·exact (h (badP_no hb)).elim
 ·rfl
theorem badP_ok {p : Pk} (h1 : Can p.qty) (h2 : 0 < vl p.qty) : badP p = false := by
 unfold badP
 rw [decide_eq_true (show I (vl p.qty) = p.qty from h1), decide_eq_true h2]; rfl
structure CAV (wS : World) (x : Lot) (ad : Addr) (M cs i No co : Nat) (Ao : Option Addr) (am lf qv n : Int)  (L : Array Bool) (W : World) (s20 s94 s95 s96 s97 s98 s99 s100 s101 s102 s103 s104 s105 s106 : Value) : Prop where
 k0 : L.getD 0 false = true → s94 = .slice (some ad) M cs
 k1 : L.getD 1 false = true → s95 = .int .i64 (i : Int)
 k2 : L.getD 2 false = true → s96 = .pointer (some (ad.add (i * 7)))
 k3 : L.getD 3 false = true → s97 = .pointer (some ⟨(ad.add (i * 7)).block, (ad.add (i * 7)).off + 4, none⟩)
 k4 : L.getD 4 false = true → s98 = .string x.qty
 k5 : L.getD 5 false = true → s99 = .slice Ao No co
 k6 : L.getD 6 false = true → s100 = .slice (some ad) M cs
 k7 : L.getD 7 false = true → s101 = .int .i64 (i : Int)
 k8 : L.getD 8 false = true → s102 = .pointer (some (ad.add (i * 7)))
 k9 : L.getD 9 false = true → s103 = .pointer (some (ad.add (i * 7)))
 k10 : L.getD 10 false = true → s104 = .string x.id
 k11 : L.getD 11 false = true → s105 = .string (I am)
 k12 : L.getD 12 false = true → s106 = .string (I lf)
 k13 : L.getD 13 false = true → s20 = .string (I lf)
 g : Below wS.heap.size wS W
structure CAJ (wS : World) (x : Lot) (ad : Addr) (M cs i No co : Nat) (Ao : Option Addr) (am lf qv n : Int) (x0 x1 x2 x3 x4 x5 x6 x7 x8 x9 x10 x11 x12 x13 x14 x17 x19 x21 x22 x23 x24 x25 x26 x27 x28 x29 x30 x31 x32 x33 x34 x35 x36 x37 x38 x39 x40 x41 x42 x43 x44 x45 x46 x47 x48 x49 x50 x51 x52 x53 x54 x55 x56 x57 x58 x59 x60 x61 x62 x63 x64 x65 x66 x67 x68 x69 x70 x71 x72 x73 x74 x75 x76 x77 x78 x79 x80 x81 x82 x83 x84 x85 x86 x87 x88 x89 x90 x91 x92 x93 x107 x108 x109 x110 x111 x112 x113 x114 x115 x116 x117 x118 x119 x120 x121 x122 x123 x124 x125 x126 x127 x128 x129 x130 x131 x132 x133 x134 x135 x136 x137 x138 x139 x140 x141 x142 x143 x144 x145 x146 x147 x148 x149 x150 x151 x152 x153 x154 x155 x156 x157 x158 x159 : Value) (L : Array Bool) (a : Act) (W : World) : Prop where
 sz : L.size = 14
 fr : ∃ s20 s94 s95 s96 s97 s98 s99 s100 s101 s102 s103 s104 s105 s106 : Value, a = { tmps := #[x0, x1, x2, x3, x4, x5, x6, x7, x8, x9, x10, x11, x12, x13, x14, .slice (some ad) M cs, .slice Ao No co, x17, .int .i64 (i : Int), x19, s20, x21, x22, x23, x24, x25, x26, x27, x28, x29, x30, x31, x32, x33, x34, x35, x36, x37, x38, x39, x40, x41, x42, x43, x44, x45, x46, x47, x48, x49, x50, x51, x52, x53, x54, x55, x56, x57, x58, x59, x60, x61, x62, x63, x64, x65, x66, x67, x68, x69, x70, x71, x72, x73, x74, x75, x76, x77, x78, x79, x80, x81, x82, x83, x84, x85, x86, x87, x88, x89, x90, x91, x92, x93, s94, s95, s96, s97, s98, s99, s100, s101, s102, s103, s104, s105, s106, x107, x108, x109, x110, x111, x112, x113, x114, x115, x116, x117, x118, x119, x120, x121, x122, x123, x124, x125, x126, x127, x128, x129, x130, x131, x132, x133, x134, x135, x136, x137, x138, x139, x140, x141, x142, x143, x144, x145, x146, x147, x148, x149, x150, x151, x152, x153, x154, x155, x156, x157, x158, x159], defers := [] } ∧ CAV wS x ad M cs i No co Ao am lf qv n  L W s20 s94 s95 s96 s97 s98 s99 s100 s101 s102 s103 s104 s105 s106
structure CBV (wS : World) (x : Lot) (ad : Addr) (M cs i No co : Nat) (Ao : Option Addr) (am lf qv n : Int)  (L : Array Bool) (W : World) (s23 s133 s134 s135 s136 s137 s138 s139 s140 s141 s142 s143 s144 s145 s146 s147 : Value) : Prop where
 k0 : L.getD 0 false = true → s133 = .slice (some ad) M cs
 k1 : L.getD 1 false = true → s134 = .int .i64 (i : Int)
 k2 : L.getD 2 false = true → s135 = .pointer (some (ad.add (i * 7)))
 k3 : L.getD 3 false = true → s136 = .pointer (some ⟨(ad.add (i * 7)).block, (ad.add (i * 7)).off + 4, none⟩)
 k4 : L.getD 4 false = true → s137 = .string x.qty
 k5 : L.getD 5 false = true → s138 = .slice Ao No co
 k6 : L.getD 6 false = true → s139 = .slice (some ad) M cs
 k7 : L.getD 7 false = true → s140 = .int .i64 (i : Int)
 k8 : L.getD 8 false = true → s141 = .pointer (some (ad.add (i * 7)))
 k9 : L.getD 9 false = true → s142 = .pointer (some (ad.add (i * 7)))
 k10 : L.getD 10 false = true → s143 = .string x.id
 k11 : L.getD 11 false = true → s144 = .string (I am)
 k12 : L.getD 12 false = true → s145 = .string (I lf)
 k13 : L.getD 13 false = true → s146 = .string (I qv)
 k14 : L.getD 14 false = true → s147 = .string (I n)
 k15 : L.getD 15 false = true → s23 = .string (I n)
 g : Below wS.heap.size wS W
structure CBJ (wS : World) (x : Lot) (ad : Addr) (M cs i No co : Nat) (Ao : Option Addr) (am lf qv n : Int) (x0 x1 x3 x4 x5 x6 x7 x8 x9 x10 x11 x12 x13 x14 x17 x18 x19 x20 x21 x24 x25 x26 x27 x28 x29 x30 x31 x32 x33 x34 x35 x36 x37 x38 x39 x40 x41 x42 x43 x44 x45 x46 x47 x48 x49 x50 x51 x52 x53 x54 x55 x56 x57 x58 x59 x60 x61 x62 x63 x64 x65 x66 x67 x68 x69 x70 x71 x72 x73 x74 x75 x76 x77 x78 x79 x80 x81 x82 x83 x84 x85 x86 x87 x88 x89 x90 x91 x92 x93 x94 x95 x96 x97 x98 x99 x100 x101 x102 x103 x104 x105 x106 x107 x108 x109 x110 x111 x112 x113 x114 x115 x116 x117 x118 x119 x120 x121 x122 x123 x124 x125 x126 x127 x128 x129 x130 x131 x132 x148 x149 x150 x151 x152 x153 x154 x155 x156 x157 x158 x159 : Value) (L : Array Bool) (a : Act) (W : World) : Prop where
 sz : L.size = 16
 fr : ∃ s23 s133 s134 s135 s136 s137 s138 s139 s140 s141 s142 s143 s144 s145 s146 s147 : Value, a = { tmps := #[x0, x1, .string (I qv), x3, x4, x5, x6, x7, x8, x9, x10, x11, x12, x13, x14, .slice (some ad) M cs, .slice Ao No co, x17, x18, x19, x20, x21, .int .i64 (i : Int), s23, x24, x25, x26, x27, x28, x29, x30, x31, x32, x33, x34, x35, x36, x37, x38, x39, x40, x41, x42, x43, x44, x45, x46, x47, x48, x49, x50, x51, x52, x53, x54, x55, x56, x57, x58, x59, x60, x61, x62, x63, x64, x65, x66, x67, x68, x69, x70, x71, x72, x73, x74, x75, x76, x77, x78, x79, x80, x81, x82, x83, x84, x85, x86, x87, x88, x89, x90, x91, x92, x93, x94, x95, x96, x97, x98, x99, x100, x101, x102, x103, x104, x105, x106, x107, x108, x109, x110, x111, x112, x113, x114, x115, x116, x117, x118, x119, x120, x121, x122, x123, x124, x125, x126, x127, x128, x129, x130, x131, x132, s133, s134, s135, s136, s137, s138, s139, s140, s141, s142, s143, s144, s145, s146, s147, x148, x149, x150, x151, x152, x153, x154, x155, x156, x157, x158, x159], defers := [] } ∧ CBV wS x ad M cs i No co Ao am lf qv n  L W s23 s133 s134 s135 s136 s137 s138 s139 s140 s141 s142 s143 s144 s145 s146 s147
theorem rChoose20_any (n₀ : Nat) (A : Option Addr) (ls : List SLot) (c : Nat) (hc : ls.length ≤ c) (hlen : ls.length ≤ 10000) (hti : ∀ l ∈ ls, l.1.tiny) (s q : ByteArray) (hq : q.size ≤ 1000) (m : Int) (Ap : Option Addr) (ps : List Pk) (cp : Nat) (hpl : ps.length ≤ 10000) (hps : ∀ p ∈ ps, p.qty.size ≤ 1000) (w : World)
 (hR : RdB n₀ w A ls) (hn : n₀ ≤ w.heap.size) (hK : RdK n₀ w Ap ps) :
 Calls Tryz.prog 10 #[.slice A ls.length c, .string s, .string q, .int .i64 m, .slice Ap ps.length cp] w (ChsPost w (ls.map Subtype.val) s q m ps) := by
 obtain ⟨lz, hlz⟩ : ∃ lz, ls.map Subtype.val = lz := ⟨_, rfl⟩
 have hNm : lz.length = ls.length := by rw [← hlz, List.length_map]
 have HCA := rCheckAll19_ex A (ls.map Subtype.val) c (by rw [List.length_map]; exact hc) (by rw [List.length_map]; omega) (fun l hl => by obtain ⟨y, hy, rfl⟩ := List.mem_map.1 hl; exact hti y hy) w ((hR.rdb').rdl hn)
 have HTO := fun W (hW : Below w.heap.size w W) => rTotal19_any W.heap.size A ls c s W (by omega) ((hR.below (hW.mono hn)).wid (Nat.le_trans hn hW.size)) (Nat.le_refl _)
 have HOF := fun W (hW : Below w.heap.size w W) => rOf19_any n₀ A ls c s W (by omega) (hR.below (hW.mono hn)) (Nat.le_trans hn hW.size)
 have htot : sumBy qtyOf (ownL ls s) = totQ (ownB lz s) := by rw [← hlz, ← ownB_own, totQ_own]
 rw [htot] at HTO
 rw [hlz, hNm] at HCA
 rw [hlz]
 have HLZ := hI hlz
 have HKP := hI hK
 have HPS := hI hps
 have HNn := hI hn
 have HQS := hI hq
 have HLL : Hid (ls.length ≤ 10000 ∧ ps.length ≤ 10000) := ⟨hlen, hpl⟩
 have HKN := hI (fun W => rknown20_any m W)
 obtain ⟨N, hN⟩ : ∃ N, ls.length = N := ⟨_, rfl⟩
 obtain ⟨P, hP⟩ : ∃ P, ps.length = P := ⟨_, rfl⟩
 rw [hN] at HCA HTO HOF ⊢
 rw [hP] at ⊢
 replace HCA := hI HCA
 replace HTO := hI HTO
 replace HOF := hI HOF
 have HN := hI hN
 have HP := hI hP
 clear hR hn hK hc hlen hq hpl hps hlz hNm htot hti hN hP
 go_enter Tryz.func10, Tryz.ntmps10
 go_wp2_with fail
 refine HCA.out.mono ?_
 rintro e w1 ⟨rfl, b1⟩
 have HB1 := hI b1
 clear b1 HCA
 by_cases h0 : lall lz = 0
 case neg =>
  have t1 : (lall lz == 0) = false := beq_eq_false_iff_ne.2 h0
  have t2 : (lall lz != 0) = true := by rw [bne, t1]; rfl
  have HE := hI (chsE_arg (lz := lz) (s := s) (q := q) (m := m) (ps := ps) (.inl h0))
  clear h0
  go_wp2_with fail
  go_ret2
  exact chsPost_no HE.out (by decide) HB1.out
 have H0 := hI h0
 rw [h0]
 clear h0
 by_cases hcq : Can q
 case neg =>
  have HC := hI (rCheck_no q (by have := HQS.out; omega) hcq w1)
  have HE := hI (chsE_arg (lz := lz) (s := s) (q := q) (m := m) (ps := ps) (.inr hcq))
  clear hcq
  go_wp2_with fail
  refine HC.out.mono ?_
  rintro e w2 ⟨rfl, rfl⟩
  go_wp2_with fail
  go_ret2
  exact chsPost_no HE.out (by decide) HB1.out
 have HC := hI (rCheck_yes q (by have := HQS.out; omega) hcq w1)
 have HCQ := hI hcq
 clear hcq
 go_wp2_with fail
 refine HC.out.mono ?_
 rintro e w2 ⟨rfl, rfl⟩
 clear HC
 go_upto_if 33 with fail
 go_cut [4] (fun v wx => ∃ (A' : Option Addr) (c' : Nat) (ps' : List Pk), v = .slice A' ps'.length c' ∧ ps' = (if m = 5 then ps else []) ∧ RdK n₀ w A' ps' ∧ w1 = wx)
 case first =>
  by_cases hm5 : m = 5
  ·have t1 : (m == 5) = true := beq_iff_eq.2 hm5
   have t2 : (m != 5) = false := by rw [bne, t1]; rfl
   have HM5 := hI hm5
   clear hm5
   go_wp2_with fail
   go_meet
   case rel => exact ⟨Ap, cp, ps, by rw [HP.out], (if_pos HM5.out).symm, HKP.out, rfl⟩
  ·have t1 : (m == 5) = false := beq_eq_false_iff_ne.2 hm5
   have t2 : (m != 5) = true := by rw [bne, t1]; rfl
   have HM5 := hI hm5
   clear hm5
   go_wp2_with fail
   go_meet
   case rel => exact ⟨none, 0, [], rfl, (if_neg HM5.out).symm, RdK.nil _ _ _, rfl⟩
 case rest =>
 obtain ⟨A', c', ps', rfl, hps', hk', rfl⟩ := hcut
 have HPE := hI hps'
 have HK' := hI hk'
 have hpl' : ps'.length ≤ 10000 := by rw [hps']; split; exact HLL.out.2; exact Nat.zero_le _
 have HPS' : Hid (∀ p ∈ ps', p.qty.size ≤ 1000) := fun p hp => by
  rw [hps'] at hp
  split at hp
  ·exact HPS.out p hp
  ·cases hp
 have HANY : Hid ((m = 5 ∧ ps.any badP = true) ↔ ps'.any badP = true) := by
  rw [Hid, hps']
  by_cases h : m = 5
  ·rw [if_pos h]; exact ⟨fun x => x.2, fun x => ⟨h, x⟩⟩
  ·rw [if_neg h]; exact ⟨fun x => (h x.1).elim, fun x => (Bool.false_ne_true x).elim⟩
 have HFO : Hid (ps'.foldl (tkP (ownB lz s)) ([], vl q) = if m = 5 then ps.foldl (tkP (ownB lz s)) ([], vl q) else ([], vl q)) := by
  rw [Hid, hps']
  split <;> rfl
 obtain ⟨P', hP'⟩ : ∃ P', ps'.length = P' := ⟨_, rfl⟩
 rw [hP'] at hpl' ⊢
 have HP' := hI hP'
 clear hps' hk' hP' HPS HKP HP
 go_wp2_with fail
 go_loop [12] (fun v => ∃ k : Nat, v = .int .i64 (k : Int) ∧ k ≤ P' ∧ ∀ p ∈ ps'.take k, badP p = false) (fun v => P' - (intOf v).toNat)
 case atStart => exact ⟨0, rfl, by omega, fun x hx => by simp at hx⟩
 case round =>
  obtain ⟨k, rfl, hk, hx⟩ := hrel
  have HX := hI hx
  clear hx
  rcases Nat.lt_or_ge k P' with hlt | hge
  ·obtain ⟨p, hp⟩ : ∃ p, ps'[k]? = some p := ⟨_, List.getElem?_eq_getElem (by rw [HP'.out]; exact hlt)⟩
   obtain ⟨ad, rfl, had, hcell⟩ := HK'.out (by intro e; rw [e] at hp; cases hp)
   have hcx : decide ((k : Int) < (P' : Int)) = true := by simp; omega
   obtain ⟨c0, c1⟩ := (hcell k p hp).below (HB1.out.mono HNn.out) (by rw [add_block]; exact had)
   have HTKN := hI (take_snoc hp)
   have HPM := hI (List.mem_of_getElem? hp)
   have hpz := HPS'.out p (List.mem_of_getElem? hp)
   clear hcell hp
   by_cases hcp : Can p.qty
   case neg =>
    have HC := hI (rCheck_no p.qty (by omega) hcp w1)
    have HE := hI (chsE_bad (s := s) H0.out HCQ.out (HANY.out.2 (List.any_eq_true.2 ⟨p, HPM.out, badP_yes (fun h => hcp h.1)⟩)))
    clear hcp
    go_wp2_with fail
    refine HC.out.mono ?_
    rintro e w2 ⟨rfl, rfl⟩
    go_wp2_with fail
    go_ret2
    exact chsPost_no HE.out (by decide) HB1.out
   have HC := hI (rCheck_yes p.qty (by omega) hcp w1)
   have HCP := hI hcp
   have HPO := hI (rpositive20_any p.qty (by omega) w1)
   clear hcp
   go_wp2_with fail
   refine HC.out.mono ?_
   rintro e w2 ⟨rfl, rfl⟩
   go_wp2_with fail
   refine HPO.out.mono ?_
   rintro e w2 ⟨rfl, rfl⟩
   clear HC HPO
   by_cases h0 : 0 < vl p.qty
   case neg =>
    have HE := hI (chsE_bad (s := s) H0.out HCQ.out (HANY.out.2 (List.any_eq_true.2 ⟨p, HPM.out, badP_yes (fun h => h0 h.2)⟩)))
    rw [decide_eq_false h0]
    clear h0
    go_wp2_with fail
    go_ret2
    exact chsPost_no HE.out (by decide) HB1.out
   rw [decide_eq_true h0]
   have HPB := hI (badP_ok HCP.out h0)
   clear h0
   go_wp2_with fail
   go_round
   case rel =>
    refine ⟨k + 1, by go_num, by omega, fun x hx => ?_⟩
    rw [HTKN.out, List.mem_append] at hx
    rcases hx with hx | hx
    ·exact HX.out x hx
    ·rw [List.mem_singleton] at hx; subst hx; exact HPB.out
   case measure => simp [intOf]; omega
  ·have hcx : decide ((k : Int) < (P' : Int)) = false := by simp; omega
   have HVP : Hid (∀ p ∈ ps', Can p.qty ∧ 0 < vl p.qty) := fun p hp => badP_no (HX.out p (by rw [List.take_of_length_le (by rw [HP'.out]; exact hge)]; exact hp))
   have HNB : Hid (¬ (m = 5 ∧ ps.any badP = true)) := fun h => by
    obtain ⟨p, hp, hb⟩ := List.any_eq_true.1 (HANY.out.1 h)
    rw [HX.out p (by rw [List.take_of_length_le (by rw [HP'.out]; exact hge)]; exact hp)] at hb
    exact Bool.false_ne_true hb
   clear hk HX HANY
   go_wp2_with fail
   clear hcx hge
   refine (HKN.out w1).mono ?_
   rintro e wz ⟨rfl, rfl⟩
   by_cases hm : 1 ≤ m ∧ m ≤ 6
   case neg =>
    have HE := hI (chsE_kind (s := s) H0.out HCQ.out HNB.out hm)
    rw [decide_eq_false hm]
    clear hm
    go_wp2_with fail
    go_ret2
    exact chsPost_no HE.out (by decide) HB1.out
   rw [decide_eq_true hm]
   have HM := hI hm
   clear hm
   have HPO := hI (rpositive20_any q (by have := HQS.out; omega) w1)
   go_wp2_with fail
   refine HPO.out.mono ?_
   rintro e wz ⟨rfl, rfl⟩
   clear HPO HKN
   by_cases hp : 0 < vl q
   case neg =>
    have HE := hI (chsE_range (s := s) H0.out HCQ.out HNB.out HM.out (by omega))
    rw [decide_eq_false hp]
    clear hp
    go_wp2_with fail
    go_ret2
    exact chsPost_no HE.out (by decide) HB1.out
   rw [decide_eq_true hp]
   have HPQ := hI hp
   clear hp
   have HTOT := hI (HTO.out w1 HB1.out)
   go_wp2_with fail
   refine HTOT.out.mono ?_
   rintro e w4 ⟨rfl, b4⟩
   have HB4 := hI (HB1.out.trans (b4.mono HB1.out.size))
   clear b4 HTOT HTO
   have hsz : (I (totQ (ownB lz s))).size ≤ 1000000 := by
    have h := totQ_size 1000 (Nat.le_refl _) (ownL ls s) (by have := ownL_len ls s ls.length; rw [List.take_length] at this; have := HLL.out.1; omega)
    rw [ownB_own, HLZ.out] at h
    omega
   have HCMP := hI (rCompare_any (I (totQ (ownB lz s))) q hsz (by have := HQS.out; omega) w4)
   rw [vl_I] at HCMP
   clear hsz
   go_wp2_with fail
   refine HCMP.out.mono ?_
   rintro e w5 ⟨rfl, rfl⟩
   clear HCMP
   by_cases hs : totQ (ownB lz s) < vl q
   case pos =>
    have t1 : decide (cmpI (totQ (ownB lz s)) (vl q) < 0) = true := decide_eq_true (cmpI_lt.2 hs)
    have HE := hI (chsE_short (s := s) H0.out HCQ.out HNB.out HM.out HPQ.out hs)
    clear hs
    go_wp2_with fail
    go_ret2
    exact chsPost_no HE.out (by decide) HB4.out
   have t1 : decide (cmpI (totQ (ownB lz s)) (vl q) < 0) = false := decide_eq_false (fun x => hs (cmpI_lt.1 x))
   have HE := hI (chsE_ok (s := s) H0.out HCQ.out HNB.out HM.out HPQ.out (by omega))
   have HOFC := hI (HOF.out w4 HB4.out)
   clear hs HOF
   go_wp2_with fail
   refine HOFC.out.mono ?_
   rintro e w6 ⟨A2, c2, rfl, hc2, _, hr2, b6⟩
   have HB6 := hI (HB4.out.trans (b6.mono HB4.out.size))
   have hol : (ownL ls s).length ≤ 10000 := by have := ownL_len ls s ls.length; rw [List.take_length] at this; have := HLL.out.1; omega
   have HSOC := hI (rSorted20_any w6.heap.size A2 (ownL ls s) c2 hol m w6 hr2 (Nat.le_refl _))
   clear b6 hr2 hc2 HOFC t1
   go_wp2_with fail
   refine HSOC.out.mono ?_
   rintro e wb ⟨As, cs, rs, rfl, hso⟩
   have HBB := hI (HB6.out.trans (hso.be.mono HB6.out.size))
   obtain ⟨own, hown⟩ : ∃ own, ownB lz s = own := ⟨_, rfl⟩
   have hsl : (ownL ls s).map Subtype.val = own := by rw [ownB_own, HLZ.out, hown]
   have hall := (lall_zero lz).1 H0.out
   have hid0 : (own.map Lot.id).Nodup := by rw [← hown]; exact ownB_nd s hall.nd
   have hok : ∀ x ∈ own, x.ok := fun x hx => by rw [← hown] at hx; exact lchk_zero.1 (hall.ok x (ownB_mem.1 hx).1)
   have hsz : ∀ x ∈ own, x.sized := fun x hx => by rw [← hsl] at hx; obtain ⟨y, _, rfl⟩ := List.mem_map.1 hx; exact y.2
   have hrs : rs.map Subtype.val = ordP m own := by rw [hso.eq, hsl]; exact refSorted_eq m own (fun l hl => (hok l hl).pq)
   obtain ⟨S, hS⟩ : ∃ S, ordP m own = S := ⟨_, rfl⟩
   rw [hS] at hrs
   have hpm : S.Perm own := by rw [← hS]; exact ordP_perm m own
   obtain ⟨M, hM⟩ : ∃ M, rs.length = M := ⟨_, rfl⟩
   have hSM : S.length = M := by rw [← hrs, List.length_map, hM]
   have hMl : M ≤ 10000 := by rw [← hSM, hpm.length_eq, ← hsl, List.length_map]; exact hol
   rw [hM]
   rw [hown] at HFO
   have HID := hI hid0
   have HOVN : Hid ((∀ x ∈ own, x.ok) ∧ ∀ x ∈ own, x.sized) := ⟨hok, hsz⟩
   have HRS := hI hso.rd
   have HRSV := hI hrs
   have HMM := hI hM
   have HSM := hI hSM
   have HPM := hI hpm
   have HSE := hI hS
   have HOWD := hI hown
   have HI0 := hI (InvA.start (own := own) (Int.le_of_lt HPQ.out) (fun x hx => (hok x hx).pq))
   have HFI := hI (fun (id : ByteArray) W (hW : Below wb.heap.size wb W) => rFind_any As (rs.map Subtype.val) M cs (by rw [List.length_map, hM]; exact Nat.le_refl _) (by rw [List.length_map]; omega) id W (((hso.rd.below hW).rdb').rdl hW.size))
   rw [hrs, show S.take M = S from List.take_of_length_le (by rw [hSM]; exact Nat.le_refl _)] at HFI
   clear hso hsl hall hid0 hok hsz hrs hS hpm hM hSM hol HSOC HB6 HB4 HLZ hown HLL
   go_wp2_with fail
   go_loopw [2, 16, 17] (fun u o v wr => ∃ (k : Nat) (st : Am × Int) (Ao : Option Addr) (co : Nat), v = .int .i64 (k : Int) ∧ k ≤ P' ∧ u = .string (I st.2) ∧ o = .slice Ao (pksOf st.1).length co ∧ st = (ps'.take k).foldl (tkP own) ([], vl q) ∧ InvA own (vl q) st ∧ st.1.length ≤ k ∧ OutK wr Ao co st.1 ∧ Below wb.heap.size wb wr) (fun _ _ v _ => P' - (intOf v).toNat)
   case atStart => exact ⟨0, ([], vl q), none, 0, rfl, Nat.zero_le _, (by show Value.string q = Value.string (I (vl q)); rw [show I (vl q) = q from HCQ.out]), rfl, rfl, HI0.out, Nat.le_refl _, OutK.start _, Below.refl _ _⟩
   case round =>
    clear HI0
    obtain ⟨k, st, Ao, co, rfl, hk, rfl, rfl, hst, hinv, hsl, hout, hb⟩ := hrel
    have HST := hI hst
    have HINV := hI hinv
    have HSLN := hI hsl
    have HOK := hI hout
    have HBR := hI hb
    clear hst hinv hsl hout hb
    obtain ⟨No, hNo⟩ : ∃ No, (pksOf st.1).length = No := ⟨_, rfl⟩
    rcases Nat.lt_or_ge k P' with hlt | hge
    ·obtain ⟨p, hp⟩ : ∃ p, ps'[k]? = some p := ⟨_, List.getElem?_eq_getElem (by rw [HP'.out]; exact hlt)⟩
     obtain ⟨adp, rfl, hadp, hcell⟩ := HK'.out (by intro e; rw [e] at hp; cases hp)
     have hcx : decide ((k : Int) < (P' : Int)) = true := by simp; omega
     have HKP : Hid ((k : Int) < (P' : Int)) := by show (k : Int) < _; omega
     obtain ⟨hcan, hpos⟩ := HVP.out p (List.mem_of_getElem? hp)
     have hbw := HBB.out.trans (HBR.out.mono HBB.out.size)
     have hpa := (hcell k p hp).below (hbw.mono HNn.out) (by rw [add_block]; exact hadp)
     have HTKN := hI (take_snoc hp)
     have HPZ := hI (HPS'.out p (List.mem_of_getElem? hp))
     have HPC : Hid (p.qty = I (vl p.qty)) := hcan.symm
     have HPA : Hid (PkAt wr (adp.add (k * 2)) p ∧ (adp.add (k * 2)).block < wr.heap.size) := ⟨hpa, by rw [add_block]; exact Nat.lt_of_lt_of_le hadp (Nat.le_trans HNn.out hbw.size)⟩
     obtain ⟨c0, c1⟩ := hpa
     have HFC := hI (HFI.out p.lot wr HBR.out)
     clear hcell hp hcan hbw hadp
     go_wp2_with fail
     refine HFC.out.mono ?_
     rintro e wz ⟨rfl, rfl⟩
     clear HFC c0 c1
     have hlp := lotOf_perm HPM.out HID.out p.lot
     rcases hlo : lotOf S p.lot with _ | x
     ·rw [findR_lotOf_none hlo]
      rw [hlo] at hlp
      have HLO := hI hlp.symm
      clear hlo hlp
      go_wp2_with fail
      go_roundw
      case rel => exact ⟨k + 1, st, Ao, co, by go_num, by omega, rfl, by rw [hNo], by rw [HTKN.out, List.foldl_append, ← HST.out]; exact (tkP_none HLO.out).symm, HINV.out, by have := HSLN.out; omega, HOK.out, HBR.out⟩
      case measure => simp [intOf]; omega
     rw [hlo] at hlp
     have HLO := hI hlp.symm
     obtain ⟨g1, g2⟩ := findR_lotOf_some hlo
     have HXO : Hid (x ∈ own) := (lotOf_mem hlp.symm).1
     generalize hfr : findR S p.lot 0 = fr at g1 g2 ⊢
     obtain ⟨i, is⟩ := fr
     obtain rfl : is = true := g1
     dsimp only at g2
     have hiM : i < M := by rw [← HSM.out]; exact (List.getElem?_eq_some_iff.1 g2).1
     have HKI : Hid ((i : Int) < (M : Int)) := by show (i : Int) < _; omega
     obtain ⟨y, hy, hyx⟩ : ∃ y : SLot, rs[i]? = some y ∧ y.1 = x := by
      have h : (rs.map Subtype.val)[i]? = some x := by rw [HRSV.out]; exact g2
      rw [List.getElem?_map] at h
      obtain ⟨y, hy, e⟩ := Option.map_eq_some_iff.1 h
      exact ⟨y, hy, e⟩
     obtain ⟨ad, rfl, had, hcell2⟩ := HRS.out (by intro e; rw [e] at hy; cases hy)
     have hxa := (hcell2 i y hy).below HBR.out (by rw [add_block]; exact had)
     rw [hyx] at hxa
     have HXA := hI hxa
     have HXL : Hid ((ad.add (i * 7)).block < wr.heap.size) := by rw [add_block]; exact Nat.lt_of_lt_of_le had HBR.out.size
     have HXC : Hid (LotAt wr.drew (ad.add (i * 7)) x ∧ (ad.add (i * 7)).block < wr.drew.heap.size) := ⟨hxa.below (Below.refl _ _).drew HXL.out, HXL.out⟩
     have hpp : 0 ≤ vl p.qty := Int.le_of_lt hpos
     have hxz := (HOVN.out.2 x HXO.out).2.2.1
     have hl9 : st.1.length ≤ 100000 := by have := HSLN.out; omega
     have hsz := tk_sizes HQS.out HINV.out HOVN.out.2 HXO.out (mo := vl p.qty) hpp
     obtain ⟨am, ham⟩ : ∃ am, amt st.1 x.id = am := ⟨_, rfl⟩
     obtain ⟨lf, hlf⟩ : ∃ lf, vl x.qty - am = lf := ⟨_, rfl⟩
     obtain ⟨n, hn⟩ : ∃ n, tkN st x (vl p.qty) = n := ⟨_, rfl⟩
     have htk := tk_put HINV.out HXO.out (mo := vl p.qty) hpp
     have hinv2 := HINV.out.tk HID.out HXO.out (vl p.qty)
     rw [hn] at htk hsz
     rw [ham, hlf] at hsz
     obtain ⟨z1, z2, z3, z4, z5⟩ := hsz
     have HTK := hI (And.intro htk hinv2)
     have htc := fun W (hW : Below wr.drew.heap.size wr.drew W) => rtaken20_any W.heap.size Ao (pksOf st.1) co (by rw [pks_len]; omega) x.id W (HOK.out.below (show Below wr.heap.size wr W from (Below.refl _ _).drew.trans hW)).rd
     rw [rtk_pks, ham] at htc
     have hsu := fun W => rSub_any x.qty (I am) (by omega) (by omega) W
     rw [vl_I, hlf] at hsu
     have hadd := fun W (h : OutK W Ao co st.1) => radd20_any W.heap.size Ao st.1 co (by omega) h.cap h.nil x.id n z4 z5 W h.rd (Nat.le_refl _)
     have hsq := fun W => rSub_any (I st.2) (I n) (by omega) (by omega) W
     rw [vl_I, vl_I] at hsq
     have hl1 := fun W => rleast20_any (I (vl p.qty)) (I lf) (by rw [← HPC.out]; have := HPZ.out; omega) (by omega) W
     have hl2 := fun W => rleast20_any (I (min (vl p.qty) lf)) (I st.2) (Nat.le_trans (I_min_le (k := 2000) (by rw [← HPC.out]; have := HPZ.out; omega) (by omega)) (by omega)) (by omega) W
     have hnn : min (min (vl p.qty) lf) st.2 = n := by rw [← hn, ← hlf, ← ham]; rfl
     simp only [least_I] at hl1 hl2
     rw [hnn] at hl2
     have HTKC := hI htc
     have HSUC := hI hsu
     have HL1 := hI hl1
     have HL2 := hI hl2
     rw [hNo] at HTKC
     have HADD := hI hadd
     rw [hNo] at HADD ⊢
     have HSUQ := hI hsq
     clear hxz hl9 z1 z2 z3 z4 z5 ham hlf hn htk hinv2 htc hsu hadd hsq hl1 hl2 hnn hlo hlp g2 hfr hy hyx hcell2 had hxa hpp hpos
     go_upto_region 24 with fail
     have hgS : Below wr.drew.heap.size wr.drew wr.drew := Below.refl _ _
     have mixed : Tryz.prog.follows .mixedOrders = true := by kernel_rfl
     refine wp_region_any mixed (wpAny_inv (CAJ wr.drew x ad M cs i No co Ao am lf st.2 n _ _ _ _ _ _ _ _ _ _ _ _ _ _ _ _ _ _ _ _ _ _ _ _ _ _ _ _ _ _ _ _ _ _ _ _ _ _ _ _ _ _ _ _ _ _ _ _ _ _ _ _ _ _ _ _ _ _ _ _ _ _ _ _ _ _ _ _ _ _ _ _ _ _ _ _ _ _ _ _ _ _ _ _ _ _ _ _ _ _ _ _ _ _ _ _ _ _ _ _ _ _ _ _ _ _ _ _ _ _ _ _ _ _ _ _ _ _ _ _ _ _ _ _ _ _ _ _ _ _ _ _ _ _ _ _ _ _ _ _ _ _ _) ?stCA ?dnCA _ _ _ _ ⟨by simp, ⟨_, _, _, _, _, _, _, _, _, _, _, _, _, _, rfl, fun h => by simp at h, fun h => by simp at h, fun h => by simp at h, fun h => by simp at h, fun h => by simp at h, fun h => by simp at h, fun h => by simp at h, fun h => by simp at h, fun h => by simp at h, fun h => by simp at h, fun h => by simp at h, fun h => by simp at h, fun h => by simp at h, fun h => by simp at h, hgS⟩⟩ (by decide))
     case dnCA =>
      intro L a w' hj hr
      have all := all_on hr hj.sz (by kernel_rfl)
      obtain ⟨s20, s94, s95, s96, s97, s98, s99, s100, s101, s102, s103, s104, s105, s106, rfl, hv⟩ := hj.fr
      have e13 := hv.k13 (all 13 (by omega))
      subst e13
      have HB2 := hI (HBR.out.trans ((show Below wr.heap.size wr w' from (Below.refl _ _).drew.trans hv.g).mono HBR.out.size))
      have HOK2 := hI (HOK.out.below (show Below wr.heap.size wr w' from (Below.refl _ _).drew.trans hv.g))
      have HXA2 := HXA.out.below (show Below wr.heap.size wr w' from (Below.refl _ _).drew.trans hv.g) HXL.out
      have hp1 := HPA.out.1.below (show Below wr.heap.size wr w' from (Below.refl _ _).drew.trans hv.g) HPA.out.2
      obtain ⟨p0, p1⟩ := hp1
      rw [HPC.out] at p1
      clear all hv hj hr HTKC HSUC HXC
      dsimp only
      obtain ⟨x0, x1, x2, x3, x4, x5, x6⟩ := HXA2
      have hkl := HKP.out
      have hki := HKI.out
      go_wp2_with fail
      refine (HL1.out _).mono ?_
      rintro e w3 ⟨rfl, rfl⟩
      go_wp2_with fail
      refine (HL2.out _).mono ?_
      rintro e w3 ⟨rfl, rfl⟩
      go_wp2_with fail
      refine (HADD.out _ HOK2.out).mono ?_
      rintro e w4 ⟨A3, c3, rfl, b4, hk4, hc4, hn4⟩
      have HOK4 : Hid (OutK w4 A3 c3 (putA st.1 x.id n)) := ⟨hk4, hc4, hn4⟩
      have HB4 := hI (HB2.out.trans (b4.mono HB2.out.size))
      clear b4 hk4 hc4 hn4 x0 x1 x2 x3 x4 x5 x6 p0 p1
      go_wp2_with fail
      refine (HSUQ.out w4).mono ?_
      rintro e w5 ⟨rfl, b5⟩
      have HOK5 := hI (HOK4.out.below b5)
      have HB5 := hI (HB4.out.trans (b5.mono HB4.out.size))
      clear b5
      go_wp2_with fail
      go_roundw
      case rel => exact ⟨k + 1, _, A3, c3, by go_num, by omega, by rw [HTK.out.1], by rw [HTK.out.1], by rw [HTKN.out, List.foldl_append, ← HST.out]; exact (tkP_some HLO.out).symm, HTK.out.2, Nat.le_trans (tk_len _ _ _) (by have := HSLN.out; omega), by rw [HTK.out.1]; exact HOK5.out, HB5.out⟩
      case measure => simp [intOf]; omega
     case stCA =>
      intro L a w' hj i hi
      obtain ⟨hun, o, ho, hall⟩ := mem_ready.1 hi
      have hoff := getD_off hun
      have hlt := (Array.getElem?_eq_some_iff.1 ho).1
      simp at hlt
      obtain ⟨s20, s94, s95, s96, s97, s98, s99, s100, s101, s102, s103, s104, s105, s106, rfl, hv⟩ := hj.fr
      have HV := hI hv
      have HJ := hI hj
      clear hv hj
      rcases (show i = 0 ∨ i = 1 ∨ i = 2 ∨ i = 3 ∨ i = 4 ∨ i = 5 ∨ i = 6 ∨ i = 7 ∨ i = 8 ∨ i = 9 ∨ i = 10 ∨ i = 11 ∨ i = 12 ∨ i = 13 from by omega) with rfl | rfl | rfl | rfl | rfl | rfl | rfl | rfl | rfl | rfl | rfl | rfl | rfl | rfl
      all_goals simp at ho
      all_goals subst ho
      rotate_left
      rotate_left
      cases HV.out.k0 (Hq hall 0).out
      cases HV.out.k1 (Hq hall 1).out
      have hki := HKI.out
      rotate_left
      cases HV.out.k2 (Hq hall 2).out
      rotate_left
      cases HV.out.k3 (Hq hall 3).out
      obtain ⟨c0, c1, c2, c3, c4, c5, c6⟩ := HXC.out.1.below HV.out.g HXC.out.2
      rotate_left
      rotate_left
      rotate_left
      rotate_left
      cases HV.out.k6 (Hq hall 6).out
      cases HV.out.k7 (Hq hall 7).out
      have hki := HKI.out
      rotate_left
      cases HV.out.k8 (Hq hall 8).out
      rotate_left
      cases HV.out.k9 (Hq hall 9).out
      obtain ⟨c0, c1, c2, c3, c4, c5, c6⟩ := HXC.out.1.below HV.out.g HXC.out.2
      rotate_left
      ·cases HV.out.k5 (Hq hall 5).out
       cases HV.out.k10 (Hq hall 10).out
       clear hall hi
       refine wpOp_hid rfl fun K' HK => ?_
       go_simp
       refine (HTKC.out w' HV.out.g).mono ?_
       rintro e wn ⟨rfl, rfl⟩
       cases HV.out
       refine HK.out _ _ ⟨by simp [HJ.out.sz], ⟨_, _, _, _, _, _, _, _, _, _, _, _, _, _, rfl, ?_, ?_, ?_, ?_, ?_, ?_, ?_, ?_, ?_, ?_, ?_, fun _ => rfl, ?_, ?_, HV.out.g⟩⟩
       all_goals exact Um (by assumption)
      ·cases HV.out.k4 (Hq hall 4).out
       cases HV.out.k11 (Hq hall 11).out
       clear hall hi
       refine wpOp_hid rfl fun K' HK => ?_
       go_simp
       refine (HSUC.out w').mono ?_
       rintro e wn ⟨rfl, bn⟩
       cases HV.out
       refine HK.out _ _ ⟨by simp [HJ.out.sz], ⟨_, _, _, _, _, _, _, _, _, _, _, _, _, _, rfl, ?_, ?_, ?_, ?_, ?_, ?_, ?_, ?_, ?_, ?_, ?_, ?_, fun _ => rfl, ?_, HV.out.g.trans (bn.mono HV.out.g.size)⟩⟩
       all_goals exact Um (by assumption)
      cases HV.out.k12 (Hq hall 12).out
      rotate_left
      all_goals
       clear hall hi
       refine wpOp_hid rfl fun K' HK => ?_
       go_simp
       cases HV.out
       refine HK.out _ _ ⟨by simp [HJ.out.sz], ?_⟩
       iterate 14 apply Exists.intro
       refine ⟨rfl, ?_⟩
       constructor
       all_goals first | exact Um (by assumption) | exact Un (by assumption) | exact Uf (by assumption) | exact fun _ => rfl | assumption
    ·have hcx : decide ((k : Int) < (P' : Int)) = false := by simp; omega
     have hcx2 : decide (k < P') = false := decide_eq_false (by omega)
     have HSE2 : Hid (st = ps'.foldl (tkP own) ([], vl q)) := by
      have h := HST.out
      rwa [List.take_of_length_le (by rw [HP'.out]; exact hge)] at h
     have HLN2 : Hid (st.1.length ≤ P') := by have := HSLN.out; show _ ≤ _; omega
     obtain ⟨st2, hst2⟩ : ∃ st2, st = st2 := ⟨_, rfl⟩
     clear hge hk HST HSLN HFI HVP HPS' hNo
     go_wp2_with fail
     clear hcx hcx2
     go_loopw [2, 16, 22] (fun u o v wr2 => ∃ (i : Nat) (st' : Am × Int) (Ao : Option Addr) (co : Nat), v = .int .i64 (i : Int) ∧ i ≤ M ∧ u = .string (I st'.2) ∧ o = .slice Ao (pksOf st'.1).length co ∧ st' = tkAll (S.take i) st2 ∧ InvA own (vl q) st' ∧ st'.1.length ≤ P' + i ∧ OutK wr2 Ao co st'.1 ∧ Below wb.heap.size wb wr2) (fun _ _ v _ => M - (intOf v).toNat)
     case atStart => exact ⟨0, st, Ao, co, rfl, Nat.zero_le _, rfl, rfl, by rw [← hst2]; rfl, HINV.out, by have := HLN2.out; omega, HOK.out, HBR.out⟩
     case round =>
     rw [hst2] at HSE2
     clear hst2 HINV HOK HBR HLN2
     obtain ⟨i, st, Ao, co, rfl, hi, rfl, rfl, hst, hinv, hsl, hout, hb⟩ := hrel
     have HST := hI hst
     have HINV := hI hinv
     have HSLN := hI hsl
     have HOK := hI hout
     have HBR := hI hb
     clear hst hinv hsl hout hb
     obtain ⟨No, hNo⟩ : ∃ No, (pksOf st.1).length = No := ⟨_, rfl⟩
     rcases Nat.lt_or_ge i M with hlt | hge
     ·obtain ⟨y, hy⟩ : ∃ y, rs[i]? = some y := ⟨_, List.getElem?_eq_getElem (by rw [HMM.out]; exact hlt)⟩
      obtain ⟨x, hyx⟩ : ∃ x, y.1 = x := ⟨_, rfl⟩
      have hSx : S[i]? = some x := by rw [← HRSV.out, List.getElem?_map, hy]; exact congrArg some hyx
      have HXO : Hid (x ∈ own) := HPM.out.mem_iff.1 (List.mem_of_getElem? hSx)
      have HTKN := hI (take_snoc hSx)
      have hcx : decide ((i : Int) < (M : Int)) = true := by simp; omega
      have HKI : Hid ((i : Int) < (M : Int)) := by show (i : Int) < _; omega
      obtain ⟨ad, rfl, had, hcell2⟩ := HRS.out (by intro e; rw [e] at hy; cases hy)
      have hxa := (hcell2 i y hy).below HBR.out (by rw [add_block]; exact had)
      rw [hyx] at hxa
      have HXA := hI hxa
      have HXL : Hid ((ad.add (i * 7)).block < wr.heap.size) := by rw [add_block]; exact Nat.lt_of_lt_of_le had HBR.out.size
      have HXC : Hid (LotAt wr.drew (ad.add (i * 7)) x ∧ (ad.add (i * 7)).block < wr.drew.heap.size) := ⟨hxa.below (Below.refl _ _).drew HXL.out, HXL.out⟩
      have hpp : 0 ≤ vl x.qty := Int.le_of_lt (HOVN.out.1 x HXO.out).pq
      have hxz := (HOVN.out.2 x HXO.out).2.2.1
      have hl9 : st.1.length ≤ 100000 := by have := HSLN.out; omega
      have hsz := tk_sizes HQS.out HINV.out HOVN.out.2 HXO.out (mo := vl x.qty) hpp
      obtain ⟨am, ham⟩ : ∃ am, amt st.1 x.id = am := ⟨_, rfl⟩
      obtain ⟨lf, hlf⟩ : ∃ lf, vl x.qty - am = lf := ⟨_, rfl⟩
      obtain ⟨n, hn⟩ : ∃ n, tkN st x (vl x.qty) = n := ⟨_, rfl⟩
      have htk := tk_put HINV.out HXO.out (mo := vl x.qty) hpp
      have hinv2 := HINV.out.tk HID.out HXO.out (vl x.qty)
      rw [hn] at htk hsz
      rw [ham, hlf] at hsz
      obtain ⟨z1, z2, z3, z4, z5⟩ := hsz
      have HTK := hI (And.intro htk hinv2)
      have htc := fun W (hW : Below wr.drew.heap.size wr.drew W) => rtaken20_any W.heap.size Ao (pksOf st.1) co (by rw [pks_len]; omega) x.id W (HOK.out.below (show Below wr.heap.size wr W from (Below.refl _ _).drew.trans hW)).rd
      rw [rtk_pks, ham] at htc
      have hsu := fun W => rSub_any x.qty (I am) (by omega) (by omega) W
      rw [vl_I, hlf] at hsu
      have hadd := fun W (h : OutK W Ao co st.1) => radd20_any W.heap.size Ao st.1 co (by omega) h.cap h.nil x.id n z4 z5 W h.rd (Nat.le_refl _)
      have hsq := fun W => rSub_any (I st.2) (I n) (by omega) (by omega) W
      rw [vl_I, vl_I] at hsq
      have hl2 := fun W => rleast20_any (I lf) (I st.2) (by omega) (by omega) W
      have hnn : min lf st.2 = n := by rw [← hn, ← hlf, ← ham]; exact (tkN_all HINV.out x).symm
      simp only [least_I] at hl2
      rw [hnn] at hl2
      have HTKC := hI htc
      have HSUC := hI hsu
      have HL2 := hI hl2
      rw [hNo] at HTKC
      have HADD := hI hadd
      rw [hNo] at HADD ⊢
      have HSUQ := hI hsq
      clear hxz hl9 z1 z2 z3 z4 z5 ham hlf hn htk hinv2 htc hsu hadd hsq hl2 hnn hy hyx hcell2 had hxa hpp hSx
      go_upto_region 31 with fail
      have hgS : Below wr.drew.heap.size wr.drew wr.drew := Below.refl _ _
      have mixed : Tryz.prog.follows .mixedOrders = true := by kernel_rfl
      refine wp_region_any mixed (wpAny_inv (CBJ wr.drew x ad M cs i No co Ao am lf st.2 n _ _ _ _ _ _ _ _ _ _ _ _ _ _ _ _ _ _ _ _ _ _ _ _ _ _ _ _ _ _ _ _ _ _ _ _ _ _ _ _ _ _ _ _ _ _ _ _ _ _ _ _ _ _ _ _ _ _ _ _ _ _ _ _ _ _ _ _ _ _ _ _ _ _ _ _ _ _ _ _ _ _ _ _ _ _ _ _ _ _ _ _ _ _ _ _ _ _ _ _ _ _ _ _ _ _ _ _ _ _ _ _ _ _ _ _ _ _ _ _ _ _ _ _ _ _ _ _ _ _ _ _ _ _ _ _ _ _ _ _) ?stCB ?dnCB _ _ _ _ ⟨by simp, ⟨_, _, _, _, _, _, _, _, _, _, _, _, _, _, _, _, rfl, fun h => by simp at h, fun h => by simp at h, fun h => by simp at h, fun h => by simp at h, fun h => by simp at h, fun h => by simp at h, fun h => by simp at h, fun h => by simp at h, fun h => by simp at h, fun h => by simp at h, fun h => by simp at h, fun h => by simp at h, fun h => by simp at h, fun h => by simp at h, fun h => by simp at h, fun h => by simp at h, hgS⟩⟩ (by decide))
      case dnCB =>
       intro L a w' hj hr
       have all := all_on hr hj.sz (by kernel_rfl)
       obtain ⟨s23, s133, s134, s135, s136, s137, s138, s139, s140, s141, s142, s143, s144, s145, s146, s147, rfl, hv⟩ := hj.fr
       have e15 := hv.k15 (all 15 (by omega))
       subst e15
       have HB2 := hI (HBR.out.trans ((show Below wr.heap.size wr w' from (Below.refl _ _).drew.trans hv.g).mono HBR.out.size))
       have HOK2 := hI (HOK.out.below (show Below wr.heap.size wr w' from (Below.refl _ _).drew.trans hv.g))
       have HXA2 := HXA.out.below (show Below wr.heap.size wr w' from (Below.refl _ _).drew.trans hv.g) HXL.out
       clear all hv hj hr HTKC HSUC HXC HL2
       dsimp only
       obtain ⟨x0, x1, x2, x3, x4, x5, x6⟩ := HXA2
       have hki := HKI.out
       go_wp2_with fail
       refine (HADD.out _ HOK2.out).mono ?_
       rintro e w4 ⟨A3, c3, rfl, b4, hk4, hc4, hn4⟩
       have HOK4 : Hid (OutK w4 A3 c3 (putA st.1 x.id n)) := ⟨hk4, hc4, hn4⟩
       have HB4 := hI (HB2.out.trans (b4.mono HB2.out.size))
       clear b4 hk4 hc4 hn4 x0 x1 x2 x3 x4 x5 x6
       go_wp2_with fail
       refine (HSUQ.out w4).mono ?_
       rintro e w5 ⟨rfl, b5⟩
       have HOK5 := hI (HOK4.out.below b5)
       have HB5 := hI (HB4.out.trans (b5.mono HB4.out.size))
       clear b5
       go_wp2_with fail
       go_roundw
       case rel => exact ⟨i + 1, _, A3, c3, by go_num, by omega, by rw [HTK.out.1], by rw [HTK.out.1], by rw [HTKN.out, tkAll_snoc, ← HST.out], HTK.out.2, Nat.le_trans (tk_len _ _ _) (by have := HSLN.out; omega), by rw [HTK.out.1]; exact HOK5.out, HB5.out⟩
       case measure => simp [intOf]; omega
      case stCB =>
       intro L a w' hj i hi
       obtain ⟨hun, o, ho, hall⟩ := mem_ready.1 hi
       have hoff := getD_off hun
       have hlt := (Array.getElem?_eq_some_iff.1 ho).1
       simp at hlt
       obtain ⟨s23, s133, s134, s135, s136, s137, s138, s139, s140, s141, s142, s143, s144, s145, s146, s147, rfl, hv⟩ := hj.fr
       have HV := hI hv
       have HJ := hI hj
       clear hv hj
       rcases (show i = 0 ∨ i = 1 ∨ i = 2 ∨ i = 3 ∨ i = 4 ∨ i = 5 ∨ i = 6 ∨ i = 7 ∨ i = 8 ∨ i = 9 ∨ i = 10 ∨ i = 11 ∨ i = 12 ∨ i = 13 ∨ i = 14 ∨ i = 15 from by omega) with rfl | rfl | rfl | rfl | rfl | rfl | rfl | rfl | rfl | rfl | rfl | rfl | rfl | rfl | rfl | rfl
       all_goals simp at ho
       all_goals subst ho
       rotate_left
       rotate_left
       cases HV.out.k0 (Hq hall 0).out
       cases HV.out.k1 (Hq hall 1).out
       have hki := HKI.out
       rotate_left
       cases HV.out.k2 (Hq hall 2).out
       rotate_left
       cases HV.out.k3 (Hq hall 3).out
       obtain ⟨c0, c1, c2, c3, c4, c5, c6⟩ := HXC.out.1.below HV.out.g HXC.out.2
       rotate_left
       rotate_left
       rotate_left
       rotate_left
       cases HV.out.k6 (Hq hall 6).out
       cases HV.out.k7 (Hq hall 7).out
       have hki := HKI.out
       rotate_left
       cases HV.out.k8 (Hq hall 8).out
       rotate_left
       cases HV.out.k9 (Hq hall 9).out
       obtain ⟨c0, c1, c2, c3, c4, c5, c6⟩ := HXC.out.1.below HV.out.g HXC.out.2
       rotate_left
       ·cases HV.out.k5 (Hq hall 5).out
        cases HV.out.k10 (Hq hall 10).out
        clear hall hi
        refine wpOp_hid rfl fun K' HK => ?_
        go_simp
        refine (HTKC.out w' HV.out.g).mono ?_
        rintro e wn ⟨rfl, rfl⟩
        cases HV.out
        refine HK.out _ _ ⟨by simp [HJ.out.sz], ?_⟩
        iterate 16 apply Exists.intro
        refine ⟨rfl, ?_⟩
        constructor
        case k11 => exact fun _ => rfl
        case g => exact HV.out.g
        all_goals exact Um (by assumption)
       ·cases HV.out.k4 (Hq hall 4).out
        cases HV.out.k11 (Hq hall 11).out
        clear hall hi
        refine wpOp_hid rfl fun K' HK => ?_
        go_simp
        refine (HSUC.out w').mono ?_
        rintro e wn ⟨rfl, bn⟩
        cases HV.out
        refine HK.out _ _ ⟨by simp [HJ.out.sz], ?_⟩
        iterate 16 apply Exists.intro
        refine ⟨rfl, ?_⟩
        constructor
        case k12 => exact fun _ => rfl
        case g => exact HV.out.g.trans (bn.mono HV.out.g.size)
        all_goals exact Um (by assumption)
       rotate_left
       ·cases HV.out.k12 (Hq hall 12).out
        cases HV.out.k13 (Hq hall 13).out
        clear hall hi
        refine wpOp_hid rfl fun K' HK => ?_
        go_simp
        refine (HL2.out w').mono ?_
        rintro e wn ⟨rfl, rfl⟩
        cases HV.out
        refine HK.out _ _ ⟨by simp [HJ.out.sz], ?_⟩
        iterate 16 apply Exists.intro
        refine ⟨rfl, ?_⟩
        constructor
        case k14 => exact fun _ => rfl
        case g => exact HV.out.g
        all_goals exact Um (by assumption)
       cases HV.out.k14 (Hq hall 14).out
       rotate_left
       all_goals
        clear hall hi
        refine wpOp_hid rfl fun K' HK => ?_
        go_simp
        cases HV.out
        refine HK.out _ _ ⟨by simp [HJ.out.sz], ?_⟩
        iterate 16 apply Exists.intro
        refine ⟨rfl, ?_⟩
        constructor
        all_goals first | exact Um (by assumption) | exact Un (by assumption) | exact Uf (by assumption) | exact fun _ => rfl | assumption
     ·have hcx : decide ((i : Int) < (M : Int)) = false := by simp; omega
      have HF : Hid (st.1 = (chsSt (ownB lz s) m (vl q) ps).1) := by
       have h := HST.out
       rw [List.take_of_length_le (by rw [HSM.out]; exact hge)] at h
       unfold chsSt
       rw [HOWD.out, HSE.out, ← HFO.out, ← HSE2.out, ← h]
       exact hI rfl
      go_wp2_with fail
      go_ret2
      exact ⟨Ao, co, pksOf st.1, by rw [HE.out]; rfl, HBB.out.trans (HBR.out.mono HBB.out.size), HOK.out.rd, HOK.out.cap, fun h => absurd HE.out h, fun _ => by rw [HF.out]⟩
def la : Lot := ⟨⟨#[97, 47, 49]⟩, ⟨#[97, 98, 99]⟩, 1, 1, ⟨#[49, 48]⟩, ⟨#[49, 48, 48]⟩, ⟨#[]⟩⟩
def lb : Lot := ⟨⟨#[98, 47, 49]⟩, ⟨#[97, 98, 99]⟩, 2, 2, ⟨#[49, 48]⟩, ⟨#[51, 48, 48]⟩, ⟨#[]⟩⟩
def lc : Lot := ⟨⟨#[99, 47, 49]⟩, ⟨#[97, 98, 99]⟩, 2, 2, ⟨#[49, 48]⟩, ⟨#[50, 48, 48]⟩, ⟨#[]⟩⟩
def abc : ByteArray := ⟨#[97, 98, 99]⟩
def q15 : ByteArray := ⟨#[49, 53]⟩
theorem la_tiny : la.tiny := ⟨by decide, by decide, by decide, by decide, by decide⟩
theorem lb_tiny : lb.tiny := ⟨by decide, by decide, by decide, by decide, by decide⟩
theorem lc_tiny : lc.tiny := ⟨by decide, by decide, by decide, by decide, by decide⟩
theorem la_ok : la.ok where
 id := by kernel_rfl
 inst := by decide
 acq := by unfold okDay; decide
 opn := by unfold okDay; decide
 ord := by decide
 cq := by unfold Can; decide
 cc := by unfold Can; decide
 cu := by unfold Can; decide
 pq := by decide
 pc := by decide
 us := .inl rfl
theorem lb_ok : lb.ok where
 id := by kernel_rfl
 inst := by decide
 acq := by unfold okDay; decide
 opn := by unfold okDay; decide
 ord := by decide
 cq := by unfold Can; decide
 cc := by unfold Can; decide
 cu := by unfold Can; decide
 pq := by decide
 pc := by decide
 us := .inl rfl
theorem lc_ok : lc.ok where
 id := by kernel_rfl
 inst := by decide
 acq := by unfold okDay; decide
 opn := by unfold okDay; decide
 ord := by decide
 cq := by unfold Can; decide
 cc := by unfold Can; decide
 cu := by unfold Can; decide
 pq := by decide
 pc := by decide
 us := .inl rfl
def s3 : List SLot := [⟨la, la_tiny.sized⟩, ⟨lb, lb_tiny.sized⟩, ⟨lc, lc_tiny.sized⟩]
def l3 : List Lot := [la, lb, lc]
theorem s3_l3 : s3.map Subtype.val = l3 := rfl
theorem l3_all : AllOk l3 := by
 refine ⟨by decide, fun l hl => ?_, ?_⟩
 ·unfold l3 at hl
  simp at hl
  rcases hl with rfl | rfl | rfl
  ·exact lchk_zero.2 la_ok
  ·exact lchk_zero.2 lb_ok
  ·exact lchk_zero.2 lc_ok
 ·show List.Nodup [la.id, lb.id, lc.id]
  simp [la, lb, lc]
theorem l3_lall : lall l3 = 0 := (lall_zero l3).2 l3_all
theorem own3 : ownB l3 abc = l3 := by kernel_rfl
theorem q15_vl : vl q15 = 15 := by decide
theorem tot3 : totQ l3 = 30 := by kernel_rfl
def wz (k : Nat) : Int := if k = 0 then 250 else if k = 1 then 350 else if k = 2 then 400 else 200
theorem wz_is (k : Nat) (hk : k < 4) : sumL (fun l => vl l.cost) (takenR l3 (pksOf (chsSt l3 ((k : Int) + 1) 15 []).1)) = wz k := by
 rcases (show k = 0 ∨ k = 1 ∨ k = 2 ∨ k = 3 from by omega) with rfl | rfl | rfl | rfl
 ·kernel_rfl
 ·kernel_rfl
 ·kernel_rfl
 ·kernel_rfl
theorem chs3 (k : Nat) (hk : k < 4) : chsE l3 abc q15 ((k : Int) + 1) [] = 0 :=
 chsE_ok l3_lall (by unfold Can; decide) (fun h => Bool.false_ne_true h.2) (by omega) (by rw [q15_vl]; decide) (by rw [own3, q15_vl, tot3]; decide)
theorem inv3 (k : Nat) : InvA l3 15 (chsSt l3 ((k : Int) + 1) 15 []) := InvA.chs l3_all.nd (fun x hx => (lchk_zero.1 (l3_all.ok x hx)).pq) (by decide) _ _
theorem pos3 (k : Nat) : posE l3 none [] (pksOf (chsSt l3 ((k : Int) + 1) 15 []).1) = 0 :=
 (posE_zero _ _ _ _).2 ⟨fun p _ h => (by simp at h), (inv3 k).pks l3_all.nd (s := abc) (fun x hx => ⟨hx, by unfold l3 at hx; simp at hx; rcases hx with rfl | rfl | rfl <;> rfl⟩) none (fun t e => by cases e)⟩
theorem tak3 (k : Nat) : takE l3 (pksOf (chsSt l3 ((k : Int) + 1) 15 []).1) = 0 := (takE_pos l3_lall _).trans (pos3 k)
theorem cst3 (k : Nat) (hk : k < 4) : cstZ l3 (pksOf (chsSt l3 ((k : Int) + 1) 15 []).1) = wz k := by unfold cstZ; rw [if_pos (tak3 k), wz_is k hk]
theorem size3 (k : Nat) : ∀ p ∈ pksOf (chsSt l3 ((k : Int) + 1) 15 []).1, p.qty.size ≤ 3 := by
 intro p hp
 obtain ⟨a, ha, rfl⟩ := List.mem_map.1 hp
 have h := inv3 k
 obtain ⟨x, hx, e⟩ := h.sub a ha
 have h1 := h.le x hx
 rw [e, amt_mem h.nd ha] at h1
 have h2 := h.pos a ha
 have hq : vl x.qty = 10 ∧ x.qty.size = 2 := by unfold l3 at hx; simp at hx; rcases hx with rfl | rfl | rfl <;> decide
 have := I_size_in (a := x.qty) (Int.le_of_lt h2) h1
 show (I a.2).size ≤ 3
 omega
theorem len3 (k : Nat) : (pksOf (chsSt l3 ((k : Int) + 1) 15 []).1).length ≤ 10000 := by
 have key : ∀ (S : List Lot) (st : Am × Int), (tkAll S st).1.length ≤ st.1.length + S.length := by
  intro S
  induction S with
  | nil => intro st; exact Nat.le_refl _
  | cons x r ih =>
    intro st
    have h1 := ih (tk st x (vl x.qty))
    have h2 := tk_len st x (vl x.qty)
    show (tkAll r (tk st x (vl x.qty))).1.length ≤ _
    rw [List.length_cons]; omega
 unfold pksOf
 rw [List.length_map]
 unfold chsSt
 have h1 := key (ordP ((k : Int) + 1) l3) (if (k : Int) + 1 = 5 then [].foldl (tkP l3) ([], 15) else ([], 15))
 have h2 := (ordP_perm ((k : Int) + 1) l3).length_eq
 have h3 : l3.length = 3 := rfl
 have h4 : (if (k : Int) + 1 = 5 then ([] : List Pk).foldl (tkP l3) ([], (15 : Int)) else ([], 15)).1.length = 0 := by split <;> rfl
 omega
theorem I250 : I 250 = ⟨#[50, 53, 48]⟩ := by decide
theorem I350 : I 350 = ⟨#[51, 53, 48]⟩ := by decide
theorem I400 : I 400 = ⟨#[52, 48, 48]⟩ := by decide
theorem I200 : I 200 = ⟨#[50, 48, 48]⟩ := by decide
theorem awake20_any (w : World) (ht : Tabs w) : Calls Tryz.prog 6 #[] w fun e w' => e = .returned (.bool true) ∧ Below w.heap.size w w' := by
 obtain ⟨W0, hW0⟩ : ∃ W0, w.alloc (.cells #[.string ⟨#[97, 47, 49]⟩, .string ⟨#[97, 98, 99]⟩, .int .i64 1, .int .i64 1, .string ⟨#[49, 48]⟩, .string ⟨#[49, 48, 48]⟩, .string ⟨#[]⟩, .string ⟨#[98, 47, 49]⟩, .string ⟨#[97, 98, 99]⟩, .int .i64 2, .int .i64 2, .string ⟨#[49, 48]⟩, .string ⟨#[51, 48, 48]⟩, .string ⟨#[]⟩, .string ⟨#[99, 47, 49]⟩, .string ⟨#[97, 98, 99]⟩, .int .i64 2, .int .i64 2, .string ⟨#[49, 48]⟩, .string ⟨#[50, 48, 48]⟩, .string ⟨#[]⟩] 48) = W0 := ⟨_, rfl⟩
 have k0 : W0.heap[w.heap.size]? = some (.cells (flatV l3).toArray 48 (0, 0)) := by rw [← hW0]; exact heap_alloc_new w _
 have b0 : Below w.heap.size w W0 := by rw [← hW0]; exact (Below.refl _ w).alloc (Nat.le_refl _) _
 obtain ⟨W1, hW1⟩ : ∃ W1, W0.alloc (.cells #[.string ⟨#[50, 53, 48]⟩, .string ⟨#[51, 53, 48]⟩, .string ⟨#[52, 48, 48]⟩, .string ⟨#[50, 48, 48]⟩] 23) = W1 := ⟨_, rfl⟩
 have k1 : W1.heap[W0.heap.size]? = some (.cells #[.string ⟨#[50, 53, 48]⟩, .string ⟨#[51, 53, 48]⟩, .string ⟨#[52, 48, 48]⟩, .string ⟨#[50, 48, 48]⟩] 23 (0, 0)) := by rw [← hW1]; exact heap_alloc_new W0 _
 have b1 : Below W0.heap.size W0 W1 := by rw [← hW1]; exact (Below.refl _ W0).alloc (Nat.le_refl _) _
 have HB1 := hI (b0.trans (b1.mono b0.size))
 have k0' := (b1.block _ (Array.getElem?_eq_some_iff.1 k0).1).trans k0
 have hrow : SRow (fun _ => True) W1 w.heap.size [] l3 W1 := ⟨by rw [List.append_nil]; exact k0', fun _ _ => trivial, ⟨rfl, rfl, rfl, Nat.le_refl _, fun _ _ _ => rfl⟩, (Array.getElem?_eq_some_iff.1 k0').1⟩
 have hrd : RdB W1.heap.size W1 (some ⟨w.heap.size, 0, none⟩) s3 := fun _ => ⟨_, rfl, hrow.lt, fun j l hj => by rw [addr_add0]; exact hrow.at (by rw [← s3_l3, List.getElem?_map, hj]; rfl)⟩
 have HRD := hI hrd
 have HK1 := hI k1
 have HT := hI ht
 have hti : ∀ l ∈ s3, l.1.tiny := by intro l hl; unfold s3 at hl; simp at hl; rcases hl with rfl | rfl | rfl; exact la_tiny; exact lb_tiny; exact lc_tiny
 have HCH := hI (fun (k : Nat) (W : World) (hW : Below W1.heap.size W1 W) => Choose20_any W1.heap.size (some ⟨w.heap.size, 0, none⟩) s3 3 (by decide) (by decide) abc q15 (by decide) ((k : Int) + 1) none [] 0 (by decide) (fun p h => by cases h) W (hrd.below hW) hW.size (fun h => by cases h) (RdK.nil _ _ _) (ht.below (HB1.out.trans (hW.mono HB1.out.size))))
 have HCO := hI (fun (k : Nat) (hk : k < 4) (A : Option Addr) (c n : Nat) (hc : (pksOf (chsSt l3 ((k : Int) + 1) 15 []).1).length ≤ c) (W : World) (hW : Below W1.heap.size W1 W) (hn : n ≤ W.heap.size) (hK : RdK n W A (pksOf (chsSt l3 ((k : Int) + 1) 15 []).1)) =>
  Cost20_any W.heap.size (some ⟨w.heap.size, 0, none⟩) s3 3 (by decide) (by decide) hti A _ c (len3 k) hc (fun p hp => by have := size3 k p hp; omega) (fun _ p hp => by have := size3 k p hp; omega) W (fun h => by obtain ⟨ad, e, h1, h2⟩ := hrd.below hW h; exact ⟨ad, e, Nat.lt_of_lt_of_le h1 hW.size, h2⟩) (Nat.le_refl _) (fun h => by cases h) (hK.mono hn) (ht.below (HB1.out.trans (hW.mono HB1.out.size))))
 rw [s3_l3, show s3.length = 3 from rfl] at HCH HCO
 clear k0 b0 k1 b1 k0' hrow hrd hti ht
 go_enter Tryz.func6, Tryz.ntmps6
 go_wp2_with fail
 go_loopw [14] (fun v wr => ∃ k : Nat, v = .int .i64 (k : Int) ∧ k ≤ 4 ∧ Below W1.heap.size W1 wr) (fun v _ => 4 - (intOf v).toNat)
 case atStart => exact ⟨0, rfl, Nat.zero_le _, Below.refl _ _⟩
 case round =>
  obtain ⟨k, rfl, hk, hb⟩ := hrel
  have HB := hI hb
  clear hb
  rcases Nat.lt_or_ge k 4 with hlt | hge
  ·have hcx : decide ((k : Int) < (4 : Int)) = true := by simp; omega
   have hcell : wr.cell? ⟨W0.heap.size, k, none⟩ = some (.string (I (wz k))) := by
    have h := (HB.out.block _ (Array.getElem?_eq_some_iff.1 HK1.out).1).trans HK1.out
    rw [Lib.cell_of_heap h k]
    rcases (show k = 0 ∨ k = 1 ∨ k = 2 ∨ k = 3 from by omega) with rfl | rfl | rfl | rfl
    ·show some (Value.string _) = some (Value.string (I 250)); rw [I250]
    ·show some (Value.string _) = some (Value.string (I 350)); rw [I350]
    ·show some (Value.string _) = some (Value.string (I 400)); rw [I400]
    ·show some (Value.string _) = some (Value.string (I 200)); rw [I200]
   have hchs := HCH.out k wr HB.out
   have HC := hI hchs
   have HLT := hI hlt
   obtain ⟨zw, hzw⟩ : ∃ z, wz k = z := ⟨_, rfl⟩
   rw [hzw] at hcell
   have HZW := hI hzw
   clear hchs hzw
   go_wp2_with fail
   refine HC.out.mono ?_
   rintro e w2 ⟨A, c, res, rfl, b2, hk2, hc2, _, hres⟩
   have hr := hres (chs3 k HLT.out)
   rw [own3, q15_vl] at hr
   subst hr
   rw [chs3 k HLT.out]
   have HB2 := hI (HB.out.trans (b2.mono HB.out.size))
   have hco := HCO.out k HLT.out A c w2.heap.size hc2 w2 HB2.out (Nat.le_refl _) hk2
   rw [tak3, cst3 k HLT.out, HZW.out] at hco
   have HCC := hI hco
   generalize (pksOf (chsSt l3 ((k : Int) + 1) 15 []).1).length = n at HCC ⊢
   clear b2 hk2 hc2 hres hco HC hcell
   go_wp2_with fail
   refine HCC.out.mono ?_
   rintro e w3 ⟨rfl, b3⟩
   have HB3 := hI (HB2.out.trans (b3.mono HB2.out.size))
   clear b3 HCC
   go_wp2_with fail
   go_roundw
   case rel => exact ⟨k + 1, by go_num, by omega, HB3.out⟩
   case measure => simp [intOf]; omega
  ·have hcx : decide ((k : Int) < (4 : Int)) = false := by simp; omega
   go_wp2_with fail
   go_ret
   exact ⟨rfl, HB1.out.trans (HB.out.mono HB1.out.size)⟩
theorem pick_iff (x y : Pk) : x = y ↔ x.lot = y.lot ∧ x.qty = y.qty := by cases x; cases y; simp
theorem eqGuard_pick (op : BinOp) (x y : Operand) (xs ys : Array Value) (w : World) : (eqGuard op 37 x y (.agg xs) (.agg ys)).run Tryz.prog w = .ok () w := run_eqGuard_agg w op _ x y xs ys (by kernel_rfl)
attribute [local go_sem] eqGuard_pick
theorem run_neq_pick (x y : Pk) (w : World) : (binOp .neq 37 (.agg #[.string x.lot, .string x.qty]) (.agg #[.string y.lot, .string y.qty])).run Tryz.prog w = .ok (.bool (!sameB x y)) w := by
 have hS : Tryz.prog.underlying 37 = some (.struct (Tryz.prog.fieldsOf 37)) := by kernel_rfl
 have hp : Tryz.prog.stoodInHeld 37 = false := by kernel_rfl
 have u0 := Tryz.underlying9
 have a0 := Tryz.isAgg9
 have z0 := Tryz.sizeOf9
 have u1 := Tryz.underlying23
 have a1 := Tryz.isAgg23
 have z1 := Tryz.sizeOf23
 rw [run_neq_struct, show (10000 : Nat) = 9999 + 1 from rfl, run_equalIn_agg w 9999 _ _ _ hS hp]
 simp only [Program.fieldsOf, Tryz.underlying37]
 go_simp
 by_cases h0 : x.lot = y.lot
 case neg => rw [sameB_no (fun e => h0 (by rw [e]))]; simp [tl_iff, h0]
 by_cases h1 : x.qty = y.qty
 case neg => rw [sameB_no (fun e => h1 (by rw [e]))]; simp [tl_iff, h0, h1]
 rw [sameB_yes ((pick_iff x y).2 ⟨h0, h1⟩)]; simp [tl_iff, h0, h1]
theorem eqPicks_any (A1 A2 : Option Addr) (l1 l2 : List Pk) (c1 c2 : Nat) (h1 : l1.length ≤ 1000000) (h2 : l2.length ≤ 1000000) (n1 n2 : Nat) (w : World) (r1 : RdK n1 w A1 l1) (r2 : RdK n2 w A2 l2) :
 Calls Tryz.prog 14 #[.slice A1 l1.length c1, .slice A2 l2.length c2] w fun e w' => e = .returned (.bool (sameB l1 l2)) ∧ ∃ m, w' = w.drewN m := by
 have R1 := hI r1
 have R2 := hI r2
 clear r1 r2
 by_cases hl : l1.length = l2.length
 case neg =>
  have tn : ((l1.length : Int) != (l2.length : Int)) = true := by rw [bne, beq_eq_false_iff_ne.2 (by omega)]; rfl
  have tn' : (l1.length != l2.length) = true := by rw [bne, beq_eq_false_iff_ne.2 hl]; rfl
  have te : ((l1.length : Int) == (l2.length : Int)) = false := beq_eq_false_iff_ne.2 (by omega)
  have te' : (l1.length == l2.length) = false := beq_eq_false_iff_ne.2 hl
  have HS := hI (sameB_no (fun e => hl (by rw [e])) : sameB l1 l2 = false)
  clear hl
  go_enter Tryz.func14, Tryz.ntmps14
  go_wp2_with fail
  go_ret
  exact ⟨by rw [HS.out]; rfl, 0, rfl⟩
 obtain ⟨n, hn⟩ : ∃ n, l1.length = n := ⟨_, rfl⟩
 rw [← hl, hn]
 have tn : ((n : Int) != (n : Int)) = false := by simp
 have HL : Hid (l1.length = n ∧ l2.length = n) := ⟨hn, hl ▸ hn⟩
 have hnn : n ≤ 1000000 := by omega
 clear hl hn h1 h2
 go_enter Tryz.func14, Tryz.ntmps14
 go_wp2_with fail
 go_loopw [5, 13] (fun _ v wr => ∃ k m : Nat, v = .int .i64 (k : Int) ∧ k ≤ n ∧ wr = w.drewN m ∧ l1.take k = l2.take k) (fun _ v _ => n - (intOf v).toNat)
 case atStart => exact ⟨0, 0, rfl, by omega, rfl, rfl⟩
 case round =>
  obtain ⟨k, m, rfl, hk, rfl, htk⟩ := hrel
  have HTK := hI htk
  clear tn htk
  rcases Nat.lt_or_ge k n with hlt | hge
  ·obtain ⟨x, hx⟩ : ∃ x, l1[k]? = some x := ⟨_, List.getElem?_eq_getElem (by rw [HL.out.1]; exact hlt)⟩
   obtain ⟨y, hy⟩ : ∃ y, l2[k]? = some y := ⟨_, List.getElem?_eq_getElem (by rw [HL.out.2]; exact hlt)⟩
   obtain ⟨a1, rfl, _, hc1⟩ := R1.out (by intro e; rw [e] at hx; cases hx)
   obtain ⟨a2, rfl, _, hc2⟩ := R2.out (by intro e; rw [e] at hy; cases hy)
   have p := hc1 k x hx
   have q := hc2 k y hy
   obtain ⟨p0, p1⟩ := p
   obtain ⟨q0, q1⟩ := q
   have hcx : decide ((k : Int) < (n : Int)) = true := by simp; omega
   have hb : (k : Int) < (n : Int) := by omega
   have hne := run_neq_pick x y
   by_cases he : x = y
   ·rw [sameB_yes he] at hne
    have HST := hI (take_same HTK.out hx hy he)
    clear hc1 hc2 hx hy he
    go_wp2_with fail
    go_quiet (fail)
    go_wp2_with fail
    go_roundw
    case rel => exact ⟨k + 1, m + nq, by go_num, by omega, by first | rfl | rw [World.drewN_drewN], HST.out⟩
    case measure => simp [intOf]; omega
   ·rw [sameB_no he] at hne
    have HST := hI (sameB_no (ne_at hx hy he))
    clear hc1 hc2 hx hy he
    go_wp2_with fail
    go_quiet (fail)
    go_wp2_with fail
    go_ret
    exact ⟨by rw [HST.out]; rfl, _, by first | rfl | rw [World.drewN_drewN]⟩
  ·have hcx : decide ((k : Int) < (n : Int)) = false := by simp; omega
   have HST : Hid (sameB l1 l2 = true) := sameB_yes (by have := HTK.out; rwa [List.take_of_length_le (by rw [HL.out.1]; exact hge), List.take_of_length_le (by rw [HL.out.2]; exact hge)] at this)
   go_wp2_with fail
   go_ret
   exact ⟨by rw [HST.out]; rfl, _, rfl⟩
def bigP (p : Pk) : Bool := decide (24 < p.lot.size) || decide (13 < p.qty.size)
theorem bigP_no {p : Pk} (h : bigP p = false) : p.lot.size ≤ 24 ∧ p.qty.size ≤ 13 := by
 unfold bigP at h
 simp at h
 exact h
theorem bigClo_any (p : Pk) (w : World) : Calls Tryz.prog 26 #[p.enc] w fun e w' => e = .returned (.bool (bigP p)) ∧ Below w.heap.size w w' := by
 obtain ⟨W0, hW0⟩ : ∃ W0, w.alloc (.cells p.cells 37) = W0 := ⟨_, rfl⟩
 have hb : Below w.heap.size w W0 := by rw [← hW0]; exact (Below.refl _ w).alloc (Nat.le_refl _) _
 have k1 : PkBox W0 w.heap.size p := by rw [← hW0]; exact heap_alloc_new w _
 have d0 := Lib.cell_of_heap k1 0
 have d1 := Lib.cell_of_heap k1 1
 simp [Pk.cells] at d0 d1
 have HB := hI hb
 obtain ⟨b, hbp⟩ : ∃ b, bigP p = b := ⟨_, rfl⟩
 rw [hbp]
 have HE := hI hbp
 clear k1 hb hbp
 unfold Pk.cells at hW0
 unfold Pk.enc Pk.cells
 by_cases h1 : 24 < p.lot.size
 ·have t1 : decide ((24 : Int) < (p.lot.size : Int)) = true := decide_eq_true (by omega)
  have t2 : decide ((p.lot.size : Int) > 24) = true := t1
  have HD : Hid (b = true) := by rw [Hid, ← HE.out]; unfold bigP; rw [decide_eq_true h1]; rfl
  clear h1
  go_enter Tryz.func26, Tryz.ntmps26
  go_wp2_with fail
  go_ret
  exact ⟨by rw [HD.out]; rfl, HB.out⟩
 ·have t1 : decide ((24 : Int) < (p.lot.size : Int)) = false := decide_eq_false (by omega)
  have t2 : decide ((p.lot.size : Int) > 24) = false := t1
  by_cases h2 : 13 < p.qty.size
  ·have t3 : decide ((13 : Int) < (p.qty.size : Int)) = true := decide_eq_true (by omega)
   have t4 : decide ((p.qty.size : Int) > 13) = true := t3
   have HD : Hid (b = true) := by rw [Hid, ← HE.out]; unfold bigP; rw [decide_eq_false h1, decide_eq_true h2]; rfl
   clear h1 h2
   go_enter Tryz.func26, Tryz.ntmps26
   go_wp2_with fail
   go_ret
   exact ⟨by rw [HD.out]; rfl, HB.out⟩
  ·have t3 : decide ((13 : Int) < (p.qty.size : Int)) = false := decide_eq_false (by omega)
   have t4 : decide ((p.qty.size : Int) > 13) = false := t3
   have HD : Hid (b = false) := by rw [Hid, ← HE.out]; unfold bigP; rw [decide_eq_false h1, decide_eq_false h2]; rfl
   clear h1 h2
   go_enter Tryz.func26, Tryz.ntmps26
   go_wp2_with fail
   go_ret
   exact ⟨by rw [HD.out]; rfl, HB.out⟩
structure Sml (ls : List Lot) (ps : List Pk) (s q : ByteArray) : Prop where
 len : (ls.length ≤ 12 ∨ 999 ≤ ls.length) ∧ ls.length ≤ 1002
 tiny : ∀ l ∈ ls, l.tiny
 pl : ps.length ≤ 8
 s : s.size ≤ 24
 q : q.size ≤ 13
 p : ∀ p ∈ ps, p.lot.size ≤ 24 ∧ p.qty.size ≤ 13
theorem great20_any (n₀ : Nat) (A : Option Addr) (ls : List Lot) (c : Nat) (hlm : ls.length ≤ 9223372036854775807) (Ap : Option Addr) (ps : List Pk) (cp : Nat) (hpm : ps.length ≤ 9223372036854775807) (s q : ByteArray) (w : World) (hR : RdL w A ls) (hK : RdK n₀ w Ap ps) (hn : n₀ ≤ w.heap.size) :
 Calls Tryz.prog 5 #[.slice A ls.length c, .slice Ap ps.length cp, .string s, .string q] w (GreatPost w (Sml ls ps s q)) := by
 have HG := hI (rGreat19_len A ls c hlm w hR)
 have HBC := fun (h : ps.length ≤ 8) W (hW : Below w.heap.size w W) => hasPicks_any bigP 26 #[] n₀ Ap ps cp (by omega) W (hK.below (hW.mono hn)) (Nat.le_trans hn hW.size) ⟨enters_of Tryz.func26 (by kernel_rfl) rfl, fun W2 _ p _ => bigClo_any p W2⟩
 obtain ⟨N, hN⟩ : ∃ N, ls.length = N := ⟨_, rfl⟩
 obtain ⟨P, hP⟩ : ∃ P, ps.length = P := ⟨_, rfl⟩
 rw [hN] at HG ⊢
 rw [hP] at HBC ⊢
 replace HBC := hI HBC
 have HN := hI hN
 have HP := hI hP
 clear hR hK hlm hpm hN hP
 go_enter Tryz.func5, Tryz.ntmps5
 go_wp2_with fail
 refine HG.out.mono ?_
 rintro e w1 ⟨b, rfl, hb, b1⟩
 have HB1 := hI b1
 clear b1 HG
 cases b
 case true =>
  clear hb
  go_wp2_with fail
  go_ret
  exact ⟨true, rfl, (fun h => by cases h), HB1.out⟩
 have HL := hI (hb rfl)
 clear hb
 by_cases h1 : 8 < P
 ·have t1 : decide ((8 : Int) < (P : Int)) = true := decide_eq_true (by omega)
  have t2 : decide ((P : Int) > 8) = true := t1
  clear h1
  go_wp2_with fail
  go_ret
  exact ⟨true, rfl, (fun h => by cases h), HB1.out⟩
 have t1 : decide ((8 : Int) < (P : Int)) = false := decide_eq_false (by omega)
 have t2 : decide ((P : Int) > 8) = false := t1
 by_cases h2 : 24 < s.size
 ·have t3 : decide ((24 : Int) < (s.size : Int)) = true := decide_eq_true (by omega)
  have t4 : decide ((s.size : Int) > 24) = true := t3
  clear h1 h2
  go_wp2_with fail
  go_ret
  exact ⟨true, rfl, (fun h => by cases h), HB1.out⟩
 have t3 : decide ((24 : Int) < (s.size : Int)) = false := decide_eq_false (by omega)
 have t4 : decide ((s.size : Int) > 24) = false := t3
 by_cases h3 : 13 < q.size
 ·have t5 : decide ((13 : Int) < (q.size : Int)) = true := decide_eq_true (by omega)
  have t6 : decide ((q.size : Int) > 13) = true := t5
  clear h1 h2 h3
  go_wp2_with fail
  go_ret
  exact ⟨true, rfl, (fun h => by cases h), HB1.out⟩
 have t5 : decide ((13 : Int) < (q.size : Int)) = false := decide_eq_false (by omega)
 have t6 : decide ((q.size : Int) > 13) = false := t5
 have HS : Hid (P ≤ 8 ∧ s.size ≤ 24 ∧ q.size ≤ 13) := ⟨by omega, by omega, by omega⟩
 have HC := hI (HBC.out HS.out.1 w1 HB1.out)
 clear h1 h2 h3 HBC
 go_wp2_with fail
 refine HC.out.mono ?_
 rintro e w2 ⟨rfl, b2⟩
 have HB2 := hI (HB1.out.trans (b2.mono HB1.out.size))
 clear b2 HC
 obtain ⟨z, hz⟩ : ∃ z, ps.any bigP = z := ⟨_, rfl⟩
 rw [hz]
 have HZ := hI hz
 clear hz
 go_wp2_with fail
 go_ret
 refine ⟨z, rfl, (fun h => ?_), HB2.out⟩
 subst h
 exact ⟨by rw [HN.out]; exact ⟨HL.out.1, HL.out.2.1⟩, HL.out.2.2, by rw [HP.out]; exact HS.out.1, HS.out.2.1, HS.out.2.2, fun p hp => bigP_no (by have := List.any_eq_false.1 HZ.out p hp; cases hb : bigP p; rfl; exact (this hb).elim)⟩
end Go.Proofs.YtjlakdocjpmblaaGreatDoor
namespace Go.Proofs.YtjlakdocjpmblaaGreatDoor
open Go.RowKit Tr Go.Shelf
structure ChsOk (lz : List Lot) (s q : ByteArray) (m : Int) (ps : List Pk) : Prop where
 all : lall lz = 0
 can : Can q
 bad : ¬ (m = 5 ∧ ps.any badP = true)
 kind : 1 ≤ m ∧ m ≤ 6
 pos : 0 < vl q
 le : vl q ≤ totQ (ownB lz s)
def chsR (lz : List Lot) (s q : ByteArray) (m : Int) (ps : List Pk) : List Pk := pksOf (chsSt (ownB lz s) m (vl q) ps).1
section
variable {lz : List Lot} {s q : ByteArray} {m : Int} {ps : List Pk}
theorem ChsOk.pos' (h : ChsOk lz s q m ps) : ∀ x ∈ lz, 0 < vl x.qty := fun x hx => (lchk_zero.1 (((lall_zero lz).1 h.all).ok x hx)).pq
theorem ChsOk.nd (h : ChsOk lz s q m ps) : ((ownB lz s).map Lot.id).Nodup := ownB_nd s ((lall_zero lz).1 h.all).nd
theorem ChsOk.inv (h : ChsOk lz s q m ps) : InvA (ownB lz s) (vl q) (chsSt (ownB lz s) m (vl q) ps) := InvA.chs h.nd (fun x hx => h.pos' x (ownB_mem.1 hx).1) (Int.le_of_lt h.pos) m ps
theorem chs_len (own : List Lot) (m q : Int) (ps : List Pk) : (chsSt own m q ps).1.length ≤ ps.length + own.length := by
 have key : ∀ (S : List Lot) (st : Am × Int), (tkAll S st).1.length ≤ st.1.length + S.length := by
  intro S
  induction S with
  | nil => intro st; exact Nat.le_refl _
  | cons x r ih =>
    intro st
    have h1 := ih (tk st x (vl x.qty))
    have h2 := tk_len st x (vl x.qty)
    show (tkAll r (tk st x (vl x.qty))).1.length ≤ _
    rw [List.length_cons]; omega
 have key2 : ∀ (ps : List Pk) (st : Am × Int), (ps.foldl (tkP own) st).1.length ≤ st.1.length + ps.length := by
  intro ps
  induction ps with
  | nil => intro st; exact Nat.le_refl _
  | cons p r ih =>
    intro st
    have h1 := ih (tkP own st p)
    have h2 : (tkP own st p).1.length ≤ st.1.length + 1 := by
     unfold tkP
     split
     ·exact tk_len _ _ _
     ·exact Nat.le_succ _
    rw [List.foldl_cons, List.length_cons]; omega
 unfold chsSt
 have h1 := key (ordP m own) (if m = 5 then ps.foldl (tkP own) ([], q) else ([], q))
 have h2 := (ordP_perm m own).length_eq
 have h3 : (if m = 5 then ps.foldl (tkP own) ([], q) else ([], q)).1.length ≤ ps.length := by
  split
  ·have := key2 ps ([], q)
   simpa using this
  ·exact Nat.zero_le _
 omega
theorem chsR_len (lz : List Lot) (s q : ByteArray) (m : Int) (ps : List Pk) : (chsR lz s q m ps).length ≤ ps.length + lz.length := by
 unfold chsR pksOf
 rw [List.length_map]
 have h1 := chs_len (ownB lz s) m (vl q) ps
 have h2 : (ownB lz s).length ≤ lz.length := List.length_filter_le _ _
 omega
theorem ChsOk.size (h : ChsOk lz s q m ps) (hti : ∀ l ∈ lz, l.tiny) : ∀ p ∈ chsR lz s q m ps, p.qty.size ≤ 14 := by
 intro p hp
 obtain ⟨a, ha, rfl⟩ := List.mem_map.1 hp
 obtain ⟨x, hx, e⟩ := h.inv.sub a ha
 have h1 := h.inv.le x hx
 rw [e, amt_mem h.inv.nd ha] at h1
 have h2 := I_size_in (a := x.qty) (Int.le_of_lt (h.inv.pos a ha)) h1
 have h3 := (hti x (ownB_mem.1 hx).1).1
 show (I a.2).size ≤ 14
 omega
theorem ChsOk.whole (h : ChsOk lz s q m ps) (hm : m ≠ 5) {i : Nat} {p : Pk} {x : Lot} (hp : (chsR lz s q m ps)[i]? = some p) (hi : i + 1 < (chsR lz s q m ps).length) (hx : lotOf lz p.lot = some x) : p.qty = x.qty := by
 have hg := chs_greedy h.nd (fun x hx => h.pos' x (ownB_mem.1 hx).1) (Int.le_of_lt h.pos) hm ps
 unfold chsR at hp hi
 rw [hg] at hp hi
 unfold pksOf at hp hi
 rw [List.length_map] at hi
 rw [List.getElem?_map] at hp
 obtain ⟨a, ha, rfl⟩ := Option.map_eq_some_iff.1 hp
 obtain ⟨y, hy, rfl⟩ := greedy_whole _ _ i a ha hi
 have hyo := (ordP_perm m (ownB lz s)).mem_iff.1 hy
 have hym := (ownB_mem.1 hyo).1
 have := nd_inj ((lall_zero lz).1 h.all).nd (lotOf_mem hx).1 hym (lotOf_mem hx).2
 subst this
 have hc := (lchk_zero.1 (((lall_zero lz).1 h.all).ok x hym)).cq
 exact hc
end
end Go.Proofs.YtjlakdocjpmblaaGreatDoor
namespace Go.Proofs.YtjlakdocjpmblaaGreatDoor
open Go.RowKit Tr Go.Shelf
def nmE (m : Int) : ByteArray := if m = 1 then ⟨#[102, 105, 102, 111]⟩ else if m = 2 then ⟨#[108, 105, 102, 111]⟩ else if m = 3 then ⟨#[104, 105, 103, 104, 101, 115, 116]⟩ else if m = 4 then ⟨#[108, 111, 119, 101, 115, 116]⟩ else if m = 5 then ⟨#[110, 97, 109, 101, 100]⟩ else if m = 6 then ⟨#[97, 118, 101, 114, 97, 103, 101]⟩ else ⟨#[]⟩
def nmC (m : Int) : Int := if 1 ≤ m ∧ m ≤ 6 then 0 else 7
theorem nm_no {m : Int} (h : ¬ (1 ≤ m ∧ m ≤ 6)) : nmE m = ⟨#[]⟩ ∧ nmC m = 7 := by
 unfold nmE nmC
 rw [if_neg (by omega), if_neg (by omega), if_neg (by omega), if_neg (by omega), if_neg (by omega), if_neg (by omega), if_neg h]
 exact ⟨rfl, rfl⟩
def NmPost (w : World) (m : Int) (e : Ending) (w' : World) : Prop := e = .returned (.tuple #[.string (nmE m), .int .i64 (nmC m)]) ∧ Below w.heap.size w w'
theorem entry_box (w : World) (s : ByteArray) (f : Value) (b : Bool) (hf : f.oneCell' = true) : ∃ W1 W2, w.alloc (.cells #[.string ⟨#[]⟩, .nilFunc, .bool false] 57) = W1 ∧
 (Instr.storeAt 57 (.pointer (some ⟨w.heap.size, 0, none⟩)) (.agg #[.string s, f, .bool b])).run Tryz.prog W1 = .ok () W2 ∧ W2.heap[w.heap.size]? = some (.cells #[.string s, f, .bool b] 57 (0, 0)) ∧ Below w.heap.size w W2 := by
 obtain ⟨W1, hW1⟩ : ∃ W1, w.alloc (.cells #[.string ⟨#[]⟩, .nilFunc, .bool false] 57) = W1 := ⟨_, rfl⟩
 have hb1 : Below w.heap.size w W1 := by rw [← hW1]; exact (Below.refl _ w).alloc (Nat.le_refl _) _
 have k1 : W1.heap[w.heap.size]? = some (.cells #[.string ⟨#[]⟩, .nilFunc, .bool false] 57 (0, 0)) := by rw [← hW1]; exact heap_alloc_new w _
 have r3 := run_store_row W1 w.heap.size 3 57 _ #[.string s, f, .bool b] (by kernel_rfl) k1 rfl rfl (fun u hu => by
  simp at hu
  rcases hu with rfl | rfl | rfl
  ·rfl
  ·exact hf
  ·rfl)
 exact ⟨W1, _, hW1, r3, setRow_heap _ _ _ _ _ _ k1, below_setRow hb1 (Nat.le_refl _) _⟩
theorem name20_of (m : Int) (s : ByteArray) (F : Nat → Value) (b : Bool) (hs : nmE m = s) (hc : nmC m = 0) (hF : ∀ bf, (F bf).oneCell' = true) (w : World) (hf : ∀ W, Calls Tryz.prog 28 #[.int .i64 m] W fun e w' => ∃ bf : Nat, e = .returned (.tuple #[.agg #[.string s, F bf, .bool b], .bool true]) ∧ Below W.heap.size W w') :
 Calls Tryz.prog 11 #[.int .i64 m] w (NmPost w m) := by
 have HF := hI hf
 have HS := hI hs
 have HC := hI hc
 clear hf hs hc
 go_enter Tryz.func11, Tryz.ntmps11
 go_wp2_with fail
 refine (HF.out w).mono ?_
 rintro e w1 ⟨bf, rfl, b1⟩
 obtain ⟨W1, W2, hW1, r1, k1, b2⟩ := entry_box w1 s (F bf) b (hF bf)
 have HB := hI (b1.trans (b2.mono b1.size))
 have c0 := Lib.cell_of_heap k1 0
 simp at c0
 clear b1 b2 k1 hF
 go_wp2_with (refine wpList_store_run r1 rfl _ _ rfl rfl rfl ?_)
 go_ret2
 exact ⟨by rw [HS.out, HC.out]; rfl, HB.out⟩
theorem Name20_any (m : Int) (w : World) : Calls Tryz.prog 11 #[.int .i64 m] w (NmPost w m) := by
 by_cases h : 1 ≤ m ∧ m ≤ 6
 ·obtain ⟨h1, h6⟩ := h
  obtain rfl | rfl | rfl | rfl | rfl | rfl : m = 1 ∨ m = 2 ∨ m = 3 ∨ m = 4 ∨ m = 5 ∨ m = 6 := by omega
  ·exact name20_of 1 _ (fun _ => _) _ rfl rfl (fun _ => rfl) w (fun W => (find20_1 W).mono fun e w' ⟨bf, h1, _, _, h4⟩ => ⟨bf, h1, h4⟩)
  ·exact name20_of 2 _ (fun _ => _) _ rfl rfl (fun _ => rfl) w (fun W => (find20_2 W).mono fun e w' ⟨bf, h1, _, _, h4⟩ => ⟨bf, h1, h4⟩)
  ·exact name20_of 3 _ (fun bf => .func (.func 100) #[] #[.pointer (some ⟨bf, 0, none⟩)]) _ rfl rfl (fun _ => rfl) w (fun W => (find20_3 W).mono fun e w' ⟨bf, h1, _, _, h4⟩ => ⟨bf, h1, h4⟩)
  ·exact name20_of 4 _ (fun bf => .func (.func 97) #[] #[.pointer (some ⟨bf, 0, none⟩)]) _ rfl rfl (fun _ => rfl) w (fun W => (find20_4 W).mono fun e w' ⟨bf, h1, _, _, h4⟩ => ⟨bf, h1, h4⟩)
  ·exact name20_of 5 _ (fun _ => _) _ rfl rfl (fun _ => rfl) w (fun W => (find20_5 W).mono fun e w' ⟨bf, h1, _, _, h4⟩ => ⟨bf, h1, h4⟩)
  ·exact name20_of 6 _ (fun _ => _) _ rfl rfl (fun _ => rfl) w (fun W => (find20_6 W).mono fun e w' ⟨bf, h1, _, _, h4⟩ => ⟨bf, h1, h4⟩)
 ·have HF := hI (fun W => find20_no m h W)
  have HN := hI (nm_no h)
  clear h
  go_enter Tryz.func11, Tryz.ntmps11
  go_wp2_with fail
  refine (HF.out _).mono ?_
  rintro e w1 ⟨rfl, b1⟩
  obtain ⟨W1, W2, hW1, r1, k1, b2⟩ := entry_box w1 ⟨#[]⟩ .nilFunc false rfl
  have HB := hI (b1.trans (b2.mono b1.size))
  clear b1 b2 k1
  go_wp2_with (refine wpList_store_run r1 rfl _ _ rfl rfl rfl ?_)
  go_ret2
  exact ⟨by rw [HN.out.1, HN.out.2]; rfl, HB.out⟩
theorem rName20_any (m : Int) (w : World) : Calls Tryz.prog 12 #[.int .i64 m] w (NmPost w m) := by
 have HKN := hI (fun W => rknown20_any m W)
 by_cases h : 1 ≤ m ∧ m ≤ 6
 ·rw [decide_eq_true h] at HKN
  obtain ⟨h1, h6⟩ := h
  obtain ⟨W0, hW0⟩ : ∃ W0, w.alloc (.cells #[.string ⟨#[102, 105, 102, 111]⟩, .string ⟨#[108, 105, 102, 111]⟩, .string ⟨#[104, 105, 103, 104, 101, 115, 116]⟩, .string ⟨#[108, 111, 119, 101, 115, 116]⟩, .string ⟨#[110, 97, 109, 101, 100]⟩, .string ⟨#[97, 118, 101, 114, 97, 103, 101]⟩] 9) = W0 := ⟨_, rfl⟩
  have k0 := heap_alloc_new w (.cells #[.string ⟨#[102, 105, 102, 111]⟩, .string ⟨#[108, 105, 102, 111]⟩, .string ⟨#[104, 105, 103, 104, 101, 115, 116]⟩, .string ⟨#[108, 111, 119, 101, 115, 116]⟩, .string ⟨#[110, 97, 109, 101, 100]⟩, .string ⟨#[97, 118, 101, 114, 97, 103, 101]⟩] 9)
  rw [hW0] at k0
  have HB : Hid (Below w.heap.size w W0) := by rw [← hW0]; exact (Below.refl _ w).alloc (Nat.le_refl _) _
  have c0 := Lib.cell_of_heap k0 0; have c1 := Lib.cell_of_heap k0 1; have c2 := Lib.cell_of_heap k0 2; have c3 := Lib.cell_of_heap k0 3; have c4 := Lib.cell_of_heap k0 4; have c5 := Lib.cell_of_heap k0 5
  simp at c0 c1 c2 c3 c4 c5
  clear k0
  obtain rfl | rfl | rfl | rfl | rfl | rfl : m = 1 ∨ m = 2 ∨ m = 3 ∨ m = 4 ∨ m = 5 ∨ m = 6 := by omega
  all_goals
   clear h1 h6
   go_enter Tryz.func12, Tryz.ntmps12
   go_wp2_with fail
   refine (HKN.out w).mono ?_
   rintro e w1 ⟨rfl, rfl⟩
   go_wp2_with fail
   go_ret2
   exact ⟨rfl, HB.out⟩
 ·rw [decide_eq_false h] at HKN
  have HN := hI (nm_no h)
  clear h
  go_enter Tryz.func12, Tryz.ntmps12
  go_wp2_with fail
  refine (HKN.out w).mono ?_
  rintro e w1 ⟨rfl, rfl⟩
  go_wp2_with fail
  go_ret2
  exact ⟨by rw [HN.out.1, HN.out.2]; rfl, Below.refl _ _⟩
end Go.Proofs.YtjlakdocjpmblaaGreatDoor
