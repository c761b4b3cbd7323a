/-
  For every input tranchelaw19.LotOpen returns true, and each argument reads behind the call as it read before. Conditions: the card's own (the listed package-level variables start as the program's text lays them).
-/
import Derived.Test.YtdnmpgoigagjmaaGreatDoorB52
import Derived.Test.YtdnmpgoigagjmaaGreatDoorA51
set_option linter.unusedVariables false
set_option linter.unusedSimpArgs false
namespace Go.Proofs.YtdnmpgoigagjmaaGreatDoor
open Go.RowKit Tr Go.Shelf Go.ChangeShapes Go.WideShapes Go.ChangeAt Go.ChangeMaps
set_option maxRecDepth 100000 in
theorem open_lots2 {H : Type} {enc : TypeId × Value → H} {W : World} {base b : Nat} {sp : Nat → Bool} {held : Bool} {v : Value} {d : DataW H} {p : List MemPlace} (hv : Value.okWide Tryz.prog W .any base 22 v) (h : DataW.Trod enc Tryz.prog W b sp held 22 v d p) :
 ∃ (A : Option Addr) (ls : List Lot) (c : Nat), v = .slice A ls.length c ∧ ls.length ≤ c ∧ ls.length ≤ maxLen ∧ RdL W A ls ∧ (A = none → ls.length = 0 ∧ c = 0) := by
 obtain ⟨a0, len, cap, rfl⟩ := okWide_slice Tryz.underlying22 hv
 cases a0 with
 | some a =>
   obtain ⟨A, ls, c, e, h1, h2, h3⟩ := open_lots hv h
   refine ⟨A, ls, c, e, h1, h2, h3, fun hn => ?_⟩
   rw [hn] at e
   injection e with e
   cases e
 | none =>
   obtain ⟨fuel, hf⟩ := h
   rcases Deep.open_slice Tryz.underlying22 hf with ⟨h0, _⟩ | ⟨a, len', cap', m, n, D, Pl, hcs, _, hl, hm, hmm, _, hel⟩
   ·simp only [Value.cells, List.cons.injEq, and_true] at h0
    injection h0 with e1 e2 e3
    subst e2 e3
    exact ⟨none, [], 0, rfl, by simp, by simp, RdL.nil _ _, fun _ => ⟨rfl, rfl⟩⟩
   ·simp only [Value.cells, List.cons.injEq, and_true] at hcs
    injection hcs with e1 e2 e3
    cases e1
set_option maxRecDepth 100000 in
theorem lopens_lifted (os : Os) (started : os.Started) (H : Type) (enc : TypeId × Value → H) :
 ReturnsInHanded {} Tryz.checked os 11 .any (fun w args => (Rows.lotOpenSpec.pre enc Tryz.prog Tryz.f11 [] false w args ∧ laidMetH Tryz.prog laidL w) ∧ sizedMet enc Tryz.prog Tryz.f11 (OpenSpec.ofChange Rows.lotOpenSpec) false w args)
  (Rows.lotOpenSpec.post enc Tryz.prog Tryz.f11 false true false false) := by
 refine returns_of_both (C := Tryz.checked) (X := fun w _ => laidMetH Tryz.prog laidL w) (fun _ _ _ hh h => h.of_heap hh) own started (by kernel_rfl) Tryz.func11
  (ChangeSpec.witness_shaped (enc := enc) (C := Tryz.checked) (os := os) (X := fun w _ => laidMetH Tryz.prog laidL w) false (World.laidAll Tryz.prog os laidL) #[.slice none 0 0, x0.enc] 8 (World.laidAll_os _ _ _)
    (World.shaped_of_ZipB (by kernel_rfl) (by kernel_rfl)) (by kernel_rfl) (by kernel_rfl) (by kernel_rfl) (door_met os _)) ?_
 intro W base args ds gs before hval0 hW hL hsh
 have hval : ∀ (j : Nat) t v, Tryz.f11.params[j]? = some t → args[j]? = some v → Value.okWide Tryz.prog W .any base t v := hval0
 have hW' := hW
 obtain ⟨p, q, hA0, hV, rfl, _, _⟩ := hW
 have hA : DataW.TrodAll enc Tryz.prog W 0 (fun _ => true) true Tryz.f11.params.toList args.toList ds p := hA0
 rw [Tryz.params11] at hA hval
 obtain ⟨v0, vs0, d0, ds0, p0, q0, hargs, rfl, rfl, h0, r0⟩ := trodAll_cons hA
 obtain ⟨v1, vs1, d1, ds1, p1, q1, rfl, rfl, rfl, h1, r1⟩ := trodAll_cons r0
 obtain ⟨rfl, rfl, rfl⟩ := trodAll_nil r1
 obtain rfl : args = #[v0, v1] := by cases args; simp_all
 obtain ⟨rfl, rfl⟩ := trodVars_none hV
 have hk0 := h0
 obtain ⟨Al, l, cl, rfl, hcl, hml, hRl, hAl⟩ := open_lots2 (hval 0 22 v0 rfl rfl) h0
 have hk1 := h1
 obtain ⟨x, rfl⟩ := open_lot (hval 1 49 v1 rfl rfl) h1
 have hlt0 : ∀ x ∈ p0, x.block < W.heap.size := fun x hx => by simpa using hW'.lt x (by simp [hx])
 have hlt1 : ∀ x ∈ p1, x.block < W.heap.size := fun x hx => by simpa using hW'.lt x (by simp [hx])
 refine (LotOpen_any Al l cl hcl (by unfold maxLen at hml; omega) hAl x W hRl (tabs_of_laid hL hsh)).mono fun e W' ⟨he, hb⟩ => ?_
 subst he
 refine ⟨_, rfl, _, _, _, [], p0 ++ (p1 ++ []), [], hW', trodAll_mk1 (shut_bool Tryz.underlying4 _), ?_, rfl, hb.frame _, fun h => by cases h⟩
 exact trodAll_cons_mk (Below.trod (by kernel_rfl) (by kernel_rfl) (of_decide_eq_true (by kernel_rfl)) hk0 hb hlt0) (trodAll_cons_mk (Below.trod (by kernel_rfl) (by kernel_rfl) (of_decide_eq_true (by kernel_rfl)) hk1 hb hlt1) trodAll_mk0)
set_option maxHeartbeats 8000000 in
set_option maxRecDepth 100000 in
theorem lopens_facts : joinedFacts Tryz.pinned.checked.prog 11 Tryz.f11 Rows.lotOpenSpec Rows.lotOpenRow = true := by
 unfold joinedFacts
 simp only [Bool.and_eq_true]
 refine ⟨⟨⟨⟨⟨⟨⟨⟨⟨⟨⟨⟨⟨⟨⟨⟨⟨⟨⟨⟨⟨⟨⟨⟨⟨⟨⟨⟨⟨⟨⟨?k1, ?k2⟩, ?k3⟩, ?k4⟩, ?k5⟩, ?k6⟩, ?k7⟩, ?k8⟩, ?k9⟩, ?k10⟩, ?k11⟩, ?k12⟩, ?k13⟩, ?k14⟩, ?k15⟩, ?k16⟩, ?k17⟩, ?k17b⟩, ?k18⟩, ?k19⟩, ?k20⟩, ?k21⟩, ?k22⟩, ?k23⟩, ?k23b⟩, ?k24⟩, ?k24b⟩, ?k24c⟩, ?k25⟩, ?k26⟩, ?k27⟩, ?k28⟩
 all_goals as_aux_lemma => kernel_rfl
theorem lopens_row : Rows.LotOpenSaid :=
 OpenClaim.holds_of_wide 11 Tryz.f11 rfl rfl rfl rfl rfl rfl rfl ⟨rfl, rfl, rfl, rfl, rfl⟩ rfl rfl rfl rfl rfl (by kernel_rfl) Tryz.func11 lopens_facts
  (of_decide_eq_true (by kernel_rfl)) (by unfold Func.isWrapper; first | (rw [if_pos (by decide +kernel)]; kernel_rfl) | (rw [if_neg (by decide +kernel)]; exact ⟨rfl, rfl⟩))
  (fun os started H enc _ => lopens_lifted os started H enc)
theorem lopens_card : Rows.LotOpenCardSaid :=
 Claim7.holds_tied_plain_at .later [] [.data, .data, .data, .data, .sentinel, .sentinel, .pinned] true (true, "c465ccbfebff62d26863df13f83c48458130dc891c6675cb58010a7521502656") true
  lopens_row (fun _ h => by cases h) (by as_aux_lemma => kernel_rfl) (fun _ h => by cases h) lotOpen_row_tie rfl ⟨rfl, rfl⟩ (by as_aux_lemma => kernel_rfl) rfl
  (fun f fn hf hfn => by
    obtain rfl : f = 11 := Option.some.inj ((show Tryz.prog.funcNamed "tranche/tranchelaw19.LotOpen" = some 11 by as_aux_lemma => kernel_rfl).symm.trans hf) |>.symm
    obtain rfl : fn = Tryz.f11 := (Option.some.inj (Tryz.func11.symm.trans hfn)).symm
    exact ⟨by as_aux_lemma => kernel_rfl, fun j t ht => by
     rw [Tryz.params11] at ht
     have hm : t ∈ [22, 49] := by simpa using Array.mem_of_getElem? ht
     have hall : ([22, 49].all fun u => !Tryz.prog.wantsStandIn u) = true := by as_aux_lemma => kernel_rfl
     exact (show Tryz.prog.wantsStandIn t = false by simpa using List.all_eq_true.1 hall t hm)⟩)
  (by as_aux_lemma => kernel_rfl)
#print axioms lopens_card
end Go.Proofs.YtdnmpgoigagjmaaGreatDoor
