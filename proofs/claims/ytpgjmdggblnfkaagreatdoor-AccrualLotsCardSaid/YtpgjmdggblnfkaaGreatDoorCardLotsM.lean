/-
  For every input tranchelaw39.AccrualLots returns true, and each argument reads behind the call as it read before. Conditions: the card's own (the listed package-level variables start as the program's text lays them).
-/
import Derived.Test.YtpgjmdggblnfkaaGreatDoorM49
import Derived.Test.YtpgjmdggblnfkaaGreatDoorM52
set_option linter.unusedVariables false
set_option linter.unusedSimpArgs false
set_option maxHeartbeats 16000000
set_option maxRecDepth 100000
namespace Go.Proofs.YtpgjmdggblnfkaaGreatDoor
open Go.RowKit Tr Go.Shelf Go.ChangeShapes Go.WideShapes Go.ChangeAt Go.ChangeMaps
theorem lots_lifted (os : Os) (started : os.Started) (H : Type) (enc : TypeId × Value → H) :
 ReturnsInHanded {} Tryz.checked os 5 .any (fun w args => (Rows.accrualLotsSpec.pre enc Tryz.prog Tryz.f5 [] false w args ∧ laidMetH Tryz.prog laidL w) ∧ sizedMet enc Tryz.prog Tryz.f5 (OpenSpec.ofChange Rows.accrualLotsSpec) false w args)
  (Rows.accrualLotsSpec.post enc Tryz.prog Tryz.f5 false true false false) := by
 refine returns_of_both (C := Tryz.checked) (X := fun w _ => laidMetH Tryz.prog laidL w) (fun _ _ _ hh h => h.of_heap hh) own started (by kernel_rfl) Tryz.func5
  (ChangeSpec.witness_shaped (enc := enc) (C := Tryz.checked) (os := os) (X := fun w _ => laidMetH Tryz.prog laidL w) false (World.laidAll Tryz.prog os laidL) #[i0.enc, l0.enc, .slice none 0 0, .int .i64 0, .string ⟨#[]⟩] 8 (World.laidAll_os _ _ _)
    (World.shaped_of_ZipB (by kernel_rfl) (by kernel_rfl)) (by kernel_rfl) (by kernel_rfl) (by kernel_rfl) (door_met os _)) ?_
 intro W base args ds gs before hval0 hW hL hsh
 have hval : ∀ (j : Nat) t v, Tryz.f5.params[j]? = some t → args[j]? = some v → Value.okWide Tryz.prog W .any base t v := hval0
 have hW' := hW
 obtain ⟨p, q, hA0, hV, rfl, _, _⟩ := hW
 have hA : DataW.TrodAll enc Tryz.prog W 0 (fun _ => true) true Tryz.f5.params.toList args.toList ds p := hA0
 rw [Tryz.params5] at hA hval
 obtain ⟨v0, vs0, d0, ds0, p0, q0, hargs, rfl, rfl, h0, r0⟩ := trodAll_cons hA
 obtain ⟨v1, vs1, d1, ds1, p1, q1, rfl, rfl, rfl, h1, r1⟩ := trodAll_cons r0
 obtain ⟨v2, vs2, d2, ds2, p2, q2, rfl, rfl, rfl, h2, r2⟩ := trodAll_cons r1
 obtain ⟨v3, vs3, d3, ds3, p3, q3, rfl, rfl, rfl, h3, r3⟩ := trodAll_cons r2
 obtain ⟨v4, vs4, d4, ds4, p4, q4, rfl, rfl, rfl, h4, r4⟩ := trodAll_cons r3
 obtain ⟨rfl, rfl, rfl⟩ := trodAll_nil r4
 obtain rfl : args = #[v0, v1, v2, v3, v4] := by cases args; simp_all
 obtain ⟨rfl, rfl⟩ := trodVars_none hV
 have hk0 := h0
 obtain ⟨i, rfl⟩ := open_inst (hval 0 27 v0 rfl rfl) h0
 have hk1 := h1
 obtain ⟨l, rfl⟩ := open_lot (hval 1 39 v1 rfl rfl) h1
 have hk2 := h2
 obtain ⟨Ads, ds, cds, rfl, hcds, hmds, hRds⟩ := open_days (hval 2 59 v2 rfl rfl) h2
 obtain ⟨kind, rfl, rfl, rfl, w3⟩ := open_int Tryz.underlying3 (hval 3 3 v3 rfl rfl) h3
 have hb3 : -9223372036854775808 ≤ kind ∧ kind ≤ 9223372036854775807 := by simpa [Lit.wf, IntKind.min, IntKind.max, IntKind.signed, IntKind.bits] using w3
 obtain ⟨change, rfl, rfl, rfl, w4⟩ := open_string Tryz.underlying23 (hval 4 23 v4 rfl rfl) h4
 have hlt0 : ∀ x ∈ p0, x.block < W.heap.size := fun x hx => by simpa using hW'.lt x (by simp [hx])
 have hlt1 : ∀ x ∈ p1, x.block < W.heap.size := fun x hx => by simpa using hW'.lt x (by simp [hx])
 have hlt2 : ∀ x ∈ p2, x.block < W.heap.size := fun x hx => by simpa using hW'.lt x (by simp [hx])
 refine (AccrualLots_any i l Ads ds cds (by unfold maxLen at hmds; omega) kind change W hRds (tabs_of_laid hL hsh)).mono fun e W' ⟨he, hb⟩ => ?_
 subst he
 refine ⟨_, rfl, _, _, _, [], p0 ++ (p1 ++ (p2 ++ ([] ++ ([] ++ [])))), [], hW', trodAll_mk1 (shut_bool Tryz.underlying4 _), ?_, rfl, hb.frame _, fun h => by cases h⟩
 exact trodAll_cons_mk (Below.trod (by kernel_rfl) (by kernel_rfl) (of_decide_eq_true (by kernel_rfl)) hk0 hb hlt0) (trodAll_cons_mk (Below.trod (by kernel_rfl) (by kernel_rfl) (of_decide_eq_true (by kernel_rfl)) hk1 hb hlt1) (trodAll_cons_mk (Below.trod (by kernel_rfl) (by kernel_rfl) (of_decide_eq_true (by kernel_rfl)) hk2 hb hlt2) (trodAll_cons_mk (shut_int Tryz.underlying3 w3) (trodAll_cons_mk (shut_string Tryz.underlying23 w4) trodAll_mk0))))
theorem lots_row : Rows.AccrualLotsSaid :=
 OpenClaim.holds_of_wide 5 Tryz.f5 rfl rfl rfl rfl rfl rfl rfl ⟨rfl, rfl, rfl, rfl, rfl⟩ rfl rfl rfl rfl rfl (by kernel_rfl) Tryz.func5 (by kernel_rfl)
  (of_decide_eq_true (by kernel_rfl)) (by unfold Func.isWrapper; first | (rw [if_pos (by decide +kernel)]; kernel_rfl) | (rw [if_neg (by decide +kernel)]; exact ⟨rfl, rfl⟩))
  (fun os started H enc _ => lots_lifted os started H enc)
theorem lots_card : Rows.AccrualLotsCardSaid :=
 Claim7.holds_tied_plain_at .later [] [.data, .data, .data, .data, .sentinel, .sentinel, .pinned] true (true, "fa744705b71011b2cc207a88250e5c3eff1cf00c59268dde07cac504eb64182d") true
  lots_row (fun _ h => by cases h) (by kernel_rfl) (fun _ h => by cases h) accrualLots_row_tie rfl ⟨rfl, rfl⟩ (by kernel_rfl) rfl
  (fun f fn hf hfn => by
    obtain rfl : f = 5 := Option.some.inj ((show Tryz.prog.funcNamed "tranche/tranchelaw39.AccrualLots" = some 5 by kernel_rfl).symm.trans hf) |>.symm
    obtain rfl : fn = Tryz.f5 := (Option.some.inj (Tryz.func5.symm.trans hfn)).symm
    exact ⟨by kernel_rfl, fun j t ht => by
     rw [Tryz.params5] at ht
     have hm : t ∈ [27, 39, 59, 3, 23] := by simpa using Array.mem_of_getElem? ht
     have hall : ([27, 39, 59, 3, 23].all fun u => !Tryz.prog.wantsStandIn u) = true := by kernel_rfl
     exact (show Tryz.prog.wantsStandIn t = false by simpa using List.all_eq_true.1 hall t hm)⟩)
  (by kernel_rfl)
#print axioms lots_card
end Go.Proofs.YtpgjmdggblnfkaaGreatDoor
