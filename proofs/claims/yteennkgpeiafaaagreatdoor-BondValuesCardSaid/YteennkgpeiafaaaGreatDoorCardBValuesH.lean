/-
  For every input tranchelaw11.BondValues returns true, and each argument reads behind the call as it read before. Conditions: the card's own (the listed package-level variables start as the program's text lays them).
-/
import Derived.Test.YteennkgpeiafaaaGreatDoorG52
import Derived.Test.YteennkgpeiafaaaGreatDoorG53
import Derived.Test.YteennkgpeiafaaaGreatDoorG25
set_option linter.unusedVariables false
set_option linter.unusedSimpArgs false
set_option maxHeartbeats 16000000
set_option maxRecDepth 100000
namespace Go.Proofs.YteennkgpeiafaaaGreatDoor
open Go.RowKit Tr Go.Shelf Go.ChangeShapes Go.WideShapes Go.ChangeAt
set_option maxRecDepth 100000
theorem Aux{H:Type}{enc:TypeId×Value→H}{W:World}{b:Nat}{sp:Nat→Bool}{held:Bool}{fuel:Nat}{l:List Value}{x:DataW H×List MemPlace}(h:DataW.trod enc Tryz.prog W b sp held fuel 25 l=some x):∃n d:ByteArray,l=[.string n,.string d]:=by
 obtain⟨y0,y1,n,_,hlen,h0,h1⟩:=trod_struct2 Tryz.underlying25 h
 have hC:Tryz.prog.cellsOf 25=2:=by kernel_rfl
 have k4:Tryz.prog.cellsOf 23=1:=by kernel_rfl
 rw[hC] at hlen
 match l,hlen with
 | [c0,c1],_ =>
   dsimp only at h0 h1
   simp only[k4,List.drop_succ_cons,List.drop_zero,List.take_succ_cons,List.take_zero] at h0 h1
   obtain⟨n0,g0,_,_⟩:=DataW.trod_string Tryz.underlying23 h0
   obtain⟨n1,g1,_,_⟩:=DataW.trod_string Tryz.underlying23 h1
   simp only[List.cons.injEq,and_true] at g0 g1
   exact⟨n0,n1,by rw[g0,g1]⟩
theorem Auy{H:Type}{enc:TypeId×Value→H}{W:World}{b:Nat}{sp:Nat→Bool}{held:Bool}{fuel:Nat}{l:List Value}{x:DataW H×List MemPlace}(h:DataW.trod enc Tryz.prog W b sp held fuel 27 l=some x):∃i:Inst,l=i.cells.toList:=by
 obtain⟨xs,n,_,_,hlen,hxs,hel⟩:=DataW.trod_struct Tryz.underlying27 h
 have hC:Tryz.prog.cellsOf 27=15:=by kernel_rfl
 have k1:Tryz.prog.cellsOf 9=1:=by kernel_rfl
 have k2:Tryz.prog.cellsOf 3=1:=by kernel_rfl
 have k3:Tryz.prog.cellsOf 22=1:=by kernel_rfl
 have k4:Tryz.prog.cellsOf 23=1:=by kernel_rfl
 have k5:Tryz.prog.cellsOf 25=2:=by kernel_rfl
 rw[hC] at hlen
 match l,hlen with
 | [c0,c1,c2,c3,c4,c5,c6,c7,c8,c9,c10,c11,c12,c13,c14],_ =>
   have f0:DataW.trod enc Tryz.prog W b sp held n 9 (([c0,c1,c2,c3,c4,c5,c6,c7,c8,c9,c10,c11,c12,c13,c14].drop 0).take (Tryz.prog.cellsOf 9))=xs[0]?:=hel 0 _ rfl
   obtain⟨y0,e0⟩:∃y,xs[0]?=some y:=⟨_,Aae (by rw[hxs];decide)⟩
   rw[e0,k1] at f0
   simp only[List.drop_succ_cons,List.drop_zero,List.take_succ_cons,List.take_zero] at f0
   obtain⟨n0,g0,_,_⟩:=DataW.trod_string Tryz.underlying9 f0
   simp only[List.cons.injEq,and_true] at g0
   have f1:DataW.trod enc Tryz.prog W b sp held n 3 (([c0,c1,c2,c3,c4,c5,c6,c7,c8,c9,c10,c11,c12,c13,c14].drop 1).take (Tryz.prog.cellsOf 3))=xs[1]?:=hel 1 _ rfl
   obtain⟨y1,e1⟩:∃y,xs[1]?=some y:=⟨_,Aae (by rw[hxs];decide)⟩
   rw[e1,k2] at f1
   simp only[List.drop_succ_cons,List.drop_zero,List.take_succ_cons,List.take_zero] at f1
   obtain⟨n1,g1,_,_⟩:=DataW.trod_int Tryz.underlying3 f1
   simp only[List.cons.injEq,and_true] at g1
   have f2:DataW.trod enc Tryz.prog W b sp held n 9 (([c0,c1,c2,c3,c4,c5,c6,c7,c8,c9,c10,c11,c12,c13,c14].drop 2).take (Tryz.prog.cellsOf 9))=xs[2]?:=hel 2 _ rfl
   obtain⟨y2,e2⟩:∃y,xs[2]?=some y:=⟨_,Aae (by rw[hxs];decide)⟩
   rw[e2,k1] at f2
   simp only[List.drop_succ_cons,List.drop_zero,List.take_succ_cons,List.take_zero] at f2
   obtain⟨n2,g2,_,_⟩:=DataW.trod_string Tryz.underlying9 f2
   simp only[List.cons.injEq,and_true] at g2
   have f3:DataW.trod enc Tryz.prog W b sp held n 3 (([c0,c1,c2,c3,c4,c5,c6,c7,c8,c9,c10,c11,c12,c13,c14].drop 3).take (Tryz.prog.cellsOf 3))=xs[3]?:=hel 3 _ rfl
   obtain⟨y3,e3⟩:∃y,xs[3]?=some y:=⟨_,Aae (by rw[hxs];decide)⟩
   rw[e3,k2] at f3
   simp only[List.drop_succ_cons,List.drop_zero,List.take_succ_cons,List.take_zero] at f3
   obtain⟨n3,g3,_,_⟩:=DataW.trod_int Tryz.underlying3 f3
   simp only[List.cons.injEq,and_true] at g3
   have f4:DataW.trod enc Tryz.prog W b sp held n 22 (([c0,c1,c2,c3,c4,c5,c6,c7,c8,c9,c10,c11,c12,c13,c14].drop 4).take (Tryz.prog.cellsOf 22))=xs[4]?:=hel 4 _ rfl
   obtain⟨y4,e4⟩:∃y,xs[4]?=some y:=⟨_,Aae (by rw[hxs];decide)⟩
   rw[e4,k3] at f4
   simp only[List.drop_succ_cons,List.drop_zero,List.take_succ_cons,List.take_zero] at f4
   obtain⟨n4,g4,_,_⟩:=DataW.trod_int Tryz.underlying22 f4
   simp only[List.cons.injEq,and_true] at g4
   have f5:DataW.trod enc Tryz.prog W b sp held n 22 (([c0,c1,c2,c3,c4,c5,c6,c7,c8,c9,c10,c11,c12,c13,c14].drop 5).take (Tryz.prog.cellsOf 22))=xs[5]?:=hel 5 _ rfl
   obtain⟨y5,e5⟩:∃y,xs[5]?=some y:=⟨_,Aae (by rw[hxs];decide)⟩
   rw[e5,k3] at f5
   simp only[List.drop_succ_cons,List.drop_zero,List.take_succ_cons,List.take_zero] at f5
   obtain⟨n5,g5,_,_⟩:=DataW.trod_int Tryz.underlying22 f5
   simp only[List.cons.injEq,and_true] at g5
   have f6:DataW.trod enc Tryz.prog W b sp held n 25 (([c0,c1,c2,c3,c4,c5,c6,c7,c8,c9,c10,c11,c12,c13,c14].drop 6).take (Tryz.prog.cellsOf 25))=xs[6]?:=hel 6 _ rfl
   obtain⟨y6,e6⟩:∃y,xs[6]?=some y:=⟨_,Aae (by rw[hxs];decide)⟩
   rw[e6,k5] at f6
   simp only[List.drop_succ_cons,List.drop_zero,List.take_succ_cons,List.take_zero] at f6
   obtain⟨n6,d6,g6⟩:=Aux f6
   simp only[List.cons.injEq,and_true] at g6
   have f7:DataW.trod enc Tryz.prog W b sp held n 25 (([c0,c1,c2,c3,c4,c5,c6,c7,c8,c9,c10,c11,c12,c13,c14].drop 8).take (Tryz.prog.cellsOf 25))=xs[7]?:=hel 7 _ rfl
   obtain⟨y7,e7⟩:∃y,xs[7]?=some y:=⟨_,Aae (by rw[hxs];decide)⟩
   rw[e7,k5] at f7
   simp only[List.drop_succ_cons,List.drop_zero,List.take_succ_cons,List.take_zero] at f7
   obtain⟨n7,d7,g7⟩:=Aux f7
   simp only[List.cons.injEq,and_true] at g7
   have f8:DataW.trod enc Tryz.prog W b sp held n 3 (([c0,c1,c2,c3,c4,c5,c6,c7,c8,c9,c10,c11,c12,c13,c14].drop 10).take (Tryz.prog.cellsOf 3))=xs[8]?:=hel 8 _ rfl
   obtain⟨y8,e8⟩:∃y,xs[8]?=some y:=⟨_,Aae (by rw[hxs];decide)⟩
   rw[e8,k2] at f8
   simp only[List.drop_succ_cons,List.drop_zero,List.take_succ_cons,List.take_zero] at f8
   obtain⟨n8,g8,_,_⟩:=DataW.trod_int Tryz.underlying3 f8
   simp only[List.cons.injEq,and_true] at g8
   have f9:DataW.trod enc Tryz.prog W b sp held n 3 (([c0,c1,c2,c3,c4,c5,c6,c7,c8,c9,c10,c11,c12,c13,c14].drop 11).take (Tryz.prog.cellsOf 3))=xs[9]?:=hel 9 _ rfl
   obtain⟨y9,e9⟩:∃y,xs[9]?=some y:=⟨_,Aae (by rw[hxs];decide)⟩
   rw[e9,k2] at f9
   simp only[List.drop_succ_cons,List.drop_zero,List.take_succ_cons,List.take_zero] at f9
   obtain⟨n9,g9,_,_⟩:=DataW.trod_int Tryz.underlying3 f9
   simp only[List.cons.injEq,and_true] at g9
   have f10:DataW.trod enc Tryz.prog W b sp held n 9 (([c0,c1,c2,c3,c4,c5,c6,c7,c8,c9,c10,c11,c12,c13,c14].drop 12).take (Tryz.prog.cellsOf 9))=xs[10]?:=hel 10 _ rfl
   obtain⟨y10,e10⟩:∃y,xs[10]?=some y:=⟨_,Aae (by rw[hxs];decide)⟩
   rw[e10,k1] at f10
   simp only[List.drop_succ_cons,List.drop_zero,List.take_succ_cons,List.take_zero] at f10
   obtain⟨n10,g10,_,_⟩:=DataW.trod_string Tryz.underlying9 f10
   simp only[List.cons.injEq,and_true] at g10
   have f11:DataW.trod enc Tryz.prog W b sp held n 25 (([c0,c1,c2,c3,c4,c5,c6,c7,c8,c9,c10,c11,c12,c13,c14].drop 13).take (Tryz.prog.cellsOf 25))=xs[11]?:=hel 11 _ rfl
   obtain⟨y11,e11⟩:∃y,xs[11]?=some y:=⟨_,Aae (by rw[hxs];decide)⟩
   rw[e11,k5] at f11
   simp only[List.drop_succ_cons,List.drop_zero,List.take_succ_cons,List.take_zero] at f11
   obtain⟨n11,d11,g11⟩:=Aux f11
   simp only[List.cons.injEq,and_true] at g11
   exact⟨⟨n0,n1,n2,n3,n4,n5,n6,d6,n7,d7,n8,n9,n10,n11,d11⟩,by simp only[g0,g1,g2,g3,g4,g5,g6.1,g6.2,g7.1,g7.2,g8,g9,g10,g11.1,g11.2]⟩
theorem Auz{H:Type}{enc:TypeId×Value→H}{W:World}{base b:Nat}{sp:Nat→Bool}{held:Bool}{v:Value}{d:DataW H}{p:List MemPlace}(hv:Value.okWide Tryz.prog W .any base 27 v)(h:DataW.Trod enc Tryz.prog W b sp held 27 v d p):∃i:Inst,v=i.enc:=by
 obtain⟨cs,rfl,_⟩:=okWide_struct Tryz.underlying27 hv
 obtain⟨fuel,hf⟩:=h
 obtain⟨i,hi⟩:=Auy hf
 refine⟨i,?_⟩
 show Value.agg cs=Value.agg i.cells
 congr 1
 exact Array.toList_inj.1 hi
set_option maxRecDepth 100000
theorem Au0{H:Type}{enc:TypeId×Value→H}{W:World}{base b:Nat}{sp:Nat→Bool}{held:Bool}{v:Value}{d:DataW H}{p:List MemPlace}(hv:Value.okWide Tryz.prog W .any base 25 v)(h:DataW.Trod enc Tryz.prog W b sp held 25 v d p):∃n d:ByteArray,v=.agg #[.string n,.string d]:=by
 obtain⟨cs,rfl,_⟩:=okWide_struct Tryz.underlying25 hv
 obtain⟨fuel,hf⟩:=h
 obtain⟨n,d,hi⟩:=Aux hf
 refine⟨n,d,?_⟩
 congr 1
 exact Array.toList_inj.1 hi
end Go.Proofs.YteennkgpeiafaaaGreatDoor
namespace Go.Proofs.YteennkgpeiafaaaGreatDoor
open Go.RowKit Tr Go.Shelf Go.ChangeShapes Go.WideShapes Go.ChangeAt Go.ChangeMaps
theorem Aa2 (os : Os) (started : os.Started) (H : Type) (enc : TypeId × Value → H) :
 ReturnsInHanded {} Tryz.checked os 3 .any (fun w args => (Rows.bondValuesSpec.pre enc Tryz.prog Tryz.f3 [] false w args ∧ laidMetH Tryz.prog laidL w) ∧ sizedMet enc Tryz.prog Tryz.f3 (OpenSpec.ofChange Rows.bondValuesSpec) false w args)
  (Rows.bondValuesSpec.post enc Tryz.prog Tryz.f3 false true false false) := by
 refine returns_of_both (C := Tryz.checked) (X := fun w _ => laidMetH Tryz.prog laidL w) (fun _ _ _ hh h => h.of_heap hh) own started (by kernel_rfl) Tryz.func3
  (ChangeSpec.witness_shaped (enc := enc) (C := Tryz.checked) (os := os) (X := fun w _ => laidMetH Tryz.prog laidL w) false (World.laidAll Tryz.prog os laidL) #[eb.enc, .int .i64 0, .agg #[.string ⟨#[]⟩, .string ⟨#[]⟩], .agg #[.string ⟨#[]⟩, .string ⟨#[]⟩]] 8 (World.laidAll_os _ _ _)
    (World.shaped_of_ZipB (by kernel_rfl) (by kernel_rfl)) (by kernel_rfl) (by kernel_rfl) (by kernel_rfl) (door_met os _)) ?_
 intro W base args ds gs before hval0 hW hL hsh
 have hval : ∀ (j : Nat) t v, Tryz.f3.params[j]? = some t → args[j]? = some v → Value.okWide Tryz.prog W .any base t v := hval0
 have hW' := hW
 obtain ⟨p, q, hA0, hV, rfl, _, _⟩ := hW
 have hA : DataW.TrodAll enc Tryz.prog W 0 (fun _ => true) true Tryz.f3.params.toList args.toList ds p := hA0
 rw [Tryz.params3] at hA hval
 obtain ⟨v0, vs0, d0, ds0, p0, q0, hargs, rfl, rfl, h0, r0⟩ := trodAll_cons hA
 obtain ⟨v1, vs1, d1, ds1, p1, q1, rfl, rfl, rfl, h1, r1⟩ := trodAll_cons r0
 obtain ⟨v2, vs2, d2, ds2, p2, q2, rfl, rfl, rfl, h2, r2⟩ := trodAll_cons r1
 obtain ⟨v3, vs3, d3, ds3, p3, q3, rfl, rfl, rfl, h3, r3⟩ := trodAll_cons r2
 obtain ⟨rfl, rfl, rfl⟩ := trodAll_nil r3
 obtain rfl : args = #[v0, v1, v2, v3] := by cases args; simp_all
 obtain ⟨rfl, rfl⟩ := trodVars_none hV
 have hk0 := h0
 obtain ⟨i, rfl⟩ := Auz (hval 0 27 v0 rfl rfl) h0
 obtain ⟨d, rfl, rfl, rfl, w1⟩ := open_int Tryz.underlying22 (hval 1 22 v1 rfl rfl) h1
 have hk2 := h2
 obtain ⟨yn, yd, rfl⟩ := Au0 (hval 2 25 v2 rfl rfl) h2
 have hk3 := h3
 obtain ⟨zn, zd, rfl⟩ := Au0 (hval 3 25 v3 rfl rfl) h3
 have hlt0 : ∀ x ∈ p0, x.block < W.heap.size := fun x hx => by simpa using hW'.lt x (by simp [hx])
 have hlt2 : ∀ x ∈ p2, x.block < W.heap.size := fun x hx => by simpa using hW'.lt x (by simp [hx])
 have hlt3 : ∀ x ∈ p3, x.block < W.heap.size := fun x hx => by simpa using hW'.lt x (by simp [hx])
 refine (BondValues_any i d yn yd zn zd W (tabs_of_laid hL hsh)).mono fun e W' ⟨he, hb⟩ => ?_
 subst he
 refine ⟨_, rfl, _, _, _, [], p0 ++ ([] ++ (p2 ++ (p3 ++ []))), [], hW', trodAll_mk1 (shut_bool Tryz.underlying4 _), ?_, rfl, hb.frame _, fun h => by cases h⟩
 exact trodAll_cons_mk (Below.trod (by kernel_rfl) (by kernel_rfl) (of_decide_eq_true (by kernel_rfl)) hk0 hb hlt0) (trodAll_cons_mk (shut_int Tryz.underlying22 w1) (trodAll_cons_mk (Below.trod (by kernel_rfl) (by kernel_rfl) (of_decide_eq_true (by kernel_rfl)) hk2 hb hlt2) (trodAll_cons_mk (Below.trod (by kernel_rfl) (by kernel_rfl) (of_decide_eq_true (by kernel_rfl)) hk3 hb hlt3) trodAll_mk0)))
theorem bvalues_facts : joinedFacts Tryz.pinned.checked.prog 3 Tryz.f3 Rows.bondValuesSpec Rows.bondValuesRow = true := by
 unfold joinedFacts
 simp only [Bool.and_eq_true]
 refine ⟨⟨⟨⟨⟨⟨⟨⟨⟨⟨⟨⟨⟨⟨⟨⟨⟨⟨⟨⟨⟨⟨⟨⟨⟨⟨⟨⟨⟨⟨⟨?k1, ?k2⟩, ?k3⟩, ?k4⟩, ?k5⟩, ?k6⟩, ?k7⟩, ?k8⟩, ?k9⟩, ?k10⟩, ?k11⟩, ?k12⟩, ?k13⟩, ?k14⟩, ?k15⟩, ?k16⟩, ?k17⟩, ?k17b⟩, ?k18⟩, ?k19⟩, ?k20⟩, ?k21⟩, ?k22⟩, ?k23⟩, ?k23b⟩, ?k24⟩, ?k24b⟩, ?k24c⟩, ?k25⟩, ?k26⟩, ?k27⟩, ?k28⟩
 all_goals as_aux_lemma => kernel_rfl
theorem bvalues_row : Rows.BondValuesSaid :=
 OpenClaim.holds_of_wide 3 Tryz.f3 rfl rfl rfl rfl rfl rfl rfl ⟨rfl, rfl, rfl, rfl, rfl⟩ rfl rfl rfl rfl rfl (by kernel_rfl) Tryz.func3 bvalues_facts
  (of_decide_eq_true (by kernel_rfl)) (by unfold Func.isWrapper; first | (rw [if_pos (by decide +kernel)]; kernel_rfl) | (rw [if_neg (by decide +kernel)]; exact ⟨rfl, rfl⟩))
  (fun os started H enc _ => Aa2 os started H enc)
theorem bvalues_card : Rows.BondValuesCardSaid :=
 Claim7.holds_tied_plain_at .later [] [.data, .data, .data, .data, .sentinel, .sentinel, .pinned] true (true, "ee20e1ec19698996c4dec333fc11cc253de3ed58ae289fc8a409db44b1a2bd8b") true
  bvalues_row (fun _ h => by cases h) (by as_aux_lemma => kernel_rfl) (fun _ h => by cases h) bondValues_row_tie rfl ⟨rfl, rfl⟩ (by as_aux_lemma => kernel_rfl) rfl
  (fun f fn hf hfn => by
    obtain rfl : f = 3 := Option.some.inj ((show Tryz.prog.funcNamed "tranche/tranchelaw11.BondValues" = some 3 by as_aux_lemma => kernel_rfl).symm.trans hf) |>.symm
    obtain rfl : fn = Tryz.f3 := (Option.some.inj (Tryz.func3.symm.trans hfn)).symm
    exact ⟨by as_aux_lemma => kernel_rfl, fun j t ht => by
     rw [Tryz.params3] at ht
     have hm : t ∈ [27, 22, 25, 25] := by simpa using Array.mem_of_getElem? ht
     have hall : ([27, 22, 25, 25].all fun u => !Tryz.prog.wantsStandIn u) = true := by as_aux_lemma => kernel_rfl
     exact (show Tryz.prog.wantsStandIn t = false by simpa using List.all_eq_true.1 hall t hm)⟩)
  (by as_aux_lemma => kernel_rfl)
#print axioms bvalues_card
end Go.Proofs.YteennkgpeiafaaaGreatDoor
