/-
  The walk of relief.find. (Printed by gen_rel5.py.)
-/
import Derived.Test.YtcmgmemffncbhabGreatDoorT36
import Derived.Laws.ResultCell
set_option linter.unusedVariables false
set_option linter.unusedSimpArgs false
set_option maxHeartbeats 16000000
set_option maxRecDepth 100000
namespace Go.Proofs.YtcmgmemffncbhabGreatDoor
open Go.RowKit Tr Go.Shelf
def nmM(m:Int):ByteArray:=if m=1 then⟨#[102,105,102,111]⟩ else if m=2 then⟨#[108,105,102,111]⟩ else if m=3 then⟨#[104,105,103,104,101,115,116]⟩ else if m=4 then⟨#[108,111,119,101,115,116]⟩ else if m=5 then⟨#[110,97,109,101,100]⟩ else⟨#[97,118,101,114,97,103,101]⟩
def entM(m:Int)(bf:Nat):Array Value:=#[.string (nmM m),.func (.func (fnM m)) #[] (bdM m bf),.bool (decide (m=2))]
theorem results_row_tmp{P:Program}{fn:Func}{p u:Tmp}{ty:TypeId}(h:fn.results=#[.cell p ty,.tmp u])(tmps:Array Value)(w:World)(g:Nat)(t:TypeId)(cs:Array Value)(fr:Nat×Nat)(d:TypeDesc)
 (hp:tmps.getD p undef=.pointer (some ⟨g,0,none⟩)) (hg:w.heap[g]?=some (.cells cs t fr))
 (hu:P.underlying ty=some d) (hd:(match d with|.struct _|.array _ _=>true|_=>false)=true) (hi:(P.info? ty).map (·.size)=some cs.size) :
 (results fn tmps).run P w=.ok (.tuple #[.agg cs,tmps.getD u undef]) w:=by
 rw[results_cell_tmp h,hp]
 show ((loadVar ty ⟨g,0,none⟩).run P w).andThen _=_
 rw[run_loadVar_row w g t ty cs fr d hg hu hd hi]
 rfl
theorem find20_1(w:World):Calls Tryz.prog 39 #[.int .i64 1] w fun e w'=>∃bf,e=.returned (.tuple #[.agg #[.string ⟨#[102,105,102,111]⟩,.func (.func 112) #[] #[],.bool false],.bool true])∧w.heap.size≤bf∧FnBox w' bf∧Below w.heap.size w w':=by
 obtain⟨W0,hW0⟩:∃W0,w.alloc (.cells #[.string ⟨#[]⟩,.nilFunc,.bool false] 67)=W0:=⟨_,rfl⟩
 have hb0:Below w.heap.size w W0:=by rw[←hW0];exact (Below.refl _ w).alloc (Aad _) _
 have k0:W0.heap[w.heap.size]?=some (.cells #[.string ⟨#[]⟩,.nilFunc,.bool false] 67 (0,0)):=by rw[←hW0];exact Aa5 w _
 have HM:=hI (methods_any W0)
 have HB0:=hI hb0
 have HK0:=hI k0
 clear hb0 k0
 go_enter Tryz.func39,Tryz.ntmps39
 go_wp2_with fail
 refine HM.out.mono ?_
 rintro e w1 ⟨bf,rfl,hbf,hbl,hfn,b1⟩
 have hk1:=(b1.block w.heap.size (Aab.1 HK0.out).1).trans HK0.out
 have hB1:=HB0.out.trans (b1.mono HB0.out.size)
 obtain⟨W2,hW2⟩:∃W2,w1.alloc (.cells #[.string ⟨#[]⟩,.nilFunc,.bool false,.string ⟨#[]⟩,.nilFunc,.bool false,.string ⟨#[]⟩,.nilFunc,.bool false,.string ⟨#[]⟩,.nilFunc,.bool false,.string ⟨#[]⟩,.nilFunc,.bool false,.string ⟨#[]⟩,.nilFunc,.bool false,.string ⟨#[]⟩,.nilFunc,.bool false] 101)=W2:=⟨_,rfl⟩
 have b2:Below w1.heap.size w1 W2:=by rw[←hW2];exact (Below.refl _ w1).alloc (Aad _) _
 have k2:W2.heap[w1.heap.size]?=some (.cells #[.string ⟨#[]⟩,.nilFunc,.bool false,.string ⟨#[]⟩,.nilFunc,.bool false,.string ⟨#[]⟩,.nilFunc,.bool false,.string ⟨#[]⟩,.nilFunc,.bool false,.string ⟨#[]⟩,.nilFunc,.bool false,.string ⟨#[]⟩,.nilFunc,.bool false,.string ⟨#[]⟩,.nilFunc,.bool false] 101 (0,0)):=by rw[←hW2];exact Aa5 w1 _
 have hone:∀u∈(tabM bf).toList,u.oneCell'=true:=by
  intro u hu
  simp at hu
  repeat' (rcases hu with rfl|hu)
  all_goals first|rfl|(subst hu;rfl)
 have hrun:=run_store_row W2 w1.heap.size 21 101 _ (tabM bf) (by kernel_rfl) k2 rfl rfl hone
 obtain⟨W3,hW3⟩:∃W3,W2.setRow w1.heap.size (tabM bf)=W3:=⟨_,rfl⟩
 rw[hW3] at hrun
 have hz1:w.heap.size<w1.heap.size:=(Aab.1 hk1).1
 have hz2:w1.heap.size<W2.heap.size:=(Aab.1 k2).1
 have k3:W3.heap[w1.heap.size]?=some (.cells (tabM bf) 101 (0,0)):=by rw[←hW3];exact setRow_heap W2 _ _ _ _ _ k2
 have k3b:W3.heap[w.heap.size]?=some (.cells #[.string ⟨#[]⟩,.nilFunc,.bool false] 67 (0,0)):=by rw[←hW3];exact (setRow_other _ _ _ _ (by omega)).trans ((b2.block _ hz1).trans hk1)
 have hb3:Below w.heap.size w W3:=by rw[←hW3];exact below_setRow (hB1.trans (b2.mono hB1.size)) (by omega) _
 have hfn3:FnBox W3 bf:=by rw[←hW3];exact (setRow_other _ _ _ _ (by omega)).trans ((b2.block _ hbl).trans hfn)
 have hone2:∀u∈(#[.string ⟨#[102,105,102,111]⟩,.func (.func 112) #[] #[],.bool false]:Array Value).toList,u.oneCell'=true:=by
  intro u hu
  simp at hu
  repeat' (rcases hu with rfl|hu)
  all_goals first|rfl|(subst hu;rfl)
 have hrun2:=run_store_row W3 w.heap.size 3 67 _ #[.string ⟨#[102,105,102,111]⟩,.func (.func 112) #[] #[],.bool false] (by kernel_rfl) k3b rfl rfl hone2
 obtain⟨W4,hW4⟩:∃W4,W3.setRow w.heap.size #[.string ⟨#[102,105,102,111]⟩,.func (.func 112) #[] #[],.bool false]=W4:=⟨_,rfl⟩
 rw[hW4] at hrun2
 have k4:W4.heap[w.heap.size]?=some (.cells #[.string ⟨#[102,105,102,111]⟩,.func (.func 112) #[] #[],.bool false] 67 (0,0)):=by rw[←hW4];exact setRow_heap W3 _ _ _ _ _ k3b
 have hb4:Below w.heap.size w W4:=by rw[←hW4];exact below_setRow hb3 (Aad _) _
 have hne:bf≠w.heap.size:=by have:=HB0.out.size;have:=(Aab.1 HK0.out).1;omega
 have hfn4:FnBox W4 bf:=by rw[←hW4];exact (setRow_other _ _ _ _ hne).trans hfn3
 have HF:Hid (w.heap.size≤bf∧FnBox W4 bf∧Below w.heap.size w W4):=⟨by have:=HB0.out.size;omega,hfn4,hb4⟩
 have HK4:=hI k4
 have m0:=Aaa k3 3
 have m1:=Aaa k3 4
 have m2:=Aaa k3 5
 simp at m0 m1 m2
 clear hone hone2 k2 k3 k3b k4 hb3 hb4 hfn3 hfn4 hfn hbf hbl b1 b2 hk1 hB1 hz1 hz2 hne hW3 hW4
 go_wp2_with (first|(refine wpList_store_run hrun rfl _ _ rfl rfl rfl ?_)|(refine wpList_store_run hrun2 rfl _ _ rfl rfl rfl ?_))
 refine bodyPost_ret (results_row_tmp rfl _ _ w.heap.size _ _ (0,0) _ rfl HK4.out Tryz.underlying67 rfl (by kernel_rfl)) rfl ?_
 exact⟨bf,rfl,HF.out.1,HF.out.2.1,HF.out.2.2⟩
theorem find20_2(w:World):Calls Tryz.prog 39 #[.int .i64 2] w fun e w'=>∃bf,e=.returned (.tuple #[.agg #[.string ⟨#[108,105,102,111]⟩,.func (.func 112) #[] #[],.bool true],.bool true])∧w.heap.size≤bf∧FnBox w' bf∧Below w.heap.size w w':=by
 obtain⟨W0,hW0⟩:∃W0,w.alloc (.cells #[.string ⟨#[]⟩,.nilFunc,.bool false] 67)=W0:=⟨_,rfl⟩
 have hb0:Below w.heap.size w W0:=by rw[←hW0];exact (Below.refl _ w).alloc (Aad _) _
 have k0:W0.heap[w.heap.size]?=some (.cells #[.string ⟨#[]⟩,.nilFunc,.bool false] 67 (0,0)):=by rw[←hW0];exact Aa5 w _
 have HM:=hI (methods_any W0)
 have HB0:=hI hb0
 have HK0:=hI k0
 clear hb0 k0
 go_enter Tryz.func39,Tryz.ntmps39
 go_wp2_with fail
 refine HM.out.mono ?_
 rintro e w1 ⟨bf,rfl,hbf,hbl,hfn,b1⟩
 have hk1:=(b1.block w.heap.size (Aab.1 HK0.out).1).trans HK0.out
 have hB1:=HB0.out.trans (b1.mono HB0.out.size)
 obtain⟨W2,hW2⟩:∃W2,w1.alloc (.cells #[.string ⟨#[]⟩,.nilFunc,.bool false,.string ⟨#[]⟩,.nilFunc,.bool false,.string ⟨#[]⟩,.nilFunc,.bool false,.string ⟨#[]⟩,.nilFunc,.bool false,.string ⟨#[]⟩,.nilFunc,.bool false,.string ⟨#[]⟩,.nilFunc,.bool false,.string ⟨#[]⟩,.nilFunc,.bool false] 101)=W2:=⟨_,rfl⟩
 have b2:Below w1.heap.size w1 W2:=by rw[←hW2];exact (Below.refl _ w1).alloc (Aad _) _
 have k2:W2.heap[w1.heap.size]?=some (.cells #[.string ⟨#[]⟩,.nilFunc,.bool false,.string ⟨#[]⟩,.nilFunc,.bool false,.string ⟨#[]⟩,.nilFunc,.bool false,.string ⟨#[]⟩,.nilFunc,.bool false,.string ⟨#[]⟩,.nilFunc,.bool false,.string ⟨#[]⟩,.nilFunc,.bool false,.string ⟨#[]⟩,.nilFunc,.bool false] 101 (0,0)):=by rw[←hW2];exact Aa5 w1 _
 have hone:∀u∈(tabM bf).toList,u.oneCell'=true:=by
  intro u hu
  simp at hu
  repeat' (rcases hu with rfl|hu)
  all_goals first|rfl|(subst hu;rfl)
 have hrun:=run_store_row W2 w1.heap.size 21 101 _ (tabM bf) (by kernel_rfl) k2 rfl rfl hone
 obtain⟨W3,hW3⟩:∃W3,W2.setRow w1.heap.size (tabM bf)=W3:=⟨_,rfl⟩
 rw[hW3] at hrun
 have hz1:w.heap.size<w1.heap.size:=(Aab.1 hk1).1
 have hz2:w1.heap.size<W2.heap.size:=(Aab.1 k2).1
 have k3:W3.heap[w1.heap.size]?=some (.cells (tabM bf) 101 (0,0)):=by rw[←hW3];exact setRow_heap W2 _ _ _ _ _ k2
 have k3b:W3.heap[w.heap.size]?=some (.cells #[.string ⟨#[]⟩,.nilFunc,.bool false] 67 (0,0)):=by rw[←hW3];exact (setRow_other _ _ _ _ (by omega)).trans ((b2.block _ hz1).trans hk1)
 have hb3:Below w.heap.size w W3:=by rw[←hW3];exact below_setRow (hB1.trans (b2.mono hB1.size)) (by omega) _
 have hfn3:FnBox W3 bf:=by rw[←hW3];exact (setRow_other _ _ _ _ (by omega)).trans ((b2.block _ hbl).trans hfn)
 have hone2:∀u∈(#[.string ⟨#[108,105,102,111]⟩,.func (.func 112) #[] #[],.bool true]:Array Value).toList,u.oneCell'=true:=by
  intro u hu
  simp at hu
  repeat' (rcases hu with rfl|hu)
  all_goals first|rfl|(subst hu;rfl)
 have hrun2:=run_store_row W3 w.heap.size 3 67 _ #[.string ⟨#[108,105,102,111]⟩,.func (.func 112) #[] #[],.bool true] (by kernel_rfl) k3b rfl rfl hone2
 obtain⟨W4,hW4⟩:∃W4,W3.setRow w.heap.size #[.string ⟨#[108,105,102,111]⟩,.func (.func 112) #[] #[],.bool true]=W4:=⟨_,rfl⟩
 rw[hW4] at hrun2
 have k4:W4.heap[w.heap.size]?=some (.cells #[.string ⟨#[108,105,102,111]⟩,.func (.func 112) #[] #[],.bool true] 67 (0,0)):=by rw[←hW4];exact setRow_heap W3 _ _ _ _ _ k3b
 have hb4:Below w.heap.size w W4:=by rw[←hW4];exact below_setRow hb3 (Aad _) _
 have hne:bf≠w.heap.size:=by have:=HB0.out.size;have:=(Aab.1 HK0.out).1;omega
 have hfn4:FnBox W4 bf:=by rw[←hW4];exact (setRow_other _ _ _ _ hne).trans hfn3
 have HF:Hid (w.heap.size≤bf∧FnBox W4 bf∧Below w.heap.size w W4):=⟨by have:=HB0.out.size;omega,hfn4,hb4⟩
 have HK4:=hI k4
 have m0:=Aaa k3 6
 have m1:=Aaa k3 7
 have m2:=Aaa k3 8
 simp at m0 m1 m2
 clear hone hone2 k2 k3 k3b k4 hb3 hb4 hfn3 hfn4 hfn hbf hbl b1 b2 hk1 hB1 hz1 hz2 hne hW3 hW4
 go_wp2_with (first|(refine wpList_store_run hrun rfl _ _ rfl rfl rfl ?_)|(refine wpList_store_run hrun2 rfl _ _ rfl rfl rfl ?_))
 refine bodyPost_ret (results_row_tmp rfl _ _ w.heap.size _ _ (0,0) _ rfl HK4.out Tryz.underlying67 rfl (by kernel_rfl)) rfl ?_
 exact⟨bf,rfl,HF.out.1,HF.out.2.1,HF.out.2.2⟩
theorem find20_3(w:World):Calls Tryz.prog 39 #[.int .i64 3] w fun e w'=>∃bf,e=.returned (.tuple #[.agg #[.string ⟨#[104,105,103,104,101,115,116]⟩,.func (.func 117) #[] #[.pointer (some ⟨bf,0,none⟩)],.bool false],.bool true])∧w.heap.size≤bf∧FnBox w' bf∧Below w.heap.size w w':=by
 obtain⟨W0,hW0⟩:∃W0,w.alloc (.cells #[.string ⟨#[]⟩,.nilFunc,.bool false] 67)=W0:=⟨_,rfl⟩
 have hb0:Below w.heap.size w W0:=by rw[←hW0];exact (Below.refl _ w).alloc (Aad _) _
 have k0:W0.heap[w.heap.size]?=some (.cells #[.string ⟨#[]⟩,.nilFunc,.bool false] 67 (0,0)):=by rw[←hW0];exact Aa5 w _
 have HM:=hI (methods_any W0)
 have HB0:=hI hb0
 have HK0:=hI k0
 clear hb0 k0
 go_enter Tryz.func39,Tryz.ntmps39
 go_wp2_with fail
 refine HM.out.mono ?_
 rintro e w1 ⟨bf,rfl,hbf,hbl,hfn,b1⟩
 have hk1:=(b1.block w.heap.size (Aab.1 HK0.out).1).trans HK0.out
 have hB1:=HB0.out.trans (b1.mono HB0.out.size)
 obtain⟨W2,hW2⟩:∃W2,w1.alloc (.cells #[.string ⟨#[]⟩,.nilFunc,.bool false,.string ⟨#[]⟩,.nilFunc,.bool false,.string ⟨#[]⟩,.nilFunc,.bool false,.string ⟨#[]⟩,.nilFunc,.bool false,.string ⟨#[]⟩,.nilFunc,.bool false,.string ⟨#[]⟩,.nilFunc,.bool false,.string ⟨#[]⟩,.nilFunc,.bool false] 101)=W2:=⟨_,rfl⟩
 have b2:Below w1.heap.size w1 W2:=by rw[←hW2];exact (Below.refl _ w1).alloc (Aad _) _
 have k2:W2.heap[w1.heap.size]?=some (.cells #[.string ⟨#[]⟩,.nilFunc,.bool false,.string ⟨#[]⟩,.nilFunc,.bool false,.string ⟨#[]⟩,.nilFunc,.bool false,.string ⟨#[]⟩,.nilFunc,.bool false,.string ⟨#[]⟩,.nilFunc,.bool false,.string ⟨#[]⟩,.nilFunc,.bool false,.string ⟨#[]⟩,.nilFunc,.bool false] 101 (0,0)):=by rw[←hW2];exact Aa5 w1 _
 have hone:∀u∈(tabM bf).toList,u.oneCell'=true:=by
  intro u hu
  simp at hu
  repeat' (rcases hu with rfl|hu)
  all_goals first|rfl|(subst hu;rfl)
 have hrun:=run_store_row W2 w1.heap.size 21 101 _ (tabM bf) (by kernel_rfl) k2 rfl rfl hone
 obtain⟨W3,hW3⟩:∃W3,W2.setRow w1.heap.size (tabM bf)=W3:=⟨_,rfl⟩
 rw[hW3] at hrun
 have hz1:w.heap.size<w1.heap.size:=(Aab.1 hk1).1
 have hz2:w1.heap.size<W2.heap.size:=(Aab.1 k2).1
 have k3:W3.heap[w1.heap.size]?=some (.cells (tabM bf) 101 (0,0)):=by rw[←hW3];exact setRow_heap W2 _ _ _ _ _ k2
 have k3b:W3.heap[w.heap.size]?=some (.cells #[.string ⟨#[]⟩,.nilFunc,.bool false] 67 (0,0)):=by rw[←hW3];exact (setRow_other _ _ _ _ (by omega)).trans ((b2.block _ hz1).trans hk1)
 have hb3:Below w.heap.size w W3:=by rw[←hW3];exact below_setRow (hB1.trans (b2.mono hB1.size)) (by omega) _
 have hfn3:FnBox W3 bf:=by rw[←hW3];exact (setRow_other _ _ _ _ (by omega)).trans ((b2.block _ hbl).trans hfn)
 have hone2:∀u∈(#[.string ⟨#[104,105,103,104,101,115,116]⟩,.func (.func 117) #[] #[.pointer (some ⟨bf,0,none⟩)],.bool false]:Array Value).toList,u.oneCell'=true:=by
  intro u hu
  simp at hu
  repeat' (rcases hu with rfl|hu)
  all_goals first|rfl|(subst hu;rfl)
 have hrun2:=run_store_row W3 w.heap.size 3 67 _ #[.string ⟨#[104,105,103,104,101,115,116]⟩,.func (.func 117) #[] #[.pointer (some ⟨bf,0,none⟩)],.bool false] (by kernel_rfl) k3b rfl rfl hone2
 obtain⟨W4,hW4⟩:∃W4,W3.setRow w.heap.size #[.string ⟨#[104,105,103,104,101,115,116]⟩,.func (.func 117) #[] #[.pointer (some ⟨bf,0,none⟩)],.bool false]=W4:=⟨_,rfl⟩
 rw[hW4] at hrun2
 have k4:W4.heap[w.heap.size]?=some (.cells #[.string ⟨#[104,105,103,104,101,115,116]⟩,.func (.func 117) #[] #[.pointer (some ⟨bf,0,none⟩)],.bool false] 67 (0,0)):=by rw[←hW4];exact setRow_heap W3 _ _ _ _ _ k3b
 have hb4:Below w.heap.size w W4:=by rw[←hW4];exact below_setRow hb3 (Aad _) _
 have hne:bf≠w.heap.size:=by have:=HB0.out.size;have:=(Aab.1 HK0.out).1;omega
 have hfn4:FnBox W4 bf:=by rw[←hW4];exact (setRow_other _ _ _ _ hne).trans hfn3
 have HF:Hid (w.heap.size≤bf∧FnBox W4 bf∧Below w.heap.size w W4):=⟨by have:=HB0.out.size;omega,hfn4,hb4⟩
 have HK4:=hI k4
 have m0:=Aaa k3 9
 have m1:=Aaa k3 10
 have m2:=Aaa k3 11
 simp at m0 m1 m2
 clear hone hone2 k2 k3 k3b k4 hb3 hb4 hfn3 hfn4 hfn hbf hbl b1 b2 hk1 hB1 hz1 hz2 hne hW3 hW4
 go_wp2_with (first|(refine wpList_store_run hrun rfl _ _ rfl rfl rfl ?_)|(refine wpList_store_run hrun2 rfl _ _ rfl rfl rfl ?_))
 refine bodyPost_ret (results_row_tmp rfl _ _ w.heap.size _ _ (0,0) _ rfl HK4.out Tryz.underlying67 rfl (by kernel_rfl)) rfl ?_
 exact⟨bf,rfl,HF.out.1,HF.out.2.1,HF.out.2.2⟩
theorem find20_4(w:World):Calls Tryz.prog 39 #[.int .i64 4] w fun e w'=>∃bf,e=.returned (.tuple #[.agg #[.string ⟨#[108,111,119,101,115,116]⟩,.func (.func 114) #[] #[.pointer (some ⟨bf,0,none⟩)],.bool false],.bool true])∧w.heap.size≤bf∧FnBox w' bf∧Below w.heap.size w w':=by
 obtain⟨W0,hW0⟩:∃W0,w.alloc (.cells #[.string ⟨#[]⟩,.nilFunc,.bool false] 67)=W0:=⟨_,rfl⟩
 have hb0:Below w.heap.size w W0:=by rw[←hW0];exact (Below.refl _ w).alloc (Aad _) _
 have k0:W0.heap[w.heap.size]?=some (.cells #[.string ⟨#[]⟩,.nilFunc,.bool false] 67 (0,0)):=by rw[←hW0];exact Aa5 w _
 have HM:=hI (methods_any W0)
 have HB0:=hI hb0
 have HK0:=hI k0
 clear hb0 k0
 go_enter Tryz.func39,Tryz.ntmps39
 go_wp2_with fail
 refine HM.out.mono ?_
 rintro e w1 ⟨bf,rfl,hbf,hbl,hfn,b1⟩
 have hk1:=(b1.block w.heap.size (Aab.1 HK0.out).1).trans HK0.out
 have hB1:=HB0.out.trans (b1.mono HB0.out.size)
 obtain⟨W2,hW2⟩:∃W2,w1.alloc (.cells #[.string ⟨#[]⟩,.nilFunc,.bool false,.string ⟨#[]⟩,.nilFunc,.bool false,.string ⟨#[]⟩,.nilFunc,.bool false,.string ⟨#[]⟩,.nilFunc,.bool false,.string ⟨#[]⟩,.nilFunc,.bool false,.string ⟨#[]⟩,.nilFunc,.bool false,.string ⟨#[]⟩,.nilFunc,.bool false] 101)=W2:=⟨_,rfl⟩
 have b2:Below w1.heap.size w1 W2:=by rw[←hW2];exact (Below.refl _ w1).alloc (Aad _) _
 have k2:W2.heap[w1.heap.size]?=some (.cells #[.string ⟨#[]⟩,.nilFunc,.bool false,.string ⟨#[]⟩,.nilFunc,.bool false,.string ⟨#[]⟩,.nilFunc,.bool false,.string ⟨#[]⟩,.nilFunc,.bool false,.string ⟨#[]⟩,.nilFunc,.bool false,.string ⟨#[]⟩,.nilFunc,.bool false,.string ⟨#[]⟩,.nilFunc,.bool false] 101 (0,0)):=by rw[←hW2];exact Aa5 w1 _
 have hone:∀u∈(tabM bf).toList,u.oneCell'=true:=by
  intro u hu
  simp at hu
  repeat' (rcases hu with rfl|hu)
  all_goals first|rfl|(subst hu;rfl)
 have hrun:=run_store_row W2 w1.heap.size 21 101 _ (tabM bf) (by kernel_rfl) k2 rfl rfl hone
 obtain⟨W3,hW3⟩:∃W3,W2.setRow w1.heap.size (tabM bf)=W3:=⟨_,rfl⟩
 rw[hW3] at hrun
 have hz1:w.heap.size<w1.heap.size:=(Aab.1 hk1).1
 have hz2:w1.heap.size<W2.heap.size:=(Aab.1 k2).1
 have k3:W3.heap[w1.heap.size]?=some (.cells (tabM bf) 101 (0,0)):=by rw[←hW3];exact setRow_heap W2 _ _ _ _ _ k2
 have k3b:W3.heap[w.heap.size]?=some (.cells #[.string ⟨#[]⟩,.nilFunc,.bool false] 67 (0,0)):=by rw[←hW3];exact (setRow_other _ _ _ _ (by omega)).trans ((b2.block _ hz1).trans hk1)
 have hb3:Below w.heap.size w W3:=by rw[←hW3];exact below_setRow (hB1.trans (b2.mono hB1.size)) (by omega) _
 have hfn3:FnBox W3 bf:=by rw[←hW3];exact (setRow_other _ _ _ _ (by omega)).trans ((b2.block _ hbl).trans hfn)
 have hone2:∀u∈(#[.string ⟨#[108,111,119,101,115,116]⟩,.func (.func 114) #[] #[.pointer (some ⟨bf,0,none⟩)],.bool false]:Array Value).toList,u.oneCell'=true:=by
  intro u hu
  simp at hu
  repeat' (rcases hu with rfl|hu)
  all_goals first|rfl|(subst hu;rfl)
 have hrun2:=run_store_row W3 w.heap.size 3 67 _ #[.string ⟨#[108,111,119,101,115,116]⟩,.func (.func 114) #[] #[.pointer (some ⟨bf,0,none⟩)],.bool false] (by kernel_rfl) k3b rfl rfl hone2
 obtain⟨W4,hW4⟩:∃W4,W3.setRow w.heap.size #[.string ⟨#[108,111,119,101,115,116]⟩,.func (.func 114) #[] #[.pointer (some ⟨bf,0,none⟩)],.bool false]=W4:=⟨_,rfl⟩
 rw[hW4] at hrun2
 have k4:W4.heap[w.heap.size]?=some (.cells #[.string ⟨#[108,111,119,101,115,116]⟩,.func (.func 114) #[] #[.pointer (some ⟨bf,0,none⟩)],.bool false] 67 (0,0)):=by rw[←hW4];exact setRow_heap W3 _ _ _ _ _ k3b
 have hb4:Below w.heap.size w W4:=by rw[←hW4];exact below_setRow hb3 (Aad _) _
 have hne:bf≠w.heap.size:=by have:=HB0.out.size;have:=(Aab.1 HK0.out).1;omega
 have hfn4:FnBox W4 bf:=by rw[←hW4];exact (setRow_other _ _ _ _ hne).trans hfn3
 have HF:Hid (w.heap.size≤bf∧FnBox W4 bf∧Below w.heap.size w W4):=⟨by have:=HB0.out.size;omega,hfn4,hb4⟩
 have HK4:=hI k4
 have m0:=Aaa k3 12
 have m1:=Aaa k3 13
 have m2:=Aaa k3 14
 simp at m0 m1 m2
 clear hone hone2 k2 k3 k3b k4 hb3 hb4 hfn3 hfn4 hfn hbf hbl b1 b2 hk1 hB1 hz1 hz2 hne hW3 hW4
 go_wp2_with (first|(refine wpList_store_run hrun rfl _ _ rfl rfl rfl ?_)|(refine wpList_store_run hrun2 rfl _ _ rfl rfl rfl ?_))
 refine bodyPost_ret (results_row_tmp rfl _ _ w.heap.size _ _ (0,0) _ rfl HK4.out Tryz.underlying67 rfl (by kernel_rfl)) rfl ?_
 exact⟨bf,rfl,HF.out.1,HF.out.2.1,HF.out.2.2⟩
theorem find20_5(w:World):Calls Tryz.prog 39 #[.int .i64 5] w fun e w'=>∃bf,e=.returned (.tuple #[.agg #[.string ⟨#[110,97,109,101,100]⟩,.func (.func 112) #[] #[],.bool false],.bool true])∧w.heap.size≤bf∧FnBox w' bf∧Below w.heap.size w w':=by
 obtain⟨W0,hW0⟩:∃W0,w.alloc (.cells #[.string ⟨#[]⟩,.nilFunc,.bool false] 67)=W0:=⟨_,rfl⟩
 have hb0:Below w.heap.size w W0:=by rw[←hW0];exact (Below.refl _ w).alloc (Aad _) _
 have k0:W0.heap[w.heap.size]?=some (.cells #[.string ⟨#[]⟩,.nilFunc,.bool false] 67 (0,0)):=by rw[←hW0];exact Aa5 w _
 have HM:=hI (methods_any W0)
 have HB0:=hI hb0
 have HK0:=hI k0
 clear hb0 k0
 go_enter Tryz.func39,Tryz.ntmps39
 go_wp2_with fail
 refine HM.out.mono ?_
 rintro e w1 ⟨bf,rfl,hbf,hbl,hfn,b1⟩
 have hk1:=(b1.block w.heap.size (Aab.1 HK0.out).1).trans HK0.out
 have hB1:=HB0.out.trans (b1.mono HB0.out.size)
 obtain⟨W2,hW2⟩:∃W2,w1.alloc (.cells #[.string ⟨#[]⟩,.nilFunc,.bool false,.string ⟨#[]⟩,.nilFunc,.bool false,.string ⟨#[]⟩,.nilFunc,.bool false,.string ⟨#[]⟩,.nilFunc,.bool false,.string ⟨#[]⟩,.nilFunc,.bool false,.string ⟨#[]⟩,.nilFunc,.bool false,.string ⟨#[]⟩,.nilFunc,.bool false] 101)=W2:=⟨_,rfl⟩
 have b2:Below w1.heap.size w1 W2:=by rw[←hW2];exact (Below.refl _ w1).alloc (Aad _) _
 have k2:W2.heap[w1.heap.size]?=some (.cells #[.string ⟨#[]⟩,.nilFunc,.bool false,.string ⟨#[]⟩,.nilFunc,.bool false,.string ⟨#[]⟩,.nilFunc,.bool false,.string ⟨#[]⟩,.nilFunc,.bool false,.string ⟨#[]⟩,.nilFunc,.bool false,.string ⟨#[]⟩,.nilFunc,.bool false,.string ⟨#[]⟩,.nilFunc,.bool false] 101 (0,0)):=by rw[←hW2];exact Aa5 w1 _
 have hone:∀u∈(tabM bf).toList,u.oneCell'=true:=by
  intro u hu
  simp at hu
  repeat' (rcases hu with rfl|hu)
  all_goals first|rfl|(subst hu;rfl)
 have hrun:=run_store_row W2 w1.heap.size 21 101 _ (tabM bf) (by kernel_rfl) k2 rfl rfl hone
 obtain⟨W3,hW3⟩:∃W3,W2.setRow w1.heap.size (tabM bf)=W3:=⟨_,rfl⟩
 rw[hW3] at hrun
 have hz1:w.heap.size<w1.heap.size:=(Aab.1 hk1).1
 have hz2:w1.heap.size<W2.heap.size:=(Aab.1 k2).1
 have k3:W3.heap[w1.heap.size]?=some (.cells (tabM bf) 101 (0,0)):=by rw[←hW3];exact setRow_heap W2 _ _ _ _ _ k2
 have k3b:W3.heap[w.heap.size]?=some (.cells #[.string ⟨#[]⟩,.nilFunc,.bool false] 67 (0,0)):=by rw[←hW3];exact (setRow_other _ _ _ _ (by omega)).trans ((b2.block _ hz1).trans hk1)
 have hb3:Below w.heap.size w W3:=by rw[←hW3];exact below_setRow (hB1.trans (b2.mono hB1.size)) (by omega) _
 have hfn3:FnBox W3 bf:=by rw[←hW3];exact (setRow_other _ _ _ _ (by omega)).trans ((b2.block _ hbl).trans hfn)
 have hone2:∀u∈(#[.string ⟨#[110,97,109,101,100]⟩,.func (.func 112) #[] #[],.bool false]:Array Value).toList,u.oneCell'=true:=by
  intro u hu
  simp at hu
  repeat' (rcases hu with rfl|hu)
  all_goals first|rfl|(subst hu;rfl)
 have hrun2:=run_store_row W3 w.heap.size 3 67 _ #[.string ⟨#[110,97,109,101,100]⟩,.func (.func 112) #[] #[],.bool false] (by kernel_rfl) k3b rfl rfl hone2
 obtain⟨W4,hW4⟩:∃W4,W3.setRow w.heap.size #[.string ⟨#[110,97,109,101,100]⟩,.func (.func 112) #[] #[],.bool false]=W4:=⟨_,rfl⟩
 rw[hW4] at hrun2
 have k4:W4.heap[w.heap.size]?=some (.cells #[.string ⟨#[110,97,109,101,100]⟩,.func (.func 112) #[] #[],.bool false] 67 (0,0)):=by rw[←hW4];exact setRow_heap W3 _ _ _ _ _ k3b
 have hb4:Below w.heap.size w W4:=by rw[←hW4];exact below_setRow hb3 (Aad _) _
 have hne:bf≠w.heap.size:=by have:=HB0.out.size;have:=(Aab.1 HK0.out).1;omega
 have hfn4:FnBox W4 bf:=by rw[←hW4];exact (setRow_other _ _ _ _ hne).trans hfn3
 have HF:Hid (w.heap.size≤bf∧FnBox W4 bf∧Below w.heap.size w W4):=⟨by have:=HB0.out.size;omega,hfn4,hb4⟩
 have HK4:=hI k4
 have m0:=Aaa k3 15
 have m1:=Aaa k3 16
 have m2:=Aaa k3 17
 simp at m0 m1 m2
 clear hone hone2 k2 k3 k3b k4 hb3 hb4 hfn3 hfn4 hfn hbf hbl b1 b2 hk1 hB1 hz1 hz2 hne hW3 hW4
 go_wp2_with (first|(refine wpList_store_run hrun rfl _ _ rfl rfl rfl ?_)|(refine wpList_store_run hrun2 rfl _ _ rfl rfl rfl ?_))
 refine bodyPost_ret (results_row_tmp rfl _ _ w.heap.size _ _ (0,0) _ rfl HK4.out Tryz.underlying67 rfl (by kernel_rfl)) rfl ?_
 exact⟨bf,rfl,HF.out.1,HF.out.2.1,HF.out.2.2⟩
theorem find20_6(w:World):Calls Tryz.prog 39 #[.int .i64 6] w fun e w'=>∃bf,e=.returned (.tuple #[.agg #[.string ⟨#[97,118,101,114,97,103,101]⟩,.func (.func 112) #[] #[],.bool false],.bool true])∧w.heap.size≤bf∧FnBox w' bf∧Below w.heap.size w w':=by
 obtain⟨W0,hW0⟩:∃W0,w.alloc (.cells #[.string ⟨#[]⟩,.nilFunc,.bool false] 67)=W0:=⟨_,rfl⟩
 have hb0:Below w.heap.size w W0:=by rw[←hW0];exact (Below.refl _ w).alloc (Aad _) _
 have k0:W0.heap[w.heap.size]?=some (.cells #[.string ⟨#[]⟩,.nilFunc,.bool false] 67 (0,0)):=by rw[←hW0];exact Aa5 w _
 have HM:=hI (methods_any W0)
 have HB0:=hI hb0
 have HK0:=hI k0
 clear hb0 k0
 go_enter Tryz.func39,Tryz.ntmps39
 go_wp2_with fail
 refine HM.out.mono ?_
 rintro e w1 ⟨bf,rfl,hbf,hbl,hfn,b1⟩
 have hk1:=(b1.block w.heap.size (Aab.1 HK0.out).1).trans HK0.out
 have hB1:=HB0.out.trans (b1.mono HB0.out.size)
 obtain⟨W2,hW2⟩:∃W2,w1.alloc (.cells #[.string ⟨#[]⟩,.nilFunc,.bool false,.string ⟨#[]⟩,.nilFunc,.bool false,.string ⟨#[]⟩,.nilFunc,.bool false,.string ⟨#[]⟩,.nilFunc,.bool false,.string ⟨#[]⟩,.nilFunc,.bool false,.string ⟨#[]⟩,.nilFunc,.bool false,.string ⟨#[]⟩,.nilFunc,.bool false] 101)=W2:=⟨_,rfl⟩
 have b2:Below w1.heap.size w1 W2:=by rw[←hW2];exact (Below.refl _ w1).alloc (Aad _) _
 have k2:W2.heap[w1.heap.size]?=some (.cells #[.string ⟨#[]⟩,.nilFunc,.bool false,.string ⟨#[]⟩,.nilFunc,.bool false,.string ⟨#[]⟩,.nilFunc,.bool false,.string ⟨#[]⟩,.nilFunc,.bool false,.string ⟨#[]⟩,.nilFunc,.bool false,.string ⟨#[]⟩,.nilFunc,.bool false,.string ⟨#[]⟩,.nilFunc,.bool false] 101 (0,0)):=by rw[←hW2];exact Aa5 w1 _
 have hone:∀u∈(tabM bf).toList,u.oneCell'=true:=by
  intro u hu
  simp at hu
  repeat' (rcases hu with rfl|hu)
  all_goals first|rfl|(subst hu;rfl)
 have hrun:=run_store_row W2 w1.heap.size 21 101 _ (tabM bf) (by kernel_rfl) k2 rfl rfl hone
 obtain⟨W3,hW3⟩:∃W3,W2.setRow w1.heap.size (tabM bf)=W3:=⟨_,rfl⟩
 rw[hW3] at hrun
 have hz1:w.heap.size<w1.heap.size:=(Aab.1 hk1).1
 have hz2:w1.heap.size<W2.heap.size:=(Aab.1 k2).1
 have k3:W3.heap[w1.heap.size]?=some (.cells (tabM bf) 101 (0,0)):=by rw[←hW3];exact setRow_heap W2 _ _ _ _ _ k2
 have k3b:W3.heap[w.heap.size]?=some (.cells #[.string ⟨#[]⟩,.nilFunc,.bool false] 67 (0,0)):=by rw[←hW3];exact (setRow_other _ _ _ _ (by omega)).trans ((b2.block _ hz1).trans hk1)
 have hb3:Below w.heap.size w W3:=by rw[←hW3];exact below_setRow (hB1.trans (b2.mono hB1.size)) (by omega) _
 have hfn3:FnBox W3 bf:=by rw[←hW3];exact (setRow_other _ _ _ _ (by omega)).trans ((b2.block _ hbl).trans hfn)
 have hone2:∀u∈(#[.string ⟨#[97,118,101,114,97,103,101]⟩,.func (.func 112) #[] #[],.bool false]:Array Value).toList,u.oneCell'=true:=by
  intro u hu
  simp at hu
  repeat' (rcases hu with rfl|hu)
  all_goals first|rfl|(subst hu;rfl)
 have hrun2:=run_store_row W3 w.heap.size 3 67 _ #[.string ⟨#[97,118,101,114,97,103,101]⟩,.func (.func 112) #[] #[],.bool false] (by kernel_rfl) k3b rfl rfl hone2
 obtain⟨W4,hW4⟩:∃W4,W3.setRow w.heap.size #[.string ⟨#[97,118,101,114,97,103,101]⟩,.func (.func 112) #[] #[],.bool false]=W4:=⟨_,rfl⟩
 rw[hW4] at hrun2
 have k4:W4.heap[w.heap.size]?=some (.cells #[.string ⟨#[97,118,101,114,97,103,101]⟩,.func (.func 112) #[] #[],.bool false] 67 (0,0)):=by rw[←hW4];exact setRow_heap W3 _ _ _ _ _ k3b
 have hb4:Below w.heap.size w W4:=by rw[←hW4];exact below_setRow hb3 (Aad _) _
 have hne:bf≠w.heap.size:=by have:=HB0.out.size;have:=(Aab.1 HK0.out).1;omega
 have hfn4:FnBox W4 bf:=by rw[←hW4];exact (setRow_other _ _ _ _ hne).trans hfn3
 have HF:Hid (w.heap.size≤bf∧FnBox W4 bf∧Below w.heap.size w W4):=⟨by have:=HB0.out.size;omega,hfn4,hb4⟩
 have HK4:=hI k4
 have m0:=Aaa k3 18
 have m1:=Aaa k3 19
 have m2:=Aaa k3 20
 simp at m0 m1 m2
 clear hone hone2 k2 k3 k3b k4 hb3 hb4 hfn3 hfn4 hfn hbf hbl b1 b2 hk1 hB1 hz1 hz2 hne hW3 hW4
 go_wp2_with (first|(refine wpList_store_run hrun rfl _ _ rfl rfl rfl ?_)|(refine wpList_store_run hrun2 rfl _ _ rfl rfl rfl ?_))
 refine bodyPost_ret (results_row_tmp rfl _ _ w.heap.size _ _ (0,0) _ rfl HK4.out Tryz.underlying67 rfl (by kernel_rfl)) rfl ?_
 exact⟨bf,rfl,HF.out.1,HF.out.2.1,HF.out.2.2⟩
theorem find20_yes(m:Int)(h1:1≤m)(h6:m≤6)(w:World):Calls Tryz.prog 39 #[.int .i64 m] w fun e w'=>∃bf,e=.returned (.tuple #[.agg (entM m bf),.bool true])∧w.heap.size≤bf∧FnBox w' bf∧Below w.heap.size w w':=by
 rcases (show m=1∨m=2∨m=3∨m=4∨m=5∨m=6 from by omega) with rfl|rfl|rfl|rfl|rfl|rfl
 ·refine (find20_1 w).mono ?_
  rintro e w' ⟨bf,rfl,h⟩
  exact⟨bf,rfl,h⟩
 ·refine (find20_2 w).mono ?_
  rintro e w' ⟨bf,rfl,h⟩
  exact⟨bf,rfl,h⟩
 ·refine (find20_3 w).mono ?_
  rintro e w' ⟨bf,rfl,h⟩
  exact⟨bf,rfl,h⟩
 ·refine (find20_4 w).mono ?_
  rintro e w' ⟨bf,rfl,h⟩
  exact⟨bf,rfl,h⟩
 ·refine (find20_5 w).mono ?_
  rintro e w' ⟨bf,rfl,h⟩
  exact⟨bf,rfl,h⟩
 ·refine (find20_6 w).mono ?_
  rintro e w' ⟨bf,rfl,h⟩
  exact⟨bf,rfl,h⟩
theorem find20_no(m:Int)(hm:¬(1≤m∧m≤6))(w:World):Calls Tryz.prog 39 #[.int .i64 m] w fun e w'=>e=.returned (.tuple #[.agg #[.string ⟨#[]⟩,.nilFunc,.bool false],.bool false])∧Below w.heap.size w w':=by
 obtain⟨W0,hW0⟩:∃W0,w.alloc (.cells #[.string ⟨#[]⟩,.nilFunc,.bool false] 67)=W0:=⟨_,rfl⟩
 have hb0:Below w.heap.size w W0:=by rw[←hW0];exact (Below.refl _ w).alloc (Aad _) _
 have k0:W0.heap[w.heap.size]?=some (.cells #[.string ⟨#[]⟩,.nilFunc,.bool false] 67 (0,0)):=by rw[←hW0];exact Aa5 w _
 have HM:=hI (methods_any W0)
 have HB0:=hI hb0
 have HK0:=hI k0
 clear hb0 k0
 go_enter Tryz.func39,Tryz.ntmps39
 go_wp2_with fail
 refine HM.out.mono ?_
 rintro e w1 ⟨bf,rfl,hbf,hbl,hfn,b1⟩
 have hk1:=(b1.block w.heap.size (Aab.1 HK0.out).1).trans HK0.out
 have hB1:=HB0.out.trans (b1.mono HB0.out.size)
 obtain⟨W2,hW2⟩:∃W2,w1.alloc (.cells #[.string ⟨#[]⟩,.nilFunc,.bool false,.string ⟨#[]⟩,.nilFunc,.bool false,.string ⟨#[]⟩,.nilFunc,.bool false,.string ⟨#[]⟩,.nilFunc,.bool false,.string ⟨#[]⟩,.nilFunc,.bool false,.string ⟨#[]⟩,.nilFunc,.bool false,.string ⟨#[]⟩,.nilFunc,.bool false] 101)=W2:=⟨_,rfl⟩
 have b2:Below w1.heap.size w1 W2:=by rw[←hW2];exact (Below.refl _ w1).alloc (Aad _) _
 have k2:W2.heap[w1.heap.size]?=some (.cells #[.string ⟨#[]⟩,.nilFunc,.bool false,.string ⟨#[]⟩,.nilFunc,.bool false,.string ⟨#[]⟩,.nilFunc,.bool false,.string ⟨#[]⟩,.nilFunc,.bool false,.string ⟨#[]⟩,.nilFunc,.bool false,.string ⟨#[]⟩,.nilFunc,.bool false,.string ⟨#[]⟩,.nilFunc,.bool false] 101 (0,0)):=by rw[←hW2];exact Aa5 w1 _
 have hone:∀u∈(tabM bf).toList,u.oneCell'=true:=by
  intro u hu
  simp at hu
  repeat' (rcases hu with rfl|hu)
  all_goals first|rfl|(subst hu;rfl)
 have hrun:=run_store_row W2 w1.heap.size 21 101 _ (tabM bf) (by kernel_rfl) k2 rfl rfl hone
 obtain⟨W3,hW3⟩:∃W3,W2.setRow w1.heap.size (tabM bf)=W3:=⟨_,rfl⟩
 rw[hW3] at hrun
 have hz1:w.heap.size<w1.heap.size:=(Aab.1 hk1).1
 have hz2:w1.heap.size<W2.heap.size:=(Aab.1 k2).1
 have k3:W3.heap[w1.heap.size]?=some (.cells (tabM bf) 101 (0,0)):=by rw[←hW3];exact setRow_heap W2 _ _ _ _ _ k2
 have k3b:W3.heap[w.heap.size]?=some (.cells #[.string ⟨#[]⟩,.nilFunc,.bool false] 67 (0,0)):=by rw[←hW3];exact (setRow_other _ _ _ _ (by omega)).trans ((b2.block _ hz1).trans hk1)
 have hb3:Below w.heap.size w W3:=by rw[←hW3];exact below_setRow (hB1.trans (b2.mono hB1.size)) (by omega) _
 have hfn3:FnBox W3 bf:=by rw[←hW3];exact (setRow_other _ _ _ _ (by omega)).trans ((b2.block _ hbl).trans hfn)
 by_cases h1:m<1
 ·have t1:decide (m<1)=true:=Aa3 h1
  clear h1 hm
  have hone2:∀u∈(#[.string ⟨#[]⟩,.nilFunc,.bool false]:Array Value).toList,u.oneCell'=true:=by
   intro u hu
   simp at hu
   repeat' (rcases hu with rfl|hu)
   all_goals first|rfl|(subst hu;rfl)
  have hrun2:=run_store_row W3 w.heap.size 3 67 _ #[.string ⟨#[]⟩,.nilFunc,.bool false] (by kernel_rfl) k3b rfl rfl hone2
  obtain⟨W4,hW4⟩:∃W4,W3.setRow w.heap.size #[.string ⟨#[]⟩,.nilFunc,.bool false]=W4:=⟨_,rfl⟩
  rw[hW4] at hrun2
  have k4:W4.heap[w.heap.size]?=some (.cells #[.string ⟨#[]⟩,.nilFunc,.bool false] 67 (0,0)):=by rw[←hW4];exact setRow_heap W3 _ _ _ _ _ k3b
  have hb4:Below w.heap.size w W4:=by rw[←hW4];exact below_setRow hb3 (Aad _) _
  have hne:bf≠w.heap.size:=by have:=HB0.out.size;have:=(Aab.1 HK0.out).1;omega
  have hfn4:FnBox W4 bf:=by rw[←hW4];exact (setRow_other _ _ _ _ hne).trans hfn3
  have HF:Hid (w.heap.size≤bf∧FnBox W4 bf∧Below w.heap.size w W4):=⟨by have:=HB0.out.size;omega,hfn4,hb4⟩
  have HK4:=hI k4
  clear hone hone2 k2 k3 k3b k4 hb3 hb4 hfn3 hfn4 hfn hbf hbl b1 b2 hk1 hB1 hz1 hz2 hne hW3 hW4
  go_wp2_with (first|(refine wpList_store_run hrun rfl _ _ rfl rfl rfl ?_)|(refine wpList_store_run hrun2 rfl _ _ rfl rfl rfl ?_))
  refine bodyPost_ret (results_row_tmp rfl _ _ w.heap.size _ _ (0,0) _ rfl HK4.out Tryz.underlying67 rfl (by kernel_rfl)) rfl ?_
  exact⟨rfl,HF.out.2.2⟩
 ·have t1:decide (m<1)=false:=Aa4 h1
  have t2:decide (m≥7)=true:=Aa3 (by omega)
  have t3:decide (7≤m)=true:=t2
  clear h1 hm
  have hone2:∀u∈(#[.string ⟨#[]⟩,.nilFunc,.bool false]:Array Value).toList,u.oneCell'=true:=by
   intro u hu
   simp at hu
   repeat' (rcases hu with rfl|hu)
   all_goals first|rfl|(subst hu;rfl)
  have hrun2:=run_store_row W3 w.heap.size 3 67 _ #[.string ⟨#[]⟩,.nilFunc,.bool false] (by kernel_rfl) k3b rfl rfl hone2
  obtain⟨W4,hW4⟩:∃W4,W3.setRow w.heap.size #[.string ⟨#[]⟩,.nilFunc,.bool false]=W4:=⟨_,rfl⟩
  rw[hW4] at hrun2
  have k4:W4.heap[w.heap.size]?=some (.cells #[.string ⟨#[]⟩,.nilFunc,.bool false] 67 (0,0)):=by rw[←hW4];exact setRow_heap W3 _ _ _ _ _ k3b
  have hb4:Below w.heap.size w W4:=by rw[←hW4];exact below_setRow hb3 (Aad _) _
  have hne:bf≠w.heap.size:=by have:=HB0.out.size;have:=(Aab.1 HK0.out).1;omega
  have hfn4:FnBox W4 bf:=by rw[←hW4];exact (setRow_other _ _ _ _ hne).trans hfn3
  have HF:Hid (w.heap.size≤bf∧FnBox W4 bf∧Below w.heap.size w W4):=⟨by have:=HB0.out.size;omega,hfn4,hb4⟩
  have HK4:=hI k4
  clear hone hone2 k2 k3 k3b k4 hb3 hb4 hfn3 hfn4 hfn hbf hbl b1 b2 hk1 hB1 hz1 hz2 hne hW3 hW4
  go_wp2_with (first|(refine wpList_store_run hrun rfl _ _ rfl rfl rfl ?_)|(refine wpList_store_run hrun2 rfl _ _ rfl rfl rfl ?_))
  refine bodyPost_ret (results_row_tmp rfl _ _ w.heap.size _ _ (0,0) _ rfl HK4.out Tryz.underlying67 rfl (by kernel_rfl)) rfl ?_
  exact⟨rfl,HF.out.2.2⟩
end Go.Proofs.YtcmgmemffncbhabGreatDoor
