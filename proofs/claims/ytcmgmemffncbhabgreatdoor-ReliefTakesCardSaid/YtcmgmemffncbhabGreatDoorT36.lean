/-
  The table of relief's methods. (Printed by gen_rel2.py.)
-/
import Derived.Test.YtcmgmemffncbhabGreatDoorT32
import Derived.Laws.EntriesVeiled
import Derived.Deep.Upon
set_option linter.unusedVariables false
set_option linter.unusedSimpArgs false
set_option maxHeartbeats 16000000
set_option maxRecDepth 100000
namespace Go.Proofs.YtcmgmemffncbhabGreatDoor
open Go.RowKit Tr Go.Shelf
def FnBox(W:World)(bf:Nat):Prop:=W.heap[bf]?=some (.cells #[.func (.func 112) #[] #[]] 65 (0,0))
abbrev tabM(bf:Nat):Array Value:=#[.string ⟨#[]⟩,.nilFunc,.bool false,.string ⟨#[102,105,102,111]⟩,.func (.func 112) #[] #[],.bool false,.string ⟨#[108,105,102,111]⟩,.func (.func 112) #[] #[],.bool true,.string ⟨#[104,105,103,104,101,115,116]⟩,.func (.func 117) #[] #[.pointer (some ⟨bf,0,none⟩)],.bool false,.string ⟨#[108,111,119,101,115,116]⟩,.func (.func 114) #[] #[.pointer (some ⟨bf,0,none⟩)],.bool false,.string ⟨#[110,97,109,101,100]⟩,.func (.func 112) #[] #[],.bool false,.string ⟨#[97,118,101,114,97,103,101]⟩,.func (.func 112) #[] #[],.bool false]
theorem wpList_store_run{P:Program}{ops:Array Oper}{rest:List Oper}{o:Oper}{a:Act}{Q:Exit→Act→World→Prop}{t:TypeId}{pv xv:Value}{w w':World}(hr:(Instr.storeAt t pv xv).run P w=.ok () w')(hgd:o.guard=none)(p x:Operand)
 (ho:o.op=.store t p x) (hp:a.eval p=pv) (hx:a.eval x=xv) (h:wpList P ops Q rest (a.put o.dst undef) w'):wpList P ops Q (o::rest) a w :=
 wpList_plain hgd fun _ hK=>by
  unfold Oper.wp execOp
  simp only[ho,hp,hx,Sem.run_bind,Sem.run_pure,Result.andThen_ok,hr]
  exact hK _ _ h
theorem oper_store_run{P:Program}{o:Oper}{a:Act}{K:Act→World→Prop}{Q:Exit→Act→World→Prop}{t:TypeId}{pv xv:Value}{w w':World}(hr:(Instr.storeAt t pv xv).run P w=.ok () w')(p x:Operand)
 (ho:o.op=.store t p x) (hp:a.eval p=pv) (hx:a.eval x=xv) (h:K (a.put o.dst undef) w'):Oper.wp P o a w K Q:=by
 unfold Oper.wp execOp
 simp only[ho,hp,hx,Sem.run_bind,Sem.run_pure,Result.andThen_ok,hr]
 exact h
theorem run_store_row(W:World)(B n:Nat)(t:TypeId)(cur vals:Array Value)(hz:(sizeOf t).run Tryz.prog W=.ok n W)(hB:W.heap[B]?=some (.cells cur t (0,0)))(hc:cur.size=n)(hv:vals.size=n)(h1:∀u∈vals.toList,u.oneCell'=true):
 (Instr.storeAt t (.pointer (some ⟨B,0,none⟩)) (.agg vals)).run Tryz.prog W=.ok () (W.setRow B vals):=by
 have hs:=run_storeCells_at (P:=Tryz.prog) B 0 t vals.toList 0 cur W hB (by simp[hc,hv]) h1
 simp only[Nat.zero_add,List.take_zero,List.nil_append,Array.length_toList] at hs
 rw[List.drop_eq_nil_of_le (by simp[hc,hv]),List.append_nil,Array.toArray_toList] at hs
 unfold Instr.storeAt storeVar
 simp only[Sem.run_bind,Instr.sureAddr,Sem.run_pure,Result.andThen_ok,hz]
 rw[if_neg (by show ¬vals.size≠n;exact fun h=>h hv)]
 exact hs
theorem below_setRow{B0 B:Nat}{w W:World}(h:Below B0 w W)(hB:B0≤B)(vals:Array Value):Below B0 w (W.setRow B vals) :=
 ⟨h.os,h.tape,h.output,by simp[World.setRow];exact h.size,fun k hk=>by rw[setRow_other _ B k _ (by omega)];exact h.block k hk⟩
theorem build_entry(nm:ByteArray)(i:Nat)(bd:Array Value)(b:Bool)(W:World):(Instr.build 67 #[(0,.string nm),(1,.func (.func i) #[] bd),(2,.bool b)]).run Tryz.prog W=.ok (.agg #[.string nm,.func (.func i) #[] bd,.bool b]) W:=run_build W _ _ _ (by kernel_rfl)
theorem build_table(n1 n2 n3 n4 n5 n6:ByteArray)(i1 i2 i3 i4 i5 i6:Nat)(b1 b2 b3 b4 b5 b6:Array Value)(r1 r2 r3 r4 r5 r6:Bool)(W:World):(Instr.build 101 #[(1,.agg #[.string n1,.func (.func i1) #[] b1,.bool r1]),(2,.agg #[.string n2,.func (.func i2) #[] b2,.bool r2]),(3,.agg #[.string n3,.func (.func i3) #[] b3,.bool r3]),(4,.agg #[.string n4,.func (.func i4) #[] b4,.bool r4]),(5,.agg #[.string n5,.func (.func i5) #[] b5,.bool r5]),(6,.agg #[.string n6,.func (.func i6) #[] b6,.bool r6])]).run Tryz.prog W=.ok (.agg #[.string ⟨#[]⟩,.nilFunc,.bool false,.string n1,.func (.func i1) #[] b1,.bool r1,.string n2,.func (.func i2) #[] b2,.bool r2,.string n3,.func (.func i3) #[] b3,.bool r3,.string n4,.func (.func i4) #[] b4,.bool r4,.string n5,.func (.func i5) #[] b5,.bool r5,.string n6,.func (.func i6) #[] b6,.bool r6]) W:=run_build W _ _ _ (by kernel_rfl)
attribute [local go_sem] build_entry build_table
theorem methods_any(w:World):Calls Tryz.prog 77 #[] w fun e w'=>∃bf,e=.returned (.agg (tabM bf))∧w.heap.size≤bf∧bf<w'.heap.size∧FnBox w' bf∧Below w.heap.size w w':=by
 obtain⟨W0,hW0',hB0,hz,k0,k1⟩:=box2 w (.cells #[.string ⟨#[]⟩,.nilFunc,.bool false,.string ⟨#[]⟩,.nilFunc,.bool false,.string ⟨#[]⟩,.nilFunc,.bool false,.string ⟨#[]⟩,.nilFunc,.bool false,.string ⟨#[]⟩,.nilFunc,.bool false,.string ⟨#[]⟩,.nilFunc,.bool false,.string ⟨#[]⟩,.nilFunc,.bool false] 101) (.cells #[.nilFunc] 65)
 have hW0:=hW0'.symm
 have a0:=Aaa k1 0
 have f0:=Aaf k1 0
 simp at a0
 obtain⟨W1,hW1⟩:∃W1,W0.setCell ⟨w.heap.size+1,0,none⟩ (.func (.func 112) #[] #[])=W1:=⟨_,rfl⟩
 have k2:FnBox W1 (w.heap.size+1):=by rw[←hW1];exact Boxed.set _ k1
 have k3:W1.heap[w.heap.size]?=some (.cells #[.string ⟨#[]⟩,.nilFunc,.bool false,.string ⟨#[]⟩,.nilFunc,.bool false,.string ⟨#[]⟩,.nilFunc,.bool false,.string ⟨#[]⟩,.nilFunc,.bool false,.string ⟨#[]⟩,.nilFunc,.bool false,.string ⟨#[]⟩,.nilFunc,.bool false,.string ⟨#[]⟩,.nilFunc,.bool false] 101):=by rw[←hW1];exact (Below.heap_setCell _ _ _ _ (by simp)).trans k0
 have HB1:Hid (Below w.heap.size w W1):=by rw[←hW1];exact hB0.setCell (p:=⟨w.heap.size+1,0,none⟩) (by simp) _
 have b0:=Aaa k2 0
 simp at b0
 have c0:=Aaa k3 0
 have c1:=Aaa k3 1
 have c2:=Aaa k3 2
 have c3:=Aaa k3 3
 have c4:=Aaa k3 4
 have c5:=Aaa k3 5
 have c6:=Aaa k3 6
 have c7:=Aaa k3 7
 have c8:=Aaa k3 8
 have c9:=Aaa k3 9
 have c10:=Aaa k3 10
 have c11:=Aaa k3 11
 have c12:=Aaa k3 12
 have c13:=Aaa k3 13
 have c14:=Aaa k3 14
 have c15:=Aaa k3 15
 have c16:=Aaa k3 16
 have c17:=Aaa k3 17
 have c18:=Aaa k3 18
 have c19:=Aaa k3 19
 have c20:=Aaa k3 20
 simp at c0 c1 c2 c3 c4 c5 c6 c7 c8 c9 c10 c11 c12 c13 c14 c15 c16 c17 c18 c19 c20
 have g0:=Aaf k3 0
 have g1:=Aaf k3 1
 have g2:=Aaf k3 2
 have g3:=Aaf k3 3
 have g4:=Aaf k3 4
 have g5:=Aaf k3 5
 have g6:=Aaf k3 6
 have g7:=Aaf k3 7
 have g8:=Aaf k3 8
 have g9:=Aaf k3 9
 have g10:=Aaf k3 10
 have g11:=Aaf k3 11
 have g12:=Aaf k3 12
 have g13:=Aaf k3 13
 have g14:=Aaf k3 14
 have g15:=Aaf k3 15
 have g16:=Aaf k3 16
 have g17:=Aaf k3 17
 have g18:=Aaf k3 18
 have g19:=Aaf k3 19
 have g20:=Aaf k3 20
 have hone:∀u∈(tabM (w.heap.size+1)).toList,u.oneCell'=true:=by
  intro u hu
  simp at hu
  repeat' (rcases hu with rfl|hu)
  all_goals first|rfl|(subst hu;rfl)
 have hrun:=run_store_row W1 w.heap.size 21 101 _ (tabM (w.heap.size+1)) (by kernel_rfl) k3 rfl rfl hone
 obtain⟨WF,hWF⟩:∃WF,W1.setRow w.heap.size (tabM (w.heap.size+1))=WF:=⟨_,rfl⟩
 rw[hWF] at hrun
 have K2:=hI k2
 have K3:=hI k3
 have HSZ0:Hid True:=trivial
 have HSZ:Hid (w.heap.size+1<W1.heap.size):=by rw[←hW1];show w.heap.size+1<(W0.setCell _ _).heap.size;have h0:=hz;have h1:=(KeepsWalks.setCell W0 ⟨w.heap.size+1,0,none⟩ (.func (.func 112) #[] #[])).size;omega
 have k4:WF.heap[w.heap.size]?=some (.cells (tabM (w.heap.size+1)) 101 (0,0)):=by rw[←hWF];exact setRow_heap W1 w.heap.size _ _ _ _ k3
 have k5:FnBox WF (w.heap.size+1):=by rw[←hWF];exact (setRow_other _ _ _ _ (by omega)).trans k2
 have k6:Below w.heap.size w WF:=by rw[←hWF];exact below_setRow HB1.out (Aad _) _
 have HF:Hid (w.heap.size+1<WF.heap.size∧FnBox WF (w.heap.size+1)∧Below w.heap.size w WF):=⟨(Aab.1 k5).1,k5,k6⟩
 have HK4:=hI k4
 clear hB0 hz k0 k1 k2 k3 hW0' hWF hone k4 k5 k6
 go_enter Tryz.func77,Tryz.ntmps77
 go_upto_region 4 with fail
 iterate 41 (first|go_values|go_skip|go_guarded|go_step)
 refine oper_store_run hrun _ _ rfl rfl rfl ?_
 clear hrun
 rename_i ha
 refine ha _ _ ?_
 clear ha
 simp only[Act.put]
 iterate 14 (try (first|go_values|go_skip|go_guarded|go_step))
 refine bodyPost_ret (results_cell_row rfl _ _ w.heap.size _ _ (0,0) _ rfl HK4.out Tryz.underlying101 rfl (by kernel_rfl)) rfl ?_
 exact⟨_,rfl,by omega,HF.out.1,HF.out.2.1,HF.out.2.2⟩
end Go.Proofs.YtcmgmemffncbhabGreatDoor
