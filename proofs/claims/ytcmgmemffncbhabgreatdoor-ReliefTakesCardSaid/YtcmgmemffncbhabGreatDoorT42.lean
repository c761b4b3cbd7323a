/-
  An instrument and a lot,opened out of an argument's reading. (Printed by gen_card1.py.)
-/
import Derived.Test.YtcmgmemffncbhabGreatDoorT41
import Derived.Test.YtcmgmemffncbhabGreatDoorT19
set_option linter.unusedVariables false
set_option linter.unusedSimpArgs false
set_option maxHeartbeats 16000000
set_option maxRecDepth 100000
namespace Go.Proofs.YtcmgmemffncbhabGreatDoor
open Go.RowKit Tr Go.Shelf Go.ChangeShapes Go.WideShapes Go.ChangeAt
set_option maxRecDepth 100000
theorem Av5{H:Type}{enc:TypeId×Value→H}{W:World}{b:Nat}{sp:Nat→Bool}{held:Bool}{fuel:Nat}{l:List Value}{x:DataW H×List MemPlace}(h:DataW.trod enc Tryz.prog W b sp held fuel 38 l=some x):∃i:Lot,l=i.cells.toList:=by
 obtain⟨xs,n,_,_,hlen,hxs,hel⟩:=DataW.trod_struct Tryz.underlying38 h
 have hC:Tryz.prog.cellsOf 38=7:=by kernel_rfl
 have k1:Tryz.prog.cellsOf 9=1:=by kernel_rfl
 have k2:Tryz.prog.cellsOf 3=1:=by kernel_rfl
 have k3:Tryz.prog.cellsOf 36=1:=by kernel_rfl
 have k4:Tryz.prog.cellsOf 23=1:=by kernel_rfl
 have k5:Tryz.prog.cellsOf 112=2:=by kernel_rfl
 rw[hC] at hlen
 match l,hlen with
 | [c0,c1,c2,c3,c4,c5,c6],_ =>
   have f0:DataW.trod enc Tryz.prog W b sp held n 9 (([c0,c1,c2,c3,c4,c5,c6].drop 0).take (Tryz.prog.cellsOf 9))=xs[0]?:=hel 0 _ rfl
   obtain⟨y0,e0⟩:∃y,xs[0]?=some y:=⟨_,Aae (by rw[hxs];decide)⟩
   rw[e0,k1] at f0
   simp only[List.drop_succ_cons,List.drop_zero,List.take_succ_cons,List.take_zero] at f0
   obtain⟨n0,g0,_,_⟩:=DataW.trod_string Tryz.underlying9 f0
   simp only[List.cons.injEq,and_true] at g0
   have f1:DataW.trod enc Tryz.prog W b sp held n 9 (([c0,c1,c2,c3,c4,c5,c6].drop 1).take (Tryz.prog.cellsOf 9))=xs[1]?:=hel 1 _ rfl
   obtain⟨y1,e1⟩:∃y,xs[1]?=some y:=⟨_,Aae (by rw[hxs];decide)⟩
   rw[e1,k1] at f1
   simp only[List.drop_succ_cons,List.drop_zero,List.take_succ_cons,List.take_zero] at f1
   obtain⟨n1,g1,_,_⟩:=DataW.trod_string Tryz.underlying9 f1
   simp only[List.cons.injEq,and_true] at g1
   have f2:DataW.trod enc Tryz.prog W b sp held n 36 (([c0,c1,c2,c3,c4,c5,c6].drop 2).take (Tryz.prog.cellsOf 36))=xs[2]?:=hel 2 _ rfl
   obtain⟨y2,e2⟩:∃y,xs[2]?=some y:=⟨_,Aae (by rw[hxs];decide)⟩
   rw[e2,k3] at f2
   simp only[List.drop_succ_cons,List.drop_zero,List.take_succ_cons,List.take_zero] at f2
   obtain⟨n2,g2,_,_⟩:=DataW.trod_int Tryz.underlying36 f2
   simp only[List.cons.injEq,and_true] at g2
   have f3:DataW.trod enc Tryz.prog W b sp held n 36 (([c0,c1,c2,c3,c4,c5,c6].drop 3).take (Tryz.prog.cellsOf 36))=xs[3]?:=hel 3 _ rfl
   obtain⟨y3,e3⟩:∃y,xs[3]?=some y:=⟨_,Aae (by rw[hxs];decide)⟩
   rw[e3,k3] at f3
   simp only[List.drop_succ_cons,List.drop_zero,List.take_succ_cons,List.take_zero] at f3
   obtain⟨n3,g3,_,_⟩:=DataW.trod_int Tryz.underlying36 f3
   simp only[List.cons.injEq,and_true] at g3
   have f4:DataW.trod enc Tryz.prog W b sp held n 23 (([c0,c1,c2,c3,c4,c5,c6].drop 4).take (Tryz.prog.cellsOf 23))=xs[4]?:=hel 4 _ rfl
   obtain⟨y4,e4⟩:∃y,xs[4]?=some y:=⟨_,Aae (by rw[hxs];decide)⟩
   rw[e4,k4] at f4
   simp only[List.drop_succ_cons,List.drop_zero,List.take_succ_cons,List.take_zero] at f4
   obtain⟨n4,g4,_,_⟩:=DataW.trod_string Tryz.underlying23 f4
   simp only[List.cons.injEq,and_true] at g4
   have f5:DataW.trod enc Tryz.prog W b sp held n 23 (([c0,c1,c2,c3,c4,c5,c6].drop 5).take (Tryz.prog.cellsOf 23))=xs[5]?:=hel 5 _ rfl
   obtain⟨y5,e5⟩:∃y,xs[5]?=some y:=⟨_,Aae (by rw[hxs];decide)⟩
   rw[e5,k4] at f5
   simp only[List.drop_succ_cons,List.drop_zero,List.take_succ_cons,List.take_zero] at f5
   obtain⟨n5,g5,_,_⟩:=DataW.trod_string Tryz.underlying23 f5
   simp only[List.cons.injEq,and_true] at g5
   have f6:DataW.trod enc Tryz.prog W b sp held n 23 (([c0,c1,c2,c3,c4,c5,c6].drop 6).take (Tryz.prog.cellsOf 23))=xs[6]?:=hel 6 _ rfl
   obtain⟨y6,e6⟩:∃y,xs[6]?=some y:=⟨_,Aae (by rw[hxs];decide)⟩
   rw[e6,k4] at f6
   simp only[List.drop_succ_cons,List.drop_zero,List.take_succ_cons,List.take_zero] at f6
   obtain⟨n6,g6,_,_⟩:=DataW.trod_string Tryz.underlying23 f6
   simp only[List.cons.injEq,and_true] at g6
   exact⟨⟨n0,n1,n2,n3,n4,n5,n6⟩,by simp only[g0,g1,g2,g3,g4,g5,g6]⟩
end Go.Proofs.YtcmgmemffncbhabGreatDoor
