/-
  The walks of daycount.over,conventions,find,check,Fraction. (Printed by gen_bd7.py.)
-/
import Derived.Test.YtcnmoobojdopgaaGreatDoorI21
import Derived.Test.YtcnmoobojdopgaaGreatDoorI25
import Derived.Laws.Rows
import Derived.Laws.ResultCell
set_option linter.unusedVariables false
set_option linter.unusedSimpArgs false
set_option maxHeartbeats 16000000
set_option maxRecDepth 100000
namespace Go.Proofs.YtcnmoobojdopgaaGreatDoor
open Go.RowKit Tr Go.Shelf
theorem Arx(i j:Nat)(b c:Array Value)(W:World):(Instr.build 196 #[(0,.func (.func i) #[] b),(1,.func (.func j) #[] c)]).run Tryz.prog W=.ok (.agg #[.func (.func i) #[] b,.func (.func j) #[] c]) W:=run_build W _ _ _ (by kernel_rfl)
attribute [local go_sem] Arx
theorem Ary(n:Nat)(bd:Array Value)(yr:Int)(w:World):Calls Tryz.prog 311 #[.func (.func n) #[] bd,.int .i64 yr] w fun e w'=>∃b y,e=.returned (.agg #[.func (.func n) #[] bd,.func (.func 331) #[] #[.pointer (some ⟨b,0,none⟩),.pointer (some ⟨y,0,none⟩)]])∧Boxed w' b 194 (.func (.func n) #[] bd)∧Boxed w' y 3 (.int .i64 yr)∧Below w.heap.size w w':=by
 obtain⟨W0,hW0',hB0,hz,k0,k1,k2⟩:=box3 w (.cells #[.func (.func n) #[] bd] 194) (.cells #[.int .i64 yr] 3) (.cells #[.nilFunc,.nilFunc] 196)
 have hW0:=hW0'.symm
 have a0:=Aaa k0 0
 have a1:=Aaa k1 0
 have c0:=Aaa k2 0
 have c1:=Aaa k2 1
 have f0:=Aaf k2 0
 have f1:=Aaf k2 1
 simp at a0 a1 c0 c1 f0 f1
 have HB0:=hI hB0
 have K0:=hI k0
 have K1:=hI k1
 have K2:=hI k2
 clear hB0 k0 k1 k2 hz hW0'
 go_enter Tryz.func311,Tryz.ntmps311
 go_wp2_with fail
 have j2:=Go.Proofs.YtcnmoobojdopgaaGreatDoor.set2 K2.out (.func (.func n) #[] bd) (.func (.func 331) #[] #[.pointer (some ⟨w.heap.size,0,none⟩),.pointer (some ⟨w.heap.size+1,0,none⟩)])
 have j0:=Aaa j2 0
 have j1:=Aaa j2 1
 simp at j0 j1
 refine bodyPost_ret (v:=.agg #[.func (.func n) #[] bd,.func (.func 331) #[] #[.pointer (some ⟨w.heap.size,0,none⟩),.pointer (some ⟨w.heap.size+1,0,none⟩)]]) (by simp[results,Tryz.results311,go_sem,j0,j1]) rfl ?_
 exact⟨_,_,rfl,(Ahc (by omega) _ _).trans K0.out,(Ahc (by omega) _ _).trans K1.out,Ahd (by omega) HB0.out _ _⟩
abbrev tabC(b1 y1 b2 y2 t3 b3 y3 t4 b4 y4:Nat):Array Value:=#[.nilFunc,.nilFunc,.func (.func 312) #[] #[],.func (.func 331) #[] #[.pointer (some ⟨b1,0,none⟩),.pointer (some ⟨y1,0,none⟩)],.func (.func 312) #[] #[],.func (.func 331) #[] #[.pointer (some ⟨b2,0,none⟩),.pointer (some ⟨y2,0,none⟩)],.func (.func 333) #[] #[.pointer (some ⟨t3,0,none⟩)],.func (.func 331) #[] #[.pointer (some ⟨b3,0,none⟩),.pointer (some ⟨y3,0,none⟩)],.func (.func 333) #[] #[.pointer (some ⟨t4,0,none⟩)],.func (.func 331) #[] #[.pointer (some ⟨b4,0,none⟩),.pointer (some ⟨y4,0,none⟩)],.func (.func 312) #[] #[],.func (.func 316) #[] #[]]
structure CvB(b1 y1 b2 y2 t3 b3 y3 t4 b4 y4:Nat)(W:World):Prop where
 b1x:Boxed W b1 194 (.func (.func 312) #[] #[])
 y1x:Boxed W y1 3 (.int .i64 360)
 b2x:Boxed W b2 194 (.func (.func 312) #[] #[])
 y2x:Boxed W y2 3 (.int .i64 365)
 t3x:Boxed W t3 313 (.func (.func 314) #[] #[])
 b3x:Boxed W b3 194 (.func (.func 333) #[] #[.pointer (some ⟨t3,0,none⟩)])
 y3x:Boxed W y3 3 (.int .i64 360)
 t4x:Boxed W t4 313 (.func (.func 315) #[] #[])
 b4x:Boxed W b4 194 (.func (.func 333) #[] #[.pointer (some ⟨t4,0,none⟩)])
 y4x:Boxed W y4 3 (.int .i64 360)
theorem CvB.below{b1 y1 b2 y2 t3 b3 y3 t4 b4 y4:Nat}{W W':World}(h:CvB b1 y1 b2 y2 t3 b3 y3 t4 b4 y4 W)(hb:Below W.heap.size W W'):CvB b1 y1 b2 y2 t3 b3 y3 t4 b4 y4 W' :=
 ⟨Aru h.b1x hb,Aru h.y1x hb,Aru h.b2x hb,Aru h.y2x hb,Aru h.t3x hb,Aru h.b3x hb,Aru h.y3x hb,Aru h.t4x hb,Aru h.b4x hb,Aru h.y4x hb⟩
theorem Arz(v1 v2 v3 v4 v5 u1 u2 u3 u4 u5:Nat)(a1 a2 a3 a4 a5 c1 c2 c3 c4 c5:Array Value)(W:World):(Instr.build 281 #[(1,.agg #[.func (.func v1) #[] a1,.func (.func u1) #[] c1]),(2,.agg #[.func (.func v2) #[] a2,.func (.func u2) #[] c2]),(3,.agg #[.func (.func v3) #[] a3,.func (.func u3) #[] c3]),(4,.agg #[.func (.func v4) #[] a4,.func (.func u4) #[] c4]),(5,.agg #[.func (.func v5) #[] a5,.func (.func u5) #[] c5])]).run Tryz.prog W=.ok (.agg #[.nilFunc,.nilFunc,.func (.func v1) #[] a1,.func (.func u1) #[] c1,.func (.func v2) #[] a2,.func (.func u2) #[] c2,.func (.func v3) #[] a3,.func (.func u3) #[] c3,.func (.func v4) #[] a4,.func (.func u4) #[] c4,.func (.func v5) #[] a5,.func (.func u5) #[] c5]) W:=run_build W _ _ _ (by kernel_rfl)
attribute [local go_sem] Arz
theorem put12{W:World}{b:Nat}{a0 a1 a2 a3 a4 a5 a6 a7 a8 a9 a10 a11:Value}{t:TypeId}{m:Nat×Nat}(h:W.heap[b]?=some (.cells #[a0,a1,a2,a3,a4,a5,a6,a7,a8,a9,a10,a11] t m))(x0 x1 x2 x3 x4 x5 x6 x7 x8 x9 x10 x11:Value):
 ((((((((((((W.setCell ⟨b,0,none⟩ x0).setCell ⟨b,1,none⟩ x1).setCell ⟨b,2,none⟩ x2).setCell ⟨b,3,none⟩ x3).setCell ⟨b,4,none⟩ x4).setCell ⟨b,5,none⟩ x5).setCell ⟨b,6,none⟩ x6).setCell ⟨b,7,none⟩ x7).setCell ⟨b,8,none⟩ x8).setCell ⟨b,9,none⟩ x9).setCell ⟨b,10,none⟩ x10).setCell ⟨b,11,none⟩ x11).heap[b]?=some (.cells #[x0,x1,x2,x3,x4,x5,x6,x7,x8,x9,x10,x11] t m):=by simp[World.setCell,Array.getElem?_modify,h]
theorem far12{W:World}{b k:Nat}(hk:k≠b)(x0 x1 x2 x3 x4 x5 x6 x7 x8 x9 x10 x11:Value):((((((((((((W.setCell ⟨b,0,none⟩ x0).setCell ⟨b,1,none⟩ x1).setCell ⟨b,2,none⟩ x2).setCell ⟨b,3,none⟩ x3).setCell ⟨b,4,none⟩ x4).setCell ⟨b,5,none⟩ x5).setCell ⟨b,6,none⟩ x6).setCell ⟨b,7,none⟩ x7).setCell ⟨b,8,none⟩ x8).setCell ⟨b,9,none⟩ x9).setCell ⟨b,10,none⟩ x10).setCell ⟨b,11,none⟩ x11).heap[k]?=W.heap[k]?:=by simp[World.setCell,Array.getElem?_modify,Ne.symm hk]
theorem below12{w W:World}{b:Nat}(hb:w.heap.size≤b)(h:Below w.heap.size w W)(x0 x1 x2 x3 x4 x5 x6 x7 x8 x9 x10 x11:Value):Below w.heap.size w ((((((((((((W.setCell ⟨b,0,none⟩ x0).setCell ⟨b,1,none⟩ x1).setCell ⟨b,2,none⟩ x2).setCell ⟨b,3,none⟩ x3).setCell ⟨b,4,none⟩ x4).setCell ⟨b,5,none⟩ x5).setCell ⟨b,6,none⟩ x6).setCell ⟨b,7,none⟩ x7).setCell ⟨b,8,none⟩ x8).setCell ⟨b,9,none⟩ x9).setCell ⟨b,10,none⟩ x10).setCell ⟨b,11,none⟩ x11):=((((((((((((h.setCell (p:=⟨b,0,none⟩) hb x0).setCell (p:=⟨b,1,none⟩) hb x1).setCell (p:=⟨b,2,none⟩) hb x2).setCell (p:=⟨b,3,none⟩) hb x3).setCell (p:=⟨b,4,none⟩) hb x4).setCell (p:=⟨b,5,none⟩) hb x5).setCell (p:=⟨b,6,none⟩) hb x6).setCell (p:=⟨b,7,none⟩) hb x7).setCell (p:=⟨b,8,none⟩) hb x8).setCell (p:=⟨b,9,none⟩) hb x9).setCell (p:=⟨b,10,none⟩) hb x10).setCell (p:=⟨b,11,none⟩) hb x11)
theorem Ar0{W:World}{b k:Nat}{o o':Obj}(h:W.heap[b]?=some o)(h':W.heap[k]?=some o')(ho:o≠o'):b≠k:=fun e=>by subst e;rw[h] at h';exact ho (Option.some.inj h')
theorem Ar1(w:World):Calls Tryz.prog 281 #[] w fun e w'=>∃b1 y1 b2 y2 t3 b3 y3 t4 b4 y4,e=.returned (.agg (tabC b1 y1 b2 y2 t3 b3 y3 t4 b4 y4))∧CvB b1 y1 b2 y2 t3 b3 y3 t4 b4 y4 w'∧Below w.heap.size w w':=by
 have HO:=hI Ary
 have HT:=hI Aqh
 obtain⟨W0,hW0⟩:∃W0,w.alloc (.cells #[.nilFunc,.nilFunc,.nilFunc,.nilFunc,.nilFunc,.nilFunc,.nilFunc,.nilFunc,.nilFunc,.nilFunc,.nilFunc,.nilFunc] 281)=W0:=⟨_,rfl⟩
 have hg0:BX w [(w.heap.size,.cells #[.nilFunc,.nilFunc,.nilFunc,.nilFunc,.nilFunc,.nilFunc,.nilFunc,.nilFunc,.nilFunc,.nilFunc,.nilFunc,.nilFunc] 281)] W0:=by rw[←hW0];exact BX.push (W:=w) ⟨Below.refl _ _,fun _ h=>by cases h⟩ _
 go_enter Tryz.func281,Tryz.ntmps281
 go_wp2_with fail
 refine (HO.out _ _ _ _).mono ?_
 rintro e w1 ⟨b1,y1,rfl,B1,Y1,x1⟩
 have hg1:=hg0.below x1
 clear hg0 x1 hW0
 go_wp2_with fail
 refine (HO.out _ _ _ _).mono ?_
 rintro e w2 ⟨b2,y2,rfl,B2,Y2,x2⟩
 have hg2:=hg1.below x2
 replace B1:=Aru B1 x2
 replace Y1:=Aru Y1 x2
 clear hg1 x2
 go_wp2_with fail
 refine (HT.out _ _).mono ?_
 rintro e w3 ⟨rfl,hw3⟩
 have x3:Below w2.heap.size w2 w3:=by rw[hw3];exact (Below.refl _ _).alloc (Aad _) _
 have T3:Boxed w3 w2.heap.size 313 (.func (.func 314) #[] #[]):=by rw[hw3];exact Boxed.new _ _ _
 have hg3:=hg2.below x3
 replace B1:=Aru B1 x3
 replace Y1:=Aru Y1 x3
 replace B2:=Aru B2 x3
 replace Y2:=Aru Y2 x3
 generalize w2.heap.size=t3 at T3 ⊢
 clear hg2 x3 hw3
 go_wp2_with fail
 refine (HO.out _ _ _ _).mono ?_
 rintro e w4 ⟨b3,y3,rfl,B3,Y3,x4⟩
 have hg4:=hg3.below x4
 replace B1:=Aru B1 x4
 replace Y1:=Aru Y1 x4
 replace B2:=Aru B2 x4
 replace Y2:=Aru Y2 x4
 replace T3:=Aru T3 x4
 clear hg3 x4
 go_wp2_with fail
 refine (HT.out _ _).mono ?_
 rintro e w5 ⟨rfl,hw5⟩
 have x5:Below w4.heap.size w4 w5:=by rw[hw5];exact (Below.refl _ _).alloc (Aad _) _
 have T4:Boxed w5 w4.heap.size 313 (.func (.func 315) #[] #[]):=by rw[hw5];exact Boxed.new _ _ _
 have hg5:=hg4.below x5
 replace B1:=Aru B1 x5
 replace Y1:=Aru Y1 x5
 replace B2:=Aru B2 x5
 replace Y2:=Aru Y2 x5
 replace T3:=Aru T3 x5
 replace B3:=Aru B3 x5
 replace Y3:=Aru Y3 x5
 generalize w4.heap.size=t4 at T4 ⊢
 clear hg4 x5 hw5
 go_wp2_with fail
 refine (HO.out _ _ _ _).mono ?_
 rintro e w6 ⟨b4,y4,rfl,B4,Y4,x6⟩
 have hg6:=hg5.below x6
 have HCV:Hid (CvB b1 y1 b2 y2 t3 b3 y3 t4 b4 y4 w6):=⟨Aru B1 x6,Aru Y1 x6,Aru B2 x6,Aru Y2 x6,Aru T3 x6,Aru B3 x6,Aru Y3 x6,Aru T4 x6,B4,Y4⟩
 have k0:=hg6.get 0 rfl
 have c0:=Aaa k0 0
 have f0:=Aaf k0 0
 have c1:=Aaa k0 1
 have f1:=Aaf k0 1
 have c2:=Aaa k0 2
 have f2:=Aaf k0 2
 have c3:=Aaa k0 3
 have f3:=Aaf k0 3
 have c4:=Aaa k0 4
 have f4:=Aaf k0 4
 have c5:=Aaa k0 5
 have f5:=Aaf k0 5
 have c6:=Aaa k0 6
 have f6:=Aaf k0 6
 have c7:=Aaa k0 7
 have f7:=Aaf k0 7
 have c8:=Aaa k0 8
 have f8:=Aaf k0 8
 have c9:=Aaa k0 9
 have f9:=Aaf k0 9
 have c10:=Aaa k0 10
 have f10:=Aaf k0 10
 have c11:=Aaa k0 11
 have f11:=Aaf k0 11
 simp at c0 f0 c1 f1 c2 f2 c3 f3 c4 f4 c5 f5 c6 f6 c7 f7 c8 f8 c9 f9 c10 f10 c11 f11
 have HK0:=hI k0
 have HB6:=hI hg6.1
 have HLT:=hI (hg6.lt 0 rfl)
 clear B1 Y1 B2 Y2 T3 B3 Y3 T4 B4 Y4 hg5 hg6 k0 x6
 go_wp2_with fail
 have k2:=put12 HK0.out (.nilFunc) (.nilFunc) (.func (.func 312) #[] #[]) (.func (.func 331) #[] #[.pointer (some ⟨b1,0,none⟩),.pointer (some ⟨y1,0,none⟩)]) (.func (.func 312) #[] #[]) (.func (.func 331) #[] #[.pointer (some ⟨b2,0,none⟩),.pointer (some ⟨y2,0,none⟩)]) (.func (.func 333) #[] #[.pointer (some ⟨t3,0,none⟩)]) (.func (.func 331) #[] #[.pointer (some ⟨b3,0,none⟩),.pointer (some ⟨y3,0,none⟩)]) (.func (.func 333) #[] #[.pointer (some ⟨t4,0,none⟩)]) (.func (.func 331) #[] #[.pointer (some ⟨b4,0,none⟩),.pointer (some ⟨y4,0,none⟩)]) (.func (.func 312) #[] #[]) (.func (.func 316) #[] #[])
 have HW:Hid (CvB b1 y1 b2 y2 t3 b3 y3 t4 b4 y4 ((((((((((((w6.setCell ⟨w.heap.size,0,none⟩ (.nilFunc)).setCell ⟨w.heap.size,1,none⟩ (.nilFunc)).setCell ⟨w.heap.size,2,none⟩ (.func (.func 312) #[] #[])).setCell ⟨w.heap.size,3,none⟩ (.func (.func 331) #[] #[.pointer (some ⟨b1,0,none⟩),.pointer (some ⟨y1,0,none⟩)])).setCell ⟨w.heap.size,4,none⟩ (.func (.func 312) #[] #[])).setCell ⟨w.heap.size,5,none⟩ (.func (.func 331) #[] #[.pointer (some ⟨b2,0,none⟩),.pointer (some ⟨y2,0,none⟩)])).setCell ⟨w.heap.size,6,none⟩ (.func (.func 333) #[] #[.pointer (some ⟨t3,0,none⟩)])).setCell ⟨w.heap.size,7,none⟩ (.func (.func 331) #[] #[.pointer (some ⟨b3,0,none⟩),.pointer (some ⟨y3,0,none⟩)])).setCell ⟨w.heap.size,8,none⟩ (.func (.func 333) #[] #[.pointer (some ⟨t4,0,none⟩)])).setCell ⟨w.heap.size,9,none⟩ (.func (.func 331) #[] #[.pointer (some ⟨b4,0,none⟩),.pointer (some ⟨y4,0,none⟩)])).setCell ⟨w.heap.size,10,none⟩ (.func (.func 312) #[] #[])).setCell ⟨w.heap.size,11,none⟩ (.func (.func 316) #[] #[]))):=by
  have h:=HCV.out
  have g:=HK0.out
  exact⟨(far12 (Ar0 h.b1x g (fun e=>by cases e)) _ _ _ _ _ _ _ _ _ _ _ _).trans h.b1x,(far12 (Ar0 h.y1x g (fun e=>by cases e)) _ _ _ _ _ _ _ _ _ _ _ _).trans h.y1x,(far12 (Ar0 h.b2x g (fun e=>by cases e)) _ _ _ _ _ _ _ _ _ _ _ _).trans h.b2x,(far12 (Ar0 h.y2x g (fun e=>by cases e)) _ _ _ _ _ _ _ _ _ _ _ _).trans h.y2x,(far12 (Ar0 h.t3x g (fun e=>by cases e)) _ _ _ _ _ _ _ _ _ _ _ _).trans h.t3x,(far12 (Ar0 h.b3x g (fun e=>by cases e)) _ _ _ _ _ _ _ _ _ _ _ _).trans h.b3x,(far12 (Ar0 h.y3x g (fun e=>by cases e)) _ _ _ _ _ _ _ _ _ _ _ _).trans h.y3x,(far12 (Ar0 h.t4x g (fun e=>by cases e)) _ _ _ _ _ _ _ _ _ _ _ _).trans h.t4x,(far12 (Ar0 h.b4x g (fun e=>by cases e)) _ _ _ _ _ _ _ _ _ _ _ _).trans h.b4x,(far12 (Ar0 h.y4x g (fun e=>by cases e)) _ _ _ _ _ _ _ _ _ _ _ _).trans h.y4x⟩
 have HB7:=hI (below12 (Aad _) HB6.out (.nilFunc) (.nilFunc) (.func (.func 312) #[] #[]) (.func (.func 331) #[] #[.pointer (some ⟨b1,0,none⟩),.pointer (some ⟨y1,0,none⟩)]) (.func (.func 312) #[] #[]) (.func (.func 331) #[] #[.pointer (some ⟨b2,0,none⟩),.pointer (some ⟨y2,0,none⟩)]) (.func (.func 333) #[] #[.pointer (some ⟨t3,0,none⟩)]) (.func (.func 331) #[] #[.pointer (some ⟨b3,0,none⟩),.pointer (some ⟨y3,0,none⟩)]) (.func (.func 333) #[] #[.pointer (some ⟨t4,0,none⟩)]) (.func (.func 331) #[] #[.pointer (some ⟨b4,0,none⟩),.pointer (some ⟨y4,0,none⟩)]) (.func (.func 312) #[] #[]) (.func (.func 316) #[] #[]))
 refine bodyPost_ret (results_cell_row rfl _ _ w.heap.size _ _ (0,0) _ rfl k2 Tryz.underlying281 rfl (by kernel_rfl)) rfl ?_
 exact⟨b1,y1,b2,y2,t3,b3,y3,t4,b4,y4,rfl,HW.out,HB7.out⟩
theorem Ar2(d:Int)(hd:okDay d)(w:World):Calls Tryz.prog 227 #[.int .i64 d] w fun e w'=>e=.returned (.bool true)∧w=w':=by
 have c1:decide (d≥-25567)=true:=Aav hd.1
 have c2:decide (d≤84005)=true:=Aav hd.2
 have c3:decide (-25567≤d)=true:=Aav hd.1
 clear hd
 go_enter Tryz.func227,Tryz.ntmps227
 go_wp2_with fail
 go_ret
 exact⟨rfl,rfl⟩
structure PartOk(c:Int)(n:Nat)(bd:Array Value)(w:World):Prop where
 en:∀args w,(callFunc n args).run Tryz.prog w=.ok (.enter n args) w
 run:∀W,Below w.heap.size w W→Tabs W→∀a b,okDay a→okDay b→a≤b→Calls Tryz.prog n (#[.int .i64 a,.int .i64 b]++bd) W fun e w'=>e=.returned (fenc (dcF c a b))∧Below W.heap.size W w'
theorem PartOk.over{c yr:Int}{cd:Int→Int→Int}{n:Nat}{bd:Array Value}{b1 b2:Nat}{w:World}(hd:DaysOk cd n bd w)(hc:∀a b,okDay a→okDay b→(cd a b).natAbs≤1000000)(hy0:0<yr)(hy1:yr≤1000)(he:∀a b,Rat.divInt (cd a b) yr=dcF c a b)
 (h1:Boxed w b1 194 (.func (.func n) #[] bd)) (h2:Boxed w b2 3 (.int .i64 yr)):PartOk c 331 #[.pointer (some ⟨b1,0,none⟩),.pointer (some ⟨b2,0,none⟩)] w :=
 ⟨enters_of Tryz.func331 (by kernel_rfl) rfl,fun W hW ht a b ha hb _=>by
   rw[←he]
   exact Aqn cd n bd b1 b2 yr a b ha hb W (hd.below hW) (hc a b ha hb) hy0 hy1 ((hW.block _ h1.lt).trans h1) ((hW.block _ h2.lt).trans h2) ht⟩
theorem PartOk.cal(w:World):PartOk 5 316 #[] w:=⟨enters_of Tryz.func316 (by kernel_rfl) rfl,fun W _ ht a b ha hb hab=>by
 have e:dcF 5 a b=yrs b-yrs a:=by unfold dcF;rw[if_pos rfl]
 rw[e];exact Aqs a b ha hb hab W ht⟩
theorem Ar3{c a b n yr:Int}(h:dcF c a b=((n:Int):Rat) / ((yr:Int):Rat)):Rat.divInt n yr=dcF c a b:=by rw[h,Rat.divInt_eq_div]
theorem CvB.parts{b1 y1 b2 y2 t3 b3 y3 t4 b4 y4:Nat}{w:World}(h:CvB b1 y1 b2 y2 t3 b3 y3 t4 b4 y4 w):
 PartOk 1 331 #[.pointer (some ⟨b1,0,none⟩),.pointer (some ⟨y1,0,none⟩)] w∧PartOk 2 331 #[.pointer (some ⟨b2,0,none⟩),.pointer (some ⟨y2,0,none⟩)] w∧PartOk 3 331 #[.pointer (some ⟨b3,0,none⟩),.pointer (some ⟨y3,0,none⟩)] w∧PartOk 4 331 #[.pointer (some ⟨b4,0,none⟩),.pointer (some ⟨y4,0,none⟩)] w:=by
 have hA:∀a b:Int,okDay a→okDay b→(b-a).natAbs≤1000000:=fun a b ha hb=>by obtain⟨_,_⟩:=ha;obtain⟨_,_⟩:=hb;omega
 have hT:∀(c a b:Int),okDay a→okDay b→(Aj3 c a b).natAbs≤1000000:=fun c a b ha hb=>Aap (Aka ha.1 ha.2 hb.1 hb.2) (by omega)
 refine⟨.over (.actual w) hA (by omega) (by omega) (fun a b=>Ar3 ?_) h.b1x h.y1x,.over (.actual w) hA (by omega) (by omega) (fun a b=>Ar3 ?_) h.b2x h.y2x,.over (.thirty adj3 h.t3x) (hT 3) (by omega) (by omega) (fun a b=>Ar3 ?_) h.b3x h.y3x,.over (.thirty adj4 h.t4x) (hT 4) (by omega) (by omega) (fun a b=>Ar3 ?_) h.b4x h.y4x⟩
 all_goals (unfold dcF;rw[if_neg (by decide)];first|(rw[if_neg (by decide),if_pos rfl];rfl)|(rw[if_pos rfl];rfl)|(rw[if_neg (by decide),if_neg (by decide)];rfl))
theorem CvB.set{b1 y1 b2 y2 t3 b3 y3 t4 b4 y4:Nat}{W:World}{k:Nat}{cs:Array Value}{m:Nat×Nat}(h:CvB b1 y1 b2 y2 t3 b3 y3 t4 b4 y4 W)(g:W.heap[k]?=some (.cells cs 196 m))(x y:Value):CvB b1 y1 b2 y2 t3 b3 y3 t4 b4 y4 ((W.setCell ⟨k,0,none⟩ x).setCell ⟨k,1,none⟩ y) :=
 ⟨(Ahc (Ar0 h.b1x g (fun e=>by cases e)) _ _).trans h.b1x,(Ahc (Ar0 h.y1x g (fun e=>by cases e)) _ _).trans h.y1x,(Ahc (Ar0 h.b2x g (fun e=>by cases e)) _ _).trans h.b2x,(Ahc (Ar0 h.y2x g (fun e=>by cases e)) _ _).trans h.y2x,(Ahc (Ar0 h.t3x g (fun e=>by cases e)) _ _).trans h.t3x,(Ahc (Ar0 h.b3x g (fun e=>by cases e)) _ _).trans h.b3x,(Ahc (Ar0 h.y3x g (fun e=>by cases e)) _ _).trans h.y3x,(Ahc (Ar0 h.t4x g (fun e=>by cases e)) _ _).trans h.t4x,(Ahc (Ar0 h.b4x g (fun e=>by cases e)) _ _).trans h.b4x,(Ahc (Ar0 h.y4x g (fun e=>by cases e)) _ _).trans h.y4x⟩
theorem Ar4{P:Program}{fn:Func}{p u:Tmp}{ty:TypeId}(h:fn.results=#[.cell p ty,.tmp u])(tmps:Array Value)(w:World)(g:Nat)(t:TypeId)(cs:Array Value)(fr:Nat×Nat)(d:TypeDesc)
 (hp:tmps.getD p undef=.pointer (some ⟨g,0,none⟩)) (hg:w.heap[g]?=some (.cells cs t fr))
 (hu:P.underlying ty=some d) (hd:(match d with|.struct _|.array _ _=>true|_=>false)=true) (hi:(P.info? ty).map (·.size)=some cs.size) :
 (results fn tmps).run P w=.ok (.tuple #[.agg cs,tmps.getD u undef]) w:=by
 rw[results_cell_tmp h,hp]
 show ((loadVar ty ⟨g,0,none⟩).run P w).andThen _=_
 rw[run_loadVar_row w g t ty cs fr d hg hu hd hi]
 rfl
theorem idxC1(b1 y1 b2 y2 t3 b3 y3 t4 b4 y4:Nat)(w:World):Sem.run Tryz.prog (Instr.index 281 (Value.agg (tabC b1 y1 b2 y2 t3 b3 y3 t4 b4 y4)) (.int .i64 1)) w=.ok (.agg #[.func (.func 312) #[] #[],.func (.func 331) #[] #[.pointer (some ⟨b1,0,none⟩),.pointer (some ⟨y1,0,none⟩)]]) w:=by
 unfold Instr.index;simp[go_sem,asAgg]
theorem idxC2(b1 y1 b2 y2 t3 b3 y3 t4 b4 y4:Nat)(w:World):Sem.run Tryz.prog (Instr.index 281 (Value.agg (tabC b1 y1 b2 y2 t3 b3 y3 t4 b4 y4)) (.int .i64 2)) w=.ok (.agg #[.func (.func 312) #[] #[],.func (.func 331) #[] #[.pointer (some ⟨b2,0,none⟩),.pointer (some ⟨y2,0,none⟩)]]) w:=by
 unfold Instr.index;simp[go_sem,asAgg]
theorem idxC3(b1 y1 b2 y2 t3 b3 y3 t4 b4 y4:Nat)(w:World):Sem.run Tryz.prog (Instr.index 281 (Value.agg (tabC b1 y1 b2 y2 t3 b3 y3 t4 b4 y4)) (.int .i64 3)) w=.ok (.agg #[.func (.func 333) #[] #[.pointer (some ⟨t3,0,none⟩)],.func (.func 331) #[] #[.pointer (some ⟨b3,0,none⟩),.pointer (some ⟨y3,0,none⟩)]]) w:=by
 unfold Instr.index;simp[go_sem,asAgg]
theorem idxC4(b1 y1 b2 y2 t3 b3 y3 t4 b4 y4:Nat)(w:World):Sem.run Tryz.prog (Instr.index 281 (Value.agg (tabC b1 y1 b2 y2 t3 b3 y3 t4 b4 y4)) (.int .i64 4)) w=.ok (.agg #[.func (.func 333) #[] #[.pointer (some ⟨t4,0,none⟩)],.func (.func 331) #[] #[.pointer (some ⟨b4,0,none⟩),.pointer (some ⟨y4,0,none⟩)]]) w:=by
 unfold Instr.index;simp[go_sem,asAgg]
theorem idxC5(b1 y1 b2 y2 t3 b3 y3 t4 b4 y4:Nat)(w:World):Sem.run Tryz.prog (Instr.index 281 (Value.agg (tabC b1 y1 b2 y2 t3 b3 y3 t4 b4 y4)) (.int .i64 5)) w=.ok (.agg #[.func (.func 312) #[] #[],.func (.func 316) #[] #[]]) w:=by
 unfold Instr.index;simp[go_sem,asAgg]
def PartX(c:Int)(n:Nat)(bd:Array Value)(w:World):Prop:=(∀args w,(callFunc n args).run Tryz.prog w=.ok (.enter n args) w) ∧
 ∃b1 y1 b2 y2 t3 b3 y3 t4 b4 y4,CvB b1 y1 b2 y2 t3 b3 y3 t4 b4 y4 w∧∀W,CvB b1 y1 b2 y2 t3 b3 y3 t4 b4 y4 W→Tabs W→∀a b,okDay a→okDay b→a≤b→Calls Tryz.prog n (#[.int .i64 a,.int .i64 b]++bd) W fun e w'=>e=.returned (fenc (dcF c a b))∧Below W.heap.size W w'
theorem PartX.of{c:Int}{n:Nat}{bd:Array Value}{b1 y1 b2 y2 t3 b3 y3 t4 b4 y4:Nat}{w:World}(h:CvB b1 y1 b2 y2 t3 b3 y3 t4 b4 y4 w)(hp:∀W,CvB b1 y1 b2 y2 t3 b3 y3 t4 b4 y4 W→PartOk c n bd W):PartX c n bd w:=⟨(hp w h).en,b1,y1,b2,y2,t3,b3,y3,t4,b4,y4,h,fun W hW ht a b ha hb hab=>(hp W hW).run W (Below.refl _ _) ht a b ha hb hab⟩
theorem PartX.below{c:Int}{n:Nat}{bd:Array Value}{w w':World}(h:PartX c n bd w)(hb:Below w.heap.size w w'):PartX c n bd w':=by
 obtain⟨h1,b1,y1,b2,y2,t3,b3,y3,t4,b4,y4,h2,h3⟩:=h
 exact⟨h1,b1,y1,b2,y2,t3,b3,y3,t4,b4,y4,h2.below hb,h3⟩
theorem PartX.set{c:Int}{n:Nat}{bd:Array Value}{W:World}{k:Nat}{cs:Array Value}{m:Nat×Nat}(h:PartX c n bd W)(g:W.heap[k]?=some (.cells cs 196 m))(x y:Value):PartX c n bd ((W.setCell ⟨k,0,none⟩ x).setCell ⟨k,1,none⟩ y):=by
 obtain⟨h1,b1,y1,b2,y2,t3,b3,y3,t4,b4,y4,h2,h3⟩:=h
 exact⟨h1,b1,y1,b2,y2,t3,b3,y3,t4,b4,y4,h2.set g x y,h3⟩
theorem PartX.run{c:Int}{n:Nat}{bd:Array Value}{W:World}(h:PartX c n bd W)(ht:Tabs W){a b:Int}(ha:okDay a)(hb:okDay b)(hab:a≤b):Calls Tryz.prog n (#[.int .i64 a,.int .i64 b]++bd) W fun e w'=>e=.returned (fenc (dcF c a b))∧Below W.heap.size W w':=by
 obtain⟨h1,b1,y1,b2,y2,t3,b3,y3,t4,b4,y4,h2,h3⟩:=h
 exact h3 W h2 ht a b ha hb hab
def Ar5(c:Int)(w:World)(e:Ending)(w':World):Prop:=∃n1 bd1 n2 bd2,e=.returned (.tuple #[.agg #[.func (.func n1) #[] bd1,.func (.func n2) #[] bd2],.int .i64 0])∧PartX c n2 bd2 w'∧Below w.heap.size w w'
theorem Ar6(c:Int)(h0:1≤c)(h1:c≤5)(w:World):Calls Tryz.prog 226 #[.int .i64 c] w (Ar5 c w):=by
 have HC:=hI Ar1
 obtain⟨W0,hW0⟩:∃W0,w.alloc (.cells #[.nilFunc,.nilFunc] 196)=W0:=⟨_,rfl⟩
 have hg0:BX w [(w.heap.size,.cells #[.nilFunc,.nilFunc] 196)] W0:=by rw[←hW0];exact BX.push (W:=w) ⟨Below.refl _ _,fun _ h=>by cases h⟩ _
 have hi1:=idxC1
 have hi2:=idxC2
 have hi3:=idxC3
 have hi4:=idxC4
 have hi5:=idxC5
 obtain rfl|rfl|rfl|rfl|rfl:c=1∨c=2∨c=3∨c=4∨c=5:=by omega
 all_goals
  clear h0 h1
  go_enter Tryz.func226,Tryz.ntmps226
  go_wp2_with fail
  refine (HC.out _).mono ?_
  rintro e w1 ⟨b1,y1,b2,y2,t3,b3,y3,t4,b4,y4,rfl,hcv,x1⟩
  have hg1:=hg0.below x1
  have HP:=hI hcv
  have HG:=hI hg1
  have k0:=hg1.get 0 rfl
  have m0:=Aaa k0 0
  have m1:=Aaa k0 1
  have f0:=Aaf k0 0
  have f1:=Aaf k0 1
  simp at m0 m1 f0 f1
  have HK0:=hI k0
  clear hcv hg0 hg1 k0 x1 hW0
  dsimp only[tabC] at *
  go_wp2_with fail
  refine bodyPost_ret (Ar4 rfl _ _ w.heap.size _ _ (0,0) _ rfl (Go.Proofs.YtcnmoobojdopgaaGreatDoor.set2 HK0.out _ _) Tryz.underlying196 rfl (by kernel_rfl)) rfl ?_
  have hcv:=HP.out.set HK0.out
  have hbl:=fun x y=>Ahd (Aad _) HG.out.1 (B:=w.heap.size) x y
  first
   | exact⟨_,_,_,_,rfl,PartX.of (hcv _ _) (fun W h=>h.parts.1),hbl _ _⟩
   | exact⟨_,_,_,_,rfl,PartX.of (hcv _ _) (fun W h=>h.parts.2.1),hbl _ _⟩
   | exact⟨_,_,_,_,rfl,PartX.of (hcv _ _) (fun W h=>h.parts.2.2.1),hbl _ _⟩
   | exact⟨_,_,_,_,rfl,PartX.of (hcv _ _) (fun W h=>h.parts.2.2.2),hbl _ _⟩
   | exact⟨_,_,_,_,rfl,PartX.of (hcv _ _) (fun W _=>PartOk.cal W),hbl _ _⟩
theorem Ar7(c:Int)(h0:1≤c)(h1:c≤5)(a b:Int)(ha:okDay a)(hb:okDay b)(hab:a≤b)(w:World):Calls Tryz.prog 169 #[.int .i64 c,.int .i64 a,.int .i64 b] w (Ar5 c w):=by
 have HF:=hI (fun W=>Ar6 c h0 h1 W)
 have HA:=hI (fun W=>Ar2 a ha W)
 have HB:=hI (fun W=>Ar2 b hb W)
 have t1:decide (b<a)=false:=Aaw (by omega)
 clear h0 h1 ha hb hab
 obtain⟨W0,hW0⟩:∃W0,w.alloc (.cells #[.nilFunc,.nilFunc] 196)=W0:=⟨_,rfl⟩
 have hg0:BX w [(w.heap.size,.cells #[.nilFunc,.nilFunc] 196)] W0:=by rw[←hW0];exact BX.push (W:=w) ⟨Below.refl _ _,fun _ h=>by cases h⟩ _
 go_enter Tryz.func169,Tryz.ntmps169
 go_wp2_with fail
 refine (HF.out _).mono ?_
 rintro e w1 ⟨n1,bd1,n2,bd2,rfl,hp,x1⟩
 have hg1:=hg0.below x1
 have HP:=hI hp
 have HG:=hI hg1
 have k0:=hg1.get 0 rfl
 have l0:=hg1.lt 0 rfl
 have ne:w1.heap.size≠w.heap.size:=by omega
 have m0:=Aaa k0 0
 have m1:=Aaa k0 1
 have f0:=Aaf k0 0
 have f1:=Aaf k0 1
 simp at m0 m1 f0 f1
 have HK0:=hI k0
 clear hp hg0 hg1 k0 x1 hW0
 go_wp2_with fail
 refine (HA.out _).mono ?_
 rintro e w2 ⟨rfl,rfl⟩
 go_wp2_with fail
 refine (HB.out _).mono ?_
 rintro e w2 ⟨rfl,rfl⟩
 go_wp2_with fail
 refine bodyPost_ret (Ar4 rfl _ _ w.heap.size _ _ (0,0) _ rfl (Aqk (Go.Proofs.YtcnmoobojdopgaaGreatDoor.set2 HK0.out _ _) _) Tryz.underlying196 rfl (by kernel_rfl)) rfl ?_
 have hbl:=Ahd (Aad _) HG.out.1 (B:=w.heap.size) (.func (.func n1) #[] bd1) (.func (.func n2) #[] bd2)
 exact⟨_,_,_,_,rfl,(HP.out.set HK0.out _ _).below ((Below.refl _ _).alloc (Aad _) _),hbl.alloc hbl.size _⟩
theorem Ar8(c:Int)(h0:1≤c)(h1:c≤5)(a b:Int)(ha:okDay a)(hb:okDay b)(hab:a≤b)(w:World)(ht:Tabs w):Calls Tryz.prog 112 #[.int .i64 c,.int .i64 a,.int .i64 b] w fun e w'=>e=.returned (.tuple #[fenc (dcF c a b),.int .i64 0])∧Below w.heap.size w w':=by
 have HF:=hI (fun W=>Ar7 c h0 h1 a b ha hb hab W)
 have HT:=hI ht
 obtain⟨W0,hW0⟩:∃W0,w.alloc fz=W0:=⟨_,rfl⟩
 have hg0:BX w [(w.heap.size,fz)] W0:=by rw[←hW0];exact BX.push (W:=w) ⟨Below.refl _ _,fun _ h=>by cases h⟩ _
 go_enter Tryz.func112,Tryz.ntmps112
 go_wp2_with fail
 refine (HF.out _).mono ?_
 rintro e w1 ⟨n1,bd1,n2,bd2,rfl,hp,x1⟩
 have hg1:=hg0.below x1
 have hen:=hp.1
 have hg2:BX w [(w.heap.size,fz)] (w1.alloc (.cells #[.func (.func n1) #[] bd1,.func (.func n2) #[] bd2] 196)):=hg1.below ((Below.refl _ _).alloc (Aad _) _)
 have HR:=hI ((hp.below ((Below.refl _ _).alloc (Aad _) (.cells #[.func (.func n1) #[] bd1,.func (.func n2) #[] bd2] 196))).run (HT.out.below hg2.1) ha hb hab)
 obtain⟨q,hq⟩:∃q,dcF c a b=q:=⟨_,rfl⟩
 rw[hq] at HR
 unfold fenc at HR
 have HQ:=hI hq
 clear hp hg0 hg1 x1 hW0 h0 h1 ha hb hab ht hq
 go_wp2_with fail
 refine HR.out.mono ?_
 rintro e w2 ⟨rfl,x2⟩
 have hg3:=hg2.below x2
 have HG:=hI hg3
 have k0:=hg3.get 0 rfl
 have m0:=Aaa k0 0
 have m1:=Aaa k0 1
 have f0:=Aaf k0 0
 have f1:=Aaf k0 1
 simp at m0 m1 f0 f1
 have HK0:=hI k0
 clear hg2 hg3 k0 x2
 go_wp2_with fail
 refine bodyPost_ret (Ar4 rfl _ _ w.heap.size _ _ (0,0) _ rfl (Go.Proofs.YtcnmoobojdopgaaGreatDoor.set2 HK0.out _ _) Tryz.underlying25 rfl (by kernel_rfl)) rfl ?_
 exact⟨by rw[HQ.out];rfl,Ahd (Aad _) HG.out.1 _ _⟩
end Go.Proofs.YtcnmoobojdopgaaGreatDoor
