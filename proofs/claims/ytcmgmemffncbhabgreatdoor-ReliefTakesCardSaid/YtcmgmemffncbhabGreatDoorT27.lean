/-
  lot.Cut of a valid lot into a quantity and the rest. (Printed by gen_cut3.py.)
-/
import Derived.Test.YtcmgmemffncbhabGreatDoorT22
import Derived.Laws.NewBlocks
set_option linter.unusedVariables false
set_option linter.unusedSimpArgs false
set_option maxHeartbeats 16000000
set_option maxRecDepth 100000
namespace Go.Proofs.YtcmgmemffncbhabGreatDoor
open Go.RowKit Tr Go.Shelf
def zeroLot:Lot:=⟨⟨#[]⟩,⟨#[]⟩,0,0,⟨#[]⟩,⟨#[]⟩,⟨#[]⟩⟩
structure CutW(w:World)(l:Lot)(W:World):Prop where
 ib:LotBox W w.heap.size l
 za:LotBox W (w.heap.size+1) zeroLot
 zb:LotBox W (w.heap.size+2) zeroLot
 be:Below w.heap.size w W
theorem CutW.below{w:World}{l:Lot}{W W':World}(h:CutW w l W)(hb:Below W.heap.size W W'):CutW w l W' :=
 ⟨h.ib.below hb,h.za.below hb,h.zb.below hb,h.be.trans (hb.mono h.be.size)⟩
theorem CutW.start(w:World)(l:Lot):CutW w l (((w.alloc (.cells l.cells 38)).alloc (.cells zeroLot.cells 38)).alloc (.cells zeroLot.cells 38)):=by
 have h1:LotBox (w.alloc (.cells l.cells 38)) w.heap.size l:=Aa5 w _
 have h2:LotBox ((w.alloc (.cells l.cells 38)).alloc (.cells zeroLot.cells 38)) (w.heap.size+1) zeroLot:=by
  have h:=Aa5 (w.alloc (.cells l.cells 38)) (.cells zeroLot.cells 38)
  unfold LotBox
  simpa using h
 have h3:LotBox (((w.alloc (.cells l.cells 38)).alloc (.cells zeroLot.cells 38)).alloc (.cells zeroLot.cells 38)) (w.heap.size+2) zeroLot:=by
  have h:=Aa5 ((w.alloc (.cells l.cells 38)).alloc (.cells zeroLot.cells 38)) (.cells zeroLot.cells 38)
  unfold LotBox
  simpa using h
 have b1:=(Below.refl _ (w.alloc (.cells l.cells 38))).alloc (Aad _) (.cells zeroLot.cells 38)
 have b2:=(Below.refl _ ((w.alloc (.cells l.cells 38)).alloc (.cells zeroLot.cells 38))).alloc (Aad _) (.cells zeroLot.cells 38)
 exact⟨(h1.below b1).below b2,h2.below b2,h3,(((Below.refl _ w).alloc (Aad _) _).alloc (by simp) _).alloc (by simp;omega) _⟩
theorem LotBox.set4{W:World}{B:Nat}{l:Lot}(h:LotBox W B l)(x:ByteArray):LotBox (W.setCell ⟨B,4,none⟩ (.string x)) B {l with qty:=x}:=by
 unfold LotBox at *;simp[World.setCell,Array.getElem?_modify,h]
theorem LotBox.set5{W:World}{B:Nat}{l:Lot}(h:LotBox W B l)(x:ByteArray):LotBox (W.setCell ⟨B,5,none⟩ (.string x)) B {l with cost:=x}:=by
 unfold LotBox at *;simp[World.setCell,Array.getElem?_modify,h]
theorem LotBox.set6{W:World}{B:Nat}{l:Lot}(h:LotBox W B l)(x:ByteArray):LotBox (W.setCell ⟨B,6,none⟩ (.string x)) B {l with used:=x}:=by
 unfold LotBox at *;simp[World.setCell,Array.getElem?_modify,h]
theorem LotBox.far{W:World}{B:Nat}{l:Lot}(h:LotBox W B l)(b k:Nat)(v:Value)(hne:b≠B):LotBox (W.setCell ⟨b,k,none⟩ v) B l:=by
 unfold LotBox at *;simp[World.setCell,Array.getElem?_modify,h,hne]
theorem CutW.far{w:World}{l:Lot}{W:World}(h:CutW w l W)(b k:Nat)(v:Value)(hb:w.heap.size+3≤b):CutW w l (W.setCell ⟨b,k,none⟩ v) :=
 ⟨h.ib.far b k v (by omega),h.za.far b k v (by omega),h.zb.far b k v (by omega),h.be.setCell (by show w.heap.size≤b;omega) v⟩
theorem CutW.lt{w:World}{l:Lot}{W:World}(h:CutW w l W):w.heap.size+3≤W.heap.size:=by have:=h.zb.lt;omega
theorem An3(W:World)(l:Lot):LotBox (((W.alloc (.cells l.cells 38)).alloc (.cells l.cells 38)).drew) W.heap.size l∧LotBox (((W.alloc (.cells l.cells 38)).alloc (.cells l.cells 38)).drew) (W.heap.size+1) l:=by
 have h1:LotBox (W.alloc (.cells l.cells 38)) W.heap.size l:=Aa5 W _
 have b1:=(Below.refl _ (W.alloc (.cells l.cells 38))).alloc (Aad _) (.cells l.cells 38)
 refine⟨h1.below b1.drew,?_⟩
 have h:=Aa5 (W.alloc (.cells l.cells 38)) (.cells l.cells 38)
 show ((W.alloc (.cells l.cells 38)).alloc (.cells l.cells 38)).heap[W.heap.size+1]?=_
 simpa using h
def cutU(l:Lot)(x:ByteArray):ByteArray:=if l.used=⟨#[]⟩ then⟨#[]⟩ else x
theorem lset7{w:World}{b:Nat}{l0:Lot}(h:LotBox w b l0)(x0 x1 x2 x3 x4 x5 x6:Value):
 (((((((w.setCell ⟨b,0,none⟩ x0).setCell ⟨b,1,none⟩ x1).setCell ⟨b,2,none⟩ x2).setCell ⟨b,3,none⟩ x3).setCell ⟨b,4,none⟩ x4).setCell ⟨b,5,none⟩ x5).setCell ⟨b,6,none⟩ x6).heap[b]?=some (.cells #[x0,x1,x2,x3,x4,x5,x6] 38 (0,0)):=by
 unfold LotBox at h
 simp[World.setCell,Array.getElem?_modify,h]
theorem An4{w W:World}{b:Nat}(hb:w.heap.size≤b)(h:Below w.heap.size w W)(x0 x1 x2 x3 x4 x5 x6:Value):
 Below w.heap.size w (((((((W.setCell ⟨b,0,none⟩ x0).setCell ⟨b,1,none⟩ x1).setCell ⟨b,2,none⟩ x2).setCell ⟨b,3,none⟩ x3).setCell ⟨b,4,none⟩ x4).setCell ⟨b,5,none⟩ x5).setCell ⟨b,6,none⟩ x6) :=
 (((((((h.setCell (p:=⟨b,0,none⟩) hb x0).setCell (p:=⟨b,1,none⟩) hb x1).setCell (p:=⟨b,2,none⟩) hb x2).setCell (p:=⟨b,3,none⟩) hb x3).setCell (p:=⟨b,4,none⟩) hb x4).setCell (p:=⟨b,5,none⟩) hb x5).setCell (p:=⟨b,6,none⟩) hb x6)
theorem lfar7{W:World}{b k:Nat}(hk:k≠b)(x0 x1 x2 x3 x4 x5 x6:Value):
 (((((((W.setCell ⟨b,0,none⟩ x0).setCell ⟨b,1,none⟩ x1).setCell ⟨b,2,none⟩ x2).setCell ⟨b,3,none⟩ x3).setCell ⟨b,4,none⟩ x4).setCell ⟨b,5,none⟩ x5).setCell ⟨b,6,none⟩ x6).heap[k]?=W.heap[k]?:=by
 simp[World.setCell,Array.getElem?_modify,Ne.symm hk]
def cutZ(l:Lot)(q:ByteArray):Int:=Am2 (vl l.cost) (vl q) (vl l.qty)
def cutA(l:Lot)(q:ByteArray):Lot:={l with qty:=q,cost:=I (cutZ l q),used:=cutU l q}
def cutB(l:Lot)(q:ByteArray):Lot:={l with qty:=I (vl l.qty-vl q),cost:=I (vl l.cost-cutZ l q),used:=cutU l (I (vl l.qty-vl q))}
structure C10V(w:World)(p7 p8:Nat)(LA LB:Lot)  (L:Array Bool) (W:World) (s6 s61 s62:Value):Prop where
 k0:L.getD 0 false=true→s61=.agg #[.string LA.id,.string LA.inst,.int .i64 LA.acq,.int .i64 LA.opn,.string LA.qty,.string LA.cost,.string LA.used]
 k1:L.getD 1 false=true→s62=.agg #[.string LB.id,.string LB.inst,.int .i64 LB.acq,.int .i64 LB.opn,.string LB.qty,.string LB.cost,.string LB.used]
 k4:L.getD 4 false=true→s6=.int .i64 0
 x:LotBox W p7 LA
 y:LotBox W p8 LB
 a0:L.getD 2 false=false→LotBox W (w.heap.size+1) zeroLot
 a1:L.getD 2 false=true→LotBox W (w.heap.size+1) LA
 b0:L.getD 3 false=false→LotBox W (w.heap.size+2) zeroLot
 b1:L.getD 3 false=true→LotBox W (w.heap.size+2) LB
 be:Below w.heap.size w W
structure C10J(w:World)(p7 p8:Nat)(LA LB:Lot)(x0 x1 x2 x3 x9 x10 x11 x12 x13 x14 x15 x16 x17 x18 x19 x20 x21 x22 x23 x24 x25 x26 x27 x28 x29 x30 x31 x32 x33 x34 x35 x36 x37 x38 x39 x40 x41 x42 x43 x44 x45 x46 x47 x48 x49 x50 x51 x52 x53 x54 x55 x56 x57 x58 x59 x60:Value)(L:Array Bool)(a:Act)(W:World):Prop where
 sz:L.size=5
 fr:∃s6 s61 s62:Value,a={tmps:=#[x0,x1,x2,x3,.pointer (some ⟨w.heap.size+1,0,none⟩),.pointer (some ⟨w.heap.size+2,0,none⟩),s6,.pointer (some ⟨p7,0,none⟩),.pointer (some ⟨p8,0,none⟩),x9,x10,x11,x12,x13,x14,x15,x16,x17,x18,x19,x20,x21,x22,x23,x24,x25,x26,x27,x28,x29,x30,x31,x32,x33,x34,x35,x36,x37,x38,x39,x40,x41,x42,x43,x44,x45,x46,x47,x48,x49,x50,x51,x52,x53,x54,x55,x56,x57,x58,x59,x60,s61,s62],defers:=[]}∧C10V w p7 p8 LA LB  L W s6 s61 s62
structure C9V(w:World)(l:Lot)(p7 p8:Nat)(LA LB:Lot)  (L:Array Bool) (W:World) (s55 s56 s57 s58 s59 s60:Value):Prop where
 k0:L.getD 0 false=true→s55=.pointer (some ⟨p7,4,none⟩)
 k1:L.getD 1 false=true→s56=.string LA.qty
 k2:L.getD 2 false=true→s57=.pointer (some ⟨p8,4,none⟩)
 k3:L.getD 3 false=true→s58=.string LB.qty
 k4:L.getD 4 false=true→s59=.pointer (some ⟨p7,6,none⟩)
 k6:L.getD 6 false=true→s60=.pointer (some ⟨p8,6,none⟩)
 cx:W.cell? ⟨p7,4,none⟩=some (.string LA.qty)
 cy:W.cell? ⟨p8,4,none⟩=some (.string LB.qty)
 a0:L.getD 5 false=false→LotBox W p7 LA
 a1:L.getD 5 false=true→LotBox W p7 {LA with used:=LA.qty}
 b0:L.getD 7 false=false→LotBox W p8 LB
 b1:L.getD 7 false=true→LotBox W p8 {LB with used:=LB.qty}
 g:CutW w l W
structure C9J(w:World)(l:Lot)(p7 p8:Nat)(LA LB:Lot)(x0 x1 x2 x3 x4 x5 x6 x9 x10 x11 x12 x13 x14 x15 x16 x17 x18 x19 x20 x21 x22 x23 x24 x25 x26 x27 x28 x29 x30 x31 x32 x33 x34 x35 x36 x37 x38 x39 x40 x41 x42 x43 x44 x45 x46 x47 x48 x49 x50 x51 x52 x53 x54 x61 x62:Value)(L:Array Bool)(a:Act)(W:World):Prop where
 sz:L.size=8
 fr:∃s55 s56 s57 s58 s59 s60:Value,a={tmps:=#[x0,x1,x2,x3,x4,x5,x6,.pointer (some ⟨p7,0,none⟩),.pointer (some ⟨p8,0,none⟩),x9,x10,x11,x12,x13,x14,x15,x16,x17,x18,x19,x20,x21,x22,x23,x24,x25,x26,x27,x28,x29,x30,x31,x32,x33,x34,x35,x36,x37,x38,x39,x40,x41,x42,x43,x44,x45,x46,x47,x48,x49,x50,x51,x52,x53,x54,s55,s56,s57,s58,s59,s60,x61,x62],defers:=[]}∧C9V w l p7 p8 LA LB  L W s55 s56 s57 s58 s59 s60
theorem lCut_ok(l:Lot)(q:ByteArray)(hs:l.sized)(h:l.ok)(hq:Can q)(q1:q.size≤1000)(q0:0<vl q)(q2:vl q<vl l.qty)(w:World)(ht:Tabs w):
 Calls Tryz.prog 24 #[l.enc,.string q] w fun e w'=>e=.returned (.tuple #[(cutA l q).enc,(cutB l q).enc,.int .i64 0])∧Below w.heap.size w w':=by
 have HT:=hI ht
 have CW:=CutW.start w l
 obtain⟨W0,hW0⟩:∃W0,(((w.alloc (.cells l.cells 38)).alloc (.cells zeroLot.cells 38)).alloc (.cells zeroLot.cells 38))=W0:=⟨_,rfl⟩
 rw[hW0] at CW
 obtain⟨z1,z2,z3,z4,z5⟩:=id hs
 have HK:=hI (fun W hW=>Ajy l hs h W hW)
 have HC:=hI (fun W=>Agq q W (by omega) hq)
 have HM1:=hI (fun W=>Agu q ⟨#[]⟩ W (by omega) (by show 0≤_;omega))
 rw[show vl (⟨#[]⟩:ByteArray)=0 from by rw[zero_eq,vl_I]] at HM1
 have HM2:=hI (fun W=>Agu q l.qty W (by omega) (by omega))
 have d1:decide (cmpI (vl q) 0≤0)=false:=Aa4 (by rw[Aet];omega)
 have d2:decide (0≤cmpI (vl q) (vl l.qty))=false:=Aa4 (by rw[Aeu];omega)
 have d3:decide (cmpI (vl q) (vl l.qty)≥0)=false:=d2
 have HSub:=hI (fun W hW=>Agm l.qty q W (by omega) (by omega) hW)
 have HSh:=hI (fun W hW=>Am6 (vl l.cost) (vl q) (vl l.qty) W (by rw[h.cc];omega) (by rw[hq];omega) (by rw[h.cq];omega) h.pc (by omega) h.pq (by omega) hW)
 rw[h.cc,hq,h.cq] at HSh
 have HU:=hI h.us
 have eA:Hid ((cutA l q).enc=.agg #[.string l.id,.string l.inst,.int .i64 l.acq,.int .i64 l.opn,.string q,.string (I (cutZ l q)),.string (cutU l q)]):=hI rfl
 have eB:Hid ((cutB l q).enc=.agg #[.string l.id,.string l.inst,.int .i64 l.acq,.int .i64 l.opn,.string (I (vl l.qty-vl q)),.string (I (vl l.cost-cutZ l q)),.string (cutU l (I (vl l.qty-vl q)))]):=hI rfl
 rw[show Am2 (vl l.cost) (vl q) (vl l.qty)=cutZ l q from rfl] at HSh
 rw[eA.out,eB.out]
 obtain⟨uA,huA⟩:∃u,cutU l q=u:=⟨_,rfl⟩
 obtain⟨uB,huB⟩:∃u,cutU l (I (vl l.qty-vl q))=u:=⟨_,rfl⟩
 rw[huA,huB]
 have HUA:=hI huA
 have HUB:=hI huB
 generalize cutZ l q=sz at HSh ⊢
 generalize vl l.cost-sz=sr at HSh ⊢
 generalize vl l.qty-vl q=qr at HSub HUB ⊢
 have k0:=CW.ib
 obtain⟨c0,c1,c2,c3,c4,c5,c6⟩:=Ac0 k0
 have CW0:=hI CW
 clear CW k0 eA eB z1 z2 z3 z4 z5 hs h hq q0 q1 q2 ht huA huB
 unfold Lot.enc Lot.cells at *
 unfold zeroLot at hW0
 dsimp only at hW0
 go_enter Tryz.func24,Tryz.ntmps24
 go_wp2_with fail
 try rw[hW0]
 refine (HK.out W0 (HT.out.below CW0.out.be)).mono ?_
 rintro e w1 ⟨rfl,b1⟩
 have CW1:=hI (CW0.out.below b1)
 clear b1 HK hW0 c0 c1 c2 c3 c4 c5 c6
 go_wp2_with fail
 refine (HC.out w1).mono ?_
 rintro e w2 ⟨rfl,b2⟩
 have CW2:=hI (CW1.out.below b2)
 clear b2 HC CW1
 go_wp2_with fail
 refine (HM1.out w2).mono ?_
 rintro e w3 ⟨rfl,b3⟩
 have CW3:=hI (CW2.out.below b3)
 have k3:=CW3.out.ib
 obtain⟨c0,c1,c2,c3,c4,c5,c6⟩:=Ac0 k3
 clear b3 HM1 CW2 k3
 go_wp2_with fail
 refine (HM2.out w3).mono ?_
 rintro e w4 ⟨rfl,b4⟩
 have CW4:=hI (CW3.out.below b4)
 clear c0 c1 c2 c3 c4 c5 c6
 have k4:=CW4.out.ib
 obtain⟨c0,c1,c2,c3,c4,c5,c6⟩:=Ac0 k4
 clear b4 HM2 CW3 k4
 have hl:w.heap.size<w4.heap.size:=CW4.out.ib.lt
 have hl1:w.heap.size<w4.heap.size+1:=by omega
 go_wp2_with fail
 go_region
 ·have CW5:=hI (show CutW w l (((w4.alloc (.cells l.cells 38)).alloc (.cells l.cells 38)).drew) from CW4.out.below (((Below.refl _ w4).alloc (Aad _) _).alloc (by simp) _).drew)
  have TN:=An3 w4 l
  have LT:=CW4.out.lt
  unfold Lot.cells at CW5 TN
  generalize (((w4.alloc (.cells #[.string l.id,.string l.inst,.int .i64 l.acq,.int .i64 l.opn,.string l.qty,.string l.cost,.string l.used] 38)).alloc (.cells #[.string l.id,.string l.inst,.int .i64 l.acq,.int .i64 l.opn,.string l.qty,.string l.cost,.string l.used] 38)).drew)=w5 at CW5 TN ⊢
  have hxy:w4.heap.size≠w4.heap.size+1:=by omega
  have hyx:w4.heap.size+1≠w4.heap.size:=by omega
  have LTY:w.heap.size+3≤w4.heap.size+1:=by omega
  generalize w4.heap.size+1=bY at hxy hyx LTY TN ⊢
  generalize w4.heap.size=bX at hxy hyx LT LTY TN ⊢
  have LT_bX:=hI LT
  have LT_bY:=hI LTY
  have k5:=CW5.out.ib
  have HX:=hI TN.1
  have HY:=hI TN.2
  clear c0 c1 c2 c3 c4 c5 c6 CW4
  obtain⟨c0,c1,c2,c3,c4,c5,c6⟩:=Ac0 k5
  clear k5 TN
  go_wp2_with fail
  refine (HSub.out w5 (HT.out.below CW5.out.be)).mono ?_
  rintro e w6 ⟨rfl,b6⟩
  have CW6:=hI (CW5.out.below b6)
  replace HX:=hI (HX.out.below b6)
  replace HY:=hI (HY.out.below b6)
  clear b6 HSub CW5 c0 c1 c2 c3 c4 c5 c6
  have k6:=CW6.out.ib
  have kx:=HX.out
  have ky:=HY.out
  obtain⟨c0,c1,c2,c3,c4,c5,c6⟩:=Ac0 k6
  obtain⟨x0,x1,x2,x3,x4,x5,x6⟩:=Ac0 kx
  obtain⟨y0,y1,y2,y3,y4,y5,y6⟩:=Ac0 ky
  have fx:=Aaf kx 4
  have fy:=Aaf ky 4
  clear k6 kx ky
  go_wp2_with fail
  refine (HSh.out _ (HT.out.below ((CW6.out.far bX 4 (.string q) LT_bX.out).far bY 4 (.string (I qr)) LT_bY.out).be)).mono ?_
  rintro e w7 ⟨rfl,b7⟩
  have CW7:=hI (((CW6.out.far bX 4 (.string q) LT_bX.out).far bY 4 (.string (I qr)) LT_bY.out).below b7)
  have H7:=hI (((HX.out.set4 q).far bY 4 (.string (I qr)) hyx).below b7)
  have H8:=hI (((HY.out.far bX 4 (.string q) hxy).set4 (I qr)).below b7)
  clear b7 HSh CW6 HX HY fx fy c0 c1 c2 c3 c4 c5 c6 x0 x1 x2 x3 x4 x5 x6 y0 y1 y2 y3 y4 y5 y6
  have k7:=CW7.out.ib
  have kx:=H7.out
  have ky:=H8.out
  obtain⟨c0,c1,c2,c3,c4,c5,c6⟩:=Ac0 k7
  obtain⟨x0,x1,x2,x3,x4,x5,x6⟩:=Ac0 kx
  obtain⟨y0,y1,y2,y3,y4,y5,y6⟩:=Ac0 ky
  have fx:=Aaf kx 5
  have fy:=Aaf ky 5
  clear k7 kx ky
  by_cases hu:l.used=⟨#[]⟩
  ·have hz:(l.used.toList==[])=true:=by rw[hu,Lib.toList_data];rfl
   have HUU:=hI hu
   clear hu
   go_upto_region 10 with fail
   have hA:LotBox (((w7.setCell ⟨bX,5,none⟩ (.string (I sz))).setCell ⟨bY,5,none⟩ (.string (I sr))).drew) bX {l with qty:=q,cost:=I sz}:=(H7.out.set5 (I sz)).far bY 5 (.string (I sr)) hyx
   have hB:LotBox (((w7.setCell ⟨bX,5,none⟩ (.string (I sz))).setCell ⟨bY,5,none⟩ (.string (I sr))).drew) bY {l with qty:=I qr,cost:=I sr}:=(H8.out.far bX 5 (.string (I sz)) hxy).set5 (I sr)
   have hC:CutW w l (((w7.setCell ⟨bX,5,none⟩ (.string (I sz))).setCell ⟨bY,5,none⟩ (.string (I sr))).drew):=((CW7.out.far bX 5 (.string (I sz)) LT_bX.out).far bY 5 (.string (I sr)) LT_bY.out).below (Below.refl _ _).drew
   have HLA:Hid (({l with qty:=q,cost:=I sz}:Lot)={l with qty:=q,cost:=I sz,used:=uA}):=by rw[Hid,←HUA.out,cutU,if_pos HUU.out,←HUU.out]
   have HLB:Hid (({l with qty:=I qr,cost:=I sr}:Lot)={l with qty:=I qr,cost:=I sr,used:=uB}):=by rw[Hid,←HUB.out,cutU,if_pos HUU.out,←HUU.out]
   rw[HLA.out] at hA
   rw[HLB.out] at hB
   clear HLA HLB CW7 H7 H8
   have HLX:Hid (w.heap.size+3≤bX∧w.heap.size+3≤bY):=⟨LT_bX.out,LT_bY.out⟩
   have mixed:Tryz.prog.follows .mixedOrders=true:=by kernel_rfl
   refine wp_region_any mixed (Akw (C10J w bX bY {l with qty:=q,cost:=I sz,used:=uA} {l with qty:=I qr,cost:=I sr,used:=uB} _ _ _ _ _ _ _ _ _ _ _ _ _ _ _ _ _ _ _ _ _ _ _ _ _ _ _ _ _ _ _ _ _ _ _ _ _ _ _ _ _ _ _ _ _ _ _ _ _ _ _ _ _ _ _ _) ?stC10 ?dnC10 _ _ _ _ ⟨by simp,⟨_,_,_,rfl,fun h=>by simp at h,fun h=>by simp at h,fun h=>by simp at h,hA,hB,fun _=>hC.za,fun h=>by simp at h,fun _=>hC.zb,fun h=>by simp at h,hC.be⟩⟩ (by decide))
   case dnC10 =>
    intro L a w' hj hr
    have all:=Akv hr hj.sz (by kernel_rfl)
    obtain⟨s6,s61,s62,rfl,hv⟩:=hj.fr
    have e6:=hv.k4 (all 4 (by omega))
    subst e6
    have HF:=hI (And.intro (hv.a1 (all 2 (by omega))) (And.intro (hv.b1 (all 3 (by omega))) hv.be))
    clear all hv hj hr
    dsimp only
    (first|go_wp2_with fail|skip)
    have h7:=HF.out.1
    have h8:=HF.out.2.1
    obtain⟨m0,m1,m2,m3,m4,m5,m6⟩:=lbc h7
    obtain⟨n0,n1,n2,n3,n4,n5,n6⟩:=lbc h8
    clear h7 h8
    exact bodyPost_ret (v:=.tuple #[.agg #[.string l.id,.string l.inst,.int .i64 l.acq,.int .i64 l.opn,.string q,.string (I sz),.string uA],.agg #[.string l.id,.string l.inst,.int .i64 l.acq,.int .i64 l.opn,.string (I qr),.string (I sr),.string uB],.int .i64 0]) (by simp[results,Tryz.results24,go_sem,m0,m1,m2,m3,m4,m5,m6,n0,n1,n2,n3,n4,n5,n6]) rfl ⟨rfl,HF.out.2.2⟩
   case stC10 =>
    intro L a w' hj i hi
    obtain⟨hun,o,ho,hall⟩:=mem_ready.1 hi
    have hoff:=Akk hun
    have hlt:=(Aab.1 ho).1
    simp at hlt
    obtain⟨s6,s61,s62,rfl,hv⟩:=hj.fr
    have HV:=hI hv
    have HJ:=hI hj
    clear hv hj
    rcases (show i=0∨i=1∨i=2∨i=3∨i=4 from by omega) with rfl|rfl|rfl|rfl|rfl
    ·simp at ho
     subst ho
     clear hall hi
     have hx:=HV.out.x
     obtain⟨c0,c1,c2,c3,c4,c5,c6⟩:=lbc hx
     refine Akt rfl fun K' HK=>?_
     go_simp
     exact HK.out _ _ ⟨by simp[HJ.out.sz],⟨_,_,_,rfl,fun _=>rfl,fun h0=>HV.out.k1 (Akn h0),fun h0=>HV.out.k4 (Akn h0),HV.out.x,HV.out.y,fun h0=>HV.out.a0 (Akp h0),fun h0=>HV.out.a1 (Akn h0),fun h0=>HV.out.b0 (Akp h0),fun h0=>HV.out.b1 (Akn h0),HV.out.be⟩⟩
    ·simp at ho
     subst ho
     clear hall hi
     have hx:=HV.out.y
     obtain⟨c0,c1,c2,c3,c4,c5,c6⟩:=lbc hx
     refine Akt rfl fun K' HK=>?_
     go_simp
     exact HK.out _ _ ⟨by simp[HJ.out.sz],⟨_,_,_,rfl,fun h0=>HV.out.k0 (Akn h0),fun _=>rfl,fun h0=>HV.out.k4 (Akn h0),HV.out.x,HV.out.y,fun h0=>HV.out.a0 (Akp h0),fun h0=>HV.out.a1 (Akn h0),fun h0=>HV.out.b0 (Akp h0),fun h0=>HV.out.b1 (Akn h0),HV.out.be⟩⟩
    ·simp at ho
     subst ho
     have h0x:L.getD 0 false=true:=hall {on:=0,ground:=Ground.data} (by simp) (by decide)
     have H0:=hI h0x
     clear hall hi h0x
     have e0:=HV.out.k0 H0.out
     subst e0
     have lx:=HLX.out.1;have ly:=HLX.out.2
     have HN:=hI (HV.out.a0 hoff)
     have n0:=Aaa HN.out 0;have z0:=Aaf HN.out 0
     have n1:=Aaa HN.out 1;have z1:=Aaf HN.out 1
     have n2:=Aaa HN.out 2;have z2:=Aaf HN.out 2
     have n3:=Aaa HN.out 3;have z3:=Aaf HN.out 3
     have n4:=Aaa HN.out 4;have z4:=Aaf HN.out 4
     have n5:=Aaa HN.out 5;have z5:=Aaf HN.out 5
     have n6:=Aaa HN.out 6;have z6:=Aaf HN.out 6
     simp[Lot.cells,zeroLot] at n0 n1 n2 n3 n4 n5 n6
     refine Akt rfl fun K' HK=>?_
     go_simp
     exact HK.out _ _ ⟨by simp[HJ.out.sz],⟨_,_,_,rfl,fun h0=>HV.out.k0 (Akn h0),fun h0=>HV.out.k1 (Akn h0),fun h0=>HV.out.k4 (Akn h0),(lfar7 (by omega) _ _ _ _ _ _ _).trans HV.out.x,(lfar7 (by omega) _ _ _ _ _ _ _).trans HV.out.y,fun h=>(Akq h (Aki hun)).elim,fun _=>lset7 HN.out _ _ _ _ _ _ _,fun h=>(lfar7 (by omega) _ _ _ _ _ _ _).trans (HV.out.b0 (Akp h)),fun h=>(lfar7 (by omega) _ _ _ _ _ _ _).trans (HV.out.b1 (Akn h)),An4 (by omega) HV.out.be _ _ _ _ _ _ _⟩⟩
    ·simp at ho
     subst ho
     have h1x:L.getD 1 false=true:=hall {on:=1,ground:=Ground.data} (by simp) (by decide)
     have H1:=hI h1x
     clear hall hi h1x
     have e0:=HV.out.k1 H1.out
     subst e0
     have lx:=HLX.out.1;have ly:=HLX.out.2
     have HN:=hI (HV.out.b0 hoff)
     have n0:=Aaa HN.out 0;have z0:=Aaf HN.out 0
     have n1:=Aaa HN.out 1;have z1:=Aaf HN.out 1
     have n2:=Aaa HN.out 2;have z2:=Aaf HN.out 2
     have n3:=Aaa HN.out 3;have z3:=Aaf HN.out 3
     have n4:=Aaa HN.out 4;have z4:=Aaf HN.out 4
     have n5:=Aaa HN.out 5;have z5:=Aaf HN.out 5
     have n6:=Aaa HN.out 6;have z6:=Aaf HN.out 6
     simp[Lot.cells,zeroLot] at n0 n1 n2 n3 n4 n5 n6
     refine Akt rfl fun K' HK=>?_
     go_simp
     exact HK.out _ _ ⟨by simp[HJ.out.sz],⟨_,_,_,rfl,fun h0=>HV.out.k0 (Akn h0),fun h0=>HV.out.k1 (Akn h0),fun h0=>HV.out.k4 (Akn h0),(lfar7 (by omega) _ _ _ _ _ _ _).trans HV.out.x,(lfar7 (by omega) _ _ _ _ _ _ _).trans HV.out.y,fun h=>(lfar7 (by omega) _ _ _ _ _ _ _).trans (HV.out.a0 (Akp h)),fun h=>(lfar7 (by omega) _ _ _ _ _ _ _).trans (HV.out.a1 (Akn h)),fun h=>(Akq h (Aki hun)).elim,fun _=>lset7 HN.out _ _ _ _ _ _ _,An4 (by omega) HV.out.be _ _ _ _ _ _ _⟩⟩
    ·simp at ho
     subst ho
     clear hall hi
     refine Akt rfl fun K' HK=>?_
     go_simp
     exact HK.out _ _ ⟨by simp[HJ.out.sz],⟨_,_,_,rfl,fun h0=>HV.out.k0 (Akn h0),fun h0=>HV.out.k1 (Akn h0),fun _=>rfl,HV.out.x,HV.out.y,fun h0=>HV.out.a0 (Akp h0),fun h0=>HV.out.a1 (Akn h0),fun h0=>HV.out.b0 (Akp h0),fun h0=>HV.out.b1 (Akn h0),HV.out.be⟩⟩
  ·have hz:(l.used.toList==[])=false:=Aaj.2 (fun e=>hu (by rw[show l.used=⟨l.used.data⟩ from rfl];congr 1;rw[Lib.toList_data] at e;exact Array.toList_eq_nil_iff.1 e))
   have hz':(l.used.toList != [])=true:=by rw[bne,hz];rfl
   have HUU:=hI hu
   clear hu
   go_upto_region 9 with fail
   have hA:LotBox (((w7.setCell ⟨bX,5,none⟩ (.string (I sz))).setCell ⟨bY,5,none⟩ (.string (I sr))).drew) bX {l with qty:=q,cost:=I sz}:=(H7.out.set5 (I sz)).far bY 5 (.string (I sr)) hyx
   have hB:LotBox (((w7.setCell ⟨bX,5,none⟩ (.string (I sz))).setCell ⟨bY,5,none⟩ (.string (I sr))).drew) bY {l with qty:=I qr,cost:=I sr}:=(H8.out.far bX 5 (.string (I sz)) hxy).set5 (I sr)
   have hC:CutW w l (((w7.setCell ⟨bX,5,none⟩ (.string (I sz))).setCell ⟨bY,5,none⟩ (.string (I sr))).drew):=((CW7.out.far bX 5 (.string (I sz)) LT_bX.out).far bY 5 (.string (I sr)) LT_bY.out).below (Below.refl _ _).drew
   clear CW7 H7 H8
   have HLX:Hid (w.heap.size+3≤bX∧w.heap.size+3≤bY):=⟨LT_bX.out,LT_bY.out⟩
   have HNE:Hid (bX≠bY):=hxy
   have mixed:Tryz.prog.follows .mixedOrders=true:=by kernel_rfl
   refine wp_region_any mixed (Akw (C9J w l bX bY {l with qty:=q,cost:=I sz} {l with qty:=I qr,cost:=I sr} _ _ _ _ _ _ _ _ _ _ _ _ _ _ _ _ _ _ _ _ _ _ _ _ _ _ _ _ _ _ _ _ _ _ _ _ _ _ _ _ _ _ _ _ _ _ _ _ _ _ _ _ _ _ _) ?stC9 ?dnC9 _ _ _ _ ⟨by simp,⟨_,_,_,_,_,_,rfl,fun h=>by simp at h,fun h=>by simp at h,fun h=>by simp at h,fun h=>by simp at h,fun h=>by simp at h,fun h=>by simp at h,Aaa hA 4,Aaa hB 4,fun _=>hA,fun h=>by simp at h,fun _=>hB,fun h=>by simp at h,hC⟩⟩ (by decide))
   case dnC9 =>
    intro L a w' hj hr
    have all:=Akv hr hj.sz (by kernel_rfl)
    obtain⟨s55,s56,s57,s58,s59,s60,rfl,hv⟩:=hj.fr
    have hA0:=hv.a1 (all 5 (by omega));have hB0:=hv.b1 (all 7 (by omega));have hC0:=hv.g
    clear all hv hj hr
    have hA:LotBox w'.drew bX {l with qty:=q,cost:=I sz,used:=uA}:=by have e:=HUA.out;rw[cutU,if_neg HUU.out] at e;rw[←e];exact hA0
    have hB:LotBox w'.drew bY {l with qty:=I qr,cost:=I sr,used:=uB}:=by have e:=HUB.out;rw[cutU,if_neg HUU.out] at e;rw[←e];exact hB0
    have hC:CutW w l w'.drew:=hC0.below (Below.refl _ _).drew
    clear hA0 hB0 hC0
    dsimp only
    go_upto_region 10 with fail
    have HLX:Hid (w.heap.size+3≤bX∧w.heap.size+3≤bY):=⟨LT_bX.out,LT_bY.out⟩
    have mixed:Tryz.prog.follows .mixedOrders=true:=by kernel_rfl
    refine wp_region_any mixed (Akw (C10J w bX bY {l with qty:=q,cost:=I sz,used:=uA} {l with qty:=I qr,cost:=I sr,used:=uB} _ _ _ _ _ _ _ _ _ _ _ _ _ _ _ _ _ _ _ _ _ _ _ _ _ _ _ _ _ _ _ _ _ _ _ _ _ _ _ _ _ _ _ _ _ _ _ _ _ _ _ _ _ _ _ _) ?stC10 ?dnC10 _ _ _ _ ⟨by simp,⟨_,_,_,rfl,fun h=>by simp at h,fun h=>by simp at h,fun h=>by simp at h,hA,hB,fun _=>hC.za,fun h=>by simp at h,fun _=>hC.zb,fun h=>by simp at h,hC.be⟩⟩ (by decide))
    case dnC10 =>
     intro L a w' hj hr
     have all:=Akv hr hj.sz (by kernel_rfl)
     obtain⟨s6,s61,s62,rfl,hv⟩:=hj.fr
     have e6:=hv.k4 (all 4 (by omega))
     subst e6
     have HF:=hI (And.intro (hv.a1 (all 2 (by omega))) (And.intro (hv.b1 (all 3 (by omega))) hv.be))
     clear all hv hj hr
     dsimp only
     (first|go_wp2_with fail|skip)
     have h7:=HF.out.1
     have h8:=HF.out.2.1
     obtain⟨m0,m1,m2,m3,m4,m5,m6⟩:=lbc h7
     obtain⟨n0,n1,n2,n3,n4,n5,n6⟩:=lbc h8
     clear h7 h8
     exact bodyPost_ret (v:=.tuple #[.agg #[.string l.id,.string l.inst,.int .i64 l.acq,.int .i64 l.opn,.string q,.string (I sz),.string uA],.agg #[.string l.id,.string l.inst,.int .i64 l.acq,.int .i64 l.opn,.string (I qr),.string (I sr),.string uB],.int .i64 0]) (by simp[results,Tryz.results24,go_sem,m0,m1,m2,m3,m4,m5,m6,n0,n1,n2,n3,n4,n5,n6]) rfl ⟨rfl,HF.out.2.2⟩
    case stC10 =>
     intro L a w' hj i hi
     obtain⟨hun,o,ho,hall⟩:=mem_ready.1 hi
     have hoff:=Akk hun
     have hlt:=(Aab.1 ho).1
     simp at hlt
     obtain⟨s6,s61,s62,rfl,hv⟩:=hj.fr
     have HV:=hI hv
     have HJ:=hI hj
     clear hv hj
     rcases (show i=0∨i=1∨i=2∨i=3∨i=4 from by omega) with rfl|rfl|rfl|rfl|rfl
     ·simp at ho
      subst ho
      clear hall hi
      have hx:=HV.out.x
      obtain⟨c0,c1,c2,c3,c4,c5,c6⟩:=lbc hx
      refine Akt rfl fun K' HK=>?_
      go_simp
      exact HK.out _ _ ⟨by simp[HJ.out.sz],⟨_,_,_,rfl,fun _=>rfl,fun h0=>HV.out.k1 (Akn h0),fun h0=>HV.out.k4 (Akn h0),HV.out.x,HV.out.y,fun h0=>HV.out.a0 (Akp h0),fun h0=>HV.out.a1 (Akn h0),fun h0=>HV.out.b0 (Akp h0),fun h0=>HV.out.b1 (Akn h0),HV.out.be⟩⟩
     ·simp at ho
      subst ho
      clear hall hi
      have hx:=HV.out.y
      obtain⟨c0,c1,c2,c3,c4,c5,c6⟩:=lbc hx
      refine Akt rfl fun K' HK=>?_
      go_simp
      exact HK.out _ _ ⟨by simp[HJ.out.sz],⟨_,_,_,rfl,fun h0=>HV.out.k0 (Akn h0),fun _=>rfl,fun h0=>HV.out.k4 (Akn h0),HV.out.x,HV.out.y,fun h0=>HV.out.a0 (Akp h0),fun h0=>HV.out.a1 (Akn h0),fun h0=>HV.out.b0 (Akp h0),fun h0=>HV.out.b1 (Akn h0),HV.out.be⟩⟩
     ·simp at ho
      subst ho
      have h0x:L.getD 0 false=true:=hall {on:=0,ground:=Ground.data} (by simp) (by decide)
      have H0:=hI h0x
      clear hall hi h0x
      have e0:=HV.out.k0 H0.out
      subst e0
      have lx:=HLX.out.1;have ly:=HLX.out.2
      have HN:=hI (HV.out.a0 hoff)
      have n0:=Aaa HN.out 0;have z0:=Aaf HN.out 0
      have n1:=Aaa HN.out 1;have z1:=Aaf HN.out 1
      have n2:=Aaa HN.out 2;have z2:=Aaf HN.out 2
      have n3:=Aaa HN.out 3;have z3:=Aaf HN.out 3
      have n4:=Aaa HN.out 4;have z4:=Aaf HN.out 4
      have n5:=Aaa HN.out 5;have z5:=Aaf HN.out 5
      have n6:=Aaa HN.out 6;have z6:=Aaf HN.out 6
      simp[Lot.cells,zeroLot] at n0 n1 n2 n3 n4 n5 n6
      refine Akt rfl fun K' HK=>?_
      go_simp
      exact HK.out _ _ ⟨by simp[HJ.out.sz],⟨_,_,_,rfl,fun h0=>HV.out.k0 (Akn h0),fun h0=>HV.out.k1 (Akn h0),fun h0=>HV.out.k4 (Akn h0),(lfar7 (by omega) _ _ _ _ _ _ _).trans HV.out.x,(lfar7 (by omega) _ _ _ _ _ _ _).trans HV.out.y,fun h=>(Akq h (Aki hun)).elim,fun _=>lset7 HN.out _ _ _ _ _ _ _,fun h=>(lfar7 (by omega) _ _ _ _ _ _ _).trans (HV.out.b0 (Akp h)),fun h=>(lfar7 (by omega) _ _ _ _ _ _ _).trans (HV.out.b1 (Akn h)),An4 (by omega) HV.out.be _ _ _ _ _ _ _⟩⟩
     ·simp at ho
      subst ho
      have h1x:L.getD 1 false=true:=hall {on:=1,ground:=Ground.data} (by simp) (by decide)
      have H1:=hI h1x
      clear hall hi h1x
      have e0:=HV.out.k1 H1.out
      subst e0
      have lx:=HLX.out.1;have ly:=HLX.out.2
      have HN:=hI (HV.out.b0 hoff)
      have n0:=Aaa HN.out 0;have z0:=Aaf HN.out 0
      have n1:=Aaa HN.out 1;have z1:=Aaf HN.out 1
      have n2:=Aaa HN.out 2;have z2:=Aaf HN.out 2
      have n3:=Aaa HN.out 3;have z3:=Aaf HN.out 3
      have n4:=Aaa HN.out 4;have z4:=Aaf HN.out 4
      have n5:=Aaa HN.out 5;have z5:=Aaf HN.out 5
      have n6:=Aaa HN.out 6;have z6:=Aaf HN.out 6
      simp[Lot.cells,zeroLot] at n0 n1 n2 n3 n4 n5 n6
      refine Akt rfl fun K' HK=>?_
      go_simp
      exact HK.out _ _ ⟨by simp[HJ.out.sz],⟨_,_,_,rfl,fun h0=>HV.out.k0 (Akn h0),fun h0=>HV.out.k1 (Akn h0),fun h0=>HV.out.k4 (Akn h0),(lfar7 (by omega) _ _ _ _ _ _ _).trans HV.out.x,(lfar7 (by omega) _ _ _ _ _ _ _).trans HV.out.y,fun h=>(lfar7 (by omega) _ _ _ _ _ _ _).trans (HV.out.a0 (Akp h)),fun h=>(lfar7 (by omega) _ _ _ _ _ _ _).trans (HV.out.a1 (Akn h)),fun h=>(Akq h (Aki hun)).elim,fun _=>lset7 HN.out _ _ _ _ _ _ _,An4 (by omega) HV.out.be _ _ _ _ _ _ _⟩⟩
     ·simp at ho
      subst ho
      clear hall hi
      refine Akt rfl fun K' HK=>?_
      go_simp
      exact HK.out _ _ ⟨by simp[HJ.out.sz],⟨_,_,_,rfl,fun h0=>HV.out.k0 (Akn h0),fun h0=>HV.out.k1 (Akn h0),fun _=>rfl,HV.out.x,HV.out.y,fun h0=>HV.out.a0 (Akp h0),fun h0=>HV.out.a1 (Akn h0),fun h0=>HV.out.b0 (Akp h0),fun h0=>HV.out.b1 (Akn h0),HV.out.be⟩⟩
   case stC9 =>
    intro L a w' hj i hi
    obtain⟨hun,o,ho,hall⟩:=mem_ready.1 hi
    have hoff:=Akk hun
    have hlt:=(Aab.1 ho).1
    simp at hlt
    obtain⟨s55,s56,s57,s58,s59,s60,rfl,hv⟩:=hj.fr
    have HV:=hI hv
    have HJ:=hI hj
    clear hv hj
    rcases (show i=0∨i=1∨i=2∨i=3∨i=4∨i=5∨i=6∨i=7 from by omega) with rfl|rfl|rfl|rfl|rfl|rfl|rfl|rfl
    ·simp at ho
     subst ho
     clear hall hi
     refine Akt rfl fun K' HK=>?_
     go_simp
     cases HV.out
     refine HK.out _ _ ⟨by simp[HJ.out.sz],⟨_,_,_,_,_,_,rfl,fun _=>rfl,?_,?_,?_,?_,?_,HV.out.cx,HV.out.cy,fun h0=>HV.out.a0 (Akp h0),?_,fun h0=>HV.out.b0 (Akp h0),?_,HV.out.g⟩⟩
     all_goals exact Um (by assumption)
    ·simp at ho
     subst ho
     have h0x:L.getD 0 false=true:=hall {on:=0,ground:=Ground.data} (by simp) (by decide)
     have H0:=hI h0x
     clear hall hi h0x
     have e0:=HV.out.k0 H0.out
     subst e0
     have cx:=HV.out.cx
     refine Akt rfl fun K' HK=>?_
     go_simp
     cases HV.out
     refine HK.out _ _ ⟨by simp[HJ.out.sz],⟨_,_,_,_,_,_,rfl,?_,fun _=>rfl,?_,?_,?_,?_,HV.out.cx,HV.out.cy,fun h0=>HV.out.a0 (Akp h0),?_,fun h0=>HV.out.b0 (Akp h0),?_,HV.out.g⟩⟩
     all_goals exact Um (by assumption)
    ·simp at ho
     subst ho
     clear hall hi
     refine Akt rfl fun K' HK=>?_
     go_simp
     cases HV.out
     refine HK.out _ _ ⟨by simp[HJ.out.sz],⟨_,_,_,_,_,_,rfl,?_,?_,fun _=>rfl,?_,?_,?_,HV.out.cx,HV.out.cy,fun h0=>HV.out.a0 (Akp h0),?_,fun h0=>HV.out.b0 (Akp h0),?_,HV.out.g⟩⟩
     all_goals exact Um (by assumption)
    ·simp at ho
     subst ho
     have h2x:L.getD 2 false=true:=hall {on:=2,ground:=Ground.data} (by simp) (by decide)
     have H2:=hI h2x
     clear hall hi h2x
     have e0:=HV.out.k2 H2.out
     subst e0
     have cy:=HV.out.cy
     refine Akt rfl fun K' HK=>?_
     go_simp
     cases HV.out
     refine HK.out _ _ ⟨by simp[HJ.out.sz],⟨_,_,_,_,_,_,rfl,?_,?_,?_,fun _=>rfl,?_,?_,HV.out.cx,HV.out.cy,fun h0=>HV.out.a0 (Akp h0),?_,fun h0=>HV.out.b0 (Akp h0),?_,HV.out.g⟩⟩
     all_goals exact Um (by assumption)
    ·simp at ho
     subst ho
     clear hall hi
     refine Akt rfl fun K' HK=>?_
     go_simp
     cases HV.out
     refine HK.out _ _ ⟨by simp[HJ.out.sz],⟨_,_,_,_,_,_,rfl,?_,?_,?_,?_,fun _=>rfl,?_,HV.out.cx,HV.out.cy,fun h0=>HV.out.a0 (Akp h0),?_,fun h0=>HV.out.b0 (Akp h0),?_,HV.out.g⟩⟩
     all_goals exact Um (by assumption)
    ·simp at ho
     subst ho
     have h1x:L.getD 1 false=true:=hall {on:=1,ground:=Ground.data} (by simp) (by decide)
     have h4x:L.getD 4 false=true:=hall {on:=4,ground:=Ground.data} (by simp) (by decide)
     have H1:=hI h1x
     have H4:=hI h4x
     clear hall hi h1x h4x
     have e0:=HV.out.k1 H1.out
     subst e0
     have e1:=HV.out.k4 H4.out
     subst e1
     have lx:=HLX.out.1;have ly:=HLX.out.2;have lz:=HNE.out
     have HN:=hI (HV.out.a0 hoff)
     have n0:=Aaa HN.out 6;have z0:=Aaf HN.out 6
     simp[Lot.cells] at n0
     refine Akt rfl fun K' HK=>?_
     go_simp
     cases HV.out
     refine HK.out _ _ ⟨by simp[HJ.out.sz],⟨_,_,_,_,_,_,rfl,?_,?_,?_,?_,?_,?_,Aaa (HN.out.set6 _) 4,(World.cell?_of_block (Below.heap_setCell _ _ _ _ (by simp;omega))).trans HV.out.cy,fun h=>(Akq h (Aki hun)).elim,fun _=>HN.out.set6 _,fun h=>(HV.out.b0 (Akp h)).far _ 6 _ (by omega),fun h=>(HV.out.b1 (Akn h)).far _ 6 _ (by omega),HV.out.g.far _ 6 _ (by omega)⟩⟩
     all_goals exact Um (by assumption)
    ·simp at ho
     subst ho
     clear hall hi
     refine Akt rfl fun K' HK=>?_
     go_simp
     cases HV.out
     refine HK.out _ _ ⟨by simp[HJ.out.sz],⟨_,_,_,_,_,_,rfl,?_,?_,?_,?_,?_,fun _=>rfl,HV.out.cx,HV.out.cy,fun h0=>HV.out.a0 (Akp h0),?_,fun h0=>HV.out.b0 (Akp h0),?_,HV.out.g⟩⟩
     all_goals exact Um (by assumption)
    ·simp at ho
     subst ho
     have h3x:L.getD 3 false=true:=hall {on:=3,ground:=Ground.data} (by simp) (by decide)
     have h6x:L.getD 6 false=true:=hall {on:=6,ground:=Ground.data} (by simp) (by decide)
     have H3:=hI h3x
     have H6:=hI h6x
     clear hall hi h3x h6x
     have e0:=HV.out.k3 H3.out
     subst e0
     have e1:=HV.out.k6 H6.out
     subst e1
     have lx:=HLX.out.1;have ly:=HLX.out.2;have lz:=HNE.out
     have HN:=hI (HV.out.b0 hoff)
     have n0:=Aaa HN.out 6;have z0:=Aaf HN.out 6
     simp[Lot.cells] at n0
     refine Akt rfl fun K' HK=>?_
     go_simp
     cases HV.out
     refine HK.out _ _ ⟨by simp[HJ.out.sz],⟨_,_,_,_,_,_,rfl,?_,?_,?_,?_,?_,?_,(World.cell?_of_block (Below.heap_setCell _ _ _ _ (by simp;omega))).trans HV.out.cx,Aaa (HN.out.set6 _) 4,fun h=>(HV.out.a0 (Akp h)).far _ 6 _ (by omega),fun h=>(HV.out.a1 (Akn h)).far _ 6 _ (by omega),fun h=>(Akq h (Aki hun)).elim,fun _=>HN.out.set6 _,HV.out.g.far _ 6 _ (by omega)⟩⟩
     all_goals exact Um (by assumption)
 ·have CW5:=hI (show CutW w l (((w4.alloc (.cells l.cells 38)).alloc (.cells l.cells 38)).drew) from CW4.out.below (((Below.refl _ w4).alloc (Aad _) _).alloc (by simp) _).drew)
  have TN:=An3 w4 l
  have LT:=CW4.out.lt
  unfold Lot.cells at CW5 TN
  generalize (((w4.alloc (.cells #[.string l.id,.string l.inst,.int .i64 l.acq,.int .i64 l.opn,.string l.qty,.string l.cost,.string l.used] 38)).alloc (.cells #[.string l.id,.string l.inst,.int .i64 l.acq,.int .i64 l.opn,.string l.qty,.string l.cost,.string l.used] 38)).drew)=w5 at CW5 TN ⊢
  have hxy:w4.heap.size≠w4.heap.size+1:=by omega
  have hyx:w4.heap.size+1≠w4.heap.size:=by omega
  have LTY:w.heap.size+3≤w4.heap.size+1:=by omega
  generalize w4.heap.size+1=bY at hxy hyx LTY TN ⊢
  generalize w4.heap.size=bX at hxy hyx LT LTY TN ⊢
  have LT_bX:=hI LT
  have LT_bY:=hI LTY
  have k5:=CW5.out.ib
  have HX:=hI TN.1
  have HY:=hI TN.2
  clear c0 c1 c2 c3 c4 c5 c6 CW4
  obtain⟨c0,c1,c2,c3,c4,c5,c6⟩:=Ac0 k5
  clear k5 TN
  go_wp2_with fail
  refine (HSub.out w5 (HT.out.below CW5.out.be)).mono ?_
  rintro e w6 ⟨rfl,b6⟩
  have CW6:=hI (CW5.out.below b6)
  replace HX:=hI (HX.out.below b6)
  replace HY:=hI (HY.out.below b6)
  clear b6 HSub CW5 c0 c1 c2 c3 c4 c5 c6
  have k6:=CW6.out.ib
  have kx:=HX.out
  have ky:=HY.out
  obtain⟨c0,c1,c2,c3,c4,c5,c6⟩:=Ac0 k6
  obtain⟨x0,x1,x2,x3,x4,x5,x6⟩:=Ac0 kx
  obtain⟨y0,y1,y2,y3,y4,y5,y6⟩:=Ac0 ky
  have fx:=Aaf kx 4
  have fy:=Aaf ky 4
  clear k6 kx ky
  go_wp2_with fail
  refine (HSh.out _ (HT.out.below ((CW6.out.far bY 4 (.string q) LT_bY.out).far bX 4 (.string (I qr)) LT_bX.out).be)).mono ?_
  rintro e w7 ⟨rfl,b7⟩
  have CW7:=hI (((CW6.out.far bY 4 (.string q) LT_bY.out).far bX 4 (.string (I qr)) LT_bX.out).below b7)
  have H7:=hI (((HY.out.set4 q).far bX 4 (.string (I qr)) hxy).below b7)
  have H8:=hI (((HX.out.far bY 4 (.string q) hyx).set4 (I qr)).below b7)
  clear b7 HSh CW6 HX HY fx fy c0 c1 c2 c3 c4 c5 c6 x0 x1 x2 x3 x4 x5 x6 y0 y1 y2 y3 y4 y5 y6
  have k7:=CW7.out.ib
  have kx:=H7.out
  have ky:=H8.out
  obtain⟨c0,c1,c2,c3,c4,c5,c6⟩:=Ac0 k7
  obtain⟨x0,x1,x2,x3,x4,x5,x6⟩:=Ac0 kx
  obtain⟨y0,y1,y2,y3,y4,y5,y6⟩:=Ac0 ky
  have fx:=Aaf kx 5
  have fy:=Aaf ky 5
  clear k7 kx ky
  by_cases hu:l.used=⟨#[]⟩
  ·have hz:(l.used.toList==[])=true:=by rw[hu,Lib.toList_data];rfl
   have HUU:=hI hu
   clear hu
   go_upto_region 10 with fail
   have hA:LotBox (((w7.setCell ⟨bY,5,none⟩ (.string (I sz))).setCell ⟨bX,5,none⟩ (.string (I sr))).drew) bY {l with qty:=q,cost:=I sz}:=(H7.out.set5 (I sz)).far bX 5 (.string (I sr)) hxy
   have hB:LotBox (((w7.setCell ⟨bY,5,none⟩ (.string (I sz))).setCell ⟨bX,5,none⟩ (.string (I sr))).drew) bX {l with qty:=I qr,cost:=I sr}:=(H8.out.far bY 5 (.string (I sz)) hyx).set5 (I sr)
   have hC:CutW w l (((w7.setCell ⟨bY,5,none⟩ (.string (I sz))).setCell ⟨bX,5,none⟩ (.string (I sr))).drew):=((CW7.out.far bY 5 (.string (I sz)) LT_bY.out).far bX 5 (.string (I sr)) LT_bX.out).below (Below.refl _ _).drew
   have HLA:Hid (({l with qty:=q,cost:=I sz}:Lot)={l with qty:=q,cost:=I sz,used:=uA}):=by rw[Hid,←HUA.out,cutU,if_pos HUU.out,←HUU.out]
   have HLB:Hid (({l with qty:=I qr,cost:=I sr}:Lot)={l with qty:=I qr,cost:=I sr,used:=uB}):=by rw[Hid,←HUB.out,cutU,if_pos HUU.out,←HUU.out]
   rw[HLA.out] at hA
   rw[HLB.out] at hB
   clear HLA HLB CW7 H7 H8
   have HLX:Hid (w.heap.size+3≤bY∧w.heap.size+3≤bX):=⟨LT_bY.out,LT_bX.out⟩
   have mixed:Tryz.prog.follows .mixedOrders=true:=by kernel_rfl
   refine wp_region_any mixed (Akw (C10J w bY bX {l with qty:=q,cost:=I sz,used:=uA} {l with qty:=I qr,cost:=I sr,used:=uB} _ _ _ _ _ _ _ _ _ _ _ _ _ _ _ _ _ _ _ _ _ _ _ _ _ _ _ _ _ _ _ _ _ _ _ _ _ _ _ _ _ _ _ _ _ _ _ _ _ _ _ _ _ _ _ _) ?stC10 ?dnC10 _ _ _ _ ⟨by simp,⟨_,_,_,rfl,fun h=>by simp at h,fun h=>by simp at h,fun h=>by simp at h,hA,hB,fun _=>hC.za,fun h=>by simp at h,fun _=>hC.zb,fun h=>by simp at h,hC.be⟩⟩ (by decide))
   case dnC10 =>
    intro L a w' hj hr
    have all:=Akv hr hj.sz (by kernel_rfl)
    obtain⟨s6,s61,s62,rfl,hv⟩:=hj.fr
    have e6:=hv.k4 (all 4 (by omega))
    subst e6
    have HF:=hI (And.intro (hv.a1 (all 2 (by omega))) (And.intro (hv.b1 (all 3 (by omega))) hv.be))
    clear all hv hj hr
    dsimp only
    (first|go_wp2_with fail|skip)
    have h7:=HF.out.1
    have h8:=HF.out.2.1
    obtain⟨m0,m1,m2,m3,m4,m5,m6⟩:=lbc h7
    obtain⟨n0,n1,n2,n3,n4,n5,n6⟩:=lbc h8
    clear h7 h8
    exact bodyPost_ret (v:=.tuple #[.agg #[.string l.id,.string l.inst,.int .i64 l.acq,.int .i64 l.opn,.string q,.string (I sz),.string uA],.agg #[.string l.id,.string l.inst,.int .i64 l.acq,.int .i64 l.opn,.string (I qr),.string (I sr),.string uB],.int .i64 0]) (by simp[results,Tryz.results24,go_sem,m0,m1,m2,m3,m4,m5,m6,n0,n1,n2,n3,n4,n5,n6]) rfl ⟨rfl,HF.out.2.2⟩
   case stC10 =>
    intro L a w' hj i hi
    obtain⟨hun,o,ho,hall⟩:=mem_ready.1 hi
    have hoff:=Akk hun
    have hlt:=(Aab.1 ho).1
    simp at hlt
    obtain⟨s6,s61,s62,rfl,hv⟩:=hj.fr
    have HV:=hI hv
    have HJ:=hI hj
    clear hv hj
    rcases (show i=0∨i=1∨i=2∨i=3∨i=4 from by omega) with rfl|rfl|rfl|rfl|rfl
    ·simp at ho
     subst ho
     clear hall hi
     have hx:=HV.out.x
     obtain⟨c0,c1,c2,c3,c4,c5,c6⟩:=lbc hx
     refine Akt rfl fun K' HK=>?_
     go_simp
     exact HK.out _ _ ⟨by simp[HJ.out.sz],⟨_,_,_,rfl,fun _=>rfl,fun h0=>HV.out.k1 (Akn h0),fun h0=>HV.out.k4 (Akn h0),HV.out.x,HV.out.y,fun h0=>HV.out.a0 (Akp h0),fun h0=>HV.out.a1 (Akn h0),fun h0=>HV.out.b0 (Akp h0),fun h0=>HV.out.b1 (Akn h0),HV.out.be⟩⟩
    ·simp at ho
     subst ho
     clear hall hi
     have hx:=HV.out.y
     obtain⟨c0,c1,c2,c3,c4,c5,c6⟩:=lbc hx
     refine Akt rfl fun K' HK=>?_
     go_simp
     exact HK.out _ _ ⟨by simp[HJ.out.sz],⟨_,_,_,rfl,fun h0=>HV.out.k0 (Akn h0),fun _=>rfl,fun h0=>HV.out.k4 (Akn h0),HV.out.x,HV.out.y,fun h0=>HV.out.a0 (Akp h0),fun h0=>HV.out.a1 (Akn h0),fun h0=>HV.out.b0 (Akp h0),fun h0=>HV.out.b1 (Akn h0),HV.out.be⟩⟩
    ·simp at ho
     subst ho
     have h0x:L.getD 0 false=true:=hall {on:=0,ground:=Ground.data} (by simp) (by decide)
     have H0:=hI h0x
     clear hall hi h0x
     have e0:=HV.out.k0 H0.out
     subst e0
     have lx:=HLX.out.1;have ly:=HLX.out.2
     have HN:=hI (HV.out.a0 hoff)
     have n0:=Aaa HN.out 0;have z0:=Aaf HN.out 0
     have n1:=Aaa HN.out 1;have z1:=Aaf HN.out 1
     have n2:=Aaa HN.out 2;have z2:=Aaf HN.out 2
     have n3:=Aaa HN.out 3;have z3:=Aaf HN.out 3
     have n4:=Aaa HN.out 4;have z4:=Aaf HN.out 4
     have n5:=Aaa HN.out 5;have z5:=Aaf HN.out 5
     have n6:=Aaa HN.out 6;have z6:=Aaf HN.out 6
     simp[Lot.cells,zeroLot] at n0 n1 n2 n3 n4 n5 n6
     refine Akt rfl fun K' HK=>?_
     go_simp
     exact HK.out _ _ ⟨by simp[HJ.out.sz],⟨_,_,_,rfl,fun h0=>HV.out.k0 (Akn h0),fun h0=>HV.out.k1 (Akn h0),fun h0=>HV.out.k4 (Akn h0),(lfar7 (by omega) _ _ _ _ _ _ _).trans HV.out.x,(lfar7 (by omega) _ _ _ _ _ _ _).trans HV.out.y,fun h=>(Akq h (Aki hun)).elim,fun _=>lset7 HN.out _ _ _ _ _ _ _,fun h=>(lfar7 (by omega) _ _ _ _ _ _ _).trans (HV.out.b0 (Akp h)),fun h=>(lfar7 (by omega) _ _ _ _ _ _ _).trans (HV.out.b1 (Akn h)),An4 (by omega) HV.out.be _ _ _ _ _ _ _⟩⟩
    ·simp at ho
     subst ho
     have h1x:L.getD 1 false=true:=hall {on:=1,ground:=Ground.data} (by simp) (by decide)
     have H1:=hI h1x
     clear hall hi h1x
     have e0:=HV.out.k1 H1.out
     subst e0
     have lx:=HLX.out.1;have ly:=HLX.out.2
     have HN:=hI (HV.out.b0 hoff)
     have n0:=Aaa HN.out 0;have z0:=Aaf HN.out 0
     have n1:=Aaa HN.out 1;have z1:=Aaf HN.out 1
     have n2:=Aaa HN.out 2;have z2:=Aaf HN.out 2
     have n3:=Aaa HN.out 3;have z3:=Aaf HN.out 3
     have n4:=Aaa HN.out 4;have z4:=Aaf HN.out 4
     have n5:=Aaa HN.out 5;have z5:=Aaf HN.out 5
     have n6:=Aaa HN.out 6;have z6:=Aaf HN.out 6
     simp[Lot.cells,zeroLot] at n0 n1 n2 n3 n4 n5 n6
     refine Akt rfl fun K' HK=>?_
     go_simp
     exact HK.out _ _ ⟨by simp[HJ.out.sz],⟨_,_,_,rfl,fun h0=>HV.out.k0 (Akn h0),fun h0=>HV.out.k1 (Akn h0),fun h0=>HV.out.k4 (Akn h0),(lfar7 (by omega) _ _ _ _ _ _ _).trans HV.out.x,(lfar7 (by omega) _ _ _ _ _ _ _).trans HV.out.y,fun h=>(lfar7 (by omega) _ _ _ _ _ _ _).trans (HV.out.a0 (Akp h)),fun h=>(lfar7 (by omega) _ _ _ _ _ _ _).trans (HV.out.a1 (Akn h)),fun h=>(Akq h (Aki hun)).elim,fun _=>lset7 HN.out _ _ _ _ _ _ _,An4 (by omega) HV.out.be _ _ _ _ _ _ _⟩⟩
    ·simp at ho
     subst ho
     clear hall hi
     refine Akt rfl fun K' HK=>?_
     go_simp
     exact HK.out _ _ ⟨by simp[HJ.out.sz],⟨_,_,_,rfl,fun h0=>HV.out.k0 (Akn h0),fun h0=>HV.out.k1 (Akn h0),fun _=>rfl,HV.out.x,HV.out.y,fun h0=>HV.out.a0 (Akp h0),fun h0=>HV.out.a1 (Akn h0),fun h0=>HV.out.b0 (Akp h0),fun h0=>HV.out.b1 (Akn h0),HV.out.be⟩⟩
  ·have hz:(l.used.toList==[])=false:=Aaj.2 (fun e=>hu (by rw[show l.used=⟨l.used.data⟩ from rfl];congr 1;rw[Lib.toList_data] at e;exact Array.toList_eq_nil_iff.1 e))
   have hz':(l.used.toList != [])=true:=by rw[bne,hz];rfl
   have HUU:=hI hu
   clear hu
   go_upto_region 9 with fail
   have hA:LotBox (((w7.setCell ⟨bY,5,none⟩ (.string (I sz))).setCell ⟨bX,5,none⟩ (.string (I sr))).drew) bY {l with qty:=q,cost:=I sz}:=(H7.out.set5 (I sz)).far bX 5 (.string (I sr)) hxy
   have hB:LotBox (((w7.setCell ⟨bY,5,none⟩ (.string (I sz))).setCell ⟨bX,5,none⟩ (.string (I sr))).drew) bX {l with qty:=I qr,cost:=I sr}:=(H8.out.far bY 5 (.string (I sz)) hyx).set5 (I sr)
   have hC:CutW w l (((w7.setCell ⟨bY,5,none⟩ (.string (I sz))).setCell ⟨bX,5,none⟩ (.string (I sr))).drew):=((CW7.out.far bY 5 (.string (I sz)) LT_bY.out).far bX 5 (.string (I sr)) LT_bX.out).below (Below.refl _ _).drew
   clear CW7 H7 H8
   have HLX:Hid (w.heap.size+3≤bY∧w.heap.size+3≤bX):=⟨LT_bY.out,LT_bX.out⟩
   have HNE:Hid (bY≠bX):=hyx
   have mixed:Tryz.prog.follows .mixedOrders=true:=by kernel_rfl
   refine wp_region_any mixed (Akw (C9J w l bY bX {l with qty:=q,cost:=I sz} {l with qty:=I qr,cost:=I sr} _ _ _ _ _ _ _ _ _ _ _ _ _ _ _ _ _ _ _ _ _ _ _ _ _ _ _ _ _ _ _ _ _ _ _ _ _ _ _ _ _ _ _ _ _ _ _ _ _ _ _ _ _ _ _) ?stC9 ?dnC9 _ _ _ _ ⟨by simp,⟨_,_,_,_,_,_,rfl,fun h=>by simp at h,fun h=>by simp at h,fun h=>by simp at h,fun h=>by simp at h,fun h=>by simp at h,fun h=>by simp at h,Aaa hA 4,Aaa hB 4,fun _=>hA,fun h=>by simp at h,fun _=>hB,fun h=>by simp at h,hC⟩⟩ (by decide))
   case dnC9 =>
    intro L a w' hj hr
    have all:=Akv hr hj.sz (by kernel_rfl)
    obtain⟨s55,s56,s57,s58,s59,s60,rfl,hv⟩:=hj.fr
    have hA0:=hv.a1 (all 5 (by omega));have hB0:=hv.b1 (all 7 (by omega));have hC0:=hv.g
    clear all hv hj hr
    have hA:LotBox w'.drew bY {l with qty:=q,cost:=I sz,used:=uA}:=by have e:=HUA.out;rw[cutU,if_neg HUU.out] at e;rw[←e];exact hA0
    have hB:LotBox w'.drew bX {l with qty:=I qr,cost:=I sr,used:=uB}:=by have e:=HUB.out;rw[cutU,if_neg HUU.out] at e;rw[←e];exact hB0
    have hC:CutW w l w'.drew:=hC0.below (Below.refl _ _).drew
    clear hA0 hB0 hC0
    dsimp only
    go_upto_region 10 with fail
    have HLX:Hid (w.heap.size+3≤bY∧w.heap.size+3≤bX):=⟨LT_bY.out,LT_bX.out⟩
    have mixed:Tryz.prog.follows .mixedOrders=true:=by kernel_rfl
    refine wp_region_any mixed (Akw (C10J w bY bX {l with qty:=q,cost:=I sz,used:=uA} {l with qty:=I qr,cost:=I sr,used:=uB} _ _ _ _ _ _ _ _ _ _ _ _ _ _ _ _ _ _ _ _ _ _ _ _ _ _ _ _ _ _ _ _ _ _ _ _ _ _ _ _ _ _ _ _ _ _ _ _ _ _ _ _ _ _ _ _) ?stC10 ?dnC10 _ _ _ _ ⟨by simp,⟨_,_,_,rfl,fun h=>by simp at h,fun h=>by simp at h,fun h=>by simp at h,hA,hB,fun _=>hC.za,fun h=>by simp at h,fun _=>hC.zb,fun h=>by simp at h,hC.be⟩⟩ (by decide))
    case dnC10 =>
     intro L a w' hj hr
     have all:=Akv hr hj.sz (by kernel_rfl)
     obtain⟨s6,s61,s62,rfl,hv⟩:=hj.fr
     have e6:=hv.k4 (all 4 (by omega))
     subst e6
     have HF:=hI (And.intro (hv.a1 (all 2 (by omega))) (And.intro (hv.b1 (all 3 (by omega))) hv.be))
     clear all hv hj hr
     dsimp only
     (first|go_wp2_with fail|skip)
     have h7:=HF.out.1
     have h8:=HF.out.2.1
     obtain⟨m0,m1,m2,m3,m4,m5,m6⟩:=lbc h7
     obtain⟨n0,n1,n2,n3,n4,n5,n6⟩:=lbc h8
     clear h7 h8
     exact bodyPost_ret (v:=.tuple #[.agg #[.string l.id,.string l.inst,.int .i64 l.acq,.int .i64 l.opn,.string q,.string (I sz),.string uA],.agg #[.string l.id,.string l.inst,.int .i64 l.acq,.int .i64 l.opn,.string (I qr),.string (I sr),.string uB],.int .i64 0]) (by simp[results,Tryz.results24,go_sem,m0,m1,m2,m3,m4,m5,m6,n0,n1,n2,n3,n4,n5,n6]) rfl ⟨rfl,HF.out.2.2⟩
    case stC10 =>
     intro L a w' hj i hi
     obtain⟨hun,o,ho,hall⟩:=mem_ready.1 hi
     have hoff:=Akk hun
     have hlt:=(Aab.1 ho).1
     simp at hlt
     obtain⟨s6,s61,s62,rfl,hv⟩:=hj.fr
     have HV:=hI hv
     have HJ:=hI hj
     clear hv hj
     rcases (show i=0∨i=1∨i=2∨i=3∨i=4 from by omega) with rfl|rfl|rfl|rfl|rfl
     ·simp at ho
      subst ho
      clear hall hi
      have hx:=HV.out.x
      obtain⟨c0,c1,c2,c3,c4,c5,c6⟩:=lbc hx
      refine Akt rfl fun K' HK=>?_
      go_simp
      exact HK.out _ _ ⟨by simp[HJ.out.sz],⟨_,_,_,rfl,fun _=>rfl,fun h0=>HV.out.k1 (Akn h0),fun h0=>HV.out.k4 (Akn h0),HV.out.x,HV.out.y,fun h0=>HV.out.a0 (Akp h0),fun h0=>HV.out.a1 (Akn h0),fun h0=>HV.out.b0 (Akp h0),fun h0=>HV.out.b1 (Akn h0),HV.out.be⟩⟩
     ·simp at ho
      subst ho
      clear hall hi
      have hx:=HV.out.y
      obtain⟨c0,c1,c2,c3,c4,c5,c6⟩:=lbc hx
      refine Akt rfl fun K' HK=>?_
      go_simp
      exact HK.out _ _ ⟨by simp[HJ.out.sz],⟨_,_,_,rfl,fun h0=>HV.out.k0 (Akn h0),fun _=>rfl,fun h0=>HV.out.k4 (Akn h0),HV.out.x,HV.out.y,fun h0=>HV.out.a0 (Akp h0),fun h0=>HV.out.a1 (Akn h0),fun h0=>HV.out.b0 (Akp h0),fun h0=>HV.out.b1 (Akn h0),HV.out.be⟩⟩
     ·simp at ho
      subst ho
      have h0x:L.getD 0 false=true:=hall {on:=0,ground:=Ground.data} (by simp) (by decide)
      have H0:=hI h0x
      clear hall hi h0x
      have e0:=HV.out.k0 H0.out
      subst e0
      have lx:=HLX.out.1;have ly:=HLX.out.2
      have HN:=hI (HV.out.a0 hoff)
      have n0:=Aaa HN.out 0;have z0:=Aaf HN.out 0
      have n1:=Aaa HN.out 1;have z1:=Aaf HN.out 1
      have n2:=Aaa HN.out 2;have z2:=Aaf HN.out 2
      have n3:=Aaa HN.out 3;have z3:=Aaf HN.out 3
      have n4:=Aaa HN.out 4;have z4:=Aaf HN.out 4
      have n5:=Aaa HN.out 5;have z5:=Aaf HN.out 5
      have n6:=Aaa HN.out 6;have z6:=Aaf HN.out 6
      simp[Lot.cells,zeroLot] at n0 n1 n2 n3 n4 n5 n6
      refine Akt rfl fun K' HK=>?_
      go_simp
      exact HK.out _ _ ⟨by simp[HJ.out.sz],⟨_,_,_,rfl,fun h0=>HV.out.k0 (Akn h0),fun h0=>HV.out.k1 (Akn h0),fun h0=>HV.out.k4 (Akn h0),(lfar7 (by omega) _ _ _ _ _ _ _).trans HV.out.x,(lfar7 (by omega) _ _ _ _ _ _ _).trans HV.out.y,fun h=>(Akq h (Aki hun)).elim,fun _=>lset7 HN.out _ _ _ _ _ _ _,fun h=>(lfar7 (by omega) _ _ _ _ _ _ _).trans (HV.out.b0 (Akp h)),fun h=>(lfar7 (by omega) _ _ _ _ _ _ _).trans (HV.out.b1 (Akn h)),An4 (by omega) HV.out.be _ _ _ _ _ _ _⟩⟩
     ·simp at ho
      subst ho
      have h1x:L.getD 1 false=true:=hall {on:=1,ground:=Ground.data} (by simp) (by decide)
      have H1:=hI h1x
      clear hall hi h1x
      have e0:=HV.out.k1 H1.out
      subst e0
      have lx:=HLX.out.1;have ly:=HLX.out.2
      have HN:=hI (HV.out.b0 hoff)
      have n0:=Aaa HN.out 0;have z0:=Aaf HN.out 0
      have n1:=Aaa HN.out 1;have z1:=Aaf HN.out 1
      have n2:=Aaa HN.out 2;have z2:=Aaf HN.out 2
      have n3:=Aaa HN.out 3;have z3:=Aaf HN.out 3
      have n4:=Aaa HN.out 4;have z4:=Aaf HN.out 4
      have n5:=Aaa HN.out 5;have z5:=Aaf HN.out 5
      have n6:=Aaa HN.out 6;have z6:=Aaf HN.out 6
      simp[Lot.cells,zeroLot] at n0 n1 n2 n3 n4 n5 n6
      refine Akt rfl fun K' HK=>?_
      go_simp
      exact HK.out _ _ ⟨by simp[HJ.out.sz],⟨_,_,_,rfl,fun h0=>HV.out.k0 (Akn h0),fun h0=>HV.out.k1 (Akn h0),fun h0=>HV.out.k4 (Akn h0),(lfar7 (by omega) _ _ _ _ _ _ _).trans HV.out.x,(lfar7 (by omega) _ _ _ _ _ _ _).trans HV.out.y,fun h=>(lfar7 (by omega) _ _ _ _ _ _ _).trans (HV.out.a0 (Akp h)),fun h=>(lfar7 (by omega) _ _ _ _ _ _ _).trans (HV.out.a1 (Akn h)),fun h=>(Akq h (Aki hun)).elim,fun _=>lset7 HN.out _ _ _ _ _ _ _,An4 (by omega) HV.out.be _ _ _ _ _ _ _⟩⟩
     ·simp at ho
      subst ho
      clear hall hi
      refine Akt rfl fun K' HK=>?_
      go_simp
      exact HK.out _ _ ⟨by simp[HJ.out.sz],⟨_,_,_,rfl,fun h0=>HV.out.k0 (Akn h0),fun h0=>HV.out.k1 (Akn h0),fun _=>rfl,HV.out.x,HV.out.y,fun h0=>HV.out.a0 (Akp h0),fun h0=>HV.out.a1 (Akn h0),fun h0=>HV.out.b0 (Akp h0),fun h0=>HV.out.b1 (Akn h0),HV.out.be⟩⟩
   case stC9 =>
    intro L a w' hj i hi
    obtain⟨hun,o,ho,hall⟩:=mem_ready.1 hi
    have hoff:=Akk hun
    have hlt:=(Aab.1 ho).1
    simp at hlt
    obtain⟨s55,s56,s57,s58,s59,s60,rfl,hv⟩:=hj.fr
    have HV:=hI hv
    have HJ:=hI hj
    clear hv hj
    rcases (show i=0∨i=1∨i=2∨i=3∨i=4∨i=5∨i=6∨i=7 from by omega) with rfl|rfl|rfl|rfl|rfl|rfl|rfl|rfl
    ·simp at ho
     subst ho
     clear hall hi
     refine Akt rfl fun K' HK=>?_
     go_simp
     cases HV.out
     refine HK.out _ _ ⟨by simp[HJ.out.sz],⟨_,_,_,_,_,_,rfl,fun _=>rfl,?_,?_,?_,?_,?_,HV.out.cx,HV.out.cy,fun h0=>HV.out.a0 (Akp h0),?_,fun h0=>HV.out.b0 (Akp h0),?_,HV.out.g⟩⟩
     all_goals exact Um (by assumption)
    ·simp at ho
     subst ho
     have h0x:L.getD 0 false=true:=hall {on:=0,ground:=Ground.data} (by simp) (by decide)
     have H0:=hI h0x
     clear hall hi h0x
     have e0:=HV.out.k0 H0.out
     subst e0
     have cx:=HV.out.cx
     refine Akt rfl fun K' HK=>?_
     go_simp
     cases HV.out
     refine HK.out _ _ ⟨by simp[HJ.out.sz],⟨_,_,_,_,_,_,rfl,?_,fun _=>rfl,?_,?_,?_,?_,HV.out.cx,HV.out.cy,fun h0=>HV.out.a0 (Akp h0),?_,fun h0=>HV.out.b0 (Akp h0),?_,HV.out.g⟩⟩
     all_goals exact Um (by assumption)
    ·simp at ho
     subst ho
     clear hall hi
     refine Akt rfl fun K' HK=>?_
     go_simp
     cases HV.out
     refine HK.out _ _ ⟨by simp[HJ.out.sz],⟨_,_,_,_,_,_,rfl,?_,?_,fun _=>rfl,?_,?_,?_,HV.out.cx,HV.out.cy,fun h0=>HV.out.a0 (Akp h0),?_,fun h0=>HV.out.b0 (Akp h0),?_,HV.out.g⟩⟩
     all_goals exact Um (by assumption)
    ·simp at ho
     subst ho
     have h2x:L.getD 2 false=true:=hall {on:=2,ground:=Ground.data} (by simp) (by decide)
     have H2:=hI h2x
     clear hall hi h2x
     have e0:=HV.out.k2 H2.out
     subst e0
     have cy:=HV.out.cy
     refine Akt rfl fun K' HK=>?_
     go_simp
     cases HV.out
     refine HK.out _ _ ⟨by simp[HJ.out.sz],⟨_,_,_,_,_,_,rfl,?_,?_,?_,fun _=>rfl,?_,?_,HV.out.cx,HV.out.cy,fun h0=>HV.out.a0 (Akp h0),?_,fun h0=>HV.out.b0 (Akp h0),?_,HV.out.g⟩⟩
     all_goals exact Um (by assumption)
    ·simp at ho
     subst ho
     clear hall hi
     refine Akt rfl fun K' HK=>?_
     go_simp
     cases HV.out
     refine HK.out _ _ ⟨by simp[HJ.out.sz],⟨_,_,_,_,_,_,rfl,?_,?_,?_,?_,fun _=>rfl,?_,HV.out.cx,HV.out.cy,fun h0=>HV.out.a0 (Akp h0),?_,fun h0=>HV.out.b0 (Akp h0),?_,HV.out.g⟩⟩
     all_goals exact Um (by assumption)
    ·simp at ho
     subst ho
     have h1x:L.getD 1 false=true:=hall {on:=1,ground:=Ground.data} (by simp) (by decide)
     have h4x:L.getD 4 false=true:=hall {on:=4,ground:=Ground.data} (by simp) (by decide)
     have H1:=hI h1x
     have H4:=hI h4x
     clear hall hi h1x h4x
     have e0:=HV.out.k1 H1.out
     subst e0
     have e1:=HV.out.k4 H4.out
     subst e1
     have lx:=HLX.out.1;have ly:=HLX.out.2;have lz:=HNE.out
     have HN:=hI (HV.out.a0 hoff)
     have n0:=Aaa HN.out 6;have z0:=Aaf HN.out 6
     simp[Lot.cells] at n0
     refine Akt rfl fun K' HK=>?_
     go_simp
     cases HV.out
     refine HK.out _ _ ⟨by simp[HJ.out.sz],⟨_,_,_,_,_,_,rfl,?_,?_,?_,?_,?_,?_,Aaa (HN.out.set6 _) 4,(World.cell?_of_block (Below.heap_setCell _ _ _ _ (by simp;omega))).trans HV.out.cy,fun h=>(Akq h (Aki hun)).elim,fun _=>HN.out.set6 _,fun h=>(HV.out.b0 (Akp h)).far _ 6 _ (by omega),fun h=>(HV.out.b1 (Akn h)).far _ 6 _ (by omega),HV.out.g.far _ 6 _ (by omega)⟩⟩
     all_goals exact Um (by assumption)
    ·simp at ho
     subst ho
     clear hall hi
     refine Akt rfl fun K' HK=>?_
     go_simp
     cases HV.out
     refine HK.out _ _ ⟨by simp[HJ.out.sz],⟨_,_,_,_,_,_,rfl,?_,?_,?_,?_,?_,fun _=>rfl,HV.out.cx,HV.out.cy,fun h0=>HV.out.a0 (Akp h0),?_,fun h0=>HV.out.b0 (Akp h0),?_,HV.out.g⟩⟩
     all_goals exact Um (by assumption)
    ·simp at ho
     subst ho
     have h3x:L.getD 3 false=true:=hall {on:=3,ground:=Ground.data} (by simp) (by decide)
     have h6x:L.getD 6 false=true:=hall {on:=6,ground:=Ground.data} (by simp) (by decide)
     have H3:=hI h3x
     have H6:=hI h6x
     clear hall hi h3x h6x
     have e0:=HV.out.k3 H3.out
     subst e0
     have e1:=HV.out.k6 H6.out
     subst e1
     have lx:=HLX.out.1;have ly:=HLX.out.2;have lz:=HNE.out
     have HN:=hI (HV.out.b0 hoff)
     have n0:=Aaa HN.out 6;have z0:=Aaf HN.out 6
     simp[Lot.cells] at n0
     refine Akt rfl fun K' HK=>?_
     go_simp
     cases HV.out
     refine HK.out _ _ ⟨by simp[HJ.out.sz],⟨_,_,_,_,_,_,rfl,?_,?_,?_,?_,?_,?_,(World.cell?_of_block (Below.heap_setCell _ _ _ _ (by simp;omega))).trans HV.out.cx,Aaa (HN.out.set6 _) 4,fun h=>(HV.out.a0 (Akp h)).far _ 6 _ (by omega),fun h=>(HV.out.a1 (Akn h)).far _ 6 _ (by omega),fun h=>(Akq h (Aki hun)).elim,fun _=>HN.out.set6 _,HV.out.g.far _ 6 _ (by omega)⟩⟩
     all_goals exact Um (by assumption)
theorem An5{P:Program}{f:FuncId}{args:Array Value}{w:World}{v:Value}(h:Calls P f args w fun e w'=>e=.returned v∧w=w'):Calls P f args w fun e w'=>e=.returned v∧Below w.heap.size w w':=h.mono fun _ _ h=>⟨h.1,h.2▸Below.refl _ _⟩
theorem An6(a:ByteArray)(w:World)(s:a.size≤1000000)(h:¬vl a<0):
 Calls Tryz.prog 94 #[.string a] w fun e w'=>e=.returned (.bool false)∧w'=w:=by
 have HC:=hI (Ahh a ⟨#[]⟩ s (by decide) w)
 rw[show vl (⟨#[]⟩:ByteArray)=0 from by rw[zero_eq,vl_I]] at HC
 have hc:decide (cmpI (vl a) 0<0)=false:=Aa4 (by rw[cmpI_lt];exact h)
 go_enter Tryz.func94,Tryz.ntmps94
 go_wp2_with fail
 refine HC.out.mono ?_
 rintro e w1 ⟨rfl,rfl⟩
 clear HC
 go_wp2_with fail
 go_ret
 exact⟨rfl,rfl⟩
theorem An7(w:World):Calls Tryz.prog 133 #[.int .i64 1] w fun e w'=>e=.returned (.bool true)∧w'=w:=by
 go_enter Tryz.func133,Tryz.ntmps133
 go_wp2_with fail
 go_ret
 exact⟨rfl,rfl⟩
theorem An8{p:Rat}{k:Nat}(h:BdQ p k)(hk1:1≤k)(hk:k≤9000)(w:World):Calls Tryz.prog 97 #[fenc p,.int .i64 1] w fun e w'=>e=.returned (.tuple #[.string (I (rnd p)),.int .i64 0])∧Below w.heap.size w w':=by
 obtain⟨W0,hW0⟩:∃W0,w.alloc (.cells #[.string (I p.num),.string (dn p)] 112)=W0:=⟨_,rfl⟩
 have hk0:W0.heap[w.heap.size]?=some (.cells #[.string (I p.num),.string (dn p)] 112):=by rw[←hW0];exact Aa5 w _
 have hb:Below w.heap.size w W0:=by rw[←hW0];exact (Below.refl _ w).alloc (Aad _) _
 have c0:=Aaa hk0 0
 have c1:=Aaa hk0 1
 simp at c0 c1
 have HB:=hI hb
 have HM:=hI (An7 W0)
 have HR:=hI (Ann h hk1 hk W0)
 clear hk0 hb h hk1 hk
 unfold fenc at HR ⊢
 generalize rnd p=z at *
 generalize I p.num=n at *
 generalize dn p=d at *
 go_enter Tryz.func97,Tryz.ntmps97
 go_wp2_with fail
 refine HM.out.mono ?_
 rintro e w1 ⟨rfl,rfl⟩
 go_wp2_with fail
 refine HR.out.mono ?_
 rintro e w2 ⟨rfl,b2⟩
 go_wp2_with fail
 refine bodyPost_ret (v:=.tuple #[.string (I z),.int .i64 0]) (by simp[results,Tryz.results97,go_sem]) rfl ?_
 exact⟨rfl,HB.out.trans (b2.mono HB.out.size)⟩
theorem An9(t p a:Int)(w:World)(st:(I t).size≤1000)(sp:(I p).size≤1000)(sa:(I a).size≤1000)(t0:0≤t)(p0:0≤p)(a0:0<a)(pa:p≤a):
 Calls Tryz.prog 58 #[.string (I t),.string (I p),.string (I a)] w fun e w'=>e=.returned (.tuple #[.string (I (Am2 t p a)),.string (I (t-Am2 t p a)),.int .i64 0])∧Below w.heap.size w w':=by
 have zm:(I (t*p)).size≤2001:=by have:=Aim (a:=I t) (b:=I p) st sp;rwa [vl_I,vl_I] at this
 obtain⟨K,hK⟩:∃K,K=2001:=⟨_,rfl⟩
 have zk:(I a).size≤K:=by omega
 have zk2:(I t).size≤K:=by omega
 rw[←hK] at zm
 have b1:(t*p).natAbs<10^K:=by have:=vl_lt (I (t*p));rw[vl_I] at this;exact Aah this (Aep zm)
 have b2:a.natAbs<10^K:=by have:=vl_lt (I a);rw[vl_I] at this;exact Aah this (Aep zk)
 have bq:BdQ (Rat.divInt (t*p) a) K:=BdQ.div b1 b2 (by omega)
 have zr:(I (Am2 t p a)).size≤K+1:=Aen (by
  obtain⟨h1,h2⟩:=Am4 t0 p0 a0 pa
  have h3:=vl_lt (I t)
  rw[vl_I] at h3
  have h4:t.natAbs<10^K:=Aah h3 (Aep zk2)
  omega)
 have HC1:=hI (fun W=>Ag6 (I t) (by omega) (by unfold Can;rw[vl_I]) W)
 have HC2:=hI (fun W=>Ag6 (I p) (by omega) (by unfold Can;rw[vl_I]) W)
 have HC3:=hI (fun W=>Ag6 (I a) (by omega) (by unfold Can;rw[vl_I]) W)
 have hz:=Ajd a
 rw[Aa4 (by omega)] at hz
 have HN1:=hI (fun W=>An6 (I a) W (by omega) (by rw[vl_I];omega))
 have HN2:=hI (fun W=>An6 (I p) W (by omega) (by rw[vl_I];omega))
 have HCM:=hI (fun W=>Ahh (I p) (I a) (by omega) (by omega) W)
 rw[vl_I,vl_I] at HCM
 have hc1:decide (0<cmpI p a)=false:=Aa4 (by rw[cmpI_gt];omega)
 have hc2:decide (cmpI p a > 0)=false:=hc1
 have HMU:=hI (fun W=>rMul_any (I t) (I p) (by omega) (by omega) W)
 rw[vl_I,vl_I] at HMU
 have HNW:=hI (fun W=>Anc b1 b2 (by omega:0<a) (by omega) W)
 have HRD:=hI (fun W=>An8 bq (by omega) (by omega) W)
 rw[show rnd (Rat.divInt (t*p) a)=Am2 t p a from rfl] at HRD
 have HSB:=hI (fun W=>Aiz (I t) (I (Am2 t p a)) (by omega) (by omega) W)
 rw[vl_I,vl_I] at HSB
 generalize Am2 t p a=r at *
 unfold fenc at HNW HRD
 generalize Rat.divInt (t*p) a=q at *
 clear t0 p0 pa bq b1 b2 zm zk zk2 zr
 go_enter Tryz.func58,Tryz.ntmps58
 go_wp2_with fail
 refine (HC1.out _).mono ?_
 rintro e w1 ⟨rfl,rfl⟩
 go_wp2_with fail
 refine (HC2.out _).mono ?_
 rintro e w1 ⟨rfl,rfl⟩
 go_wp2_with fail
 refine (HC3.out _).mono ?_
 rintro e w1 ⟨rfl,rfl⟩
 clear HC1 HC2 HC3
 go_wp2_with fail
 refine (HN1.out _).mono ?_
 rintro e w1 ⟨rfl,hw1⟩
 subst hw1
 go_wp2_with fail
 refine (HN2.out _).mono ?_
 rintro e w1 ⟨rfl,hw1⟩
 subst hw1
 clear HN1 HN2
 go_wp2_with fail
 refine (HCM.out _).mono ?_
 rintro e w1 ⟨rfl,hw1⟩
 subst hw1
 go_wp2_with fail
 refine (HMU.out _).mono ?_
 rintro e w7 ⟨rfl,B7⟩
 have B7:=hI B7
 clear hc1 hc2 hz HMU
 go_wp2_with fail
 refine (HNW.out _).mono ?_
 rintro e w8 ⟨rfl,B8⟩
 have B8:=hI (B7.out.trans (B8.mono B7.out.size))
 clear B7
 go_wp2_with fail
 refine (HRD.out _).mono ?_
 rintro e w9 ⟨rfl,B9⟩
 have B9:=hI ((B8.out.alloc B8.out.size (Obj.cells #[.string (I q.num),.string (dn q)] 112)).trans (B9.mono (B8.out.alloc B8.out.size (Obj.cells #[.string (I q.num),.string (dn q)] 112)).size))
 clear B8
 go_wp2_with fail
 refine (HSB.out _).mono ?_
 rintro e w10 ⟨rfl,B10⟩
 go_wp2_with fail
 refine bodyPost_ret (v:=.tuple #[.string (I r),.string (I (t-r)),.int .i64 0]) (by simp[results,Tryz.results58,go_sem]) rfl ?_
 exact⟨rfl,B9.out.trans (B10.mono B9.out.size)⟩
theorem Apa(l:Lot)(q:ByteArray)(hs:l.tiny)(h:l.ok)(hq:Can q)(q1:q.size≤13)(q0:0<vl q)(q2:vl q<vl l.qty)(w:World)(ht:Tabs w):
 Calls Tryz.prog 27 #[l.enc,.string q] w fun e w'=>e=.returned (.tuple #[(cutA l q).enc,(cutB l q).enc,.int .i64 0])∧Below w.heap.size w w':=by
 have HT:=hI ht
 have CW:=CutW.start w l
 obtain⟨W0,hW0⟩:∃W0,(((w.alloc (.cells l.cells 38)).alloc (.cells zeroLot.cells 38)).alloc (.cells zeroLot.cells 38))=W0:=⟨_,rfl⟩
 rw[hW0] at CW
 obtain⟨z1,z2,z3,z4,z5⟩:=id hs
 have hkk:=fun W (_:Tabs W)=>Amn l hs W
 rw[lchk_zero.2 h] at hkk
 have HK:=hI hkk
 clear hkk
 have HC:=hI (fun W=>An5 (Ag6 q (by omega) hq W))
 have HM1:=hI (fun W=>An5 (Ahi q (by omega) W))
 have HM2:=hI (fun W=>An5 (Ahh q l.qty (by omega) (by omega) W))
 have d1:decide (cmpI (vl q) 0≤0)=false:=Aa4 (by rw[Aet];omega)
 have d2:decide (0≤cmpI (vl q) (vl l.qty))=false:=Aa4 (by rw[Aeu];omega)
 have d3:decide (cmpI (vl q) (vl l.qty)≥0)=false:=d2
 have HSub:=hI (fun W (_:Tabs W)=>Aiz l.qty q (by omega) (by omega) W)
 have HSh:=hI (fun W (_:Tabs W)=>An9 (vl l.cost) (vl q) (vl l.qty) W (by rw[h.cc];omega) (by rw[hq];omega) (by rw[h.cq];omega) h.pc (by omega) h.pq (by omega))
 rw[h.cc,hq,h.cq] at HSh
 have HU:=hI h.us
 have eA:Hid ((cutA l q).enc=.agg #[.string l.id,.string l.inst,.int .i64 l.acq,.int .i64 l.opn,.string q,.string (I (cutZ l q)),.string (cutU l q)]):=hI rfl
 have eB:Hid ((cutB l q).enc=.agg #[.string l.id,.string l.inst,.int .i64 l.acq,.int .i64 l.opn,.string (I (vl l.qty-vl q)),.string (I (vl l.cost-cutZ l q)),.string (cutU l (I (vl l.qty-vl q)))]):=hI rfl
 rw[show Am2 (vl l.cost) (vl q) (vl l.qty)=cutZ l q from rfl] at HSh
 rw[eA.out,eB.out]
 obtain⟨uA,huA⟩:∃u,cutU l q=u:=⟨_,rfl⟩
 obtain⟨uB,huB⟩:∃u,cutU l (I (vl l.qty-vl q))=u:=⟨_,rfl⟩
 rw[huA,huB]
 have HUA:=hI huA
 have HUB:=hI huB
 generalize cutZ l q=sz at HSh ⊢
 generalize vl l.cost-sz=sr at HSh ⊢
 generalize vl l.qty-vl q=qr at HSub HUB ⊢
 have k0:=CW.ib
 obtain⟨c0,c1,c2,c3,c4,c5,c6⟩:=Ac0 k0
 have CW0:=hI CW
 clear CW k0 eA eB z1 z2 z3 z4 z5 hs h hq q0 q1 q2 ht huA huB
 unfold Lot.enc Lot.cells at *
 unfold zeroLot at hW0
 dsimp only at hW0
 go_enter Tryz.func27,Tryz.ntmps27
 go_wp2_with fail
 try rw[hW0]
 refine (HK.out W0 (HT.out.below CW0.out.be)).mono ?_
 rintro e w1 ⟨rfl,b1⟩
 have CW1:=hI (CW0.out.below b1)
 clear b1 HK hW0 c0 c1 c2 c3 c4 c5 c6
 go_wp2_with fail
 refine (HC.out w1).mono ?_
 rintro e w2 ⟨rfl,b2⟩
 have CW2:=hI (CW1.out.below b2)
 clear b2 HC CW1
 go_wp2_with fail
 refine (HM1.out w2).mono ?_
 rintro e w3 ⟨rfl,b3⟩
 have CW3:=hI (CW2.out.below b3)
 have k3:=CW3.out.ib
 obtain⟨c0,c1,c2,c3,c4,c5,c6⟩:=Ac0 k3
 clear b3 HM1 CW2 k3
 go_wp2_with fail
 refine (HM2.out w3).mono ?_
 rintro e w4 ⟨rfl,b4⟩
 have CW4:=hI (CW3.out.below b4)
 clear c0 c1 c2 c3 c4 c5 c6
 have k4:=CW4.out.ib
 obtain⟨c0,c1,c2,c3,c4,c5,c6⟩:=Ac0 k4
 clear b4 HM2 CW3 k4
 have hl:w.heap.size<w4.heap.size:=CW4.out.ib.lt
 have hl1:w.heap.size<w4.heap.size+1:=by omega
 go_wp2_with fail
 go_region
 ·have CW5:=hI (show CutW w l (((w4.alloc (.cells l.cells 38)).alloc (.cells l.cells 38)).drew) from CW4.out.below (((Below.refl _ w4).alloc (Aad _) _).alloc (by simp) _).drew)
  have TN:=An3 w4 l
  have LT:=CW4.out.lt
  unfold Lot.cells at CW5 TN
  generalize (((w4.alloc (.cells #[.string l.id,.string l.inst,.int .i64 l.acq,.int .i64 l.opn,.string l.qty,.string l.cost,.string l.used] 38)).alloc (.cells #[.string l.id,.string l.inst,.int .i64 l.acq,.int .i64 l.opn,.string l.qty,.string l.cost,.string l.used] 38)).drew)=w5 at CW5 TN ⊢
  have hxy:w4.heap.size≠w4.heap.size+1:=by omega
  have hyx:w4.heap.size+1≠w4.heap.size:=by omega
  have LTY:w.heap.size+3≤w4.heap.size+1:=by omega
  generalize w4.heap.size+1=bY at hxy hyx LTY TN ⊢
  generalize w4.heap.size=bX at hxy hyx LT LTY TN ⊢
  have LT_bX:=hI LT
  have LT_bY:=hI LTY
  have k5:=CW5.out.ib
  have HX:=hI TN.1
  have HY:=hI TN.2
  clear c0 c1 c2 c3 c4 c5 c6 CW4
  obtain⟨c0,c1,c2,c3,c4,c5,c6⟩:=Ac0 k5
  clear k5 TN
  go_wp2_with fail
  refine (HSub.out w5 (HT.out.below CW5.out.be)).mono ?_
  rintro e w6 ⟨rfl,b6⟩
  have CW6:=hI (CW5.out.below b6)
  replace HX:=hI (HX.out.below b6)
  replace HY:=hI (HY.out.below b6)
  clear b6 HSub CW5 c0 c1 c2 c3 c4 c5 c6
  have k6:=CW6.out.ib
  have kx:=HX.out
  have ky:=HY.out
  obtain⟨c0,c1,c2,c3,c4,c5,c6⟩:=Ac0 k6
  obtain⟨x0,x1,x2,x3,x4,x5,x6⟩:=Ac0 kx
  obtain⟨y0,y1,y2,y3,y4,y5,y6⟩:=Ac0 ky
  have fx:=Aaf kx 4
  have fy:=Aaf ky 4
  clear k6 kx ky
  go_wp2_with fail
  refine (HSh.out _ (HT.out.below ((CW6.out.far bX 4 (.string q) LT_bX.out).far bY 4 (.string (I qr)) LT_bY.out).be)).mono ?_
  rintro e w7 ⟨rfl,b7⟩
  have CW7:=hI (((CW6.out.far bX 4 (.string q) LT_bX.out).far bY 4 (.string (I qr)) LT_bY.out).below b7)
  have H7:=hI (((HX.out.set4 q).far bY 4 (.string (I qr)) hyx).below b7)
  have H8:=hI (((HY.out.far bX 4 (.string q) hxy).set4 (I qr)).below b7)
  clear b7 HSh CW6 HX HY fx fy c0 c1 c2 c3 c4 c5 c6 x0 x1 x2 x3 x4 x5 x6 y0 y1 y2 y3 y4 y5 y6
  have k7:=CW7.out.ib
  have kx:=H7.out
  have ky:=H8.out
  obtain⟨c0,c1,c2,c3,c4,c5,c6⟩:=Ac0 k7
  obtain⟨x0,x1,x2,x3,x4,x5,x6⟩:=Ac0 kx
  obtain⟨y0,y1,y2,y3,y4,y5,y6⟩:=Ac0 ky
  have fx:=Aaf kx 5
  have fy:=Aaf ky 5
  clear k7 kx ky
  by_cases hu:l.used=⟨#[]⟩
  ·have hz:(l.used.toList==[])=true:=by rw[hu,Lib.toList_data];rfl
   have HUU:=hI hu
   clear hu
   go_upto_region 10 with fail
   have hA:LotBox (((w7.setCell ⟨bX,5,none⟩ (.string (I sz))).setCell ⟨bY,5,none⟩ (.string (I sr))).drew) bX {l with qty:=q,cost:=I sz}:=(H7.out.set5 (I sz)).far bY 5 (.string (I sr)) hyx
   have hB:LotBox (((w7.setCell ⟨bX,5,none⟩ (.string (I sz))).setCell ⟨bY,5,none⟩ (.string (I sr))).drew) bY {l with qty:=I qr,cost:=I sr}:=(H8.out.far bX 5 (.string (I sz)) hxy).set5 (I sr)
   have hC:CutW w l (((w7.setCell ⟨bX,5,none⟩ (.string (I sz))).setCell ⟨bY,5,none⟩ (.string (I sr))).drew):=((CW7.out.far bX 5 (.string (I sz)) LT_bX.out).far bY 5 (.string (I sr)) LT_bY.out).below (Below.refl _ _).drew
   have HLA:Hid (({l with qty:=q,cost:=I sz}:Lot)={l with qty:=q,cost:=I sz,used:=uA}):=by rw[Hid,←HUA.out,cutU,if_pos HUU.out,←HUU.out]
   have HLB:Hid (({l with qty:=I qr,cost:=I sr}:Lot)={l with qty:=I qr,cost:=I sr,used:=uB}):=by rw[Hid,←HUB.out,cutU,if_pos HUU.out,←HUU.out]
   rw[HLA.out] at hA
   rw[HLB.out] at hB
   clear HLA HLB CW7 H7 H8
   have HLX:Hid (w.heap.size+3≤bX∧w.heap.size+3≤bY):=⟨LT_bX.out,LT_bY.out⟩
   have mixed:Tryz.prog.follows .mixedOrders=true:=by kernel_rfl
   refine wp_region_any mixed (Akw (C10J w bX bY {l with qty:=q,cost:=I sz,used:=uA} {l with qty:=I qr,cost:=I sr,used:=uB} _ _ _ _ _ _ _ _ _ _ _ _ _ _ _ _ _ _ _ _ _ _ _ _ _ _ _ _ _ _ _ _ _ _ _ _ _ _ _ _ _ _ _ _ _ _ _ _ _ _ _ _ _ _ _ _) ?stC10 ?dnC10 _ _ _ _ ⟨by simp,⟨_,_,_,rfl,fun h=>by simp at h,fun h=>by simp at h,fun h=>by simp at h,hA,hB,fun _=>hC.za,fun h=>by simp at h,fun _=>hC.zb,fun h=>by simp at h,hC.be⟩⟩ (by decide))
   case dnC10 =>
    intro L a w' hj hr
    have all:=Akv hr hj.sz (by kernel_rfl)
    obtain⟨s6,s61,s62,rfl,hv⟩:=hj.fr
    have e6:=hv.k4 (all 4 (by omega))
    subst e6
    have HF:=hI (And.intro (hv.a1 (all 2 (by omega))) (And.intro (hv.b1 (all 3 (by omega))) hv.be))
    clear all hv hj hr
    dsimp only
    (first|go_wp2_with fail|skip)
    have h7:=HF.out.1
    have h8:=HF.out.2.1
    obtain⟨m0,m1,m2,m3,m4,m5,m6⟩:=lbc h7
    obtain⟨n0,n1,n2,n3,n4,n5,n6⟩:=lbc h8
    clear h7 h8
    exact bodyPost_ret (v:=.tuple #[.agg #[.string l.id,.string l.inst,.int .i64 l.acq,.int .i64 l.opn,.string q,.string (I sz),.string uA],.agg #[.string l.id,.string l.inst,.int .i64 l.acq,.int .i64 l.opn,.string (I qr),.string (I sr),.string uB],.int .i64 0]) (by simp[results,Tryz.results27,go_sem,m0,m1,m2,m3,m4,m5,m6,n0,n1,n2,n3,n4,n5,n6]) rfl ⟨rfl,HF.out.2.2⟩
   case stC10 =>
    intro L a w' hj i hi
    obtain⟨hun,o,ho,hall⟩:=mem_ready.1 hi
    have hoff:=Akk hun
    have hlt:=(Aab.1 ho).1
    simp at hlt
    obtain⟨s6,s61,s62,rfl,hv⟩:=hj.fr
    have HV:=hI hv
    have HJ:=hI hj
    clear hv hj
    rcases (show i=0∨i=1∨i=2∨i=3∨i=4 from by omega) with rfl|rfl|rfl|rfl|rfl
    ·simp at ho
     subst ho
     clear hall hi
     have hx:=HV.out.x
     obtain⟨c0,c1,c2,c3,c4,c5,c6⟩:=lbc hx
     refine Akt rfl fun K' HK=>?_
     go_simp
     exact HK.out _ _ ⟨by simp[HJ.out.sz],⟨_,_,_,rfl,fun _=>rfl,fun h0=>HV.out.k1 (Akn h0),fun h0=>HV.out.k4 (Akn h0),HV.out.x,HV.out.y,fun h0=>HV.out.a0 (Akp h0),fun h0=>HV.out.a1 (Akn h0),fun h0=>HV.out.b0 (Akp h0),fun h0=>HV.out.b1 (Akn h0),HV.out.be⟩⟩
    ·simp at ho
     subst ho
     clear hall hi
     have hx:=HV.out.y
     obtain⟨c0,c1,c2,c3,c4,c5,c6⟩:=lbc hx
     refine Akt rfl fun K' HK=>?_
     go_simp
     exact HK.out _ _ ⟨by simp[HJ.out.sz],⟨_,_,_,rfl,fun h0=>HV.out.k0 (Akn h0),fun _=>rfl,fun h0=>HV.out.k4 (Akn h0),HV.out.x,HV.out.y,fun h0=>HV.out.a0 (Akp h0),fun h0=>HV.out.a1 (Akn h0),fun h0=>HV.out.b0 (Akp h0),fun h0=>HV.out.b1 (Akn h0),HV.out.be⟩⟩
    ·simp at ho
     subst ho
     have h0x:L.getD 0 false=true:=hall {on:=0,ground:=Ground.data} (by simp) (by decide)
     have H0:=hI h0x
     clear hall hi h0x
     have e0:=HV.out.k0 H0.out
     subst e0
     have lx:=HLX.out.1;have ly:=HLX.out.2
     have HN:=hI (HV.out.a0 hoff)
     have n0:=Aaa HN.out 0;have z0:=Aaf HN.out 0
     have n1:=Aaa HN.out 1;have z1:=Aaf HN.out 1
     have n2:=Aaa HN.out 2;have z2:=Aaf HN.out 2
     have n3:=Aaa HN.out 3;have z3:=Aaf HN.out 3
     have n4:=Aaa HN.out 4;have z4:=Aaf HN.out 4
     have n5:=Aaa HN.out 5;have z5:=Aaf HN.out 5
     have n6:=Aaa HN.out 6;have z6:=Aaf HN.out 6
     simp[Lot.cells,zeroLot] at n0 n1 n2 n3 n4 n5 n6
     refine Akt rfl fun K' HK=>?_
     go_simp
     exact HK.out _ _ ⟨by simp[HJ.out.sz],⟨_,_,_,rfl,fun h0=>HV.out.k0 (Akn h0),fun h0=>HV.out.k1 (Akn h0),fun h0=>HV.out.k4 (Akn h0),(lfar7 (by omega) _ _ _ _ _ _ _).trans HV.out.x,(lfar7 (by omega) _ _ _ _ _ _ _).trans HV.out.y,fun h=>(Akq h (Aki hun)).elim,fun _=>lset7 HN.out _ _ _ _ _ _ _,fun h=>(lfar7 (by omega) _ _ _ _ _ _ _).trans (HV.out.b0 (Akp h)),fun h=>(lfar7 (by omega) _ _ _ _ _ _ _).trans (HV.out.b1 (Akn h)),An4 (by omega) HV.out.be _ _ _ _ _ _ _⟩⟩
    ·simp at ho
     subst ho
     have h1x:L.getD 1 false=true:=hall {on:=1,ground:=Ground.data} (by simp) (by decide)
     have H1:=hI h1x
     clear hall hi h1x
     have e0:=HV.out.k1 H1.out
     subst e0
     have lx:=HLX.out.1;have ly:=HLX.out.2
     have HN:=hI (HV.out.b0 hoff)
     have n0:=Aaa HN.out 0;have z0:=Aaf HN.out 0
     have n1:=Aaa HN.out 1;have z1:=Aaf HN.out 1
     have n2:=Aaa HN.out 2;have z2:=Aaf HN.out 2
     have n3:=Aaa HN.out 3;have z3:=Aaf HN.out 3
     have n4:=Aaa HN.out 4;have z4:=Aaf HN.out 4
     have n5:=Aaa HN.out 5;have z5:=Aaf HN.out 5
     have n6:=Aaa HN.out 6;have z6:=Aaf HN.out 6
     simp[Lot.cells,zeroLot] at n0 n1 n2 n3 n4 n5 n6
     refine Akt rfl fun K' HK=>?_
     go_simp
     exact HK.out _ _ ⟨by simp[HJ.out.sz],⟨_,_,_,rfl,fun h0=>HV.out.k0 (Akn h0),fun h0=>HV.out.k1 (Akn h0),fun h0=>HV.out.k4 (Akn h0),(lfar7 (by omega) _ _ _ _ _ _ _).trans HV.out.x,(lfar7 (by omega) _ _ _ _ _ _ _).trans HV.out.y,fun h=>(lfar7 (by omega) _ _ _ _ _ _ _).trans (HV.out.a0 (Akp h)),fun h=>(lfar7 (by omega) _ _ _ _ _ _ _).trans (HV.out.a1 (Akn h)),fun h=>(Akq h (Aki hun)).elim,fun _=>lset7 HN.out _ _ _ _ _ _ _,An4 (by omega) HV.out.be _ _ _ _ _ _ _⟩⟩
    ·simp at ho
     subst ho
     clear hall hi
     refine Akt rfl fun K' HK=>?_
     go_simp
     exact HK.out _ _ ⟨by simp[HJ.out.sz],⟨_,_,_,rfl,fun h0=>HV.out.k0 (Akn h0),fun h0=>HV.out.k1 (Akn h0),fun _=>rfl,HV.out.x,HV.out.y,fun h0=>HV.out.a0 (Akp h0),fun h0=>HV.out.a1 (Akn h0),fun h0=>HV.out.b0 (Akp h0),fun h0=>HV.out.b1 (Akn h0),HV.out.be⟩⟩
  ·have hz:(l.used.toList==[])=false:=Aaj.2 (fun e=>hu (by rw[show l.used=⟨l.used.data⟩ from rfl];congr 1;rw[Lib.toList_data] at e;exact Array.toList_eq_nil_iff.1 e))
   have hz':(l.used.toList != [])=true:=by rw[bne,hz];rfl
   have HUU:=hI hu
   clear hu
   go_upto_region 9 with fail
   have hA:LotBox (((w7.setCell ⟨bX,5,none⟩ (.string (I sz))).setCell ⟨bY,5,none⟩ (.string (I sr))).drew) bX {l with qty:=q,cost:=I sz}:=(H7.out.set5 (I sz)).far bY 5 (.string (I sr)) hyx
   have hB:LotBox (((w7.setCell ⟨bX,5,none⟩ (.string (I sz))).setCell ⟨bY,5,none⟩ (.string (I sr))).drew) bY {l with qty:=I qr,cost:=I sr}:=(H8.out.far bX 5 (.string (I sz)) hxy).set5 (I sr)
   have hC:CutW w l (((w7.setCell ⟨bX,5,none⟩ (.string (I sz))).setCell ⟨bY,5,none⟩ (.string (I sr))).drew):=((CW7.out.far bX 5 (.string (I sz)) LT_bX.out).far bY 5 (.string (I sr)) LT_bY.out).below (Below.refl _ _).drew
   clear CW7 H7 H8
   have HLX:Hid (w.heap.size+3≤bX∧w.heap.size+3≤bY):=⟨LT_bX.out,LT_bY.out⟩
   have HNE:Hid (bX≠bY):=hxy
   have mixed:Tryz.prog.follows .mixedOrders=true:=by kernel_rfl
   refine wp_region_any mixed (Akw (C9J w l bX bY {l with qty:=q,cost:=I sz} {l with qty:=I qr,cost:=I sr} _ _ _ _ _ _ _ _ _ _ _ _ _ _ _ _ _ _ _ _ _ _ _ _ _ _ _ _ _ _ _ _ _ _ _ _ _ _ _ _ _ _ _ _ _ _ _ _ _ _ _ _ _ _ _) ?stC9 ?dnC9 _ _ _ _ ⟨by simp,⟨_,_,_,_,_,_,rfl,fun h=>by simp at h,fun h=>by simp at h,fun h=>by simp at h,fun h=>by simp at h,fun h=>by simp at h,fun h=>by simp at h,Aaa hA 4,Aaa hB 4,fun _=>hA,fun h=>by simp at h,fun _=>hB,fun h=>by simp at h,hC⟩⟩ (by decide))
   case dnC9 =>
    intro L a w' hj hr
    have all:=Akv hr hj.sz (by kernel_rfl)
    obtain⟨s55,s56,s57,s58,s59,s60,rfl,hv⟩:=hj.fr
    have hA0:=hv.a1 (all 5 (by omega));have hB0:=hv.b1 (all 7 (by omega));have hC0:=hv.g
    clear all hv hj hr
    have hA:LotBox w'.drew bX {l with qty:=q,cost:=I sz,used:=uA}:=by have e:=HUA.out;rw[cutU,if_neg HUU.out] at e;rw[←e];exact hA0
    have hB:LotBox w'.drew bY {l with qty:=I qr,cost:=I sr,used:=uB}:=by have e:=HUB.out;rw[cutU,if_neg HUU.out] at e;rw[←e];exact hB0
    have hC:CutW w l w'.drew:=hC0.below (Below.refl _ _).drew
    clear hA0 hB0 hC0
    dsimp only
    go_upto_region 10 with fail
    have HLX:Hid (w.heap.size+3≤bX∧w.heap.size+3≤bY):=⟨LT_bX.out,LT_bY.out⟩
    have mixed:Tryz.prog.follows .mixedOrders=true:=by kernel_rfl
    refine wp_region_any mixed (Akw (C10J w bX bY {l with qty:=q,cost:=I sz,used:=uA} {l with qty:=I qr,cost:=I sr,used:=uB} _ _ _ _ _ _ _ _ _ _ _ _ _ _ _ _ _ _ _ _ _ _ _ _ _ _ _ _ _ _ _ _ _ _ _ _ _ _ _ _ _ _ _ _ _ _ _ _ _ _ _ _ _ _ _ _) ?stC10 ?dnC10 _ _ _ _ ⟨by simp,⟨_,_,_,rfl,fun h=>by simp at h,fun h=>by simp at h,fun h=>by simp at h,hA,hB,fun _=>hC.za,fun h=>by simp at h,fun _=>hC.zb,fun h=>by simp at h,hC.be⟩⟩ (by decide))
    case dnC10 =>
     intro L a w' hj hr
     have all:=Akv hr hj.sz (by kernel_rfl)
     obtain⟨s6,s61,s62,rfl,hv⟩:=hj.fr
     have e6:=hv.k4 (all 4 (by omega))
     subst e6
     have HF:=hI (And.intro (hv.a1 (all 2 (by omega))) (And.intro (hv.b1 (all 3 (by omega))) hv.be))
     clear all hv hj hr
     dsimp only
     (first|go_wp2_with fail|skip)
     have h7:=HF.out.1
     have h8:=HF.out.2.1
     obtain⟨m0,m1,m2,m3,m4,m5,m6⟩:=lbc h7
     obtain⟨n0,n1,n2,n3,n4,n5,n6⟩:=lbc h8
     clear h7 h8
     exact bodyPost_ret (v:=.tuple #[.agg #[.string l.id,.string l.inst,.int .i64 l.acq,.int .i64 l.opn,.string q,.string (I sz),.string uA],.agg #[.string l.id,.string l.inst,.int .i64 l.acq,.int .i64 l.opn,.string (I qr),.string (I sr),.string uB],.int .i64 0]) (by simp[results,Tryz.results27,go_sem,m0,m1,m2,m3,m4,m5,m6,n0,n1,n2,n3,n4,n5,n6]) rfl ⟨rfl,HF.out.2.2⟩
    case stC10 =>
     intro L a w' hj i hi
     obtain⟨hun,o,ho,hall⟩:=mem_ready.1 hi
     have hoff:=Akk hun
     have hlt:=(Aab.1 ho).1
     simp at hlt
     obtain⟨s6,s61,s62,rfl,hv⟩:=hj.fr
     have HV:=hI hv
     have HJ:=hI hj
     clear hv hj
     rcases (show i=0∨i=1∨i=2∨i=3∨i=4 from by omega) with rfl|rfl|rfl|rfl|rfl
     ·simp at ho
      subst ho
      clear hall hi
      have hx:=HV.out.x
      obtain⟨c0,c1,c2,c3,c4,c5,c6⟩:=lbc hx
      refine Akt rfl fun K' HK=>?_
      go_simp
      exact HK.out _ _ ⟨by simp[HJ.out.sz],⟨_,_,_,rfl,fun _=>rfl,fun h0=>HV.out.k1 (Akn h0),fun h0=>HV.out.k4 (Akn h0),HV.out.x,HV.out.y,fun h0=>HV.out.a0 (Akp h0),fun h0=>HV.out.a1 (Akn h0),fun h0=>HV.out.b0 (Akp h0),fun h0=>HV.out.b1 (Akn h0),HV.out.be⟩⟩
     ·simp at ho
      subst ho
      clear hall hi
      have hx:=HV.out.y
      obtain⟨c0,c1,c2,c3,c4,c5,c6⟩:=lbc hx
      refine Akt rfl fun K' HK=>?_
      go_simp
      exact HK.out _ _ ⟨by simp[HJ.out.sz],⟨_,_,_,rfl,fun h0=>HV.out.k0 (Akn h0),fun _=>rfl,fun h0=>HV.out.k4 (Akn h0),HV.out.x,HV.out.y,fun h0=>HV.out.a0 (Akp h0),fun h0=>HV.out.a1 (Akn h0),fun h0=>HV.out.b0 (Akp h0),fun h0=>HV.out.b1 (Akn h0),HV.out.be⟩⟩
     ·simp at ho
      subst ho
      have h0x:L.getD 0 false=true:=hall {on:=0,ground:=Ground.data} (by simp) (by decide)
      have H0:=hI h0x
      clear hall hi h0x
      have e0:=HV.out.k0 H0.out
      subst e0
      have lx:=HLX.out.1;have ly:=HLX.out.2
      have HN:=hI (HV.out.a0 hoff)
      have n0:=Aaa HN.out 0;have z0:=Aaf HN.out 0
      have n1:=Aaa HN.out 1;have z1:=Aaf HN.out 1
      have n2:=Aaa HN.out 2;have z2:=Aaf HN.out 2
      have n3:=Aaa HN.out 3;have z3:=Aaf HN.out 3
      have n4:=Aaa HN.out 4;have z4:=Aaf HN.out 4
      have n5:=Aaa HN.out 5;have z5:=Aaf HN.out 5
      have n6:=Aaa HN.out 6;have z6:=Aaf HN.out 6
      simp[Lot.cells,zeroLot] at n0 n1 n2 n3 n4 n5 n6
      refine Akt rfl fun K' HK=>?_
      go_simp
      exact HK.out _ _ ⟨by simp[HJ.out.sz],⟨_,_,_,rfl,fun h0=>HV.out.k0 (Akn h0),fun h0=>HV.out.k1 (Akn h0),fun h0=>HV.out.k4 (Akn h0),(lfar7 (by omega) _ _ _ _ _ _ _).trans HV.out.x,(lfar7 (by omega) _ _ _ _ _ _ _).trans HV.out.y,fun h=>(Akq h (Aki hun)).elim,fun _=>lset7 HN.out _ _ _ _ _ _ _,fun h=>(lfar7 (by omega) _ _ _ _ _ _ _).trans (HV.out.b0 (Akp h)),fun h=>(lfar7 (by omega) _ _ _ _ _ _ _).trans (HV.out.b1 (Akn h)),An4 (by omega) HV.out.be _ _ _ _ _ _ _⟩⟩
     ·simp at ho
      subst ho
      have h1x:L.getD 1 false=true:=hall {on:=1,ground:=Ground.data} (by simp) (by decide)
      have H1:=hI h1x
      clear hall hi h1x
      have e0:=HV.out.k1 H1.out
      subst e0
      have lx:=HLX.out.1;have ly:=HLX.out.2
      have HN:=hI (HV.out.b0 hoff)
      have n0:=Aaa HN.out 0;have z0:=Aaf HN.out 0
      have n1:=Aaa HN.out 1;have z1:=Aaf HN.out 1
      have n2:=Aaa HN.out 2;have z2:=Aaf HN.out 2
      have n3:=Aaa HN.out 3;have z3:=Aaf HN.out 3
      have n4:=Aaa HN.out 4;have z4:=Aaf HN.out 4
      have n5:=Aaa HN.out 5;have z5:=Aaf HN.out 5
      have n6:=Aaa HN.out 6;have z6:=Aaf HN.out 6
      simp[Lot.cells,zeroLot] at n0 n1 n2 n3 n4 n5 n6
      refine Akt rfl fun K' HK=>?_
      go_simp
      exact HK.out _ _ ⟨by simp[HJ.out.sz],⟨_,_,_,rfl,fun h0=>HV.out.k0 (Akn h0),fun h0=>HV.out.k1 (Akn h0),fun h0=>HV.out.k4 (Akn h0),(lfar7 (by omega) _ _ _ _ _ _ _).trans HV.out.x,(lfar7 (by omega) _ _ _ _ _ _ _).trans HV.out.y,fun h=>(lfar7 (by omega) _ _ _ _ _ _ _).trans (HV.out.a0 (Akp h)),fun h=>(lfar7 (by omega) _ _ _ _ _ _ _).trans (HV.out.a1 (Akn h)),fun h=>(Akq h (Aki hun)).elim,fun _=>lset7 HN.out _ _ _ _ _ _ _,An4 (by omega) HV.out.be _ _ _ _ _ _ _⟩⟩
     ·simp at ho
      subst ho
      clear hall hi
      refine Akt rfl fun K' HK=>?_
      go_simp
      exact HK.out _ _ ⟨by simp[HJ.out.sz],⟨_,_,_,rfl,fun h0=>HV.out.k0 (Akn h0),fun h0=>HV.out.k1 (Akn h0),fun _=>rfl,HV.out.x,HV.out.y,fun h0=>HV.out.a0 (Akp h0),fun h0=>HV.out.a1 (Akn h0),fun h0=>HV.out.b0 (Akp h0),fun h0=>HV.out.b1 (Akn h0),HV.out.be⟩⟩
   case stC9 =>
    intro L a w' hj i hi
    obtain⟨hun,o,ho,hall⟩:=mem_ready.1 hi
    have hoff:=Akk hun
    have hlt:=(Aab.1 ho).1
    simp at hlt
    obtain⟨s55,s56,s57,s58,s59,s60,rfl,hv⟩:=hj.fr
    have HV:=hI hv
    have HJ:=hI hj
    clear hv hj
    rcases (show i=0∨i=1∨i=2∨i=3∨i=4∨i=5∨i=6∨i=7 from by omega) with rfl|rfl|rfl|rfl|rfl|rfl|rfl|rfl
    ·simp at ho
     subst ho
     clear hall hi
     refine Akt rfl fun K' HK=>?_
     go_simp
     cases HV.out
     refine HK.out _ _ ⟨by simp[HJ.out.sz],⟨_,_,_,_,_,_,rfl,fun _=>rfl,?_,?_,?_,?_,?_,HV.out.cx,HV.out.cy,fun h0=>HV.out.a0 (Akp h0),?_,fun h0=>HV.out.b0 (Akp h0),?_,HV.out.g⟩⟩
     all_goals exact Um (by assumption)
    ·simp at ho
     subst ho
     have h0x:L.getD 0 false=true:=hall {on:=0,ground:=Ground.data} (by simp) (by decide)
     have H0:=hI h0x
     clear hall hi h0x
     have e0:=HV.out.k0 H0.out
     subst e0
     have cx:=HV.out.cx
     refine Akt rfl fun K' HK=>?_
     go_simp
     cases HV.out
     refine HK.out _ _ ⟨by simp[HJ.out.sz],⟨_,_,_,_,_,_,rfl,?_,fun _=>rfl,?_,?_,?_,?_,HV.out.cx,HV.out.cy,fun h0=>HV.out.a0 (Akp h0),?_,fun h0=>HV.out.b0 (Akp h0),?_,HV.out.g⟩⟩
     all_goals exact Um (by assumption)
    ·simp at ho
     subst ho
     clear hall hi
     refine Akt rfl fun K' HK=>?_
     go_simp
     cases HV.out
     refine HK.out _ _ ⟨by simp[HJ.out.sz],⟨_,_,_,_,_,_,rfl,?_,?_,fun _=>rfl,?_,?_,?_,HV.out.cx,HV.out.cy,fun h0=>HV.out.a0 (Akp h0),?_,fun h0=>HV.out.b0 (Akp h0),?_,HV.out.g⟩⟩
     all_goals exact Um (by assumption)
    ·simp at ho
     subst ho
     have h2x:L.getD 2 false=true:=hall {on:=2,ground:=Ground.data} (by simp) (by decide)
     have H2:=hI h2x
     clear hall hi h2x
     have e0:=HV.out.k2 H2.out
     subst e0
     have cy:=HV.out.cy
     refine Akt rfl fun K' HK=>?_
     go_simp
     cases HV.out
     refine HK.out _ _ ⟨by simp[HJ.out.sz],⟨_,_,_,_,_,_,rfl,?_,?_,?_,fun _=>rfl,?_,?_,HV.out.cx,HV.out.cy,fun h0=>HV.out.a0 (Akp h0),?_,fun h0=>HV.out.b0 (Akp h0),?_,HV.out.g⟩⟩
     all_goals exact Um (by assumption)
    ·simp at ho
     subst ho
     clear hall hi
     refine Akt rfl fun K' HK=>?_
     go_simp
     cases HV.out
     refine HK.out _ _ ⟨by simp[HJ.out.sz],⟨_,_,_,_,_,_,rfl,?_,?_,?_,?_,fun _=>rfl,?_,HV.out.cx,HV.out.cy,fun h0=>HV.out.a0 (Akp h0),?_,fun h0=>HV.out.b0 (Akp h0),?_,HV.out.g⟩⟩
     all_goals exact Um (by assumption)
    ·simp at ho
     subst ho
     have h1x:L.getD 1 false=true:=hall {on:=1,ground:=Ground.data} (by simp) (by decide)
     have h4x:L.getD 4 false=true:=hall {on:=4,ground:=Ground.data} (by simp) (by decide)
     have H1:=hI h1x
     have H4:=hI h4x
     clear hall hi h1x h4x
     have e0:=HV.out.k1 H1.out
     subst e0
     have e1:=HV.out.k4 H4.out
     subst e1
     have lx:=HLX.out.1;have ly:=HLX.out.2;have lz:=HNE.out
     have HN:=hI (HV.out.a0 hoff)
     have n0:=Aaa HN.out 6;have z0:=Aaf HN.out 6
     simp[Lot.cells] at n0
     refine Akt rfl fun K' HK=>?_
     go_simp
     cases HV.out
     refine HK.out _ _ ⟨by simp[HJ.out.sz],⟨_,_,_,_,_,_,rfl,?_,?_,?_,?_,?_,?_,Aaa (HN.out.set6 _) 4,(World.cell?_of_block (Below.heap_setCell _ _ _ _ (by simp;omega))).trans HV.out.cy,fun h=>(Akq h (Aki hun)).elim,fun _=>HN.out.set6 _,fun h=>(HV.out.b0 (Akp h)).far _ 6 _ (by omega),fun h=>(HV.out.b1 (Akn h)).far _ 6 _ (by omega),HV.out.g.far _ 6 _ (by omega)⟩⟩
     all_goals exact Um (by assumption)
    ·simp at ho
     subst ho
     clear hall hi
     refine Akt rfl fun K' HK=>?_
     go_simp
     cases HV.out
     refine HK.out _ _ ⟨by simp[HJ.out.sz],⟨_,_,_,_,_,_,rfl,?_,?_,?_,?_,?_,fun _=>rfl,HV.out.cx,HV.out.cy,fun h0=>HV.out.a0 (Akp h0),?_,fun h0=>HV.out.b0 (Akp h0),?_,HV.out.g⟩⟩
     all_goals exact Um (by assumption)
    ·simp at ho
     subst ho
     have h3x:L.getD 3 false=true:=hall {on:=3,ground:=Ground.data} (by simp) (by decide)
     have h6x:L.getD 6 false=true:=hall {on:=6,ground:=Ground.data} (by simp) (by decide)
     have H3:=hI h3x
     have H6:=hI h6x
     clear hall hi h3x h6x
     have e0:=HV.out.k3 H3.out
     subst e0
     have e1:=HV.out.k6 H6.out
     subst e1
     have lx:=HLX.out.1;have ly:=HLX.out.2;have lz:=HNE.out
     have HN:=hI (HV.out.b0 hoff)
     have n0:=Aaa HN.out 6;have z0:=Aaf HN.out 6
     simp[Lot.cells] at n0
     refine Akt rfl fun K' HK=>?_
     go_simp
     cases HV.out
     refine HK.out _ _ ⟨by simp[HJ.out.sz],⟨_,_,_,_,_,_,rfl,?_,?_,?_,?_,?_,?_,(World.cell?_of_block (Below.heap_setCell _ _ _ _ (by simp;omega))).trans HV.out.cx,Aaa (HN.out.set6 _) 4,fun h=>(HV.out.a0 (Akp h)).far _ 6 _ (by omega),fun h=>(HV.out.a1 (Akn h)).far _ 6 _ (by omega),fun h=>(Akq h (Aki hun)).elim,fun _=>HN.out.set6 _,HV.out.g.far _ 6 _ (by omega)⟩⟩
     all_goals exact Um (by assumption)
 ·have CW5:=hI (show CutW w l (((w4.alloc (.cells l.cells 38)).alloc (.cells l.cells 38)).drew) from CW4.out.below (((Below.refl _ w4).alloc (Aad _) _).alloc (by simp) _).drew)
  have TN:=An3 w4 l
  have LT:=CW4.out.lt
  unfold Lot.cells at CW5 TN
  generalize (((w4.alloc (.cells #[.string l.id,.string l.inst,.int .i64 l.acq,.int .i64 l.opn,.string l.qty,.string l.cost,.string l.used] 38)).alloc (.cells #[.string l.id,.string l.inst,.int .i64 l.acq,.int .i64 l.opn,.string l.qty,.string l.cost,.string l.used] 38)).drew)=w5 at CW5 TN ⊢
  have hxy:w4.heap.size≠w4.heap.size+1:=by omega
  have hyx:w4.heap.size+1≠w4.heap.size:=by omega
  have LTY:w.heap.size+3≤w4.heap.size+1:=by omega
  generalize w4.heap.size+1=bY at hxy hyx LTY TN ⊢
  generalize w4.heap.size=bX at hxy hyx LT LTY TN ⊢
  have LT_bX:=hI LT
  have LT_bY:=hI LTY
  have k5:=CW5.out.ib
  have HX:=hI TN.1
  have HY:=hI TN.2
  clear c0 c1 c2 c3 c4 c5 c6 CW4
  obtain⟨c0,c1,c2,c3,c4,c5,c6⟩:=Ac0 k5
  clear k5 TN
  go_wp2_with fail
  refine (HSub.out w5 (HT.out.below CW5.out.be)).mono ?_
  rintro e w6 ⟨rfl,b6⟩
  have CW6:=hI (CW5.out.below b6)
  replace HX:=hI (HX.out.below b6)
  replace HY:=hI (HY.out.below b6)
  clear b6 HSub CW5 c0 c1 c2 c3 c4 c5 c6
  have k6:=CW6.out.ib
  have kx:=HX.out
  have ky:=HY.out
  obtain⟨c0,c1,c2,c3,c4,c5,c6⟩:=Ac0 k6
  obtain⟨x0,x1,x2,x3,x4,x5,x6⟩:=Ac0 kx
  obtain⟨y0,y1,y2,y3,y4,y5,y6⟩:=Ac0 ky
  have fx:=Aaf kx 4
  have fy:=Aaf ky 4
  clear k6 kx ky
  go_wp2_with fail
  refine (HSh.out _ (HT.out.below ((CW6.out.far bY 4 (.string q) LT_bY.out).far bX 4 (.string (I qr)) LT_bX.out).be)).mono ?_
  rintro e w7 ⟨rfl,b7⟩
  have CW7:=hI (((CW6.out.far bY 4 (.string q) LT_bY.out).far bX 4 (.string (I qr)) LT_bX.out).below b7)
  have H7:=hI (((HY.out.set4 q).far bX 4 (.string (I qr)) hxy).below b7)
  have H8:=hI (((HX.out.far bY 4 (.string q) hyx).set4 (I qr)).below b7)
  clear b7 HSh CW6 HX HY fx fy c0 c1 c2 c3 c4 c5 c6 x0 x1 x2 x3 x4 x5 x6 y0 y1 y2 y3 y4 y5 y6
  have k7:=CW7.out.ib
  have kx:=H7.out
  have ky:=H8.out
  obtain⟨c0,c1,c2,c3,c4,c5,c6⟩:=Ac0 k7
  obtain⟨x0,x1,x2,x3,x4,x5,x6⟩:=Ac0 kx
  obtain⟨y0,y1,y2,y3,y4,y5,y6⟩:=Ac0 ky
  have fx:=Aaf kx 5
  have fy:=Aaf ky 5
  clear k7 kx ky
  by_cases hu:l.used=⟨#[]⟩
  ·have hz:(l.used.toList==[])=true:=by rw[hu,Lib.toList_data];rfl
   have HUU:=hI hu
   clear hu
   go_upto_region 10 with fail
   have hA:LotBox (((w7.setCell ⟨bY,5,none⟩ (.string (I sz))).setCell ⟨bX,5,none⟩ (.string (I sr))).drew) bY {l with qty:=q,cost:=I sz}:=(H7.out.set5 (I sz)).far bX 5 (.string (I sr)) hxy
   have hB:LotBox (((w7.setCell ⟨bY,5,none⟩ (.string (I sz))).setCell ⟨bX,5,none⟩ (.string (I sr))).drew) bX {l with qty:=I qr,cost:=I sr}:=(H8.out.far bY 5 (.string (I sz)) hyx).set5 (I sr)
   have hC:CutW w l (((w7.setCell ⟨bY,5,none⟩ (.string (I sz))).setCell ⟨bX,5,none⟩ (.string (I sr))).drew):=((CW7.out.far bY 5 (.string (I sz)) LT_bY.out).far bX 5 (.string (I sr)) LT_bX.out).below (Below.refl _ _).drew
   have HLA:Hid (({l with qty:=q,cost:=I sz}:Lot)={l with qty:=q,cost:=I sz,used:=uA}):=by rw[Hid,←HUA.out,cutU,if_pos HUU.out,←HUU.out]
   have HLB:Hid (({l with qty:=I qr,cost:=I sr}:Lot)={l with qty:=I qr,cost:=I sr,used:=uB}):=by rw[Hid,←HUB.out,cutU,if_pos HUU.out,←HUU.out]
   rw[HLA.out] at hA
   rw[HLB.out] at hB
   clear HLA HLB CW7 H7 H8
   have HLX:Hid (w.heap.size+3≤bY∧w.heap.size+3≤bX):=⟨LT_bY.out,LT_bX.out⟩
   have mixed:Tryz.prog.follows .mixedOrders=true:=by kernel_rfl
   refine wp_region_any mixed (Akw (C10J w bY bX {l with qty:=q,cost:=I sz,used:=uA} {l with qty:=I qr,cost:=I sr,used:=uB} _ _ _ _ _ _ _ _ _ _ _ _ _ _ _ _ _ _ _ _ _ _ _ _ _ _ _ _ _ _ _ _ _ _ _ _ _ _ _ _ _ _ _ _ _ _ _ _ _ _ _ _ _ _ _ _) ?stC10 ?dnC10 _ _ _ _ ⟨by simp,⟨_,_,_,rfl,fun h=>by simp at h,fun h=>by simp at h,fun h=>by simp at h,hA,hB,fun _=>hC.za,fun h=>by simp at h,fun _=>hC.zb,fun h=>by simp at h,hC.be⟩⟩ (by decide))
   case dnC10 =>
    intro L a w' hj hr
    have all:=Akv hr hj.sz (by kernel_rfl)
    obtain⟨s6,s61,s62,rfl,hv⟩:=hj.fr
    have e6:=hv.k4 (all 4 (by omega))
    subst e6
    have HF:=hI (And.intro (hv.a1 (all 2 (by omega))) (And.intro (hv.b1 (all 3 (by omega))) hv.be))
    clear all hv hj hr
    dsimp only
    (first|go_wp2_with fail|skip)
    have h7:=HF.out.1
    have h8:=HF.out.2.1
    obtain⟨m0,m1,m2,m3,m4,m5,m6⟩:=lbc h7
    obtain⟨n0,n1,n2,n3,n4,n5,n6⟩:=lbc h8
    clear h7 h8
    exact bodyPost_ret (v:=.tuple #[.agg #[.string l.id,.string l.inst,.int .i64 l.acq,.int .i64 l.opn,.string q,.string (I sz),.string uA],.agg #[.string l.id,.string l.inst,.int .i64 l.acq,.int .i64 l.opn,.string (I qr),.string (I sr),.string uB],.int .i64 0]) (by simp[results,Tryz.results27,go_sem,m0,m1,m2,m3,m4,m5,m6,n0,n1,n2,n3,n4,n5,n6]) rfl ⟨rfl,HF.out.2.2⟩
   case stC10 =>
    intro L a w' hj i hi
    obtain⟨hun,o,ho,hall⟩:=mem_ready.1 hi
    have hoff:=Akk hun
    have hlt:=(Aab.1 ho).1
    simp at hlt
    obtain⟨s6,s61,s62,rfl,hv⟩:=hj.fr
    have HV:=hI hv
    have HJ:=hI hj
    clear hv hj
    rcases (show i=0∨i=1∨i=2∨i=3∨i=4 from by omega) with rfl|rfl|rfl|rfl|rfl
    ·simp at ho
     subst ho
     clear hall hi
     have hx:=HV.out.x
     obtain⟨c0,c1,c2,c3,c4,c5,c6⟩:=lbc hx
     refine Akt rfl fun K' HK=>?_
     go_simp
     exact HK.out _ _ ⟨by simp[HJ.out.sz],⟨_,_,_,rfl,fun _=>rfl,fun h0=>HV.out.k1 (Akn h0),fun h0=>HV.out.k4 (Akn h0),HV.out.x,HV.out.y,fun h0=>HV.out.a0 (Akp h0),fun h0=>HV.out.a1 (Akn h0),fun h0=>HV.out.b0 (Akp h0),fun h0=>HV.out.b1 (Akn h0),HV.out.be⟩⟩
    ·simp at ho
     subst ho
     clear hall hi
     have hx:=HV.out.y
     obtain⟨c0,c1,c2,c3,c4,c5,c6⟩:=lbc hx
     refine Akt rfl fun K' HK=>?_
     go_simp
     exact HK.out _ _ ⟨by simp[HJ.out.sz],⟨_,_,_,rfl,fun h0=>HV.out.k0 (Akn h0),fun _=>rfl,fun h0=>HV.out.k4 (Akn h0),HV.out.x,HV.out.y,fun h0=>HV.out.a0 (Akp h0),fun h0=>HV.out.a1 (Akn h0),fun h0=>HV.out.b0 (Akp h0),fun h0=>HV.out.b1 (Akn h0),HV.out.be⟩⟩
    ·simp at ho
     subst ho
     have h0x:L.getD 0 false=true:=hall {on:=0,ground:=Ground.data} (by simp) (by decide)
     have H0:=hI h0x
     clear hall hi h0x
     have e0:=HV.out.k0 H0.out
     subst e0
     have lx:=HLX.out.1;have ly:=HLX.out.2
     have HN:=hI (HV.out.a0 hoff)
     have n0:=Aaa HN.out 0;have z0:=Aaf HN.out 0
     have n1:=Aaa HN.out 1;have z1:=Aaf HN.out 1
     have n2:=Aaa HN.out 2;have z2:=Aaf HN.out 2
     have n3:=Aaa HN.out 3;have z3:=Aaf HN.out 3
     have n4:=Aaa HN.out 4;have z4:=Aaf HN.out 4
     have n5:=Aaa HN.out 5;have z5:=Aaf HN.out 5
     have n6:=Aaa HN.out 6;have z6:=Aaf HN.out 6
     simp[Lot.cells,zeroLot] at n0 n1 n2 n3 n4 n5 n6
     refine Akt rfl fun K' HK=>?_
     go_simp
     exact HK.out _ _ ⟨by simp[HJ.out.sz],⟨_,_,_,rfl,fun h0=>HV.out.k0 (Akn h0),fun h0=>HV.out.k1 (Akn h0),fun h0=>HV.out.k4 (Akn h0),(lfar7 (by omega) _ _ _ _ _ _ _).trans HV.out.x,(lfar7 (by omega) _ _ _ _ _ _ _).trans HV.out.y,fun h=>(Akq h (Aki hun)).elim,fun _=>lset7 HN.out _ _ _ _ _ _ _,fun h=>(lfar7 (by omega) _ _ _ _ _ _ _).trans (HV.out.b0 (Akp h)),fun h=>(lfar7 (by omega) _ _ _ _ _ _ _).trans (HV.out.b1 (Akn h)),An4 (by omega) HV.out.be _ _ _ _ _ _ _⟩⟩
    ·simp at ho
     subst ho
     have h1x:L.getD 1 false=true:=hall {on:=1,ground:=Ground.data} (by simp) (by decide)
     have H1:=hI h1x
     clear hall hi h1x
     have e0:=HV.out.k1 H1.out
     subst e0
     have lx:=HLX.out.1;have ly:=HLX.out.2
     have HN:=hI (HV.out.b0 hoff)
     have n0:=Aaa HN.out 0;have z0:=Aaf HN.out 0
     have n1:=Aaa HN.out 1;have z1:=Aaf HN.out 1
     have n2:=Aaa HN.out 2;have z2:=Aaf HN.out 2
     have n3:=Aaa HN.out 3;have z3:=Aaf HN.out 3
     have n4:=Aaa HN.out 4;have z4:=Aaf HN.out 4
     have n5:=Aaa HN.out 5;have z5:=Aaf HN.out 5
     have n6:=Aaa HN.out 6;have z6:=Aaf HN.out 6
     simp[Lot.cells,zeroLot] at n0 n1 n2 n3 n4 n5 n6
     refine Akt rfl fun K' HK=>?_
     go_simp
     exact HK.out _ _ ⟨by simp[HJ.out.sz],⟨_,_,_,rfl,fun h0=>HV.out.k0 (Akn h0),fun h0=>HV.out.k1 (Akn h0),fun h0=>HV.out.k4 (Akn h0),(lfar7 (by omega) _ _ _ _ _ _ _).trans HV.out.x,(lfar7 (by omega) _ _ _ _ _ _ _).trans HV.out.y,fun h=>(lfar7 (by omega) _ _ _ _ _ _ _).trans (HV.out.a0 (Akp h)),fun h=>(lfar7 (by omega) _ _ _ _ _ _ _).trans (HV.out.a1 (Akn h)),fun h=>(Akq h (Aki hun)).elim,fun _=>lset7 HN.out _ _ _ _ _ _ _,An4 (by omega) HV.out.be _ _ _ _ _ _ _⟩⟩
    ·simp at ho
     subst ho
     clear hall hi
     refine Akt rfl fun K' HK=>?_
     go_simp
     exact HK.out _ _ ⟨by simp[HJ.out.sz],⟨_,_,_,rfl,fun h0=>HV.out.k0 (Akn h0),fun h0=>HV.out.k1 (Akn h0),fun _=>rfl,HV.out.x,HV.out.y,fun h0=>HV.out.a0 (Akp h0),fun h0=>HV.out.a1 (Akn h0),fun h0=>HV.out.b0 (Akp h0),fun h0=>HV.out.b1 (Akn h0),HV.out.be⟩⟩
  ·have hz:(l.used.toList==[])=false:=Aaj.2 (fun e=>hu (by rw[show l.used=⟨l.used.data⟩ from rfl];congr 1;rw[Lib.toList_data] at e;exact Array.toList_eq_nil_iff.1 e))
   have hz':(l.used.toList != [])=true:=by rw[bne,hz];rfl
   have HUU:=hI hu
   clear hu
   go_upto_region 9 with fail
   have hA:LotBox (((w7.setCell ⟨bY,5,none⟩ (.string (I sz))).setCell ⟨bX,5,none⟩ (.string (I sr))).drew) bY {l with qty:=q,cost:=I sz}:=(H7.out.set5 (I sz)).far bX 5 (.string (I sr)) hxy
   have hB:LotBox (((w7.setCell ⟨bY,5,none⟩ (.string (I sz))).setCell ⟨bX,5,none⟩ (.string (I sr))).drew) bX {l with qty:=I qr,cost:=I sr}:=(H8.out.far bY 5 (.string (I sz)) hyx).set5 (I sr)
   have hC:CutW w l (((w7.setCell ⟨bY,5,none⟩ (.string (I sz))).setCell ⟨bX,5,none⟩ (.string (I sr))).drew):=((CW7.out.far bY 5 (.string (I sz)) LT_bY.out).far bX 5 (.string (I sr)) LT_bX.out).below (Below.refl _ _).drew
   clear CW7 H7 H8
   have HLX:Hid (w.heap.size+3≤bY∧w.heap.size+3≤bX):=⟨LT_bY.out,LT_bX.out⟩
   have HNE:Hid (bY≠bX):=hyx
   have mixed:Tryz.prog.follows .mixedOrders=true:=by kernel_rfl
   refine wp_region_any mixed (Akw (C9J w l bY bX {l with qty:=q,cost:=I sz} {l with qty:=I qr,cost:=I sr} _ _ _ _ _ _ _ _ _ _ _ _ _ _ _ _ _ _ _ _ _ _ _ _ _ _ _ _ _ _ _ _ _ _ _ _ _ _ _ _ _ _ _ _ _ _ _ _ _ _ _ _ _ _ _) ?stC9 ?dnC9 _ _ _ _ ⟨by simp,⟨_,_,_,_,_,_,rfl,fun h=>by simp at h,fun h=>by simp at h,fun h=>by simp at h,fun h=>by simp at h,fun h=>by simp at h,fun h=>by simp at h,Aaa hA 4,Aaa hB 4,fun _=>hA,fun h=>by simp at h,fun _=>hB,fun h=>by simp at h,hC⟩⟩ (by decide))
   case dnC9 =>
    intro L a w' hj hr
    have all:=Akv hr hj.sz (by kernel_rfl)
    obtain⟨s55,s56,s57,s58,s59,s60,rfl,hv⟩:=hj.fr
    have hA0:=hv.a1 (all 5 (by omega));have hB0:=hv.b1 (all 7 (by omega));have hC0:=hv.g
    clear all hv hj hr
    have hA:LotBox w'.drew bY {l with qty:=q,cost:=I sz,used:=uA}:=by have e:=HUA.out;rw[cutU,if_neg HUU.out] at e;rw[←e];exact hA0
    have hB:LotBox w'.drew bX {l with qty:=I qr,cost:=I sr,used:=uB}:=by have e:=HUB.out;rw[cutU,if_neg HUU.out] at e;rw[←e];exact hB0
    have hC:CutW w l w'.drew:=hC0.below (Below.refl _ _).drew
    clear hA0 hB0 hC0
    dsimp only
    go_upto_region 10 with fail
    have HLX:Hid (w.heap.size+3≤bY∧w.heap.size+3≤bX):=⟨LT_bY.out,LT_bX.out⟩
    have mixed:Tryz.prog.follows .mixedOrders=true:=by kernel_rfl
    refine wp_region_any mixed (Akw (C10J w bY bX {l with qty:=q,cost:=I sz,used:=uA} {l with qty:=I qr,cost:=I sr,used:=uB} _ _ _ _ _ _ _ _ _ _ _ _ _ _ _ _ _ _ _ _ _ _ _ _ _ _ _ _ _ _ _ _ _ _ _ _ _ _ _ _ _ _ _ _ _ _ _ _ _ _ _ _ _ _ _ _) ?stC10 ?dnC10 _ _ _ _ ⟨by simp,⟨_,_,_,rfl,fun h=>by simp at h,fun h=>by simp at h,fun h=>by simp at h,hA,hB,fun _=>hC.za,fun h=>by simp at h,fun _=>hC.zb,fun h=>by simp at h,hC.be⟩⟩ (by decide))
    case dnC10 =>
     intro L a w' hj hr
     have all:=Akv hr hj.sz (by kernel_rfl)
     obtain⟨s6,s61,s62,rfl,hv⟩:=hj.fr
     have e6:=hv.k4 (all 4 (by omega))
     subst e6
     have HF:=hI (And.intro (hv.a1 (all 2 (by omega))) (And.intro (hv.b1 (all 3 (by omega))) hv.be))
     clear all hv hj hr
     dsimp only
     (first|go_wp2_with fail|skip)
     have h7:=HF.out.1
     have h8:=HF.out.2.1
     obtain⟨m0,m1,m2,m3,m4,m5,m6⟩:=lbc h7
     obtain⟨n0,n1,n2,n3,n4,n5,n6⟩:=lbc h8
     clear h7 h8
     exact bodyPost_ret (v:=.tuple #[.agg #[.string l.id,.string l.inst,.int .i64 l.acq,.int .i64 l.opn,.string q,.string (I sz),.string uA],.agg #[.string l.id,.string l.inst,.int .i64 l.acq,.int .i64 l.opn,.string (I qr),.string (I sr),.string uB],.int .i64 0]) (by simp[results,Tryz.results27,go_sem,m0,m1,m2,m3,m4,m5,m6,n0,n1,n2,n3,n4,n5,n6]) rfl ⟨rfl,HF.out.2.2⟩
    case stC10 =>
     intro L a w' hj i hi
     obtain⟨hun,o,ho,hall⟩:=mem_ready.1 hi
     have hoff:=Akk hun
     have hlt:=(Aab.1 ho).1
     simp at hlt
     obtain⟨s6,s61,s62,rfl,hv⟩:=hj.fr
     have HV:=hI hv
     have HJ:=hI hj
     clear hv hj
     rcases (show i=0∨i=1∨i=2∨i=3∨i=4 from by omega) with rfl|rfl|rfl|rfl|rfl
     ·simp at ho
      subst ho
      clear hall hi
      have hx:=HV.out.x
      obtain⟨c0,c1,c2,c3,c4,c5,c6⟩:=lbc hx
      refine Akt rfl fun K' HK=>?_
      go_simp
      exact HK.out _ _ ⟨by simp[HJ.out.sz],⟨_,_,_,rfl,fun _=>rfl,fun h0=>HV.out.k1 (Akn h0),fun h0=>HV.out.k4 (Akn h0),HV.out.x,HV.out.y,fun h0=>HV.out.a0 (Akp h0),fun h0=>HV.out.a1 (Akn h0),fun h0=>HV.out.b0 (Akp h0),fun h0=>HV.out.b1 (Akn h0),HV.out.be⟩⟩
     ·simp at ho
      subst ho
      clear hall hi
      have hx:=HV.out.y
      obtain⟨c0,c1,c2,c3,c4,c5,c6⟩:=lbc hx
      refine Akt rfl fun K' HK=>?_
      go_simp
      exact HK.out _ _ ⟨by simp[HJ.out.sz],⟨_,_,_,rfl,fun h0=>HV.out.k0 (Akn h0),fun _=>rfl,fun h0=>HV.out.k4 (Akn h0),HV.out.x,HV.out.y,fun h0=>HV.out.a0 (Akp h0),fun h0=>HV.out.a1 (Akn h0),fun h0=>HV.out.b0 (Akp h0),fun h0=>HV.out.b1 (Akn h0),HV.out.be⟩⟩
     ·simp at ho
      subst ho
      have h0x:L.getD 0 false=true:=hall {on:=0,ground:=Ground.data} (by simp) (by decide)
      have H0:=hI h0x
      clear hall hi h0x
      have e0:=HV.out.k0 H0.out
      subst e0
      have lx:=HLX.out.1;have ly:=HLX.out.2
      have HN:=hI (HV.out.a0 hoff)
      have n0:=Aaa HN.out 0;have z0:=Aaf HN.out 0
      have n1:=Aaa HN.out 1;have z1:=Aaf HN.out 1
      have n2:=Aaa HN.out 2;have z2:=Aaf HN.out 2
      have n3:=Aaa HN.out 3;have z3:=Aaf HN.out 3
      have n4:=Aaa HN.out 4;have z4:=Aaf HN.out 4
      have n5:=Aaa HN.out 5;have z5:=Aaf HN.out 5
      have n6:=Aaa HN.out 6;have z6:=Aaf HN.out 6
      simp[Lot.cells,zeroLot] at n0 n1 n2 n3 n4 n5 n6
      refine Akt rfl fun K' HK=>?_
      go_simp
      exact HK.out _ _ ⟨by simp[HJ.out.sz],⟨_,_,_,rfl,fun h0=>HV.out.k0 (Akn h0),fun h0=>HV.out.k1 (Akn h0),fun h0=>HV.out.k4 (Akn h0),(lfar7 (by omega) _ _ _ _ _ _ _).trans HV.out.x,(lfar7 (by omega) _ _ _ _ _ _ _).trans HV.out.y,fun h=>(Akq h (Aki hun)).elim,fun _=>lset7 HN.out _ _ _ _ _ _ _,fun h=>(lfar7 (by omega) _ _ _ _ _ _ _).trans (HV.out.b0 (Akp h)),fun h=>(lfar7 (by omega) _ _ _ _ _ _ _).trans (HV.out.b1 (Akn h)),An4 (by omega) HV.out.be _ _ _ _ _ _ _⟩⟩
     ·simp at ho
      subst ho
      have h1x:L.getD 1 false=true:=hall {on:=1,ground:=Ground.data} (by simp) (by decide)
      have H1:=hI h1x
      clear hall hi h1x
      have e0:=HV.out.k1 H1.out
      subst e0
      have lx:=HLX.out.1;have ly:=HLX.out.2
      have HN:=hI (HV.out.b0 hoff)
      have n0:=Aaa HN.out 0;have z0:=Aaf HN.out 0
      have n1:=Aaa HN.out 1;have z1:=Aaf HN.out 1
      have n2:=Aaa HN.out 2;have z2:=Aaf HN.out 2
      have n3:=Aaa HN.out 3;have z3:=Aaf HN.out 3
      have n4:=Aaa HN.out 4;have z4:=Aaf HN.out 4
      have n5:=Aaa HN.out 5;have z5:=Aaf HN.out 5
      have n6:=Aaa HN.out 6;have z6:=Aaf HN.out 6
      simp[Lot.cells,zeroLot] at n0 n1 n2 n3 n4 n5 n6
      refine Akt rfl fun K' HK=>?_
      go_simp
      exact HK.out _ _ ⟨by simp[HJ.out.sz],⟨_,_,_,rfl,fun h0=>HV.out.k0 (Akn h0),fun h0=>HV.out.k1 (Akn h0),fun h0=>HV.out.k4 (Akn h0),(lfar7 (by omega) _ _ _ _ _ _ _).trans HV.out.x,(lfar7 (by omega) _ _ _ _ _ _ _).trans HV.out.y,fun h=>(lfar7 (by omega) _ _ _ _ _ _ _).trans (HV.out.a0 (Akp h)),fun h=>(lfar7 (by omega) _ _ _ _ _ _ _).trans (HV.out.a1 (Akn h)),fun h=>(Akq h (Aki hun)).elim,fun _=>lset7 HN.out _ _ _ _ _ _ _,An4 (by omega) HV.out.be _ _ _ _ _ _ _⟩⟩
     ·simp at ho
      subst ho
      clear hall hi
      refine Akt rfl fun K' HK=>?_
      go_simp
      exact HK.out _ _ ⟨by simp[HJ.out.sz],⟨_,_,_,rfl,fun h0=>HV.out.k0 (Akn h0),fun h0=>HV.out.k1 (Akn h0),fun _=>rfl,HV.out.x,HV.out.y,fun h0=>HV.out.a0 (Akp h0),fun h0=>HV.out.a1 (Akn h0),fun h0=>HV.out.b0 (Akp h0),fun h0=>HV.out.b1 (Akn h0),HV.out.be⟩⟩
   case stC9 =>
    intro L a w' hj i hi
    obtain⟨hun,o,ho,hall⟩:=mem_ready.1 hi
    have hoff:=Akk hun
    have hlt:=(Aab.1 ho).1
    simp at hlt
    obtain⟨s55,s56,s57,s58,s59,s60,rfl,hv⟩:=hj.fr
    have HV:=hI hv
    have HJ:=hI hj
    clear hv hj
    rcases (show i=0∨i=1∨i=2∨i=3∨i=4∨i=5∨i=6∨i=7 from by omega) with rfl|rfl|rfl|rfl|rfl|rfl|rfl|rfl
    ·simp at ho
     subst ho
     clear hall hi
     refine Akt rfl fun K' HK=>?_
     go_simp
     cases HV.out
     refine HK.out _ _ ⟨by simp[HJ.out.sz],⟨_,_,_,_,_,_,rfl,fun _=>rfl,?_,?_,?_,?_,?_,HV.out.cx,HV.out.cy,fun h0=>HV.out.a0 (Akp h0),?_,fun h0=>HV.out.b0 (Akp h0),?_,HV.out.g⟩⟩
     all_goals exact Um (by assumption)
    ·simp at ho
     subst ho
     have h0x:L.getD 0 false=true:=hall {on:=0,ground:=Ground.data} (by simp) (by decide)
     have H0:=hI h0x
     clear hall hi h0x
     have e0:=HV.out.k0 H0.out
     subst e0
     have cx:=HV.out.cx
     refine Akt rfl fun K' HK=>?_
     go_simp
     cases HV.out
     refine HK.out _ _ ⟨by simp[HJ.out.sz],⟨_,_,_,_,_,_,rfl,?_,fun _=>rfl,?_,?_,?_,?_,HV.out.cx,HV.out.cy,fun h0=>HV.out.a0 (Akp h0),?_,fun h0=>HV.out.b0 (Akp h0),?_,HV.out.g⟩⟩
     all_goals exact Um (by assumption)
    ·simp at ho
     subst ho
     clear hall hi
     refine Akt rfl fun K' HK=>?_
     go_simp
     cases HV.out
     refine HK.out _ _ ⟨by simp[HJ.out.sz],⟨_,_,_,_,_,_,rfl,?_,?_,fun _=>rfl,?_,?_,?_,HV.out.cx,HV.out.cy,fun h0=>HV.out.a0 (Akp h0),?_,fun h0=>HV.out.b0 (Akp h0),?_,HV.out.g⟩⟩
     all_goals exact Um (by assumption)
    ·simp at ho
     subst ho
     have h2x:L.getD 2 false=true:=hall {on:=2,ground:=Ground.data} (by simp) (by decide)
     have H2:=hI h2x
     clear hall hi h2x
     have e0:=HV.out.k2 H2.out
     subst e0
     have cy:=HV.out.cy
     refine Akt rfl fun K' HK=>?_
     go_simp
     cases HV.out
     refine HK.out _ _ ⟨by simp[HJ.out.sz],⟨_,_,_,_,_,_,rfl,?_,?_,?_,fun _=>rfl,?_,?_,HV.out.cx,HV.out.cy,fun h0=>HV.out.a0 (Akp h0),?_,fun h0=>HV.out.b0 (Akp h0),?_,HV.out.g⟩⟩
     all_goals exact Um (by assumption)
    ·simp at ho
     subst ho
     clear hall hi
     refine Akt rfl fun K' HK=>?_
     go_simp
     cases HV.out
     refine HK.out _ _ ⟨by simp[HJ.out.sz],⟨_,_,_,_,_,_,rfl,?_,?_,?_,?_,fun _=>rfl,?_,HV.out.cx,HV.out.cy,fun h0=>HV.out.a0 (Akp h0),?_,fun h0=>HV.out.b0 (Akp h0),?_,HV.out.g⟩⟩
     all_goals exact Um (by assumption)
    ·simp at ho
     subst ho
     have h1x:L.getD 1 false=true:=hall {on:=1,ground:=Ground.data} (by simp) (by decide)
     have h4x:L.getD 4 false=true:=hall {on:=4,ground:=Ground.data} (by simp) (by decide)
     have H1:=hI h1x
     have H4:=hI h4x
     clear hall hi h1x h4x
     have e0:=HV.out.k1 H1.out
     subst e0
     have e1:=HV.out.k4 H4.out
     subst e1
     have lx:=HLX.out.1;have ly:=HLX.out.2;have lz:=HNE.out
     have HN:=hI (HV.out.a0 hoff)
     have n0:=Aaa HN.out 6;have z0:=Aaf HN.out 6
     simp[Lot.cells] at n0
     refine Akt rfl fun K' HK=>?_
     go_simp
     cases HV.out
     refine HK.out _ _ ⟨by simp[HJ.out.sz],⟨_,_,_,_,_,_,rfl,?_,?_,?_,?_,?_,?_,Aaa (HN.out.set6 _) 4,(World.cell?_of_block (Below.heap_setCell _ _ _ _ (by simp;omega))).trans HV.out.cy,fun h=>(Akq h (Aki hun)).elim,fun _=>HN.out.set6 _,fun h=>(HV.out.b0 (Akp h)).far _ 6 _ (by omega),fun h=>(HV.out.b1 (Akn h)).far _ 6 _ (by omega),HV.out.g.far _ 6 _ (by omega)⟩⟩
     all_goals exact Um (by assumption)
    ·simp at ho
     subst ho
     clear hall hi
     refine Akt rfl fun K' HK=>?_
     go_simp
     cases HV.out
     refine HK.out _ _ ⟨by simp[HJ.out.sz],⟨_,_,_,_,_,_,rfl,?_,?_,?_,?_,?_,fun _=>rfl,HV.out.cx,HV.out.cy,fun h0=>HV.out.a0 (Akp h0),?_,fun h0=>HV.out.b0 (Akp h0),?_,HV.out.g⟩⟩
     all_goals exact Um (by assumption)
    ·simp at ho
     subst ho
     have h3x:L.getD 3 false=true:=hall {on:=3,ground:=Ground.data} (by simp) (by decide)
     have h6x:L.getD 6 false=true:=hall {on:=6,ground:=Ground.data} (by simp) (by decide)
     have H3:=hI h3x
     have H6:=hI h6x
     clear hall hi h3x h6x
     have e0:=HV.out.k3 H3.out
     subst e0
     have e1:=HV.out.k6 H6.out
     subst e1
     have lx:=HLX.out.1;have ly:=HLX.out.2;have lz:=HNE.out
     have HN:=hI (HV.out.b0 hoff)
     have n0:=Aaa HN.out 6;have z0:=Aaf HN.out 6
     simp[Lot.cells] at n0
     refine Akt rfl fun K' HK=>?_
     go_simp
     cases HV.out
     refine HK.out _ _ ⟨by simp[HJ.out.sz],⟨_,_,_,_,_,_,rfl,?_,?_,?_,?_,?_,?_,(World.cell?_of_block (Below.heap_setCell _ _ _ _ (by simp;omega))).trans HV.out.cx,Aaa (HN.out.set6 _) 4,fun h=>(HV.out.a0 (Akp h)).far _ 6 _ (by omega),fun h=>(HV.out.a1 (Akn h)).far _ 6 _ (by omega),fun h=>(Akq h (Aki hun)).elim,fun _=>HN.out.set6 _,HV.out.g.far _ 6 _ (by omega)⟩⟩
     all_goals exact Um (by assumption)
end Go.Proofs.YtcmgmemffncbhabGreatDoor
