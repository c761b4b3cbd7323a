/-
  lot.Cut of a valid lot into a quantity and the rest. (Printed by gen_cut3.py.)
-/
import Derived.Test.YtcnmoobojdopgaaGreatDoorI21
import Derived.Laws.NewBlocks
set_option linter.unusedVariables false
set_option linter.unusedSimpArgs false
set_option maxHeartbeats 16000000
set_option maxRecDepth 100000
namespace Go.Proofs.YtcnmoobojdopgaaGreatDoor
open Go.RowKit Tr Go.Shelf
def zeroLot:Lot:=⟨⟨#[]⟩,⟨#[]⟩,0,0,⟨#[]⟩,⟨#[]⟩,⟨#[]⟩⟩
structure CutW(w:World)(l:Lot)(W:World):Prop where
 ib:LotBox W w.heap.size l
 za:LotBox W (w.heap.size+1) zeroLot
 zb:LotBox W (w.heap.size+2) zeroLot
 be:Below w.heap.size w W
theorem CutW.below{w:World}{l:Lot}{W W':World}(h:CutW w l W)(hb:Below W.heap.size W W'):CutW w l W' :=
 ⟨h.ib.below hb,h.za.below hb,h.zb.below hb,h.be.trans (hb.mono h.be.size)⟩
theorem CutW.start(w:World)(l:Lot):CutW w l (((w.alloc (.cells l.cells 63)).alloc (.cells zeroLot.cells 63)).alloc (.cells zeroLot.cells 63)):=by
 have h1:LotBox (w.alloc (.cells l.cells 63)) w.heap.size l:=Aax w _
 have h2:LotBox ((w.alloc (.cells l.cells 63)).alloc (.cells zeroLot.cells 63)) (w.heap.size+1) zeroLot:=by
  have h:=Aax (w.alloc (.cells l.cells 63)) (.cells zeroLot.cells 63)
  unfold LotBox
  simpa using h
 have h3:LotBox (((w.alloc (.cells l.cells 63)).alloc (.cells zeroLot.cells 63)).alloc (.cells zeroLot.cells 63)) (w.heap.size+2) zeroLot:=by
  have h:=Aax ((w.alloc (.cells l.cells 63)).alloc (.cells zeroLot.cells 63)) (.cells zeroLot.cells 63)
  unfold LotBox
  simpa using h
 have b1:=(Below.refl _ (w.alloc (.cells l.cells 63))).alloc (Aad _) (.cells zeroLot.cells 63)
 have b2:=(Below.refl _ ((w.alloc (.cells l.cells 63)).alloc (.cells zeroLot.cells 63))).alloc (Aad _) (.cells zeroLot.cells 63)
 exact⟨(h1.below b1).below b2,h2.below b2,h3,(((Below.refl _ w).alloc (Aad _) _).alloc (by simp) _).alloc (by simp;omega) _⟩
theorem LotBox.set4{W:World}{B:Nat}{l:Lot}(h:LotBox W B l)(x:ByteArray):LotBox (W.setCell ⟨B,4,none⟩ (.string x)) B {l with qty:=x}:=by
 unfold LotBox at *;simp[World.setCell,Array.getElem?_modify,h]
theorem LotBox.set5{W:World}{B:Nat}{l:Lot}(h:LotBox W B l)(x:ByteArray):LotBox (W.setCell ⟨B,5,none⟩ (.string x)) B {l with cost:=x}:=by
 unfold LotBox at *;simp[World.setCell,Array.getElem?_modify,h]
theorem LotBox.set6{W:World}{B:Nat}{l:Lot}(h:LotBox W B l)(x:ByteArray):LotBox (W.setCell ⟨B,6,none⟩ (.string x)) B {l with used:=x}:=by
 unfold LotBox at *;simp[World.setCell,Array.getElem?_modify,h]
theorem LotBox.far{W:World}{B:Nat}{l:Lot}(h:LotBox W B l)(b k:Nat)(v:Value)(hne:b≠B):LotBox (W.setCell ⟨b,k,none⟩ v) B l:=by
 unfold LotBox at *;simp[World.setCell,Array.getElem?_modify,h,hne]
theorem CutW.far{w:World}{l:Lot}{W:World}(h:CutW w l W)(b k:Nat)(v:Value)(hb:w.heap.size+3≤b):CutW w l (W.setCell ⟨b,k,none⟩ v) :=
 ⟨h.ib.far b k v (by omega),h.za.far b k v (by omega),h.zb.far b k v (by omega),h.be.setCell (by show w.heap.size≤b;omega) v⟩
theorem CutW.lt{w:World}{l:Lot}{W:World}(h:CutW w l W):w.heap.size+3≤W.heap.size:=by have:=h.zb.lt;omega
theorem Auf(W:World)(l:Lot):LotBox (((W.alloc (.cells l.cells 63)).alloc (.cells l.cells 63)).drew) W.heap.size l∧LotBox (((W.alloc (.cells l.cells 63)).alloc (.cells l.cells 63)).drew) (W.heap.size+1) l:=by
 have h1:LotBox (W.alloc (.cells l.cells 63)) W.heap.size l:=Aax W _
 have b1:=(Below.refl _ (W.alloc (.cells l.cells 63))).alloc (Aad _) (.cells l.cells 63)
 refine⟨h1.below b1.drew,?_⟩
 have h:=Aax (W.alloc (.cells l.cells 63)) (.cells l.cells 63)
 show ((W.alloc (.cells l.cells 63)).alloc (.cells l.cells 63)).heap[W.heap.size+1]?=_
 simpa using h
def cutU(l:Lot)(x:ByteArray):ByteArray:=if l.used=⟨#[]⟩ then⟨#[]⟩ else x
theorem lset7{w:World}{b:Nat}{l0:Lot}(h:LotBox w b l0)(x0 x1 x2 x3 x4 x5 x6:Value):
 (((((((w.setCell ⟨b,0,none⟩ x0).setCell ⟨b,1,none⟩ x1).setCell ⟨b,2,none⟩ x2).setCell ⟨b,3,none⟩ x3).setCell ⟨b,4,none⟩ x4).setCell ⟨b,5,none⟩ x5).setCell ⟨b,6,none⟩ x6).heap[b]?=some (.cells #[x0,x1,x2,x3,x4,x5,x6] 63 (0,0)):=by
 unfold LotBox at h
 simp[World.setCell,Array.getElem?_modify,h]
theorem Aug{w W:World}{b:Nat}(hb:w.heap.size≤b)(h:Below w.heap.size w W)(x0 x1 x2 x3 x4 x5 x6:Value):
 Below w.heap.size w (((((((W.setCell ⟨b,0,none⟩ x0).setCell ⟨b,1,none⟩ x1).setCell ⟨b,2,none⟩ x2).setCell ⟨b,3,none⟩ x3).setCell ⟨b,4,none⟩ x4).setCell ⟨b,5,none⟩ x5).setCell ⟨b,6,none⟩ x6) :=
 (((((((h.setCell (p:=⟨b,0,none⟩) hb x0).setCell (p:=⟨b,1,none⟩) hb x1).setCell (p:=⟨b,2,none⟩) hb x2).setCell (p:=⟨b,3,none⟩) hb x3).setCell (p:=⟨b,4,none⟩) hb x4).setCell (p:=⟨b,5,none⟩) hb x5).setCell (p:=⟨b,6,none⟩) hb x6)
theorem lfar7{W:World}{b k:Nat}(hk:k≠b)(x0 x1 x2 x3 x4 x5 x6:Value):
 (((((((W.setCell ⟨b,0,none⟩ x0).setCell ⟨b,1,none⟩ x1).setCell ⟨b,2,none⟩ x2).setCell ⟨b,3,none⟩ x3).setCell ⟨b,4,none⟩ x4).setCell ⟨b,5,none⟩ x5).setCell ⟨b,6,none⟩ x6).heap[k]?=W.heap[k]?:=by
 simp[World.setCell,Array.getElem?_modify,Ne.symm hk]
def cutZ(l:Lot)(q:ByteArray):Int:=Aq2 (vl l.cost) (vl q) (vl l.qty)
def cutA(l:Lot)(q:ByteArray):Lot:={l with qty:=q,cost:=I (cutZ l q),used:=cutU l q}
def cutB(l:Lot)(q:ByteArray):Lot:={l with qty:=I (vl l.qty-vl q),cost:=I (vl l.cost-cutZ l q),used:=cutU l (I (vl l.qty-vl q))}
structure C10V(w:World)(p7 p8:Nat)(LA LB:Lot)  (L:Array Bool) (W:World) (s6 s61 s62:Value):Prop where
 k0:L.getD 0 false=true→s61=.agg #[.string LA.id,.string LA.inst,.int .i64 LA.acq,.int .i64 LA.opn,.string LA.qty,.string LA.cost,.string LA.used]
 k1:L.getD 1 false=true→s62=.agg #[.string LB.id,.string LB.inst,.int .i64 LB.acq,.int .i64 LB.opn,.string LB.qty,.string LB.cost,.string LB.used]
 k4:L.getD 4 false=true→s6=.int .i64 0
 x:LotBox W p7 LA
 y:LotBox W p8 LB
 a0:L.getD 2 false=false→LotBox W (w.heap.size+1) zeroLot
 a1:L.getD 2 false=true→LotBox W (w.heap.size+1) LA
 b0:L.getD 3 false=false→LotBox W (w.heap.size+2) zeroLot
 b1:L.getD 3 false=true→LotBox W (w.heap.size+2) LB
 be:Below w.heap.size w W
structure C10J(w:World)(p7 p8:Nat)(LA LB:Lot)(x0 x1 x2 x3 x9 x10 x11 x12 x13 x14 x15 x16 x17 x18 x19 x20 x21 x22 x23 x24 x25 x26 x27 x28 x29 x30 x31 x32 x33 x34 x35 x36 x37 x38 x39 x40 x41 x42 x43 x44 x45 x46 x47 x48 x49 x50 x51 x52 x53 x54 x55 x56 x57 x58 x59 x60:Value)(L:Array Bool)(a:Act)(W:World):Prop where
 sz:L.size=5
 fr:∃s6 s61 s62:Value,a={tmps:=#[x0,x1,x2,x3,.pointer (some ⟨w.heap.size+1,0,none⟩),.pointer (some ⟨w.heap.size+2,0,none⟩),s6,.pointer (some ⟨p7,0,none⟩),.pointer (some ⟨p8,0,none⟩),x9,x10,x11,x12,x13,x14,x15,x16,x17,x18,x19,x20,x21,x22,x23,x24,x25,x26,x27,x28,x29,x30,x31,x32,x33,x34,x35,x36,x37,x38,x39,x40,x41,x42,x43,x44,x45,x46,x47,x48,x49,x50,x51,x52,x53,x54,x55,x56,x57,x58,x59,x60,s61,s62],defers:=[]}∧C10V w p7 p8 LA LB  L W s6 s61 s62
structure C9V(w:World)(l:Lot)(p7 p8:Nat)(LA LB:Lot)  (L:Array Bool) (W:World) (s55 s56 s57 s58 s59 s60:Value):Prop where
 k0:L.getD 0 false=true→s55=.pointer (some ⟨p7,4,none⟩)
 k1:L.getD 1 false=true→s56=.string LA.qty
 k2:L.getD 2 false=true→s57=.pointer (some ⟨p8,4,none⟩)
 k3:L.getD 3 false=true→s58=.string LB.qty
 k4:L.getD 4 false=true→s59=.pointer (some ⟨p7,6,none⟩)
 k6:L.getD 6 false=true→s60=.pointer (some ⟨p8,6,none⟩)
 cx:W.cell? ⟨p7,4,none⟩=some (.string LA.qty)
 cy:W.cell? ⟨p8,4,none⟩=some (.string LB.qty)
 a0:L.getD 5 false=false→LotBox W p7 LA
 a1:L.getD 5 false=true→LotBox W p7 {LA with used:=LA.qty}
 b0:L.getD 7 false=false→LotBox W p8 LB
 b1:L.getD 7 false=true→LotBox W p8 {LB with used:=LB.qty}
 g:CutW w l W
structure C9J(w:World)(l:Lot)(p7 p8:Nat)(LA LB:Lot)(x0 x1 x2 x3 x4 x5 x6 x9 x10 x11 x12 x13 x14 x15 x16 x17 x18 x19 x20 x21 x22 x23 x24 x25 x26 x27 x28 x29 x30 x31 x32 x33 x34 x35 x36 x37 x38 x39 x40 x41 x42 x43 x44 x45 x46 x47 x48 x49 x50 x51 x52 x53 x54 x61 x62:Value)(L:Array Bool)(a:Act)(W:World):Prop where
 sz:L.size=8
 fr:∃s55 s56 s57 s58 s59 s60:Value,a={tmps:=#[x0,x1,x2,x3,x4,x5,x6,.pointer (some ⟨p7,0,none⟩),.pointer (some ⟨p8,0,none⟩),x9,x10,x11,x12,x13,x14,x15,x16,x17,x18,x19,x20,x21,x22,x23,x24,x25,x26,x27,x28,x29,x30,x31,x32,x33,x34,x35,x36,x37,x38,x39,x40,x41,x42,x43,x44,x45,x46,x47,x48,x49,x50,x51,x52,x53,x54,s55,s56,s57,s58,s59,s60,x61,x62],defers:=[]}∧C9V w l p7 p8 LA LB  L W s55 s56 s57 s58 s59 s60
theorem lCut_ok(l:Lot)(q:ByteArray)(hs:l.sized)(h:l.ok)(hq:Can q)(q1:q.size≤1000)(q0:0<vl q)(q2:vl q<vl l.qty)(w:World)(ht:Tabs w):
 Calls Tryz.prog 34 #[l.enc,.string q] w fun e w'=>e=.returned (.tuple #[(cutA l q).enc,(cutB l q).enc,.int .i64 0])∧Below w.heap.size w w':=by
 have HT:=hI ht
 have CW:=CutW.start w l
 obtain⟨W0,hW0⟩:∃W0,(((w.alloc (.cells l.cells 63)).alloc (.cells zeroLot.cells 63)).alloc (.cells zeroLot.cells 63))=W0:=⟨_,rfl⟩
 rw[hW0] at CW
 obtain⟨z1,z2,z3,z4,z5⟩:=id hs
 have HK:=hI (fun W hW=>Ams l hs h W hW)
 have HC:=hI (fun W=>Agb q W (by omega) hq)
 have HM1:=hI (fun W=>Agf q ⟨#[]⟩ W (by omega) (by show 0≤_;omega))
 rw[show vl (⟨#[]⟩:ByteArray)=0 from by rw[zero_eq,vl_I]] at HM1
 have HM2:=hI (fun W=>Agf q l.qty W (by omega) (by omega))
 have d1:decide (cmpI (vl q) 0≤0)=false:=Aaw (by rw[Ac9];omega)
 have d2:decide (0≤cmpI (vl q) (vl l.qty))=false:=Aaw (by rw[Ada];omega)
 have d3:decide (cmpI (vl q) (vl l.qty)≥0)=false:=d2
 have HSub:=hI (fun W hW=>Af8 l.qty q W (by omega) (by omega) hW)
 have HSh:=hI (fun W hW=>Aq7 (vl l.cost) (vl q) (vl l.qty) W (by rw[h.cc];omega) (by rw[hq];omega) (by rw[h.cq];omega) h.pc (by omega) h.pq (by omega) hW)
 rw[h.cc,hq,h.cq] at HSh
 have HU:=hI h.us
 have eA:Hid ((cutA l q).enc=.agg #[.string l.id,.string l.inst,.int .i64 l.acq,.int .i64 l.opn,.string q,.string (I (cutZ l q)),.string (cutU l q)]):=hI rfl
 have eB:Hid ((cutB l q).enc=.agg #[.string l.id,.string l.inst,.int .i64 l.acq,.int .i64 l.opn,.string (I (vl l.qty-vl q)),.string (I (vl l.cost-cutZ l q)),.string (cutU l (I (vl l.qty-vl q)))]):=hI rfl
 rw[show Aq2 (vl l.cost) (vl q) (vl l.qty)=cutZ l q from rfl] at HSh
 rw[eA.out,eB.out]
 obtain⟨uA,huA⟩:∃u,cutU l q=u:=⟨_,rfl⟩
 obtain⟨uB,huB⟩:∃u,cutU l (I (vl l.qty-vl q))=u:=⟨_,rfl⟩
 rw[huA,huB]
 have HUA:=hI huA
 have HUB:=hI huB
 generalize cutZ l q=sz at HSh ⊢
 generalize vl l.cost-sz=sr at HSh ⊢
 generalize vl l.qty-vl q=qr at HSub HUB ⊢
 have k0:=CW.ib
 obtain⟨c0,c1,c2,c3,c4,c5,c6⟩:=Acp k0
 have CW0:=hI CW
 clear CW k0 eA eB z1 z2 z3 z4 z5 hs h hq q0 q1 q2 ht huA huB
 unfold Lot.enc Lot.cells at *
 unfold zeroLot at hW0
 dsimp only at hW0
 go_enter Tryz.func34,Tryz.ntmps34
 go_wp2_with fail
 try rw[hW0]
 refine (HK.out W0 (HT.out.below CW0.out.be)).mono ?_
 rintro e w1 ⟨rfl,b1⟩
 have CW1:=hI (CW0.out.below b1)
 clear b1 HK hW0 c0 c1 c2 c3 c4 c5 c6
 go_wp2_with fail
 refine (HC.out w1).mono ?_
 rintro e w2 ⟨rfl,b2⟩
 have CW2:=hI (CW1.out.below b2)
 clear b2 HC CW1
 go_wp2_with fail
 refine (HM1.out w2).mono ?_
 rintro e w3 ⟨rfl,b3⟩
 have CW3:=hI (CW2.out.below b3)
 have k3:=CW3.out.ib
 obtain⟨c0,c1,c2,c3,c4,c5,c6⟩:=Acp k3
 clear b3 HM1 CW2 k3
 go_wp2_with fail
 refine (HM2.out w3).mono ?_
 rintro e w4 ⟨rfl,b4⟩
 have CW4:=hI (CW3.out.below b4)
 clear c0 c1 c2 c3 c4 c5 c6
 have k4:=CW4.out.ib
 obtain⟨c0,c1,c2,c3,c4,c5,c6⟩:=Acp k4
 clear b4 HM2 CW3 k4
 have hl:w.heap.size<w4.heap.size:=CW4.out.ib.lt
 have hl1:w.heap.size<w4.heap.size+1:=by omega
 go_wp2_with fail
 go_region
 ·have CW5:=hI (show CutW w l (((w4.alloc (.cells l.cells 63)).alloc (.cells l.cells 63)).drew) from CW4.out.below (((Below.refl _ w4).alloc (Aad _) _).alloc (by simp) _).drew)
  have TN:=Auf w4 l
  have LT:=CW4.out.lt
  unfold Lot.cells at CW5 TN
  generalize (((w4.alloc (.cells #[.string l.id,.string l.inst,.int .i64 l.acq,.int .i64 l.opn,.string l.qty,.string l.cost,.string l.used] 63)).alloc (.cells #[.string l.id,.string l.inst,.int .i64 l.acq,.int .i64 l.opn,.string l.qty,.string l.cost,.string l.used] 63)).drew)=w5 at CW5 TN ⊢
  have hxy:w4.heap.size≠w4.heap.size+1:=by omega
  have hyx:w4.heap.size+1≠w4.heap.size:=by omega
  have LTY:w.heap.size+3≤w4.heap.size+1:=by omega
  generalize w4.heap.size+1=bY at hxy hyx LTY TN ⊢
  generalize w4.heap.size=bX at hxy hyx LT LTY TN ⊢
  have LT_bX:=hI LT
  have LT_bY:=hI LTY
  have k5:=CW5.out.ib
  have HX:=hI TN.1
  have HY:=hI TN.2
  clear c0 c1 c2 c3 c4 c5 c6 CW4
  obtain⟨c0,c1,c2,c3,c4,c5,c6⟩:=Acp k5
  clear k5 TN
  go_wp2_with fail
  refine (HSub.out w5 (HT.out.below CW5.out.be)).mono ?_
  rintro e w6 ⟨rfl,b6⟩
  have CW6:=hI (CW5.out.below b6)
  replace HX:=hI (HX.out.below b6)
  replace HY:=hI (HY.out.below b6)
  clear b6 HSub CW5 c0 c1 c2 c3 c4 c5 c6
  have k6:=CW6.out.ib
  have kx:=HX.out
  have ky:=HY.out
  obtain⟨c0,c1,c2,c3,c4,c5,c6⟩:=Acp k6
  obtain⟨x0,x1,x2,x3,x4,x5,x6⟩:=Acp kx
  obtain⟨y0,y1,y2,y3,y4,y5,y6⟩:=Acp ky
  have fx:=Aaf kx 4
  have fy:=Aaf ky 4
  clear k6 kx ky
  go_wp2_with fail
  refine (HSh.out _ (HT.out.below ((CW6.out.far bX 4 (.string q) LT_bX.out).far bY 4 (.string (I qr)) LT_bY.out).be)).mono ?_
  rintro e w7 ⟨rfl,b7⟩
  have CW7:=hI (((CW6.out.far bX 4 (.string q) LT_bX.out).far bY 4 (.string (I qr)) LT_bY.out).below b7)
  have H7:=hI (((HX.out.set4 q).far bY 4 (.string (I qr)) hyx).below b7)
  have H8:=hI (((HY.out.far bX 4 (.string q) hxy).set4 (I qr)).below b7)
  clear b7 HSh CW6 HX HY fx fy c0 c1 c2 c3 c4 c5 c6 x0 x1 x2 x3 x4 x5 x6 y0 y1 y2 y3 y4 y5 y6
  have k7:=CW7.out.ib
  have kx:=H7.out
  have ky:=H8.out
  obtain⟨c0,c1,c2,c3,c4,c5,c6⟩:=Acp k7
  obtain⟨x0,x1,x2,x3,x4,x5,x6⟩:=Acp kx
  obtain⟨y0,y1,y2,y3,y4,y5,y6⟩:=Acp ky
  have fx:=Aaf kx 5
  have fy:=Aaf ky 5
  clear k7 kx ky
  by_cases hu:l.used=⟨#[]⟩
  ·have hz:(l.used.toList==[])=true:=by rw[hu,Lib.toList_data];rfl
   have HUU:=hI hu
   clear hu
   go_upto_region 10 with fail
   have hA:LotBox (((w7.setCell ⟨bX,5,none⟩ (.string (I sz))).setCell ⟨bY,5,none⟩ (.string (I sr))).drew) bX {l with qty:=q,cost:=I sz}:=(H7.out.set5 (I sz)).far bY 5 (.string (I sr)) hyx
   have hB:LotBox (((w7.setCell ⟨bX,5,none⟩ (.string (I sz))).setCell ⟨bY,5,none⟩ (.string (I sr))).drew) bY {l with qty:=I qr,cost:=I sr}:=(H8.out.far bX 5 (.string (I sz)) hxy).set5 (I sr)
   have hC:CutW w l (((w7.setCell ⟨bX,5,none⟩ (.string (I sz))).setCell ⟨bY,5,none⟩ (.string (I sr))).drew):=((CW7.out.far bX 5 (.string (I sz)) LT_bX.out).far bY 5 (.string (I sr)) LT_bY.out).below (Below.refl _ _).drew
   have HLA:Hid (({l with qty:=q,cost:=I sz}:Lot)={l with qty:=q,cost:=I sz,used:=uA}):=by rw[Hid,←HUA.out,cutU,if_pos HUU.out,←HUU.out]
   have HLB:Hid (({l with qty:=I qr,cost:=I sr}:Lot)={l with qty:=I qr,cost:=I sr,used:=uB}):=by rw[Hid,←HUB.out,cutU,if_pos HUU.out,←HUU.out]
   rw[HLA.out] at hA
   rw[HLB.out] at hB
   clear HLA HLB CW7 H7 H8
   have HLX:Hid (w.heap.size+3≤bX∧w.heap.size+3≤bY):=⟨LT_bX.out,LT_bY.out⟩
   have mixed:Tryz.prog.follows .mixedOrders=true:=by kernel_rfl
   refine wp_region_any mixed (Aqj (C10J w bX bY {l with qty:=q,cost:=I sz,used:=uA} {l with qty:=I qr,cost:=I sr,used:=uB} _ _ _ _ _ _ _ _ _ _ _ _ _ _ _ _ _ _ _ _ _ _ _ _ _ _ _ _ _ _ _ _ _ _ _ _ _ _ _ _ _ _ _ _ _ _ _ _ _ _ _ _ _ _ _ _) ?stC10 ?dnC10 _ _ _ _ ⟨by simp,⟨_,_,_,rfl,fun h=>by simp at h,fun h=>by simp at h,fun h=>by simp at h,hA,hB,fun _=>hC.za,fun h=>by simp at h,fun _=>hC.zb,fun h=>by simp at h,hC.be⟩⟩ (by decide))
   case dnC10 =>
    intro L a w' hj hr
    have all:=Apr hr hj.sz (by kernel_rfl)
    obtain⟨s6,s61,s62,rfl,hv⟩:=hj.fr
    have e6:=hv.k4 (all 4 (by omega))
    subst e6
    have HF:=hI (And.intro (hv.a1 (all 2 (by omega))) (And.intro (hv.b1 (all 3 (by omega))) hv.be))
    clear all hv hj hr
    dsimp only
    (first|go_wp2_with fail|skip)
    have h7:=HF.out.1
    have h8:=HF.out.2.1
    obtain⟨m0,m1,m2,m3,m4,m5,m6⟩:=lbc h7
    obtain⟨n0,n1,n2,n3,n4,n5,n6⟩:=lbc h8
    clear h7 h8
    exact bodyPost_ret (v:=.tuple #[.agg #[.string l.id,.string l.inst,.int .i64 l.acq,.int .i64 l.opn,.string q,.string (I sz),.string uA],.agg #[.string l.id,.string l.inst,.int .i64 l.acq,.int .i64 l.opn,.string (I qr),.string (I sr),.string uB],.int .i64 0]) (by simp[results,Tryz.results34,go_sem,m0,m1,m2,m3,m4,m5,m6,n0,n1,n2,n3,n4,n5,n6]) rfl ⟨rfl,HF.out.2.2⟩
   case stC10 =>
    intro L a w' hj i hi
    obtain⟨hun,o,ho,hall⟩:=mem_ready.1 hi
    have hoff:=Apg hun
    have hlt:=(Aab.1 ho).1
    simp at hlt
    obtain⟨s6,s61,s62,rfl,hv⟩:=hj.fr
    have HV:=hI hv
    have HJ:=hI hj
    clear hv hj
    rcases (show i=0∨i=1∨i=2∨i=3∨i=4 from by omega) with rfl|rfl|rfl|rfl|rfl
    ·simp at ho
     subst ho
     clear hall hi
     have hx:=HV.out.x
     obtain⟨c0,c1,c2,c3,c4,c5,c6⟩:=lbc hx
     refine App rfl fun K' HK=>?_
     go_simp
     exact HK.out _ _ ⟨by simp[HJ.out.sz],⟨_,_,_,rfl,fun _=>rfl,fun h0=>HV.out.k1 (Api h0),fun h0=>HV.out.k4 (Api h0),HV.out.x,HV.out.y,fun h0=>HV.out.a0 (Apj h0),fun h0=>HV.out.a1 (Api h0),fun h0=>HV.out.b0 (Apj h0),fun h0=>HV.out.b1 (Api h0),HV.out.be⟩⟩
    ·simp at ho
     subst ho
     clear hall hi
     have hx:=HV.out.y
     obtain⟨c0,c1,c2,c3,c4,c5,c6⟩:=lbc hx
     refine App rfl fun K' HK=>?_
     go_simp
     exact HK.out _ _ ⟨by simp[HJ.out.sz],⟨_,_,_,rfl,fun h0=>HV.out.k0 (Api h0),fun _=>rfl,fun h0=>HV.out.k4 (Api h0),HV.out.x,HV.out.y,fun h0=>HV.out.a0 (Apj h0),fun h0=>HV.out.a1 (Api h0),fun h0=>HV.out.b0 (Apj h0),fun h0=>HV.out.b1 (Api h0),HV.out.be⟩⟩
    ·simp at ho
     subst ho
     have h0x:L.getD 0 false=true:=hall {on:=0,ground:=Ground.data} (by simp) (by decide)
     have H0:=hI h0x
     clear hall hi h0x
     have e0:=HV.out.k0 H0.out
     subst e0
     have lx:=HLX.out.1;have ly:=HLX.out.2
     have HN:=hI (HV.out.a0 hoff)
     have n0:=Aaa HN.out 0;have z0:=Aaf HN.out 0
     have n1:=Aaa HN.out 1;have z1:=Aaf HN.out 1
     have n2:=Aaa HN.out 2;have z2:=Aaf HN.out 2
     have n3:=Aaa HN.out 3;have z3:=Aaf HN.out 3
     have n4:=Aaa HN.out 4;have z4:=Aaf HN.out 4
     have n5:=Aaa HN.out 5;have z5:=Aaf HN.out 5
     have n6:=Aaa HN.out 6;have z6:=Aaf HN.out 6
     simp[Lot.cells,zeroLot] at n0 n1 n2 n3 n4 n5 n6
     refine App rfl fun K' HK=>?_
     go_simp
     exact HK.out _ _ ⟨by simp[HJ.out.sz],⟨_,_,_,rfl,fun h0=>HV.out.k0 (Api h0),fun h0=>HV.out.k1 (Api h0),fun h0=>HV.out.k4 (Api h0),(lfar7 (by omega) _ _ _ _ _ _ _).trans HV.out.x,(lfar7 (by omega) _ _ _ _ _ _ _).trans HV.out.y,fun h=>(Apk h (Ape hun)).elim,fun _=>lset7 HN.out _ _ _ _ _ _ _,fun h=>(lfar7 (by omega) _ _ _ _ _ _ _).trans (HV.out.b0 (Apj h)),fun h=>(lfar7 (by omega) _ _ _ _ _ _ _).trans (HV.out.b1 (Api h)),Aug (by omega) HV.out.be _ _ _ _ _ _ _⟩⟩
    ·simp at ho
     subst ho
     have h1x:L.getD 1 false=true:=hall {on:=1,ground:=Ground.data} (by simp) (by decide)
     have H1:=hI h1x
     clear hall hi h1x
     have e0:=HV.out.k1 H1.out
     subst e0
     have lx:=HLX.out.1;have ly:=HLX.out.2
     have HN:=hI (HV.out.b0 hoff)
     have n0:=Aaa HN.out 0;have z0:=Aaf HN.out 0
     have n1:=Aaa HN.out 1;have z1:=Aaf HN.out 1
     have n2:=Aaa HN.out 2;have z2:=Aaf HN.out 2
     have n3:=Aaa HN.out 3;have z3:=Aaf HN.out 3
     have n4:=Aaa HN.out 4;have z4:=Aaf HN.out 4
     have n5:=Aaa HN.out 5;have z5:=Aaf HN.out 5
     have n6:=Aaa HN.out 6;have z6:=Aaf HN.out 6
     simp[Lot.cells,zeroLot] at n0 n1 n2 n3 n4 n5 n6
     refine App rfl fun K' HK=>?_
     go_simp
     exact HK.out _ _ ⟨by simp[HJ.out.sz],⟨_,_,_,rfl,fun h0=>HV.out.k0 (Api h0),fun h0=>HV.out.k1 (Api h0),fun h0=>HV.out.k4 (Api h0),(lfar7 (by omega) _ _ _ _ _ _ _).trans HV.out.x,(lfar7 (by omega) _ _ _ _ _ _ _).trans HV.out.y,fun h=>(lfar7 (by omega) _ _ _ _ _ _ _).trans (HV.out.a0 (Apj h)),fun h=>(lfar7 (by omega) _ _ _ _ _ _ _).trans (HV.out.a1 (Api h)),fun h=>(Apk h (Ape hun)).elim,fun _=>lset7 HN.out _ _ _ _ _ _ _,Aug (by omega) HV.out.be _ _ _ _ _ _ _⟩⟩
    ·simp at ho
     subst ho
     clear hall hi
     refine App rfl fun K' HK=>?_
     go_simp
     exact HK.out _ _ ⟨by simp[HJ.out.sz],⟨_,_,_,rfl,fun h0=>HV.out.k0 (Api h0),fun h0=>HV.out.k1 (Api h0),fun _=>rfl,HV.out.x,HV.out.y,fun h0=>HV.out.a0 (Apj h0),fun h0=>HV.out.a1 (Api h0),fun h0=>HV.out.b0 (Apj h0),fun h0=>HV.out.b1 (Api h0),HV.out.be⟩⟩
  ·have hz:(l.used.toList==[])=false:=Aaj.2 (fun e=>hu (by rw[show l.used=⟨l.used.data⟩ from rfl];congr 1;rw[Lib.toList_data] at e;exact Array.toList_eq_nil_iff.1 e))
   have hz':(l.used.toList != [])=true:=by rw[bne,hz];rfl
   have HUU:=hI hu
   clear hu
   go_upto_region 9 with fail
   have hA:LotBox (((w7.setCell ⟨bX,5,none⟩ (.string (I sz))).setCell ⟨bY,5,none⟩ (.string (I sr))).drew) bX {l with qty:=q,cost:=I sz}:=(H7.out.set5 (I sz)).far bY 5 (.string (I sr)) hyx
   have hB:LotBox (((w7.setCell ⟨bX,5,none⟩ (.string (I sz))).setCell ⟨bY,5,none⟩ (.string (I sr))).drew) bY {l with qty:=I qr,cost:=I sr}:=(H8.out.far bX 5 (.string (I sz)) hxy).set5 (I sr)
   have hC:CutW w l (((w7.setCell ⟨bX,5,none⟩ (.string (I sz))).setCell ⟨bY,5,none⟩ (.string (I sr))).drew):=((CW7.out.far bX 5 (.string (I sz)) LT_bX.out).far bY 5 (.string (I sr)) LT_bY.out).below (Below.refl _ _).drew
   clear CW7 H7 H8
   have HLX:Hid (w.heap.size+3≤bX∧w.heap.size+3≤bY):=⟨LT_bX.out,LT_bY.out⟩
   have HNE:Hid (bX≠bY):=hxy
   have mixed:Tryz.prog.follows .mixedOrders=true:=by kernel_rfl
   refine wp_region_any mixed (Aqj (C9J w l bX bY {l with qty:=q,cost:=I sz} {l with qty:=I qr,cost:=I sr} _ _ _ _ _ _ _ _ _ _ _ _ _ _ _ _ _ _ _ _ _ _ _ _ _ _ _ _ _ _ _ _ _ _ _ _ _ _ _ _ _ _ _ _ _ _ _ _ _ _ _ _ _ _ _) ?stC9 ?dnC9 _ _ _ _ ⟨by simp,⟨_,_,_,_,_,_,rfl,fun h=>by simp at h,fun h=>by simp at h,fun h=>by simp at h,fun h=>by simp at h,fun h=>by simp at h,fun h=>by simp at h,Aaa hA 4,Aaa hB 4,fun _=>hA,fun h=>by simp at h,fun _=>hB,fun h=>by simp at h,hC⟩⟩ (by decide))
   case dnC9 =>
    intro L a w' hj hr
    have all:=Apr hr hj.sz (by kernel_rfl)
    obtain⟨s55,s56,s57,s58,s59,s60,rfl,hv⟩:=hj.fr
    have hA0:=hv.a1 (all 5 (by omega));have hB0:=hv.b1 (all 7 (by omega));have hC0:=hv.g
    clear all hv hj hr
    have hA:LotBox w'.drew bX {l with qty:=q,cost:=I sz,used:=uA}:=by have e:=HUA.out;rw[cutU,if_neg HUU.out] at e;rw[←e];exact hA0
    have hB:LotBox w'.drew bY {l with qty:=I qr,cost:=I sr,used:=uB}:=by have e:=HUB.out;rw[cutU,if_neg HUU.out] at e;rw[←e];exact hB0
    have hC:CutW w l w'.drew:=hC0.below (Below.refl _ _).drew
    clear hA0 hB0 hC0
    dsimp only
    go_upto_region 10 with fail
    have HLX:Hid (w.heap.size+3≤bX∧w.heap.size+3≤bY):=⟨LT_bX.out,LT_bY.out⟩
    have mixed:Tryz.prog.follows .mixedOrders=true:=by kernel_rfl
    refine wp_region_any mixed (Aqj (C10J w bX bY {l with qty:=q,cost:=I sz,used:=uA} {l with qty:=I qr,cost:=I sr,used:=uB} _ _ _ _ _ _ _ _ _ _ _ _ _ _ _ _ _ _ _ _ _ _ _ _ _ _ _ _ _ _ _ _ _ _ _ _ _ _ _ _ _ _ _ _ _ _ _ _ _ _ _ _ _ _ _ _) ?stC10 ?dnC10 _ _ _ _ ⟨by simp,⟨_,_,_,rfl,fun h=>by simp at h,fun h=>by simp at h,fun h=>by simp at h,hA,hB,fun _=>hC.za,fun h=>by simp at h,fun _=>hC.zb,fun h=>by simp at h,hC.be⟩⟩ (by decide))
    case dnC10 =>
     intro L a w' hj hr
     have all:=Apr hr hj.sz (by kernel_rfl)
     obtain⟨s6,s61,s62,rfl,hv⟩:=hj.fr
     have e6:=hv.k4 (all 4 (by omega))
     subst e6
     have HF:=hI (And.intro (hv.a1 (all 2 (by omega))) (And.intro (hv.b1 (all 3 (by omega))) hv.be))
     clear all hv hj hr
     dsimp only
     (first|go_wp2_with fail|skip)
     have h7:=HF.out.1
     have h8:=HF.out.2.1
     obtain⟨m0,m1,m2,m3,m4,m5,m6⟩:=lbc h7
     obtain⟨n0,n1,n2,n3,n4,n5,n6⟩:=lbc h8
     clear h7 h8
     exact bodyPost_ret (v:=.tuple #[.agg #[.string l.id,.string l.inst,.int .i64 l.acq,.int .i64 l.opn,.string q,.string (I sz),.string uA],.agg #[.string l.id,.string l.inst,.int .i64 l.acq,.int .i64 l.opn,.string (I qr),.string (I sr),.string uB],.int .i64 0]) (by simp[results,Tryz.results34,go_sem,m0,m1,m2,m3,m4,m5,m6,n0,n1,n2,n3,n4,n5,n6]) rfl ⟨rfl,HF.out.2.2⟩
    case stC10 =>
     intro L a w' hj i hi
     obtain⟨hun,o,ho,hall⟩:=mem_ready.1 hi
     have hoff:=Apg hun
     have hlt:=(Aab.1 ho).1
     simp at hlt
     obtain⟨s6,s61,s62,rfl,hv⟩:=hj.fr
     have HV:=hI hv
     have HJ:=hI hj
     clear hv hj
     rcases (show i=0∨i=1∨i=2∨i=3∨i=4 from by omega) with rfl|rfl|rfl|rfl|rfl
     ·simp at ho
      subst ho
      clear hall hi
      have hx:=HV.out.x
      obtain⟨c0,c1,c2,c3,c4,c5,c6⟩:=lbc hx
      refine App rfl fun K' HK=>?_
      go_simp
      exact HK.out _ _ ⟨by simp[HJ.out.sz],⟨_,_,_,rfl,fun _=>rfl,fun h0=>HV.out.k1 (Api h0),fun h0=>HV.out.k4 (Api h0),HV.out.x,HV.out.y,fun h0=>HV.out.a0 (Apj h0),fun h0=>HV.out.a1 (Api h0),fun h0=>HV.out.b0 (Apj h0),fun h0=>HV.out.b1 (Api h0),HV.out.be⟩⟩
     ·simp at ho
      subst ho
      clear hall hi
      have hx:=HV.out.y
      obtain⟨c0,c1,c2,c3,c4,c5,c6⟩:=lbc hx
      refine App rfl fun K' HK=>?_
      go_simp
      exact HK.out _ _ ⟨by simp[HJ.out.sz],⟨_,_,_,rfl,fun h0=>HV.out.k0 (Api h0),fun _=>rfl,fun h0=>HV.out.k4 (Api h0),HV.out.x,HV.out.y,fun h0=>HV.out.a0 (Apj h0),fun h0=>HV.out.a1 (Api h0),fun h0=>HV.out.b0 (Apj h0),fun h0=>HV.out.b1 (Api h0),HV.out.be⟩⟩
     ·simp at ho
      subst ho
      have h0x:L.getD 0 false=true:=hall {on:=0,ground:=Ground.data} (by simp) (by decide)
      have H0:=hI h0x
      clear hall hi h0x
      have e0:=HV.out.k0 H0.out
      subst e0
      have lx:=HLX.out.1;have ly:=HLX.out.2
      have HN:=hI (HV.out.a0 hoff)
      have n0:=Aaa HN.out 0;have z0:=Aaf HN.out 0
      have n1:=Aaa HN.out 1;have z1:=Aaf HN.out 1
      have n2:=Aaa HN.out 2;have z2:=Aaf HN.out 2
      have n3:=Aaa HN.out 3;have z3:=Aaf HN.out 3
      have n4:=Aaa HN.out 4;have z4:=Aaf HN.out 4
      have n5:=Aaa HN.out 5;have z5:=Aaf HN.out 5
      have n6:=Aaa HN.out 6;have z6:=Aaf HN.out 6
      simp[Lot.cells,zeroLot] at n0 n1 n2 n3 n4 n5 n6
      refine App rfl fun K' HK=>?_
      go_simp
      exact HK.out _ _ ⟨by simp[HJ.out.sz],⟨_,_,_,rfl,fun h0=>HV.out.k0 (Api h0),fun h0=>HV.out.k1 (Api h0),fun h0=>HV.out.k4 (Api h0),(lfar7 (by omega) _ _ _ _ _ _ _).trans HV.out.x,(lfar7 (by omega) _ _ _ _ _ _ _).trans HV.out.y,fun h=>(Apk h (Ape hun)).elim,fun _=>lset7 HN.out _ _ _ _ _ _ _,fun h=>(lfar7 (by omega) _ _ _ _ _ _ _).trans (HV.out.b0 (Apj h)),fun h=>(lfar7 (by omega) _ _ _ _ _ _ _).trans (HV.out.b1 (Api h)),Aug (by omega) HV.out.be _ _ _ _ _ _ _⟩⟩
     ·simp at ho
      subst ho
      have h1x:L.getD 1 false=true:=hall {on:=1,ground:=Ground.data} (by simp) (by decide)
      have H1:=hI h1x
      clear hall hi h1x
      have e0:=HV.out.k1 H1.out
      subst e0
      have lx:=HLX.out.1;have ly:=HLX.out.2
      have HN:=hI (HV.out.b0 hoff)
      have n0:=Aaa HN.out 0;have z0:=Aaf HN.out 0
      have n1:=Aaa HN.out 1;have z1:=Aaf HN.out 1
      have n2:=Aaa HN.out 2;have z2:=Aaf HN.out 2
      have n3:=Aaa HN.out 3;have z3:=Aaf HN.out 3
      have n4:=Aaa HN.out 4;have z4:=Aaf HN.out 4
      have n5:=Aaa HN.out 5;have z5:=Aaf HN.out 5
      have n6:=Aaa HN.out 6;have z6:=Aaf HN.out 6
      simp[Lot.cells,zeroLot] at n0 n1 n2 n3 n4 n5 n6
      refine App rfl fun K' HK=>?_
      go_simp
      exact HK.out _ _ ⟨by simp[HJ.out.sz],⟨_,_,_,rfl,fun h0=>HV.out.k0 (Api h0),fun h0=>HV.out.k1 (Api h0),fun h0=>HV.out.k4 (Api h0),(lfar7 (by omega) _ _ _ _ _ _ _).trans HV.out.x,(lfar7 (by omega) _ _ _ _ _ _ _).trans HV.out.y,fun h=>(lfar7 (by omega) _ _ _ _ _ _ _).trans (HV.out.a0 (Apj h)),fun h=>(lfar7 (by omega) _ _ _ _ _ _ _).trans (HV.out.a1 (Api h)),fun h=>(Apk h (Ape hun)).elim,fun _=>lset7 HN.out _ _ _ _ _ _ _,Aug (by omega) HV.out.be _ _ _ _ _ _ _⟩⟩
     ·simp at ho
      subst ho
      clear hall hi
      refine App rfl fun K' HK=>?_
      go_simp
      exact HK.out _ _ ⟨by simp[HJ.out.sz],⟨_,_,_,rfl,fun h0=>HV.out.k0 (Api h0),fun h0=>HV.out.k1 (Api h0),fun _=>rfl,HV.out.x,HV.out.y,fun h0=>HV.out.a0 (Apj h0),fun h0=>HV.out.a1 (Api h0),fun h0=>HV.out.b0 (Apj h0),fun h0=>HV.out.b1 (Api h0),HV.out.be⟩⟩
   case stC9 =>
    intro L a w' hj i hi
    obtain⟨hun,o,ho,hall⟩:=mem_ready.1 hi
    have hoff:=Apg hun
    have hlt:=(Aab.1 ho).1
    simp at hlt
    obtain⟨s55,s56,s57,s58,s59,s60,rfl,hv⟩:=hj.fr
    have HV:=hI hv
    have HJ:=hI hj
    clear hv hj
    rcases (show i=0∨i=1∨i=2∨i=3∨i=4∨i=5∨i=6∨i=7 from by omega) with rfl|rfl|rfl|rfl|rfl|rfl|rfl|rfl
    ·simp at ho
     subst ho
     clear hall hi
     refine App rfl fun K' HK=>?_
     go_simp
     cases HV.out
     refine HK.out _ _ ⟨by simp[HJ.out.sz],⟨_,_,_,_,_,_,rfl,fun _=>rfl,?_,?_,?_,?_,?_,HV.out.cx,HV.out.cy,fun h0=>HV.out.a0 (Apj h0),?_,fun h0=>HV.out.b0 (Apj h0),?_,HV.out.g⟩⟩
     all_goals exact Um (by assumption)
    ·simp at ho
     subst ho
     have h0x:L.getD 0 false=true:=hall {on:=0,ground:=Ground.data} (by simp) (by decide)
     have H0:=hI h0x
     clear hall hi h0x
     have e0:=HV.out.k0 H0.out
     subst e0
     have cx:=HV.out.cx
     refine App rfl fun K' HK=>?_
     go_simp
     cases HV.out
     refine HK.out _ _ ⟨by simp[HJ.out.sz],⟨_,_,_,_,_,_,rfl,?_,fun _=>rfl,?_,?_,?_,?_,HV.out.cx,HV.out.cy,fun h0=>HV.out.a0 (Apj h0),?_,fun h0=>HV.out.b0 (Apj h0),?_,HV.out.g⟩⟩
     all_goals exact Um (by assumption)
    ·simp at ho
     subst ho
     clear hall hi
     refine App rfl fun K' HK=>?_
     go_simp
     cases HV.out
     refine HK.out _ _ ⟨by simp[HJ.out.sz],⟨_,_,_,_,_,_,rfl,?_,?_,fun _=>rfl,?_,?_,?_,HV.out.cx,HV.out.cy,fun h0=>HV.out.a0 (Apj h0),?_,fun h0=>HV.out.b0 (Apj h0),?_,HV.out.g⟩⟩
     all_goals exact Um (by assumption)
    ·simp at ho
     subst ho
     have h2x:L.getD 2 false=true:=hall {on:=2,ground:=Ground.data} (by simp) (by decide)
     have H2:=hI h2x
     clear hall hi h2x
     have e0:=HV.out.k2 H2.out
     subst e0
     have cy:=HV.out.cy
     refine App rfl fun K' HK=>?_
     go_simp
     cases HV.out
     refine HK.out _ _ ⟨by simp[HJ.out.sz],⟨_,_,_,_,_,_,rfl,?_,?_,?_,fun _=>rfl,?_,?_,HV.out.cx,HV.out.cy,fun h0=>HV.out.a0 (Apj h0),?_,fun h0=>HV.out.b0 (Apj h0),?_,HV.out.g⟩⟩
     all_goals exact Um (by assumption)
    ·simp at ho
     subst ho
     clear hall hi
     refine App rfl fun K' HK=>?_
     go_simp
     cases HV.out
     refine HK.out _ _ ⟨by simp[HJ.out.sz],⟨_,_,_,_,_,_,rfl,?_,?_,?_,?_,fun _=>rfl,?_,HV.out.cx,HV.out.cy,fun h0=>HV.out.a0 (Apj h0),?_,fun h0=>HV.out.b0 (Apj h0),?_,HV.out.g⟩⟩
     all_goals exact Um (by assumption)
    ·simp at ho
     subst ho
     have h1x:L.getD 1 false=true:=hall {on:=1,ground:=Ground.data} (by simp) (by decide)
     have h4x:L.getD 4 false=true:=hall {on:=4,ground:=Ground.data} (by simp) (by decide)
     have H1:=hI h1x
     have H4:=hI h4x
     clear hall hi h1x h4x
     have e0:=HV.out.k1 H1.out
     subst e0
     have e1:=HV.out.k4 H4.out
     subst e1
     have lx:=HLX.out.1;have ly:=HLX.out.2;have lz:=HNE.out
     have HN:=hI (HV.out.a0 hoff)
     have n0:=Aaa HN.out 6;have z0:=Aaf HN.out 6
     simp[Lot.cells] at n0
     refine App rfl fun K' HK=>?_
     go_simp
     cases HV.out
     refine HK.out _ _ ⟨by simp[HJ.out.sz],⟨_,_,_,_,_,_,rfl,?_,?_,?_,?_,?_,?_,Aaa (HN.out.set6 _) 4,(World.cell?_of_block (Below.heap_setCell _ _ _ _ (by simp;omega))).trans HV.out.cy,fun h=>(Apk h (Ape hun)).elim,fun _=>HN.out.set6 _,fun h=>(HV.out.b0 (Apj h)).far _ 6 _ (by omega),fun h=>(HV.out.b1 (Api h)).far _ 6 _ (by omega),HV.out.g.far _ 6 _ (by omega)⟩⟩
     all_goals exact Um (by assumption)
    ·simp at ho
     subst ho
     clear hall hi
     refine App rfl fun K' HK=>?_
     go_simp
     cases HV.out
     refine HK.out _ _ ⟨by simp[HJ.out.sz],⟨_,_,_,_,_,_,rfl,?_,?_,?_,?_,?_,fun _=>rfl,HV.out.cx,HV.out.cy,fun h0=>HV.out.a0 (Apj h0),?_,fun h0=>HV.out.b0 (Apj h0),?_,HV.out.g⟩⟩
     all_goals exact Um (by assumption)
    ·simp at ho
     subst ho
     have h3x:L.getD 3 false=true:=hall {on:=3,ground:=Ground.data} (by simp) (by decide)
     have h6x:L.getD 6 false=true:=hall {on:=6,ground:=Ground.data} (by simp) (by decide)
     have H3:=hI h3x
     have H6:=hI h6x
     clear hall hi h3x h6x
     have e0:=HV.out.k3 H3.out
     subst e0
     have e1:=HV.out.k6 H6.out
     subst e1
     have lx:=HLX.out.1;have ly:=HLX.out.2;have lz:=HNE.out
     have HN:=hI (HV.out.b0 hoff)
     have n0:=Aaa HN.out 6;have z0:=Aaf HN.out 6
     simp[Lot.cells] at n0
     refine App rfl fun K' HK=>?_
     go_simp
     cases HV.out
     refine HK.out _ _ ⟨by simp[HJ.out.sz],⟨_,_,_,_,_,_,rfl,?_,?_,?_,?_,?_,?_,(World.cell?_of_block (Below.heap_setCell _ _ _ _ (by simp;omega))).trans HV.out.cx,Aaa (HN.out.set6 _) 4,fun h=>(HV.out.a0 (Apj h)).far _ 6 _ (by omega),fun h=>(HV.out.a1 (Api h)).far _ 6 _ (by omega),fun h=>(Apk h (Ape hun)).elim,fun _=>HN.out.set6 _,HV.out.g.far _ 6 _ (by omega)⟩⟩
     all_goals exact Um (by assumption)
 ·have CW5:=hI (show CutW w l (((w4.alloc (.cells l.cells 63)).alloc (.cells l.cells 63)).drew) from CW4.out.below (((Below.refl _ w4).alloc (Aad _) _).alloc (by simp) _).drew)
  have TN:=Auf w4 l
  have LT:=CW4.out.lt
  unfold Lot.cells at CW5 TN
  generalize (((w4.alloc (.cells #[.string l.id,.string l.inst,.int .i64 l.acq,.int .i64 l.opn,.string l.qty,.string l.cost,.string l.used] 63)).alloc (.cells #[.string l.id,.string l.inst,.int .i64 l.acq,.int .i64 l.opn,.string l.qty,.string l.cost,.string l.used] 63)).drew)=w5 at CW5 TN ⊢
  have hxy:w4.heap.size≠w4.heap.size+1:=by omega
  have hyx:w4.heap.size+1≠w4.heap.size:=by omega
  have LTY:w.heap.size+3≤w4.heap.size+1:=by omega
  generalize w4.heap.size+1=bY at hxy hyx LTY TN ⊢
  generalize w4.heap.size=bX at hxy hyx LT LTY TN ⊢
  have LT_bX:=hI LT
  have LT_bY:=hI LTY
  have k5:=CW5.out.ib
  have HX:=hI TN.1
  have HY:=hI TN.2
  clear c0 c1 c2 c3 c4 c5 c6 CW4
  obtain⟨c0,c1,c2,c3,c4,c5,c6⟩:=Acp k5
  clear k5 TN
  go_wp2_with fail
  refine (HSub.out w5 (HT.out.below CW5.out.be)).mono ?_
  rintro e w6 ⟨rfl,b6⟩
  have CW6:=hI (CW5.out.below b6)
  replace HX:=hI (HX.out.below b6)
  replace HY:=hI (HY.out.below b6)
  clear b6 HSub CW5 c0 c1 c2 c3 c4 c5 c6
  have k6:=CW6.out.ib
  have kx:=HX.out
  have ky:=HY.out
  obtain⟨c0,c1,c2,c3,c4,c5,c6⟩:=Acp k6
  obtain⟨x0,x1,x2,x3,x4,x5,x6⟩:=Acp kx
  obtain⟨y0,y1,y2,y3,y4,y5,y6⟩:=Acp ky
  have fx:=Aaf kx 4
  have fy:=Aaf ky 4
  clear k6 kx ky
  go_wp2_with fail
  refine (HSh.out _ (HT.out.below ((CW6.out.far bY 4 (.string q) LT_bY.out).far bX 4 (.string (I qr)) LT_bX.out).be)).mono ?_
  rintro e w7 ⟨rfl,b7⟩
  have CW7:=hI (((CW6.out.far bY 4 (.string q) LT_bY.out).far bX 4 (.string (I qr)) LT_bX.out).below b7)
  have H7:=hI (((HY.out.set4 q).far bX 4 (.string (I qr)) hxy).below b7)
  have H8:=hI (((HX.out.far bY 4 (.string q) hyx).set4 (I qr)).below b7)
  clear b7 HSh CW6 HX HY fx fy c0 c1 c2 c3 c4 c5 c6 x0 x1 x2 x3 x4 x5 x6 y0 y1 y2 y3 y4 y5 y6
  have k7:=CW7.out.ib
  have kx:=H7.out
  have ky:=H8.out
  obtain⟨c0,c1,c2,c3,c4,c5,c6⟩:=Acp k7
  obtain⟨x0,x1,x2,x3,x4,x5,x6⟩:=Acp kx
  obtain⟨y0,y1,y2,y3,y4,y5,y6⟩:=Acp ky
  have fx:=Aaf kx 5
  have fy:=Aaf ky 5
  clear k7 kx ky
  by_cases hu:l.used=⟨#[]⟩
  ·have hz:(l.used.toList==[])=true:=by rw[hu,Lib.toList_data];rfl
   have HUU:=hI hu
   clear hu
   go_upto_region 10 with fail
   have hA:LotBox (((w7.setCell ⟨bY,5,none⟩ (.string (I sz))).setCell ⟨bX,5,none⟩ (.string (I sr))).drew) bY {l with qty:=q,cost:=I sz}:=(H7.out.set5 (I sz)).far bX 5 (.string (I sr)) hxy
   have hB:LotBox (((w7.setCell ⟨bY,5,none⟩ (.string (I sz))).setCell ⟨bX,5,none⟩ (.string (I sr))).drew) bX {l with qty:=I qr,cost:=I sr}:=(H8.out.far bY 5 (.string (I sz)) hyx).set5 (I sr)
   have hC:CutW w l (((w7.setCell ⟨bY,5,none⟩ (.string (I sz))).setCell ⟨bX,5,none⟩ (.string (I sr))).drew):=((CW7.out.far bY 5 (.string (I sz)) LT_bY.out).far bX 5 (.string (I sr)) LT_bX.out).below (Below.refl _ _).drew
   have HLA:Hid (({l with qty:=q,cost:=I sz}:Lot)={l with qty:=q,cost:=I sz,used:=uA}):=by rw[Hid,←HUA.out,cutU,if_pos HUU.out,←HUU.out]
   have HLB:Hid (({l with qty:=I qr,cost:=I sr}:Lot)={l with qty:=I qr,cost:=I sr,used:=uB}):=by rw[Hid,←HUB.out,cutU,if_pos HUU.out,←HUU.out]
   rw[HLA.out] at hA
   rw[HLB.out] at hB
   clear HLA HLB CW7 H7 H8
   have HLX:Hid (w.heap.size+3≤bY∧w.heap.size+3≤bX):=⟨LT_bY.out,LT_bX.out⟩
   have mixed:Tryz.prog.follows .mixedOrders=true:=by kernel_rfl
   refine wp_region_any mixed (Aqj (C10J w bY bX {l with qty:=q,cost:=I sz,used:=uA} {l with qty:=I qr,cost:=I sr,used:=uB} _ _ _ _ _ _ _ _ _ _ _ _ _ _ _ _ _ _ _ _ _ _ _ _ _ _ _ _ _ _ _ _ _ _ _ _ _ _ _ _ _ _ _ _ _ _ _ _ _ _ _ _ _ _ _ _) ?stC10 ?dnC10 _ _ _ _ ⟨by simp,⟨_,_,_,rfl,fun h=>by simp at h,fun h=>by simp at h,fun h=>by simp at h,hA,hB,fun _=>hC.za,fun h=>by simp at h,fun _=>hC.zb,fun h=>by simp at h,hC.be⟩⟩ (by decide))
   case dnC10 =>
    intro L a w' hj hr
    have all:=Apr hr hj.sz (by kernel_rfl)
    obtain⟨s6,s61,s62,rfl,hv⟩:=hj.fr
    have e6:=hv.k4 (all 4 (by omega))
    subst e6
    have HF:=hI (And.intro (hv.a1 (all 2 (by omega))) (And.intro (hv.b1 (all 3 (by omega))) hv.be))
    clear all hv hj hr
    dsimp only
    (first|go_wp2_with fail|skip)
    have h7:=HF.out.1
    have h8:=HF.out.2.1
    obtain⟨m0,m1,m2,m3,m4,m5,m6⟩:=lbc h7
    obtain⟨n0,n1,n2,n3,n4,n5,n6⟩:=lbc h8
    clear h7 h8
    exact bodyPost_ret (v:=.tuple #[.agg #[.string l.id,.string l.inst,.int .i64 l.acq,.int .i64 l.opn,.string q,.string (I sz),.string uA],.agg #[.string l.id,.string l.inst,.int .i64 l.acq,.int .i64 l.opn,.string (I qr),.string (I sr),.string uB],.int .i64 0]) (by simp[results,Tryz.results34,go_sem,m0,m1,m2,m3,m4,m5,m6,n0,n1,n2,n3,n4,n5,n6]) rfl ⟨rfl,HF.out.2.2⟩
   case stC10 =>
    intro L a w' hj i hi
    obtain⟨hun,o,ho,hall⟩:=mem_ready.1 hi
    have hoff:=Apg hun
    have hlt:=(Aab.1 ho).1
    simp at hlt
    obtain⟨s6,s61,s62,rfl,hv⟩:=hj.fr
    have HV:=hI hv
    have HJ:=hI hj
    clear hv hj
    rcases (show i=0∨i=1∨i=2∨i=3∨i=4 from by omega) with rfl|rfl|rfl|rfl|rfl
    ·simp at ho
     subst ho
     clear hall hi
     have hx:=HV.out.x
     obtain⟨c0,c1,c2,c3,c4,c5,c6⟩:=lbc hx
     refine App rfl fun K' HK=>?_
     go_simp
     exact HK.out _ _ ⟨by simp[HJ.out.sz],⟨_,_,_,rfl,fun _=>rfl,fun h0=>HV.out.k1 (Api h0),fun h0=>HV.out.k4 (Api h0),HV.out.x,HV.out.y,fun h0=>HV.out.a0 (Apj h0),fun h0=>HV.out.a1 (Api h0),fun h0=>HV.out.b0 (Apj h0),fun h0=>HV.out.b1 (Api h0),HV.out.be⟩⟩
    ·simp at ho
     subst ho
     clear hall hi
     have hx:=HV.out.y
     obtain⟨c0,c1,c2,c3,c4,c5,c6⟩:=lbc hx
     refine App rfl fun K' HK=>?_
     go_simp
     exact HK.out _ _ ⟨by simp[HJ.out.sz],⟨_,_,_,rfl,fun h0=>HV.out.k0 (Api h0),fun _=>rfl,fun h0=>HV.out.k4 (Api h0),HV.out.x,HV.out.y,fun h0=>HV.out.a0 (Apj h0),fun h0=>HV.out.a1 (Api h0),fun h0=>HV.out.b0 (Apj h0),fun h0=>HV.out.b1 (Api h0),HV.out.be⟩⟩
    ·simp at ho
     subst ho
     have h0x:L.getD 0 false=true:=hall {on:=0,ground:=Ground.data} (by simp) (by decide)
     have H0:=hI h0x
     clear hall hi h0x
     have e0:=HV.out.k0 H0.out
     subst e0
     have lx:=HLX.out.1;have ly:=HLX.out.2
     have HN:=hI (HV.out.a0 hoff)
     have n0:=Aaa HN.out 0;have z0:=Aaf HN.out 0
     have n1:=Aaa HN.out 1;have z1:=Aaf HN.out 1
     have n2:=Aaa HN.out 2;have z2:=Aaf HN.out 2
     have n3:=Aaa HN.out 3;have z3:=Aaf HN.out 3
     have n4:=Aaa HN.out 4;have z4:=Aaf HN.out 4
     have n5:=Aaa HN.out 5;have z5:=Aaf HN.out 5
     have n6:=Aaa HN.out 6;have z6:=Aaf HN.out 6
     simp[Lot.cells,zeroLot] at n0 n1 n2 n3 n4 n5 n6
     refine App rfl fun K' HK=>?_
     go_simp
     exact HK.out _ _ ⟨by simp[HJ.out.sz],⟨_,_,_,rfl,fun h0=>HV.out.k0 (Api h0),fun h0=>HV.out.k1 (Api h0),fun h0=>HV.out.k4 (Api h0),(lfar7 (by omega) _ _ _ _ _ _ _).trans HV.out.x,(lfar7 (by omega) _ _ _ _ _ _ _).trans HV.out.y,fun h=>(Apk h (Ape hun)).elim,fun _=>lset7 HN.out _ _ _ _ _ _ _,fun h=>(lfar7 (by omega) _ _ _ _ _ _ _).trans (HV.out.b0 (Apj h)),fun h=>(lfar7 (by omega) _ _ _ _ _ _ _).trans (HV.out.b1 (Api h)),Aug (by omega) HV.out.be _ _ _ _ _ _ _⟩⟩
    ·simp at ho
     subst ho
     have h1x:L.getD 1 false=true:=hall {on:=1,ground:=Ground.data} (by simp) (by decide)
     have H1:=hI h1x
     clear hall hi h1x
     have e0:=HV.out.k1 H1.out
     subst e0
     have lx:=HLX.out.1;have ly:=HLX.out.2
     have HN:=hI (HV.out.b0 hoff)
     have n0:=Aaa HN.out 0;have z0:=Aaf HN.out 0
     have n1:=Aaa HN.out 1;have z1:=Aaf HN.out 1
     have n2:=Aaa HN.out 2;have z2:=Aaf HN.out 2
     have n3:=Aaa HN.out 3;have z3:=Aaf HN.out 3
     have n4:=Aaa HN.out 4;have z4:=Aaf HN.out 4
     have n5:=Aaa HN.out 5;have z5:=Aaf HN.out 5
     have n6:=Aaa HN.out 6;have z6:=Aaf HN.out 6
     simp[Lot.cells,zeroLot] at n0 n1 n2 n3 n4 n5 n6
     refine App rfl fun K' HK=>?_
     go_simp
     exact HK.out _ _ ⟨by simp[HJ.out.sz],⟨_,_,_,rfl,fun h0=>HV.out.k0 (Api h0),fun h0=>HV.out.k1 (Api h0),fun h0=>HV.out.k4 (Api h0),(lfar7 (by omega) _ _ _ _ _ _ _).trans HV.out.x,(lfar7 (by omega) _ _ _ _ _ _ _).trans HV.out.y,fun h=>(lfar7 (by omega) _ _ _ _ _ _ _).trans (HV.out.a0 (Apj h)),fun h=>(lfar7 (by omega) _ _ _ _ _ _ _).trans (HV.out.a1 (Api h)),fun h=>(Apk h (Ape hun)).elim,fun _=>lset7 HN.out _ _ _ _ _ _ _,Aug (by omega) HV.out.be _ _ _ _ _ _ _⟩⟩
    ·simp at ho
     subst ho
     clear hall hi
     refine App rfl fun K' HK=>?_
     go_simp
     exact HK.out _ _ ⟨by simp[HJ.out.sz],⟨_,_,_,rfl,fun h0=>HV.out.k0 (Api h0),fun h0=>HV.out.k1 (Api h0),fun _=>rfl,HV.out.x,HV.out.y,fun h0=>HV.out.a0 (Apj h0),fun h0=>HV.out.a1 (Api h0),fun h0=>HV.out.b0 (Apj h0),fun h0=>HV.out.b1 (Api h0),HV.out.be⟩⟩
  ·have hz:(l.used.toList==[])=false:=Aaj.2 (fun e=>hu (by rw[show l.used=⟨l.used.data⟩ from rfl];congr 1;rw[Lib.toList_data] at e;exact Array.toList_eq_nil_iff.1 e))
   have hz':(l.used.toList != [])=true:=by rw[bne,hz];rfl
   have HUU:=hI hu
   clear hu
   go_upto_region 9 with fail
   have hA:LotBox (((w7.setCell ⟨bY,5,none⟩ (.string (I sz))).setCell ⟨bX,5,none⟩ (.string (I sr))).drew) bY {l with qty:=q,cost:=I sz}:=(H7.out.set5 (I sz)).far bX 5 (.string (I sr)) hxy
   have hB:LotBox (((w7.setCell ⟨bY,5,none⟩ (.string (I sz))).setCell ⟨bX,5,none⟩ (.string (I sr))).drew) bX {l with qty:=I qr,cost:=I sr}:=(H8.out.far bY 5 (.string (I sz)) hyx).set5 (I sr)
   have hC:CutW w l (((w7.setCell ⟨bY,5,none⟩ (.string (I sz))).setCell ⟨bX,5,none⟩ (.string (I sr))).drew):=((CW7.out.far bY 5 (.string (I sz)) LT_bY.out).far bX 5 (.string (I sr)) LT_bX.out).below (Below.refl _ _).drew
   clear CW7 H7 H8
   have HLX:Hid (w.heap.size+3≤bY∧w.heap.size+3≤bX):=⟨LT_bY.out,LT_bX.out⟩
   have HNE:Hid (bY≠bX):=hyx
   have mixed:Tryz.prog.follows .mixedOrders=true:=by kernel_rfl
   refine wp_region_any mixed (Aqj (C9J w l bY bX {l with qty:=q,cost:=I sz} {l with qty:=I qr,cost:=I sr} _ _ _ _ _ _ _ _ _ _ _ _ _ _ _ _ _ _ _ _ _ _ _ _ _ _ _ _ _ _ _ _ _ _ _ _ _ _ _ _ _ _ _ _ _ _ _ _ _ _ _ _ _ _ _) ?stC9 ?dnC9 _ _ _ _ ⟨by simp,⟨_,_,_,_,_,_,rfl,fun h=>by simp at h,fun h=>by simp at h,fun h=>by simp at h,fun h=>by simp at h,fun h=>by simp at h,fun h=>by simp at h,Aaa hA 4,Aaa hB 4,fun _=>hA,fun h=>by simp at h,fun _=>hB,fun h=>by simp at h,hC⟩⟩ (by decide))
   case dnC9 =>
    intro L a w' hj hr
    have all:=Apr hr hj.sz (by kernel_rfl)
    obtain⟨s55,s56,s57,s58,s59,s60,rfl,hv⟩:=hj.fr
    have hA0:=hv.a1 (all 5 (by omega));have hB0:=hv.b1 (all 7 (by omega));have hC0:=hv.g
    clear all hv hj hr
    have hA:LotBox w'.drew bY {l with qty:=q,cost:=I sz,used:=uA}:=by have e:=HUA.out;rw[cutU,if_neg HUU.out] at e;rw[←e];exact hA0
    have hB:LotBox w'.drew bX {l with qty:=I qr,cost:=I sr,used:=uB}:=by have e:=HUB.out;rw[cutU,if_neg HUU.out] at e;rw[←e];exact hB0
    have hC:CutW w l w'.drew:=hC0.below (Below.refl _ _).drew
    clear hA0 hB0 hC0
    dsimp only
    go_upto_region 10 with fail
    have HLX:Hid (w.heap.size+3≤bY∧w.heap.size+3≤bX):=⟨LT_bY.out,LT_bX.out⟩
    have mixed:Tryz.prog.follows .mixedOrders=true:=by kernel_rfl
    refine wp_region_any mixed (Aqj (C10J w bY bX {l with qty:=q,cost:=I sz,used:=uA} {l with qty:=I qr,cost:=I sr,used:=uB} _ _ _ _ _ _ _ _ _ _ _ _ _ _ _ _ _ _ _ _ _ _ _ _ _ _ _ _ _ _ _ _ _ _ _ _ _ _ _ _ _ _ _ _ _ _ _ _ _ _ _ _ _ _ _ _) ?stC10 ?dnC10 _ _ _ _ ⟨by simp,⟨_,_,_,rfl,fun h=>by simp at h,fun h=>by simp at h,fun h=>by simp at h,hA,hB,fun _=>hC.za,fun h=>by simp at h,fun _=>hC.zb,fun h=>by simp at h,hC.be⟩⟩ (by decide))
    case dnC10 =>
     intro L a w' hj hr
     have all:=Apr hr hj.sz (by kernel_rfl)
     obtain⟨s6,s61,s62,rfl,hv⟩:=hj.fr
     have e6:=hv.k4 (all 4 (by omega))
     subst e6
     have HF:=hI (And.intro (hv.a1 (all 2 (by omega))) (And.intro (hv.b1 (all 3 (by omega))) hv.be))
     clear all hv hj hr
     dsimp only
     (first|go_wp2_with fail|skip)
     have h7:=HF.out.1
     have h8:=HF.out.2.1
     obtain⟨m0,m1,m2,m3,m4,m5,m6⟩:=lbc h7
     obtain⟨n0,n1,n2,n3,n4,n5,n6⟩:=lbc h8
     clear h7 h8
     exact bodyPost_ret (v:=.tuple #[.agg #[.string l.id,.string l.inst,.int .i64 l.acq,.int .i64 l.opn,.string q,.string (I sz),.string uA],.agg #[.string l.id,.string l.inst,.int .i64 l.acq,.int .i64 l.opn,.string (I qr),.string (I sr),.string uB],.int .i64 0]) (by simp[results,Tryz.results34,go_sem,m0,m1,m2,m3,m4,m5,m6,n0,n1,n2,n3,n4,n5,n6]) rfl ⟨rfl,HF.out.2.2⟩
    case stC10 =>
     intro L a w' hj i hi
     obtain⟨hun,o,ho,hall⟩:=mem_ready.1 hi
     have hoff:=Apg hun
     have hlt:=(Aab.1 ho).1
     simp at hlt
     obtain⟨s6,s61,s62,rfl,hv⟩:=hj.fr
     have HV:=hI hv
     have HJ:=hI hj
     clear hv hj
     rcases (show i=0∨i=1∨i=2∨i=3∨i=4 from by omega) with rfl|rfl|rfl|rfl|rfl
     ·simp at ho
      subst ho
      clear hall hi
      have hx:=HV.out.x
      obtain⟨c0,c1,c2,c3,c4,c5,c6⟩:=lbc hx
      refine App rfl fun K' HK=>?_
      go_simp
      exact HK.out _ _ ⟨by simp[HJ.out.sz],⟨_,_,_,rfl,fun _=>rfl,fun h0=>HV.out.k1 (Api h0),fun h0=>HV.out.k4 (Api h0),HV.out.x,HV.out.y,fun h0=>HV.out.a0 (Apj h0),fun h0=>HV.out.a1 (Api h0),fun h0=>HV.out.b0 (Apj h0),fun h0=>HV.out.b1 (Api h0),HV.out.be⟩⟩
     ·simp at ho
      subst ho
      clear hall hi
      have hx:=HV.out.y
      obtain⟨c0,c1,c2,c3,c4,c5,c6⟩:=lbc hx
      refine App rfl fun K' HK=>?_
      go_simp
      exact HK.out _ _ ⟨by simp[HJ.out.sz],⟨_,_,_,rfl,fun h0=>HV.out.k0 (Api h0),fun _=>rfl,fun h0=>HV.out.k4 (Api h0),HV.out.x,HV.out.y,fun h0=>HV.out.a0 (Apj h0),fun h0=>HV.out.a1 (Api h0),fun h0=>HV.out.b0 (Apj h0),fun h0=>HV.out.b1 (Api h0),HV.out.be⟩⟩
     ·simp at ho
      subst ho
      have h0x:L.getD 0 false=true:=hall {on:=0,ground:=Ground.data} (by simp) (by decide)
      have H0:=hI h0x
      clear hall hi h0x
      have e0:=HV.out.k0 H0.out
      subst e0
      have lx:=HLX.out.1;have ly:=HLX.out.2
      have HN:=hI (HV.out.a0 hoff)
      have n0:=Aaa HN.out 0;have z0:=Aaf HN.out 0
      have n1:=Aaa HN.out 1;have z1:=Aaf HN.out 1
      have n2:=Aaa HN.out 2;have z2:=Aaf HN.out 2
      have n3:=Aaa HN.out 3;have z3:=Aaf HN.out 3
      have n4:=Aaa HN.out 4;have z4:=Aaf HN.out 4
      have n5:=Aaa HN.out 5;have z5:=Aaf HN.out 5
      have n6:=Aaa HN.out 6;have z6:=Aaf HN.out 6
      simp[Lot.cells,zeroLot] at n0 n1 n2 n3 n4 n5 n6
      refine App rfl fun K' HK=>?_
      go_simp
      exact HK.out _ _ ⟨by simp[HJ.out.sz],⟨_,_,_,rfl,fun h0=>HV.out.k0 (Api h0),fun h0=>HV.out.k1 (Api h0),fun h0=>HV.out.k4 (Api h0),(lfar7 (by omega) _ _ _ _ _ _ _).trans HV.out.x,(lfar7 (by omega) _ _ _ _ _ _ _).trans HV.out.y,fun h=>(Apk h (Ape hun)).elim,fun _=>lset7 HN.out _ _ _ _ _ _ _,fun h=>(lfar7 (by omega) _ _ _ _ _ _ _).trans (HV.out.b0 (Apj h)),fun h=>(lfar7 (by omega) _ _ _ _ _ _ _).trans (HV.out.b1 (Api h)),Aug (by omega) HV.out.be _ _ _ _ _ _ _⟩⟩
     ·simp at ho
      subst ho
      have h1x:L.getD 1 false=true:=hall {on:=1,ground:=Ground.data} (by simp) (by decide)
      have H1:=hI h1x
      clear hall hi h1x
      have e0:=HV.out.k1 H1.out
      subst e0
      have lx:=HLX.out.1;have ly:=HLX.out.2
      have HN:=hI (HV.out.b0 hoff)
      have n0:=Aaa HN.out 0;have z0:=Aaf HN.out 0
      have n1:=Aaa HN.out 1;have z1:=Aaf HN.out 1
      have n2:=Aaa HN.out 2;have z2:=Aaf HN.out 2
      have n3:=Aaa HN.out 3;have z3:=Aaf HN.out 3
      have n4:=Aaa HN.out 4;have z4:=Aaf HN.out 4
      have n5:=Aaa HN.out 5;have z5:=Aaf HN.out 5
      have n6:=Aaa HN.out 6;have z6:=Aaf HN.out 6
      simp[Lot.cells,zeroLot] at n0 n1 n2 n3 n4 n5 n6
      refine App rfl fun K' HK=>?_
      go_simp
      exact HK.out _ _ ⟨by simp[HJ.out.sz],⟨_,_,_,rfl,fun h0=>HV.out.k0 (Api h0),fun h0=>HV.out.k1 (Api h0),fun h0=>HV.out.k4 (Api h0),(lfar7 (by omega) _ _ _ _ _ _ _).trans HV.out.x,(lfar7 (by omega) _ _ _ _ _ _ _).trans HV.out.y,fun h=>(lfar7 (by omega) _ _ _ _ _ _ _).trans (HV.out.a0 (Apj h)),fun h=>(lfar7 (by omega) _ _ _ _ _ _ _).trans (HV.out.a1 (Api h)),fun h=>(Apk h (Ape hun)).elim,fun _=>lset7 HN.out _ _ _ _ _ _ _,Aug (by omega) HV.out.be _ _ _ _ _ _ _⟩⟩
     ·simp at ho
      subst ho
      clear hall hi
      refine App rfl fun K' HK=>?_
      go_simp
      exact HK.out _ _ ⟨by simp[HJ.out.sz],⟨_,_,_,rfl,fun h0=>HV.out.k0 (Api h0),fun h0=>HV.out.k1 (Api h0),fun _=>rfl,HV.out.x,HV.out.y,fun h0=>HV.out.a0 (Apj h0),fun h0=>HV.out.a1 (Api h0),fun h0=>HV.out.b0 (Apj h0),fun h0=>HV.out.b1 (Api h0),HV.out.be⟩⟩
   case stC9 =>
    intro L a w' hj i hi
    obtain⟨hun,o,ho,hall⟩:=mem_ready.1 hi
    have hoff:=Apg hun
    have hlt:=(Aab.1 ho).1
    simp at hlt
    obtain⟨s55,s56,s57,s58,s59,s60,rfl,hv⟩:=hj.fr
    have HV:=hI hv
    have HJ:=hI hj
    clear hv hj
    rcases (show i=0∨i=1∨i=2∨i=3∨i=4∨i=5∨i=6∨i=7 from by omega) with rfl|rfl|rfl|rfl|rfl|rfl|rfl|rfl
    ·simp at ho
     subst ho
     clear hall hi
     refine App rfl fun K' HK=>?_
     go_simp
     cases HV.out
     refine HK.out _ _ ⟨by simp[HJ.out.sz],⟨_,_,_,_,_,_,rfl,fun _=>rfl,?_,?_,?_,?_,?_,HV.out.cx,HV.out.cy,fun h0=>HV.out.a0 (Apj h0),?_,fun h0=>HV.out.b0 (Apj h0),?_,HV.out.g⟩⟩
     all_goals exact Um (by assumption)
    ·simp at ho
     subst ho
     have h0x:L.getD 0 false=true:=hall {on:=0,ground:=Ground.data} (by simp) (by decide)
     have H0:=hI h0x
     clear hall hi h0x
     have e0:=HV.out.k0 H0.out
     subst e0
     have cx:=HV.out.cx
     refine App rfl fun K' HK=>?_
     go_simp
     cases HV.out
     refine HK.out _ _ ⟨by simp[HJ.out.sz],⟨_,_,_,_,_,_,rfl,?_,fun _=>rfl,?_,?_,?_,?_,HV.out.cx,HV.out.cy,fun h0=>HV.out.a0 (Apj h0),?_,fun h0=>HV.out.b0 (Apj h0),?_,HV.out.g⟩⟩
     all_goals exact Um (by assumption)
    ·simp at ho
     subst ho
     clear hall hi
     refine App rfl fun K' HK=>?_
     go_simp
     cases HV.out
     refine HK.out _ _ ⟨by simp[HJ.out.sz],⟨_,_,_,_,_,_,rfl,?_,?_,fun _=>rfl,?_,?_,?_,HV.out.cx,HV.out.cy,fun h0=>HV.out.a0 (Apj h0),?_,fun h0=>HV.out.b0 (Apj h0),?_,HV.out.g⟩⟩
     all_goals exact Um (by assumption)
    ·simp at ho
     subst ho
     have h2x:L.getD 2 false=true:=hall {on:=2,ground:=Ground.data} (by simp) (by decide)
     have H2:=hI h2x
     clear hall hi h2x
     have e0:=HV.out.k2 H2.out
     subst e0
     have cy:=HV.out.cy
     refine App rfl fun K' HK=>?_
     go_simp
     cases HV.out
     refine HK.out _ _ ⟨by simp[HJ.out.sz],⟨_,_,_,_,_,_,rfl,?_,?_,?_,fun _=>rfl,?_,?_,HV.out.cx,HV.out.cy,fun h0=>HV.out.a0 (Apj h0),?_,fun h0=>HV.out.b0 (Apj h0),?_,HV.out.g⟩⟩
     all_goals exact Um (by assumption)
    ·simp at ho
     subst ho
     clear hall hi
     refine App rfl fun K' HK=>?_
     go_simp
     cases HV.out
     refine HK.out _ _ ⟨by simp[HJ.out.sz],⟨_,_,_,_,_,_,rfl,?_,?_,?_,?_,fun _=>rfl,?_,HV.out.cx,HV.out.cy,fun h0=>HV.out.a0 (Apj h0),?_,fun h0=>HV.out.b0 (Apj h0),?_,HV.out.g⟩⟩
     all_goals exact Um (by assumption)
    ·simp at ho
     subst ho
     have h1x:L.getD 1 false=true:=hall {on:=1,ground:=Ground.data} (by simp) (by decide)
     have h4x:L.getD 4 false=true:=hall {on:=4,ground:=Ground.data} (by simp) (by decide)
     have H1:=hI h1x
     have H4:=hI h4x
     clear hall hi h1x h4x
     have e0:=HV.out.k1 H1.out
     subst e0
     have e1:=HV.out.k4 H4.out
     subst e1
     have lx:=HLX.out.1;have ly:=HLX.out.2;have lz:=HNE.out
     have HN:=hI (HV.out.a0 hoff)
     have n0:=Aaa HN.out 6;have z0:=Aaf HN.out 6
     simp[Lot.cells] at n0
     refine App rfl fun K' HK=>?_
     go_simp
     cases HV.out
     refine HK.out _ _ ⟨by simp[HJ.out.sz],⟨_,_,_,_,_,_,rfl,?_,?_,?_,?_,?_,?_,Aaa (HN.out.set6 _) 4,(World.cell?_of_block (Below.heap_setCell _ _ _ _ (by simp;omega))).trans HV.out.cy,fun h=>(Apk h (Ape hun)).elim,fun _=>HN.out.set6 _,fun h=>(HV.out.b0 (Apj h)).far _ 6 _ (by omega),fun h=>(HV.out.b1 (Api h)).far _ 6 _ (by omega),HV.out.g.far _ 6 _ (by omega)⟩⟩
     all_goals exact Um (by assumption)
    ·simp at ho
     subst ho
     clear hall hi
     refine App rfl fun K' HK=>?_
     go_simp
     cases HV.out
     refine HK.out _ _ ⟨by simp[HJ.out.sz],⟨_,_,_,_,_,_,rfl,?_,?_,?_,?_,?_,fun _=>rfl,HV.out.cx,HV.out.cy,fun h0=>HV.out.a0 (Apj h0),?_,fun h0=>HV.out.b0 (Apj h0),?_,HV.out.g⟩⟩
     all_goals exact Um (by assumption)
    ·simp at ho
     subst ho
     have h3x:L.getD 3 false=true:=hall {on:=3,ground:=Ground.data} (by simp) (by decide)
     have h6x:L.getD 6 false=true:=hall {on:=6,ground:=Ground.data} (by simp) (by decide)
     have H3:=hI h3x
     have H6:=hI h6x
     clear hall hi h3x h6x
     have e0:=HV.out.k3 H3.out
     subst e0
     have e1:=HV.out.k6 H6.out
     subst e1
     have lx:=HLX.out.1;have ly:=HLX.out.2;have lz:=HNE.out
     have HN:=hI (HV.out.b0 hoff)
     have n0:=Aaa HN.out 6;have z0:=Aaf HN.out 6
     simp[Lot.cells] at n0
     refine App rfl fun K' HK=>?_
     go_simp
     cases HV.out
     refine HK.out _ _ ⟨by simp[HJ.out.sz],⟨_,_,_,_,_,_,rfl,?_,?_,?_,?_,?_,?_,(World.cell?_of_block (Below.heap_setCell _ _ _ _ (by simp;omega))).trans HV.out.cx,Aaa (HN.out.set6 _) 4,fun h=>(HV.out.a0 (Apj h)).far _ 6 _ (by omega),fun h=>(HV.out.a1 (Api h)).far _ 6 _ (by omega),fun h=>(Apk h (Ape hun)).elim,fun _=>HN.out.set6 _,HV.out.g.far _ 6 _ (by omega)⟩⟩
     all_goals exact Um (by assumption)
theorem lCut_e2(l:Lot)(q:ByteArray)(hs:l.sized)(q1:q.size≤1000)(h:l.ok)(hq:¬Can q)(w:World)(ht:Tabs w):
 Calls Tryz.prog 34 #[l.enc,.string q] w fun e w'=>e=.returned (.tuple #[zeroLot.enc,zeroLot.enc,.int .i64 1])∧Below w.heap.size w w':=by
 have HT:=hI ht
 have CW:=CutW.start w l
 obtain⟨W0,hW0⟩:∃W0,(((w.alloc (.cells l.cells 63)).alloc (.cells zeroLot.cells 63)).alloc (.cells zeroLot.cells 63))=W0:=⟨_,rfl⟩
 rw[hW0] at CW
 have k0:=CW.ib
 obtain⟨c0,c1,c2,c3,c4,c5,c6⟩:=lbc k0
 have CW0:=hI CW
 have hkk:=fun W (hW:Tabs W)=>Anm l hs W hW
 rw[lchk_zero.2 h] at hkk
 have HK:=hI hkk
 clear hkk
 have HC:=hI (fun W=>Agc q W (by omega) hq)
 clear CW k0 hs h ht hq
 unfold Lot.enc Lot.cells at *
 unfold zeroLot at hW0
 dsimp only at hW0
 go_enter Tryz.func34,Tryz.ntmps34
 go_wp2_with fail
 try rw[hW0]
 refine (HK.out W0 (HT.out.below CW0.out.be)).mono ?_
 rintro e w1 ⟨rfl,b1⟩
 have CW1:=hI (CW0.out.below b1)
 clear b1 HK hW0 c0 c1 c2 c3 c4 c5 c6
 go_wp2_with fail
 refine (HC.out w1).mono ?_
 rintro e w2 ⟨rfl,b2⟩
 have CW2:=hI (CW1.out.below b2)
 clear b2 HC CW1
 have ga:=CW2.out.za
 have gb:=CW2.out.zb
 have m0:=Aaa ga 0
 have m1:=Aaa ga 1
 have m2:=Aaa ga 2
 have m3:=Aaa ga 3
 have m4:=Aaa ga 4
 have m5:=Aaa ga 5
 have m6:=Aaa ga 6
 simp[Lot.cells,zeroLot] at m0 m1 m2 m3 m4 m5 m6
 obtain⟨f0,f1,f2,f3,f4,f5,f6⟩:=Acq ga
 have n0:=Aaa gb 0
 have n1:=Aaa gb 1
 have n2:=Aaa gb 2
 have n3:=Aaa gb 3
 have n4:=Aaa gb 4
 have n5:=Aaa gb 5
 have n6:=Aaa gb 6
 simp[Lot.cells,zeroLot] at n0 n1 n2 n3 n4 n5 n6
 obtain⟨g0,g1,g2,g3,g4,g5,g6⟩:=Acq gb
 clear ga gb
 have hne1:w.heap.size+1≠w.heap.size+2:=by omega
 have hne2:w.heap.size+2≠w.heap.size+1:=by omega
 go_wp2_with fail
 clear m0 m1 m2 m3 m4 m5 m6 n0 n1 n2 n3 n4 n5 n6
 have hA:LotBox ((((((((((((((w2.setCell ⟨w.heap.size+1,0,none⟩ (.string ⟨#[]⟩)).setCell ⟨w.heap.size+1,1,none⟩ (.string ⟨#[]⟩)).setCell ⟨w.heap.size+1,2,none⟩ (.int .i64 0)).setCell ⟨w.heap.size+1,3,none⟩ (.int .i64 0)).setCell ⟨w.heap.size+1,4,none⟩ (.string ⟨#[]⟩)).setCell ⟨w.heap.size+1,5,none⟩ (.string ⟨#[]⟩)).setCell ⟨w.heap.size+1,6,none⟩ (.string ⟨#[]⟩)).setCell ⟨w.heap.size+2,0,none⟩ (.string ⟨#[]⟩)).setCell ⟨w.heap.size+2,1,none⟩ (.string ⟨#[]⟩)).setCell ⟨w.heap.size+2,2,none⟩ (.int .i64 0)).setCell ⟨w.heap.size+2,3,none⟩ (.int .i64 0)).setCell ⟨w.heap.size+2,4,none⟩ (.string ⟨#[]⟩)).setCell ⟨w.heap.size+2,5,none⟩ (.string ⟨#[]⟩)).setCell ⟨w.heap.size+2,6,none⟩ (.string ⟨#[]⟩)) (w.heap.size+1) zeroLot:=(lfar7 (by omega) _ _ _ _ _ _ _).trans (lset7 CW2.out.za _ _ _ _ _ _ _)
 have hB:LotBox ((((((((((((((w2.setCell ⟨w.heap.size+1,0,none⟩ (.string ⟨#[]⟩)).setCell ⟨w.heap.size+1,1,none⟩ (.string ⟨#[]⟩)).setCell ⟨w.heap.size+1,2,none⟩ (.int .i64 0)).setCell ⟨w.heap.size+1,3,none⟩ (.int .i64 0)).setCell ⟨w.heap.size+1,4,none⟩ (.string ⟨#[]⟩)).setCell ⟨w.heap.size+1,5,none⟩ (.string ⟨#[]⟩)).setCell ⟨w.heap.size+1,6,none⟩ (.string ⟨#[]⟩)).setCell ⟨w.heap.size+2,0,none⟩ (.string ⟨#[]⟩)).setCell ⟨w.heap.size+2,1,none⟩ (.string ⟨#[]⟩)).setCell ⟨w.heap.size+2,2,none⟩ (.int .i64 0)).setCell ⟨w.heap.size+2,3,none⟩ (.int .i64 0)).setCell ⟨w.heap.size+2,4,none⟩ (.string ⟨#[]⟩)).setCell ⟨w.heap.size+2,5,none⟩ (.string ⟨#[]⟩)).setCell ⟨w.heap.size+2,6,none⟩ (.string ⟨#[]⟩)) (w.heap.size+2) zeroLot:=lset7 (w:=(((((((w2.setCell ⟨w.heap.size+1,0,none⟩ (.string ⟨#[]⟩)).setCell ⟨w.heap.size+1,1,none⟩ (.string ⟨#[]⟩)).setCell ⟨w.heap.size+1,2,none⟩ (.int .i64 0)).setCell ⟨w.heap.size+1,3,none⟩ (.int .i64 0)).setCell ⟨w.heap.size+1,4,none⟩ (.string ⟨#[]⟩)).setCell ⟨w.heap.size+1,5,none⟩ (.string ⟨#[]⟩)).setCell ⟨w.heap.size+1,6,none⟩ (.string ⟨#[]⟩))) ((lfar7 (by omega) _ _ _ _ _ _ _).trans CW2.out.zb) _ _ _ _ _ _ _
 have hE:Below w.heap.size w ((((((((((((((w2.setCell ⟨w.heap.size+1,0,none⟩ (.string ⟨#[]⟩)).setCell ⟨w.heap.size+1,1,none⟩ (.string ⟨#[]⟩)).setCell ⟨w.heap.size+1,2,none⟩ (.int .i64 0)).setCell ⟨w.heap.size+1,3,none⟩ (.int .i64 0)).setCell ⟨w.heap.size+1,4,none⟩ (.string ⟨#[]⟩)).setCell ⟨w.heap.size+1,5,none⟩ (.string ⟨#[]⟩)).setCell ⟨w.heap.size+1,6,none⟩ (.string ⟨#[]⟩)).setCell ⟨w.heap.size+2,0,none⟩ (.string ⟨#[]⟩)).setCell ⟨w.heap.size+2,1,none⟩ (.string ⟨#[]⟩)).setCell ⟨w.heap.size+2,2,none⟩ (.int .i64 0)).setCell ⟨w.heap.size+2,3,none⟩ (.int .i64 0)).setCell ⟨w.heap.size+2,4,none⟩ (.string ⟨#[]⟩)).setCell ⟨w.heap.size+2,5,none⟩ (.string ⟨#[]⟩)).setCell ⟨w.heap.size+2,6,none⟩ (.string ⟨#[]⟩)):=Aug (by omega) (Aug (by omega) CW2.out.be _ _ _ _ _ _ _) _ _ _ _ _ _ _
 generalize ((((((((((((((w2.setCell ⟨w.heap.size+1,0,none⟩ (.string ⟨#[]⟩)).setCell ⟨w.heap.size+1,1,none⟩ (.string ⟨#[]⟩)).setCell ⟨w.heap.size+1,2,none⟩ (.int .i64 0)).setCell ⟨w.heap.size+1,3,none⟩ (.int .i64 0)).setCell ⟨w.heap.size+1,4,none⟩ (.string ⟨#[]⟩)).setCell ⟨w.heap.size+1,5,none⟩ (.string ⟨#[]⟩)).setCell ⟨w.heap.size+1,6,none⟩ (.string ⟨#[]⟩)).setCell ⟨w.heap.size+2,0,none⟩ (.string ⟨#[]⟩)).setCell ⟨w.heap.size+2,1,none⟩ (.string ⟨#[]⟩)).setCell ⟨w.heap.size+2,2,none⟩ (.int .i64 0)).setCell ⟨w.heap.size+2,3,none⟩ (.int .i64 0)).setCell ⟨w.heap.size+2,4,none⟩ (.string ⟨#[]⟩)).setCell ⟨w.heap.size+2,5,none⟩ (.string ⟨#[]⟩)).setCell ⟨w.heap.size+2,6,none⟩ (.string ⟨#[]⟩))=W9 at hA hB hE ⊢
 have m0:=Aaa hA 0
 have m1:=Aaa hA 1
 have m2:=Aaa hA 2
 have m3:=Aaa hA 3
 have m4:=Aaa hA 4
 have m5:=Aaa hA 5
 have m6:=Aaa hA 6
 simp[Lot.cells,zeroLot] at m0 m1 m2 m3 m4 m5 m6
 have n0:=Aaa hB 0
 have n1:=Aaa hB 1
 have n2:=Aaa hB 2
 have n3:=Aaa hB 3
 have n4:=Aaa hB 4
 have n5:=Aaa hB 5
 have n6:=Aaa hB 6
 simp[Lot.cells,zeroLot] at n0 n1 n2 n3 n4 n5 n6
 exact bodyPost_ret (v:=.tuple #[.agg #[.string ⟨#[]⟩,.string ⟨#[]⟩,.int .i64 0,.int .i64 0,.string ⟨#[]⟩,.string ⟨#[]⟩,.string ⟨#[]⟩],.agg #[.string ⟨#[]⟩,.string ⟨#[]⟩,.int .i64 0,.int .i64 0,.string ⟨#[]⟩,.string ⟨#[]⟩,.string ⟨#[]⟩],.int .i64 1]) (by simp[results,Tryz.results34,go_sem,m0,m1,m2,m3,m4,m5,m6,n0,n1,n2,n3,n4,n5,n6]) rfl ⟨rfl,hE⟩
theorem lCut_e3(l:Lot)(q:ByteArray)(hs:l.sized)(q1:q.size≤1000)(h:l.ok)(hq:Can q)(hr:vl q≤0)(w:World)(ht:Tabs w):
 Calls Tryz.prog 34 #[l.enc,.string q] w fun e w'=>e=.returned (.tuple #[zeroLot.enc,zeroLot.enc,.int .i64 2])∧Below w.heap.size w w':=by
 have HT:=hI ht
 have CW:=CutW.start w l
 obtain⟨W0,hW0⟩:∃W0,(((w.alloc (.cells l.cells 63)).alloc (.cells zeroLot.cells 63)).alloc (.cells zeroLot.cells 63))=W0:=⟨_,rfl⟩
 rw[hW0] at CW
 have k0:=CW.ib
 obtain⟨c0,c1,c2,c3,c4,c5,c6⟩:=lbc k0
 have CW0:=hI CW
 have hkk:=fun W (hW:Tabs W)=>Anm l hs W hW
 rw[lchk_zero.2 h] at hkk
 have HK:=hI hkk
 clear hkk
 have HC:=hI (fun W=>Agb q W (by omega) hq)
 have HM1:=hI (fun W=>Agf q ⟨#[]⟩ W (by omega) (by show 0≤_;omega))
 rw[show vl (⟨#[]⟩:ByteArray)=0 from by rw[zero_eq,vl_I]] at HM1
 have d1:decide (cmpI (vl q) 0≤0)=true:=Aav (by rw[Ac9];omega)
 clear CW k0 hs h ht hq hr
 unfold Lot.enc Lot.cells at *
 unfold zeroLot at hW0
 dsimp only at hW0
 go_enter Tryz.func34,Tryz.ntmps34
 go_wp2_with fail
 try rw[hW0]
 refine (HK.out W0 (HT.out.below CW0.out.be)).mono ?_
 rintro e w1 ⟨rfl,b1⟩
 have CW1:=hI (CW0.out.below b1)
 clear b1 HK hW0 c0 c1 c2 c3 c4 c5 c6
 go_wp2_with fail
 refine (HC.out w1).mono ?_
 rintro e w2 ⟨rfl,b2⟩
 have CW2:=hI (CW1.out.below b2)
 clear b2 HC CW1
 go_wp2_with fail
 refine (HM1.out w2).mono ?_
 rintro e w3 ⟨rfl,b3⟩
 have CW3:=hI (CW2.out.below b3)
 clear b3 HM1 CW2
 have ga:=CW3.out.za
 have gb:=CW3.out.zb
 have m0:=Aaa ga 0
 have m1:=Aaa ga 1
 have m2:=Aaa ga 2
 have m3:=Aaa ga 3
 have m4:=Aaa ga 4
 have m5:=Aaa ga 5
 have m6:=Aaa ga 6
 simp[Lot.cells,zeroLot] at m0 m1 m2 m3 m4 m5 m6
 obtain⟨f0,f1,f2,f3,f4,f5,f6⟩:=Acq ga
 have n0:=Aaa gb 0
 have n1:=Aaa gb 1
 have n2:=Aaa gb 2
 have n3:=Aaa gb 3
 have n4:=Aaa gb 4
 have n5:=Aaa gb 5
 have n6:=Aaa gb 6
 simp[Lot.cells,zeroLot] at n0 n1 n2 n3 n4 n5 n6
 obtain⟨g0,g1,g2,g3,g4,g5,g6⟩:=Acq gb
 clear ga gb
 have hne1:w.heap.size+1≠w.heap.size+2:=by omega
 have hne2:w.heap.size+2≠w.heap.size+1:=by omega
 go_wp2_with fail
 clear m0 m1 m2 m3 m4 m5 m6 n0 n1 n2 n3 n4 n5 n6
 have hA:LotBox ((((((((((((((w3.setCell ⟨w.heap.size+1,0,none⟩ (.string ⟨#[]⟩)).setCell ⟨w.heap.size+1,1,none⟩ (.string ⟨#[]⟩)).setCell ⟨w.heap.size+1,2,none⟩ (.int .i64 0)).setCell ⟨w.heap.size+1,3,none⟩ (.int .i64 0)).setCell ⟨w.heap.size+1,4,none⟩ (.string ⟨#[]⟩)).setCell ⟨w.heap.size+1,5,none⟩ (.string ⟨#[]⟩)).setCell ⟨w.heap.size+1,6,none⟩ (.string ⟨#[]⟩)).setCell ⟨w.heap.size+2,0,none⟩ (.string ⟨#[]⟩)).setCell ⟨w.heap.size+2,1,none⟩ (.string ⟨#[]⟩)).setCell ⟨w.heap.size+2,2,none⟩ (.int .i64 0)).setCell ⟨w.heap.size+2,3,none⟩ (.int .i64 0)).setCell ⟨w.heap.size+2,4,none⟩ (.string ⟨#[]⟩)).setCell ⟨w.heap.size+2,5,none⟩ (.string ⟨#[]⟩)).setCell ⟨w.heap.size+2,6,none⟩ (.string ⟨#[]⟩)) (w.heap.size+1) zeroLot:=(lfar7 (by omega) _ _ _ _ _ _ _).trans (lset7 CW3.out.za _ _ _ _ _ _ _)
 have hB:LotBox ((((((((((((((w3.setCell ⟨w.heap.size+1,0,none⟩ (.string ⟨#[]⟩)).setCell ⟨w.heap.size+1,1,none⟩ (.string ⟨#[]⟩)).setCell ⟨w.heap.size+1,2,none⟩ (.int .i64 0)).setCell ⟨w.heap.size+1,3,none⟩ (.int .i64 0)).setCell ⟨w.heap.size+1,4,none⟩ (.string ⟨#[]⟩)).setCell ⟨w.heap.size+1,5,none⟩ (.string ⟨#[]⟩)).setCell ⟨w.heap.size+1,6,none⟩ (.string ⟨#[]⟩)).setCell ⟨w.heap.size+2,0,none⟩ (.string ⟨#[]⟩)).setCell ⟨w.heap.size+2,1,none⟩ (.string ⟨#[]⟩)).setCell ⟨w.heap.size+2,2,none⟩ (.int .i64 0)).setCell ⟨w.heap.size+2,3,none⟩ (.int .i64 0)).setCell ⟨w.heap.size+2,4,none⟩ (.string ⟨#[]⟩)).setCell ⟨w.heap.size+2,5,none⟩ (.string ⟨#[]⟩)).setCell ⟨w.heap.size+2,6,none⟩ (.string ⟨#[]⟩)) (w.heap.size+2) zeroLot:=lset7 (w:=(((((((w3.setCell ⟨w.heap.size+1,0,none⟩ (.string ⟨#[]⟩)).setCell ⟨w.heap.size+1,1,none⟩ (.string ⟨#[]⟩)).setCell ⟨w.heap.size+1,2,none⟩ (.int .i64 0)).setCell ⟨w.heap.size+1,3,none⟩ (.int .i64 0)).setCell ⟨w.heap.size+1,4,none⟩ (.string ⟨#[]⟩)).setCell ⟨w.heap.size+1,5,none⟩ (.string ⟨#[]⟩)).setCell ⟨w.heap.size+1,6,none⟩ (.string ⟨#[]⟩))) ((lfar7 (by omega) _ _ _ _ _ _ _).trans CW3.out.zb) _ _ _ _ _ _ _
 have hE:Below w.heap.size w ((((((((((((((w3.setCell ⟨w.heap.size+1,0,none⟩ (.string ⟨#[]⟩)).setCell ⟨w.heap.size+1,1,none⟩ (.string ⟨#[]⟩)).setCell ⟨w.heap.size+1,2,none⟩ (.int .i64 0)).setCell ⟨w.heap.size+1,3,none⟩ (.int .i64 0)).setCell ⟨w.heap.size+1,4,none⟩ (.string ⟨#[]⟩)).setCell ⟨w.heap.size+1,5,none⟩ (.string ⟨#[]⟩)).setCell ⟨w.heap.size+1,6,none⟩ (.string ⟨#[]⟩)).setCell ⟨w.heap.size+2,0,none⟩ (.string ⟨#[]⟩)).setCell ⟨w.heap.size+2,1,none⟩ (.string ⟨#[]⟩)).setCell ⟨w.heap.size+2,2,none⟩ (.int .i64 0)).setCell ⟨w.heap.size+2,3,none⟩ (.int .i64 0)).setCell ⟨w.heap.size+2,4,none⟩ (.string ⟨#[]⟩)).setCell ⟨w.heap.size+2,5,none⟩ (.string ⟨#[]⟩)).setCell ⟨w.heap.size+2,6,none⟩ (.string ⟨#[]⟩)):=Aug (by omega) (Aug (by omega) CW3.out.be _ _ _ _ _ _ _) _ _ _ _ _ _ _
 generalize ((((((((((((((w3.setCell ⟨w.heap.size+1,0,none⟩ (.string ⟨#[]⟩)).setCell ⟨w.heap.size+1,1,none⟩ (.string ⟨#[]⟩)).setCell ⟨w.heap.size+1,2,none⟩ (.int .i64 0)).setCell ⟨w.heap.size+1,3,none⟩ (.int .i64 0)).setCell ⟨w.heap.size+1,4,none⟩ (.string ⟨#[]⟩)).setCell ⟨w.heap.size+1,5,none⟩ (.string ⟨#[]⟩)).setCell ⟨w.heap.size+1,6,none⟩ (.string ⟨#[]⟩)).setCell ⟨w.heap.size+2,0,none⟩ (.string ⟨#[]⟩)).setCell ⟨w.heap.size+2,1,none⟩ (.string ⟨#[]⟩)).setCell ⟨w.heap.size+2,2,none⟩ (.int .i64 0)).setCell ⟨w.heap.size+2,3,none⟩ (.int .i64 0)).setCell ⟨w.heap.size+2,4,none⟩ (.string ⟨#[]⟩)).setCell ⟨w.heap.size+2,5,none⟩ (.string ⟨#[]⟩)).setCell ⟨w.heap.size+2,6,none⟩ (.string ⟨#[]⟩))=W9 at hA hB hE ⊢
 have m0:=Aaa hA 0
 have m1:=Aaa hA 1
 have m2:=Aaa hA 2
 have m3:=Aaa hA 3
 have m4:=Aaa hA 4
 have m5:=Aaa hA 5
 have m6:=Aaa hA 6
 simp[Lot.cells,zeroLot] at m0 m1 m2 m3 m4 m5 m6
 have n0:=Aaa hB 0
 have n1:=Aaa hB 1
 have n2:=Aaa hB 2
 have n3:=Aaa hB 3
 have n4:=Aaa hB 4
 have n5:=Aaa hB 5
 have n6:=Aaa hB 6
 simp[Lot.cells,zeroLot] at n0 n1 n2 n3 n4 n5 n6
 exact bodyPost_ret (v:=.tuple #[.agg #[.string ⟨#[]⟩,.string ⟨#[]⟩,.int .i64 0,.int .i64 0,.string ⟨#[]⟩,.string ⟨#[]⟩,.string ⟨#[]⟩],.agg #[.string ⟨#[]⟩,.string ⟨#[]⟩,.int .i64 0,.int .i64 0,.string ⟨#[]⟩,.string ⟨#[]⟩,.string ⟨#[]⟩],.int .i64 2]) (by simp[results,Tryz.results34,go_sem,m0,m1,m2,m3,m4,m5,m6,n0,n1,n2,n3,n4,n5,n6]) rfl ⟨rfl,hE⟩
theorem lCut_e4(l:Lot)(q:ByteArray)(hs:l.sized)(q1:q.size≤1000)(h:l.ok)(hq:Can q)(hp:0<vl q)(hr:vl l.qty≤vl q)(w:World)(ht:Tabs w):
 Calls Tryz.prog 34 #[l.enc,.string q] w fun e w'=>e=.returned (.tuple #[zeroLot.enc,zeroLot.enc,.int .i64 2])∧Below w.heap.size w w':=by
 have hzq:l.qty.size≤1000:=by obtain⟨z1,z2,z3,z4,z5⟩:=id hs;omega
 have HT:=hI ht
 have CW:=CutW.start w l
 obtain⟨W0,hW0⟩:∃W0,(((w.alloc (.cells l.cells 63)).alloc (.cells zeroLot.cells 63)).alloc (.cells zeroLot.cells 63))=W0:=⟨_,rfl⟩
 rw[hW0] at CW
 have k0:=CW.ib
 obtain⟨c0,c1,c2,c3,c4,c5,c6⟩:=lbc k0
 have CW0:=hI CW
 have hkk:=fun W (hW:Tabs W)=>Anm l hs W hW
 rw[lchk_zero.2 h] at hkk
 have HK:=hI hkk
 clear hkk
 have HC:=hI (fun W=>Agb q W (by omega) hq)
 have HM1:=hI (fun W=>Agf q ⟨#[]⟩ W (by omega) (by show 0≤_;omega))
 rw[show vl (⟨#[]⟩:ByteArray)=0 from by rw[zero_eq,vl_I]] at HM1
 have HM2:=hI (fun W=>Agf q l.qty W (by omega) (by omega))
 have d1:decide (cmpI (vl q) 0≤0)=false:=Aaw (by rw[Ac9];omega)
 have d2:decide (0≤cmpI (vl q) (vl l.qty))=true:=Aav (by rw[Ada];omega)
 have d3:decide (cmpI (vl q) (vl l.qty)≥0)=true:=d2
 clear CW k0 hs h ht hq hr hp hzq
 unfold Lot.enc Lot.cells at *
 unfold zeroLot at hW0
 dsimp only at hW0
 go_enter Tryz.func34,Tryz.ntmps34
 go_wp2_with fail
 try rw[hW0]
 refine (HK.out W0 (HT.out.below CW0.out.be)).mono ?_
 rintro e w1 ⟨rfl,b1⟩
 have CW1:=hI (CW0.out.below b1)
 clear b1 HK hW0 c0 c1 c2 c3 c4 c5 c6
 go_wp2_with fail
 refine (HC.out w1).mono ?_
 rintro e w2 ⟨rfl,b2⟩
 have CW2:=hI (CW1.out.below b2)
 clear b2 HC CW1
 go_wp2_with fail
 refine (HM1.out w2).mono ?_
 rintro e w3 ⟨rfl,b3⟩
 have CW3:=hI (CW2.out.below b3)
 have k3:=CW3.out.ib
 obtain⟨c0,c1,c2,c3,c4,c5,c6⟩:=lbc k3
 clear b3 HM1 CW2 k3
 go_wp2_with fail
 refine (HM2.out w3).mono ?_
 rintro e w4 ⟨rfl,b4⟩
 have CW4:=hI (CW3.out.below b4)
 clear b4 HM2 CW3 c0 c1 c2 c3 c4 c5 c6
 have ga:=CW4.out.za
 have gb:=CW4.out.zb
 have m0:=Aaa ga 0
 have m1:=Aaa ga 1
 have m2:=Aaa ga 2
 have m3:=Aaa ga 3
 have m4:=Aaa ga 4
 have m5:=Aaa ga 5
 have m6:=Aaa ga 6
 simp[Lot.cells,zeroLot] at m0 m1 m2 m3 m4 m5 m6
 obtain⟨f0,f1,f2,f3,f4,f5,f6⟩:=Acq ga
 have n0:=Aaa gb 0
 have n1:=Aaa gb 1
 have n2:=Aaa gb 2
 have n3:=Aaa gb 3
 have n4:=Aaa gb 4
 have n5:=Aaa gb 5
 have n6:=Aaa gb 6
 simp[Lot.cells,zeroLot] at n0 n1 n2 n3 n4 n5 n6
 obtain⟨g0,g1,g2,g3,g4,g5,g6⟩:=Acq gb
 clear ga gb
 have hne1:w.heap.size+1≠w.heap.size+2:=by omega
 have hne2:w.heap.size+2≠w.heap.size+1:=by omega
 go_wp2_with fail
 clear m0 m1 m2 m3 m4 m5 m6 n0 n1 n2 n3 n4 n5 n6
 have hA:LotBox ((((((((((((((w4.setCell ⟨w.heap.size+1,0,none⟩ (.string ⟨#[]⟩)).setCell ⟨w.heap.size+1,1,none⟩ (.string ⟨#[]⟩)).setCell ⟨w.heap.size+1,2,none⟩ (.int .i64 0)).setCell ⟨w.heap.size+1,3,none⟩ (.int .i64 0)).setCell ⟨w.heap.size+1,4,none⟩ (.string ⟨#[]⟩)).setCell ⟨w.heap.size+1,5,none⟩ (.string ⟨#[]⟩)).setCell ⟨w.heap.size+1,6,none⟩ (.string ⟨#[]⟩)).setCell ⟨w.heap.size+2,0,none⟩ (.string ⟨#[]⟩)).setCell ⟨w.heap.size+2,1,none⟩ (.string ⟨#[]⟩)).setCell ⟨w.heap.size+2,2,none⟩ (.int .i64 0)).setCell ⟨w.heap.size+2,3,none⟩ (.int .i64 0)).setCell ⟨w.heap.size+2,4,none⟩ (.string ⟨#[]⟩)).setCell ⟨w.heap.size+2,5,none⟩ (.string ⟨#[]⟩)).setCell ⟨w.heap.size+2,6,none⟩ (.string ⟨#[]⟩)) (w.heap.size+1) zeroLot:=(lfar7 (by omega) _ _ _ _ _ _ _).trans (lset7 CW4.out.za _ _ _ _ _ _ _)
 have hB:LotBox ((((((((((((((w4.setCell ⟨w.heap.size+1,0,none⟩ (.string ⟨#[]⟩)).setCell ⟨w.heap.size+1,1,none⟩ (.string ⟨#[]⟩)).setCell ⟨w.heap.size+1,2,none⟩ (.int .i64 0)).setCell ⟨w.heap.size+1,3,none⟩ (.int .i64 0)).setCell ⟨w.heap.size+1,4,none⟩ (.string ⟨#[]⟩)).setCell ⟨w.heap.size+1,5,none⟩ (.string ⟨#[]⟩)).setCell ⟨w.heap.size+1,6,none⟩ (.string ⟨#[]⟩)).setCell ⟨w.heap.size+2,0,none⟩ (.string ⟨#[]⟩)).setCell ⟨w.heap.size+2,1,none⟩ (.string ⟨#[]⟩)).setCell ⟨w.heap.size+2,2,none⟩ (.int .i64 0)).setCell ⟨w.heap.size+2,3,none⟩ (.int .i64 0)).setCell ⟨w.heap.size+2,4,none⟩ (.string ⟨#[]⟩)).setCell ⟨w.heap.size+2,5,none⟩ (.string ⟨#[]⟩)).setCell ⟨w.heap.size+2,6,none⟩ (.string ⟨#[]⟩)) (w.heap.size+2) zeroLot:=lset7 (w:=(((((((w4.setCell ⟨w.heap.size+1,0,none⟩ (.string ⟨#[]⟩)).setCell ⟨w.heap.size+1,1,none⟩ (.string ⟨#[]⟩)).setCell ⟨w.heap.size+1,2,none⟩ (.int .i64 0)).setCell ⟨w.heap.size+1,3,none⟩ (.int .i64 0)).setCell ⟨w.heap.size+1,4,none⟩ (.string ⟨#[]⟩)).setCell ⟨w.heap.size+1,5,none⟩ (.string ⟨#[]⟩)).setCell ⟨w.heap.size+1,6,none⟩ (.string ⟨#[]⟩))) ((lfar7 (by omega) _ _ _ _ _ _ _).trans CW4.out.zb) _ _ _ _ _ _ _
 have hE:Below w.heap.size w ((((((((((((((w4.setCell ⟨w.heap.size+1,0,none⟩ (.string ⟨#[]⟩)).setCell ⟨w.heap.size+1,1,none⟩ (.string ⟨#[]⟩)).setCell ⟨w.heap.size+1,2,none⟩ (.int .i64 0)).setCell ⟨w.heap.size+1,3,none⟩ (.int .i64 0)).setCell ⟨w.heap.size+1,4,none⟩ (.string ⟨#[]⟩)).setCell ⟨w.heap.size+1,5,none⟩ (.string ⟨#[]⟩)).setCell ⟨w.heap.size+1,6,none⟩ (.string ⟨#[]⟩)).setCell ⟨w.heap.size+2,0,none⟩ (.string ⟨#[]⟩)).setCell ⟨w.heap.size+2,1,none⟩ (.string ⟨#[]⟩)).setCell ⟨w.heap.size+2,2,none⟩ (.int .i64 0)).setCell ⟨w.heap.size+2,3,none⟩ (.int .i64 0)).setCell ⟨w.heap.size+2,4,none⟩ (.string ⟨#[]⟩)).setCell ⟨w.heap.size+2,5,none⟩ (.string ⟨#[]⟩)).setCell ⟨w.heap.size+2,6,none⟩ (.string ⟨#[]⟩)):=Aug (by omega) (Aug (by omega) CW4.out.be _ _ _ _ _ _ _) _ _ _ _ _ _ _
 generalize ((((((((((((((w4.setCell ⟨w.heap.size+1,0,none⟩ (.string ⟨#[]⟩)).setCell ⟨w.heap.size+1,1,none⟩ (.string ⟨#[]⟩)).setCell ⟨w.heap.size+1,2,none⟩ (.int .i64 0)).setCell ⟨w.heap.size+1,3,none⟩ (.int .i64 0)).setCell ⟨w.heap.size+1,4,none⟩ (.string ⟨#[]⟩)).setCell ⟨w.heap.size+1,5,none⟩ (.string ⟨#[]⟩)).setCell ⟨w.heap.size+1,6,none⟩ (.string ⟨#[]⟩)).setCell ⟨w.heap.size+2,0,none⟩ (.string ⟨#[]⟩)).setCell ⟨w.heap.size+2,1,none⟩ (.string ⟨#[]⟩)).setCell ⟨w.heap.size+2,2,none⟩ (.int .i64 0)).setCell ⟨w.heap.size+2,3,none⟩ (.int .i64 0)).setCell ⟨w.heap.size+2,4,none⟩ (.string ⟨#[]⟩)).setCell ⟨w.heap.size+2,5,none⟩ (.string ⟨#[]⟩)).setCell ⟨w.heap.size+2,6,none⟩ (.string ⟨#[]⟩))=W9 at hA hB hE ⊢
 have m0:=Aaa hA 0
 have m1:=Aaa hA 1
 have m2:=Aaa hA 2
 have m3:=Aaa hA 3
 have m4:=Aaa hA 4
 have m5:=Aaa hA 5
 have m6:=Aaa hA 6
 simp[Lot.cells,zeroLot] at m0 m1 m2 m3 m4 m5 m6
 have n0:=Aaa hB 0
 have n1:=Aaa hB 1
 have n2:=Aaa hB 2
 have n3:=Aaa hB 3
 have n4:=Aaa hB 4
 have n5:=Aaa hB 5
 have n6:=Aaa hB 6
 simp[Lot.cells,zeroLot] at n0 n1 n2 n3 n4 n5 n6
 exact bodyPost_ret (v:=.tuple #[.agg #[.string ⟨#[]⟩,.string ⟨#[]⟩,.int .i64 0,.int .i64 0,.string ⟨#[]⟩,.string ⟨#[]⟩,.string ⟨#[]⟩],.agg #[.string ⟨#[]⟩,.string ⟨#[]⟩,.int .i64 0,.int .i64 0,.string ⟨#[]⟩,.string ⟨#[]⟩,.string ⟨#[]⟩],.int .i64 2]) (by simp[results,Tryz.results34,go_sem,m0,m1,m2,m3,m4,m5,m6,n0,n1,n2,n3,n4,n5,n6]) rfl ⟨rfl,hE⟩
end Go.Proofs.YtcnmoobojdopgaaGreatDoor
