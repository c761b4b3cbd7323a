/-
  The walks of trancheref02.Quo,trancheref11.Interest,flow,index,AccruedOn,day. (Printed by gen_rb4.py.)
-/
import Derived.Test.YteennkgpeiafaaaGreatDoorG38
import Derived.Test.YteennkgpeiafaaaGreatDoorG41
import Derived.Deep.DeepCutAuto
set_option linter.unusedVariables false
set_option linter.unusedSimpArgs false
set_option maxHeartbeats 16000000
set_option maxRecDepth 100000
namespace Go.Proofs.YteennkgpeiafaaaGreatDoor
open Go.RowKit Tr Go.Shelf
attribute [local go_sem] Oper.semAt_some
theorem rfQuoQ{p q:Rat}{k:Nat}(h:BdQ p k)(h':BdQ q k)(h0:0<q)(hk:k≤20000)(w:World):Calls Tryz.prog 75 #[fenc p,fenc q] w fun e w'=>e=.returned (.tuple #[fenc (p / q),.int .i64 0])∧Below w.heap.size w w':=by
 have H1:=hI (fun W=>rRawQ h (by omega) W)
 have H2:=hI (fun W=>rRawQ h' (by omega) W)
 have H3:=hI (fun W=>rMulI (x:=p.num) (y:=(q.den:Int)) h.1 (Ak9 h') (by omega) (by omega) W)
 have H4:=hI (fun W=>rMulI (x:=(p.den:Int)) (y:=q.num) (Ak9 h) h'.1 (by omega) (by omega) W)
 have H5:=fun W=>Amf (x:=p.num*(q.den:Int)) (y:=(p.den:Int)*q.num) (a:=k+k) (Ada h.1 (Ak9 h')) (Ada (Ak9 h) h'.1) (Int.mul_pos (by have:=p.den_pos;omega) (num_pos'.2 h0)) (by omega) W
 have hq:Rat.divInt (p.num*(q.den:Int)) ((p.den:Int)*q.num)=p / q:=by
  rw[div_q,←Ak7 p,←Ak7 q]
 rw[hq] at H5
 have H5:=hI H5
 clear h h' hk h0 hq
 obtain⟨W0,hW0,hb0,hs0,k0,k1,k2⟩:=box3 w (.cells #[.string (I p.num),.string (dn p)] 25) (.cells #[.string (I q.num),.string (dn q)] 25) (.cells #[.string ⟨#[]⟩,.string ⟨#[]⟩] 25)
 have b0:=Aaa k0 0
 have b1:=Aaa k0 1
 have d0:=Aaa k1 0
 have d1:=Aaa k1 1
 simp at b0 b1 d0 d1
 have C0:=hI hb0
 have K0:=hI k2
 clear hb0 k0 k1 k2 hs0
 unfold fenc at H1 H2
 show Calls Tryz.prog 75 #[.agg #[.string (I p.num),.string (dn p)],.agg #[.string (I q.num),.string (dn q)]] w _
 go_enter Tryz.func75,Tryz.ntmps75
 go_wp2_with fail
 try rw[←hW0]
 refine (H1.out _).mono ?_
 rintro e w1 ⟨rfl,c1⟩
 have e0:=(c1.cell (Afb d0)).trans d0
 have e1:=(c1.cell (Afb d1)).trans d1
 have C1:=hI (C0.out.trans (c1.mono C0.out.size))
 have K1:=hI ((c1.block _ (Aab.1 K0.out).1).trans K0.out)
 clear c1 C0 K0 H1 b0 b1 d0 d1 hW0
 go_wp2_with fail
 refine (H2.out _).mono ?_
 rintro e w2 ⟨rfl,c2⟩
 have C2:=hI (C1.out.trans (c2.mono C1.out.size))
 have K2:=hI ((c2.block _ (Aab.1 K1.out).1).trans K1.out)
 clear c2 C1 K1 H2
 clear e0 e1
 go_wp2_with fail
 refine (H3.out _).mono ?_
 rintro e w3 ⟨rfl,c3⟩
 have C3:=hI (C2.out.trans (c3.mono C2.out.size))
 have K3:=hI ((c3.block _ (Aab.1 K2.out).1).trans K2.out)
 clear c3 C2 K2 H3
 go_wp2_with fail
 refine (H4.out _).mono ?_
 rintro e w4 ⟨rfl,c4⟩
 have C4:=hI (C3.out.trans (c4.mono C3.out.size))
 have K4:=hI ((c4.block _ (Aab.1 K3.out).1).trans K3.out)
 clear c4 C3 K3 H4
 go_wp2_with fail
 refine (H5.out _).mono ?_
 rintro e w5 ⟨rfl,c5⟩
 have C5:=hI (C4.out.trans (c5.mono C4.out.size))
 have K5:=hI ((c5.block _ (Aab.1 K4.out).1).trans K4.out)
 clear c5 C4 K4 H5
 obtain⟨rq,hrq⟩:∃rq,p / q=rq:=⟨_,rfl⟩
 rw[hrq]
 have HRQ:=hI hrq
 have a0:=Aaa K5.out 0
 have a1:=Aaa K5.out 1
 simp at a0 a1
 have f0:=Aaf K5.out 0
 have f1:=Aaf K5.out 1
 unfold fenc
 clear hrq
 go_wp2_with fail
 refine bodyPost_ret (An1 rfl _ _ (w.heap.size+1+1) _ _ (0,0) _ rfl (Go.Proofs.YteennkgpeiafaaaGreatDoor.set2 K5.out _ _) Tryz.underlying25 rfl (by kernel_rfl)) rfl ?_
 exact⟨by rw[HRQ.out];rfl,set2_below (by omega) C5.out _ _⟩
theorem At5(d:Int)(w:World):Calls Tryz.prog 67 #[.int .i64 d] w fun e w'=>e=.returned (.bool (propB (okDay d)))∧w=w':=by
 by_cases h0:-25567≤d
 ·have t1:decide (d≥-25567)=true:=Aay h0
  have t1':decide (-25567≤d)=true:=Aay h0
  by_cases h1:d≤84005
  ·have t2:decide (d≤84005)=true:=Aay h1
   have HP:Hid (propB (okDay d)=true):=propB_iff.2 ⟨h0,h1⟩
   clear h0 h1
   go_enter Tryz.func67,Tryz.ntmps67
   go_wp2_with fail
   go_ret
   exact⟨by rw[HP.out];first|rfl|simp[*],rfl⟩
  ·have t2:decide (d≤84005)=false:=Aaz h1
   have HP:Hid (propB (okDay d)=false):=Ath (fun h=>h1 h.2)
   clear h0 h1
   go_enter Tryz.func67,Tryz.ntmps67
   go_wp2_with fail
   go_ret
   exact⟨by rw[HP.out];first|rfl|simp[*],rfl⟩
 ·have t1:decide (d≥-25567)=false:=Aaz h0
  have t1':decide (-25567≤d)=false:=Aaz h0
  have HP:Hid (propB (okDay d)=false):=Ath (fun h=>h0 h.1)
  clear h0
  go_enter Tryz.func67,Tryz.ntmps67
  go_wp2_with fail
  go_ret
  exact⟨by rw[HP.out];first|rfl|simp[*],rfl⟩
structure RNV(w:World)(i:Inst)(nb:Nat)(part m1 rq:Rat)  (L:Array Bool) (W:World) (s17 s18 s19 s20 s21 s22 s23:Value):Prop where
 k0:L.getD 0 false=true→s17=.pointer (some ⟨w.heap.size,6,none⟩)
 k1:L.getD 1 false=true→s18=.agg #[.string i.fn,.string i.fd]
 k2:L.getD 2 false=true→s19=.pointer (some ⟨w.heap.size,8,none⟩)
 k3:L.getD 3 false=true→s20=.agg #[.string i.cn,.string i.cd]
 k4:L.getD 4 false=true→s21=.agg #[.string (I m1.num),.string (dn m1)]
 k5:L.getD 5 false=true→s22=.agg #[.string (I part.num),.string (dn part)]
 k6:L.getD 6 false=true→s23=.agg #[.string (I rq.num),.string (dn rq)]
 bx:BX w [(w.heap.size,.cells i.cells 27 (0,0)),(nb,fobj part)] W
 o7:L.getD 7 false=false→W.heap[w.heap.size+1]?=some (fz)
 n7:L.getD 7 false=true→W.heap[w.heap.size+1]?=some (fobj rq)
structure RNJ(w:World)(i:Inst)(nb:Nat)(part m1 rq:Rat)(x0 x1 x2 x4 x5 x8 x9 x10 x11 x12 x13 x14 x15 x16:Value)(L:Array Bool)(a:Act)(W:World):Prop where
 sz:L.size=8
 fr:∃s17 s18 s19 s20 s21 s22 s23:Value,a={tmps:=#[x0,x1,x2,.pointer (some ⟨w.heap.size,0,none⟩),x4,x5,.pointer (some ⟨w.heap.size+1,0,none⟩),.pointer (some ⟨nb,0,none⟩),x8,x9,x10,x11,x12,x13,x14,x15,x16,s17,s18,s19,s20,s21,s22,s23],defers:=[]}∧RNV w i nb part m1 rq  L W s17 s18 s19 s20 s21 s22 s23
theorem At6(i:Inst)(h:BdI i)(a b:Int)(ha:okDay a)(hb:okDay b)(hab:a≤b)(w:World):
 Calls Tryz.prog 87 #[i.enc,.int .i64 a,.int .i64 b] w fun e w'=>e=.returned (fenc (intQ i a b))∧Below w.heap.size w w':=by
 have HFR:=hI (fun W=>Asg i.count a b h.cnt.1 h.cnt.2 ha hb hab W)
 have hf:=h.fQ
 have hc:=h.cQ
 unfold CanQ at hf hc
 have B1:BdQ (fv i.fn i.fd) 60:=(fv_bd _ _ h.f1 (by have:=h.f2;omega)).mono (by omega)
 have B2:BdQ (fv i.cn i.cd) 60:=(fv_bd _ _ h.c1 (by have:=h.c2;omega)).mono (by omega)
 have C1:=fun W=>Amb B1 B2 (by omega) W
 have C2:=fun W=>Amb (k:=60) ((fc_bd h).mono (by omega)) ((Apg (c:=i.count) ha hb).mono (by omega)) (by omega) W
 have hq:fv i.fn i.fd*fv i.cn i.cd*dcF i.count a b=intQ i a b:=rfl
 unfold fenc at C1
 rw[←hf.1,←hf.2,←hc.1,←hc.2] at C1
 obtain⟨rq,hrq⟩:∃rq,intQ i a b=rq:=⟨_,rfl⟩
 obtain⟨m1,hm1⟩:∃m1,fv i.fn i.fd*fv i.cn i.cd=m1:=⟨_,rfl⟩
 obtain⟨part,hpart⟩:∃part,dcF i.count a b=part:=⟨_,rfl⟩
 have HQ:=hI hrq
 rw[hq,hrq,hm1,hpart] at C2
 rw[hm1] at C1
 rw[hpart] at HFR
 unfold fenc at C2 HFR
 have D1:=hI C1
 have D2:=hI C2
 clear C1 C2 h ha hb hab hq hrq hm1 hpart hf hc B1 B2
 obtain⟨W0,hW0',hB0,hz,k0,k1⟩:=box2 w (.cells i.cells 27) fz
 have hW0:=hW0'.symm
 have hg0:BX w [(w.heap.size,.cells i.cells 27 (0,0)),(w.heap.size+1,fz)] W0:=⟨hB0,fun x hx=>by
  rcases List.mem_cons.1 hx with rfl|hx
  ·exact k0
  ·rcases List.mem_cons.1 hx with rfl|hx
   ·exact k1
   ·cases hx⟩
 have c9:=Aaa k0 11
 simp[Inst.cells] at c9
 clear hB0 hz k0 k1 hW0'
 unfold Inst.enc Inst.cells at *
 go_enter Tryz.func87,Tryz.ntmps87
 go_wp2_with fail
 refine (HFR.out _).mono ?_
 rintro e w1 ⟨rfl,x1⟩
 have hg1:=hg0.below x1
 clear hg0 x1 hW0 c9
 go_wp2_with fail
 have hg2:=hg1.push (fobj part)
 obtain⟨W2,hW2⟩:∃W2,w1.alloc (fobj part)=W2:=⟨_,rfl⟩
 have hnb:w1.heap.size≠w.heap.size+1:=by have:=hg1.lt 1 rfl;omega
 generalize w1.heap.size=nb at hg2 hnb ⊢
 rw[hW2] at hg2 ⊢
 have HM1:Hid (∀W,BX w [(w.heap.size,.cells i.cells 27 (0,0)),(nb,fobj part)] W→Calls Tryz.prog 74 #[.agg #[.string i.fn,.string i.fd],.agg #[.string i.cn,.string i.cd]] W fun e w'=>e=.returned (.agg #[.string (I m1.num),.string (dn m1)])∧Below W.heap.size W w'):=fun W _=>D1.out W
 have HM2:Hid (∀W,BX w [(w.heap.size,.cells i.cells 27 (0,0)),(nb,fobj part)] W→Calls Tryz.prog 74 #[.agg #[.string (I m1.num),.string (dn m1)],.agg #[.string (I part.num),.string (dn part)]] W fun e w'=>e=.returned (.agg #[.string (I rq.num),.string (dn rq)])∧Below W.heap.size W w'):=fun W _=>D2.out W
 have hg:BX w [(w.heap.size,.cells i.cells 27 (0,0)),(nb,fobj part)] W2.drew:=⟨hg2.1.drew,fun z hz=>by
  rcases List.mem_cons.1 hz with rfl|hz
  ·exact hg2.get 1 rfl
  ·rcases List.mem_cons.1 hz with rfl|hz
   ·exact hg2.get 0 rfl
   ·cases hz⟩
 have hko7:W2.drew.heap[w.heap.size+1]?=some fz:=hg2.get 2 rfl
 clear hg1 hg2 hW2 D1 D2 HFR
 have mixed:Tryz.prog.follows .mixedOrders=true:=by kernel_rfl
 refine wp_region_any mixed (Am3 (RNJ w i nb part m1 rq _ _ _ _ _ _ _ _ _ _ _ _ _ _) ?stRN ?dnRN _ _ _ _ ⟨by simp,⟨_,_,_,_,_,_,_,rfl,fun h=>by simp at h,fun h=>by simp at h,fun h=>by simp at h,fun h=>by simp at h,fun h=>by simp at h,fun h=>by simp at h,fun h=>by simp at h,hg,fun _=>hko7,fun h=>by simp at h⟩⟩ (by decide))
 case dnRN =>
  intro L a w' hj hr
  have all:=Am2 hr hj.sz (by kernel_rfl)
  obtain⟨s17,s18,s19,s20,s21,s22,s23,rfl,hv⟩:=hj.fr
  have HF:=hI (And.intro (hv.n7 (all 7 (by omega))) hv.bx.1)
  clear all hv hj hr
  go_wp2_with fail
  refine bodyPost_ret (results_cell_row rfl _ _ (w.heap.size+1) _ _ (0,0) _ rfl HF.out.1 Tryz.underlying25 rfl (by kernel_rfl)) rfl ?_
  exact⟨by rw[HQ.out];rfl,HF.out.2⟩
 case stRN =>
  intro L a w' hj i hi
  obtain⟨hun,o,ho,hall⟩:=mem_ready.1 hi
  have hoff:=Amt hun
  have hlt:=(Aab.1 ho).1
  simp at hlt
  obtain⟨s17,s18,s19,s20,s21,s22,s23,rfl,hv⟩:=hj.fr
  have HV:=hI hv
  have HJ:=hI hj
  clear hv hj
  rcases (show i=0∨i=1∨i=2∨i=3∨i=4∨i=5∨i=6∨i=7 from by omega) with rfl|rfl|rfl|rfl|rfl|rfl|rfl|rfl
  all_goals simp at ho
  all_goals subst ho
  rotate_left
  cases HV.out.k0 (Hq hall 0).out
  have hb:=HV.out.bx.get 0 rfl;have c6:=Aaa hb 6;have c7:=Aaa hb 7
  simp[Inst.cells] at c6 c7
  rotate_left
  rotate_left
  cases HV.out.k2 (Hq hall 2).out
  have hb:=HV.out.bx.get 0 rfl;have c6:=Aaa hb 8;have c7:=Aaa hb 9
  simp[Inst.cells] at c6 c7
  rotate_left
  ·cases HV.out.k1 (Hq hall 1).out
   cases HV.out.k3 (Hq hall 3).out
   clear hall hi
   refine Am0 rfl fun K' HK=>?_
   go_simp
   refine (HM1.out _ HV.out.bx).mono ?_
   rintro e wn ⟨rfl,hbn⟩
   cases HV.out
   refine HK.out _ _ ⟨by simp[HJ.out.sz],⟨_,_,_,_,_,_,_,rfl,?_,?_,?_,?_,fun _=>rfl,?_,?_,HV.out.bx.below hbn,fun h=>bkeep hbn (HV.out.o7 (Amw h)),fun h=>bkeep hbn (HV.out.n7 (Amv h))⟩⟩
   all_goals exact Um (by assumption)
  have hb:=HV.out.bx.get 1 rfl;have c6:=Aaa hb 0;have c7:=Aaa hb 1
  simp at c6 c7
  rotate_left
  ·cases HV.out.k4 (Hq hall 4).out
   cases HV.out.k5 (Hq hall 5).out
   clear hall hi
   refine Am0 rfl fun K' HK=>?_
   go_simp
   refine (HM2.out _ HV.out.bx).mono ?_
   rintro e wn ⟨rfl,hbn⟩
   cases HV.out
   refine HK.out _ _ ⟨by simp[HJ.out.sz],⟨_,_,_,_,_,_,_,rfl,?_,?_,?_,?_,?_,?_,fun _=>rfl,HV.out.bx.below hbn,fun h=>bkeep hbn (HV.out.o7 (Amw h)),fun h=>bkeep hbn (HV.out.n7 (Amv h))⟩⟩
   all_goals exact Um (by assumption)
  ·cases HV.out.k6 (Hq hall 6).out
   clear hall hi
   have hko:=HV.out.o7 hoff
   have m0:=Aaa hko 0;have m1:=Aaa hko 1;have f0:=Aaf hko 0;have f1:=Aaf hko 1
   simp at m0 m1 f0 f1
   refine Am0 rfl fun K' HK=>?_
   go_simp
   cases HV.out
   refine HK.out _ _ ⟨by simp[HJ.out.sz],⟨_,_,_,_,_,_,_,rfl,?_,?_,?_,?_,?_,?_,?_,HV.out.bx.far (b:=w.heap.size+1) (by omega) (by simp<;>omega) _ _,fun h=>(Amx h (Amr hun)).elim,fun _=>set2 hko _ _⟩⟩
   all_goals exact Um (by assumption)
  all_goals
   clear hall hi
   refine Am0 rfl fun K' HK=>?_
   go_simp
   cases HV.out
   refine HK.out _ _ ⟨by simp[HJ.out.sz],?_⟩
   iterate 7 apply Exists.intro
   refine⟨rfl,?_⟩
   constructor
   all_goals first|exact Um (by assumption)|exact Un (by assumption)|exact Uf (by assumption)|exact fun _=>rfl|assumption
structure RFLV(w:World)(i:Inst)(ad:Addr)(ob:Obj)(N cap k:Nat)(px py:Int)(iq:Rat)(nb:Nat)(L:Array Bool)(W:World)(s7 s8 s9 s10 s11 s12 s13 s14 s15 s16 s17 s18 s19:Value):Prop where
 k0:L.getD 0 false=true→s8=.agg #[.string i.id,.int .i64 i.kind,.string i.cur,.int .i64 i.places,.int .i64 i.issued,.int .i64 i.matures,.string i.fn,.string i.fd,.string i.cn,.string i.cd,.int .i64 i.months,.int .i64 i.count,.string i.other,.string i.sn,.string i.sd]
 k1:L.getD 1 false=true→s9=.slice (some ad) N cap
 k2:L.getD 2 false=true→s10=.int .i64 (k:Int)
 k3:L.getD 3 false=true→s11=.pointer (some (ad.add (k*2)))
 k4:L.getD 4 false=true→s12=.pointer (some (ad.add (k*2)))
 k5:L.getD 5 false=true→s13=.int .i64 px
 k6:L.getD 6 false=true→s14=.slice (some ad) N cap
 k7:L.getD 7 false=true→s15=.int .i64 (k:Int)
 k8:L.getD 8 false=true→s16=.pointer (some (ad.add (k*2)))
 k9:L.getD 9 false=true→s17=.pointer (some ⟨(ad.add (k*2)).block,(ad.add (k*2)).off+1,none⟩)
 k10:L.getD 10 false=true→s18=.int .i64 py
 k11:L.getD 11 false=true→s19=.agg #[.string (I iq.num),.string (dn iq)]
 k12:L.getD 12 false=true→s7=.pointer (some ⟨nb,0,none⟩)
 bx:BX w [(w.heap.size,.cells i.cells 27 (0,0)),(ad.block,ob),(w.heap.size+1,fz)] W
 o13:L.getD 12 false=true→L.getD 13 false=false→W.heap[nb]?=some (fz)
 b13:L.getD 12 false=true→w.heap.size≤nb∧∀x,x∈[(w.heap.size,.cells i.cells 27 (0,0)),(ad.block,ob),(w.heap.size+1,fz)]→x.1≠nb
 n13:L.getD 13 false=true→W.heap[nb]?=some (fobj iq)
 q13:L.getD 13 false=true→L.getD 12 false=true
structure RFLJ(w:World)(i:Inst)(ad:Addr)(ob:Obj)(N cap k:Nat)(px py:Int)(iq:Rat)(x0 x4 x5 x20 x21 x22 x23 x24 x25 x26 x27 x28 x29:Value)(L:Array Bool)(a:Act)(W:World):Prop where
 sz:L.size=14
 fr:∃nb:Nat,∃s7 s8 s9 s10 s11 s12 s13 s14 s15 s16 s17 s18 s19:Value,a={tmps:=#[x0,.slice (some ad) N cap,.int .i64 (k:Int),.pointer (some ⟨w.heap.size,0,none⟩),x4,x5,.pointer (some ⟨w.heap.size+1,0,none⟩),s7,s8,s9,s10,s11,s12,s13,s14,s15,s16,s17,s18,s19,x20,x21,x22,x23,x24,x25,x26,x27,x28,x29],defers:=[]}∧RFLV w i ad ob N cap k px py iq nb L W s7 s8 s9 s10 s11 s12 s13 s14 s15 s16 s17 s18 s19
theorem At7(i:Inst)(h:BdI i)(ad:Addr)(N cap k:Nat)(hN:(perL i).length=N)(hN4:N≤1000)(hkN:k<N)(w:World)(hR:RdP w ad (perL i)):
 Calls Tryz.prog 76 #[i.enc,.slice (some ad) N cap,.int .i64 (k:Int)] w fun e w'=>e=.returned (fenc (payAt i (perL i) k).2.2)∧Below w.heap.size w w':=by
 obtain⟨⟨px,py⟩,hp⟩:∃p,(perL i)[k]?=some p:=⟨_,Aae (by rw[hN];exact hkN)⟩
 have hpx:=h.per (Aar hp)
 simp only at hpx
 have hle:px≤py:=Int.le_of_lt (Aq1 h hp)
 have hIN:=fun W=>At6 i h px py hpx.1 hpx.2 hle W
 have bIN:=Aph h hpx.1 hpx.2
 have hf:=h.fQ
 unfold CanQ at hf
 have B1:BdQ (fv i.fn i.fd) 60:=(fv_bd _ _ h.f1 (by have:=h.f2;omega)).mono (by omega)
 have hpay:(payAt i (perL i) k).2.2=intQ i px py+(if k+1=N then fv i.fn i.fd else 0):=by
  rw[←hN]
  show intQ i ((perL i).getD k (0,0)).1 ((perL i).getD k (0,0)).2+_=_
  rw[Aas,hp];rfl
 obtain⟨iq,hiq⟩:∃iq,intQ i px py=iq:=⟨_,rfl⟩
 rw[hiq] at hIN hpay bIN
 have HAF0:=fun W=>Amc (bIN.mono (by omega):BdQ iq 60) B1 (by omega) W
 obtain⟨sq,hsq⟩:∃sq,iq+fv i.fn i.fd=sq:=⟨_,rfl⟩
 obtain⟨pq,hpq⟩:∃pq,iq+(if k+1=N then fv i.fn i.fd else 0)=pq:=⟨_,rfl⟩
 rw[hpq] at hpay
 have HPAY:=hI hpay
 have HPQ:=hI hpq
 unfold fenc at HAF0
 rw[←hf.1,←hf.2] at HAF0
 have HAF:=hI HAF0
 have HPK:=hI hp
 obtain⟨ob,hob,hrb⟩:=hR.box
 obtain⟨W0,hW0',hB0,hz,k0,k1⟩:=box2 w (.cells i.cells 27) fz
 have hW0:=hW0'.symm
 have hlt:ad.block<w.heap.size:=hR.1
 have hg0:BX w [(w.heap.size,.cells i.cells 27 (0,0)),(w.heap.size+1,fz),(ad.block,ob)] W0:=⟨hB0,fun x hx=>by
  rcases List.mem_cons.1 hx with rfl|hx
  ·exact k0
  ·rcases List.mem_cons.1 hx with rfl|hx
   ·exact k1
   ·rcases List.mem_cons.1 hx with rfl|hx
    ·exact bkeep hB0 hob
    ·cases hx⟩
 have HRB:Hid (∀W':World,W'.heap[ad.block]?=some ob→RdP W' ad (perL i)):=hrb
 have HLT:=hI hlt
 unfold fenc at hIN
 have HIN:Hid (∀W,BX w [(w.heap.size,.cells i.cells 27 (0,0)),(ad.block,ob),(w.heap.size+1,fz)] W→Calls Tryz.prog 87 #[.agg #[.string i.id,.int .i64 i.kind,.string i.cur,.int .i64 i.places,.int .i64 i.issued,.int .i64 i.matures,.string i.fn,.string i.fd,.string i.cn,.string i.cd,.int .i64 i.months,.int .i64 i.count,.string i.other,.string i.sn,.string i.sd],.int .i64 px,.int .i64 py] W fun e w'=>e=.returned (.agg #[.string (I iq.num),.string (dn iq)])∧Below W.heap.size W w'):=fun W _=>hIN W
 have HG0:=hI hg0
 have HKI:Hid ((k:Int)<(N:Int)):=by show (k:Int)<(N:Int);omega
 clear hB0 hz k0 k1 hW0' h hN hR hob hrb hg0 hp hpx hle hIN bIN hf B1 hpay hiq HAF0 hsq hpq
 unfold Inst.enc Inst.cells at *
 go_enter Tryz.func76,Tryz.ntmps76
 go_wp2_with fail
 try rw[hW0]
 have hg:BX w [(w.heap.size,.cells i.cells 27 (0,0)),(ad.block,ob),(w.heap.size+1,fz)] W0.drew:=⟨HG0.out.1.drew,fun z hz=>by
  rcases List.mem_cons.1 hz with rfl|hz
  ·exact HG0.out.get 0 rfl
  ·rcases List.mem_cons.1 hz with rfl|hz
   ·exact HG0.out.get 2 rfl
   ·rcases List.mem_cons.1 hz with rfl|hz
    ·exact HG0.out.get 1 rfl
    ·cases hz⟩
 clear hW0
 have mixed:Tryz.prog.follows .mixedOrders=true:=by kernel_rfl
 refine wp_region_any mixed (Am3 (RFLJ w i ad ob N cap k px py iq _ _ _ _ _ _ _ _ _ _ _ _ _) ?stRFL ?dnRFL _ _ _ _ ⟨by simp,⟨0,_,_,_,_,_,_,_,_,_,_,_,_,_,rfl,fun h=>by simp at h,fun h=>by simp at h,fun h=>by simp at h,fun h=>by simp at h,fun h=>by simp at h,fun h=>by simp at h,fun h=>by simp at h,fun h=>by simp at h,fun h=>by simp at h,fun h=>by simp at h,fun h=>by simp at h,fun h=>by simp at h,fun h=>by simp at h,hg,fun h=>by simp at h,fun h=>by simp at h,fun h=>by simp at h,fun h=>by simp at h⟩⟩ (by decide))
 case dnRFL =>
  intro L a w' hj hr
  have all:=Am2 hr hj.sz (by kernel_rfl)
  obtain⟨nb,s7,s8,s9,s10,s11,s12,s13,s14,s15,s16,s17,s18,s19,rfl,hv⟩:=hj.fr
  have HF:=hI (And.intro (hv.n13 (all 13 (by omega))) (And.intro hv.bx (hv.b13 (all 12 (by omega)))))
  have e7:=hv.k12 (all 12 (by omega))
  clear all hv hj hr
  subst e7
  have hbn:=HF.out.2.2.1
  have hnn:nb≠w.heap.size:=fun e=>HF.out.2.2.2 _ (List.mem_cons_self ..) e.symm
  have hnn2:nb≠w.heap.size+1:=fun e=>HF.out.2.2.2 (w.heap.size+1,fz) (by simp) e.symm
  have HG3:Hid (BX w [(nb,fobj iq),(w.heap.size,.cells i.cells 27 (0,0)),(w.heap.size+1,fz)] w'):=⟨HF.out.2.1.1,fun x hx=>by
   rcases List.mem_cons.1 hx with rfl|hx
   ·exact HF.out.1
   ·rcases List.mem_cons.1 hx with rfl|hx
    ·exact HF.out.2.1.get 0 rfl
    ·rcases List.mem_cons.1 hx with rfl|hx
     ·exact HF.out.2.1.get 2 rfl
     ·cases hx⟩
  obtain⟨lb,hlb⟩:∃b,((k:Int)==(N:Int)-1)=b:=⟨_,rfl⟩
  have hwn:IntKind.i64.wrap ((N:Int)-1)=(N:Int)-1:=by rw[Aav];omega
  clear HF
  go_upto_if 24 with fail
  go_cut [6] (fun v6 wx=>v6=.pointer (some ⟨w.heap.size+1,0,none⟩)∧BX w [(nb,fobj pq),(w.heap.size,.cells i.cells 27 (0,0)),(w.heap.size+1,fz)] wx)
  case first =>
   cases lb
   case true =>
    have hk1:k+1=N:=by have:=beq_iff_eq.1 hlb;omega
    have hm:iq+fv i.fn i.fd=pq:=by have h:=HPQ.out;rw[if_pos hk1] at h;exact h
    have HAF2:=HAF.out
    rw[hm] at HAF2
    have HAF3:=hI HAF2
    clear HAF2
    have k0:=HG3.out.get 0 rfl
    have m0:=Aaa k0 0
    have m1:=Aaa k0 1
    have c6:=Aaa (HG3.out.get 1 rfl) 6
    have c7:=Aaa (HG3.out.get 1 rfl) 7
    simp[Inst.cells] at m0 m1 c6 c7
    clear k0
    first|rw[hlb]|skip
    go_wp2_with fail
    refine (HAF3.out _).mono ?_
    rintro e w6 ⟨rfl,x6⟩
    have HG4:=hI (HG3.out.below x6)
    clear x6 m0 m1 c6 c7
    have k0:=HG4.out.get 0 rfl
    have m0:=Aaa k0 0
    have m1:=Aaa k0 1
    have f0:=Aaf k0 0
    have f1:=Aaf k0 1
    simp at m0 m1
    clear k0
    go_wp2_with fail
    go_meet
    refine⟨rfl,set2_below hbn HG4.out.1 _ _,fun x hx=>?_⟩
    rcases List.mem_cons.1 hx with rfl|hx
    ·exact Go.Proofs.YteennkgpeiafaaaGreatDoor.set2 (HG4.out.get 0 rfl) _ _
    ·rcases List.mem_cons.1 hx with rfl|hx
     ·exact (set2_far (by omega) _ _).trans (HG4.out.get 1 rfl)
     ·rcases List.mem_cons.1 hx with rfl|hx
      ·exact (set2_far (by omega) _ _).trans (HG4.out.get 2 rfl)
      ·cases hx
   case false =>
    have hk1:k+1≠N:=by have:=Aaj.1 hlb;omega
    have hm:iq=pq:=by have h:=HPQ.out;rw[if_neg hk1,Rat.add_zero] at h;exact h
    have HM:=hI hm
    clear hm
    first|rw[hlb]|skip
    go_wp2_with fail
    go_meet
    refine⟨rfl,?_⟩
    rw[←HM.out]
    exact HG3.out
  case rest =>
  obtain⟨rfl,hg7⟩:=hcut
  have HG7:=hI hg7
  clear hg7 HG3 HAF hwn hlb
  have k0:=HG7.out.get 0 rfl
  have m0:=Aaa k0 0
  have m1:=Aaa k0 1
  have k2:=HG7.out.get 2 rfl
  have r0:=Aaa k2 0
  have r1:=Aaa k2 1
  have f0:=Aaf k2 0
  have f1:=Aaf k2 1
  simp at m0 m1 r0 r1 f0 f1
  have HK2:=hI k2
  clear k0 k2
  go_wp2_with fail
  refine bodyPost_ret (results_cell_row rfl _ _ (w.heap.size+1) _ _ (0,0) _ rfl (Go.Proofs.YteennkgpeiafaaaGreatDoor.set2 HK2.out _ _) Tryz.underlying25 rfl (by kernel_rfl)) rfl ?_
  exact⟨by rw[HPAY.out];rfl,set2_below (by omega) HG7.out.1 _ _⟩
 case stRFL =>
  intro L a w' hj i hi
  obtain⟨hun,o,ho,hall⟩:=mem_ready.1 hi
  have hoff:=Amt hun
  have hlt:=(Aab.1 ho).1
  simp at hlt
  obtain⟨nb,s7,s8,s9,s10,s11,s12,s13,s14,s15,s16,s17,s18,s19,rfl,hv⟩:=hj.fr
  have HV:=hI hv
  have HJ:=hI hj
  clear hv hj
  rcases (show i=0∨i=1∨i=2∨i=3∨i=4∨i=5∨i=6∨i=7∨i=8∨i=9∨i=10∨i=11∨i=12∨i=13 from by omega) with rfl|rfl|rfl|rfl|rfl|rfl|rfl|rfl|rfl|rfl|rfl|rfl|rfl|rfl
  ·simp at ho
   subst ho
   clear hall hi
   have hb:=HV.out.bx.get 0 rfl
   obtain⟨c0,c1,c2,c3,c4,c5,c6,c7,c8,c9,c10,c11,c12,c13,c14⟩:=Acs hb
   try simp[Inst.cells] at c0 c1 c2 c3 c4 c5 c6 c7 c8 c9 c10 c11 c12 c13 c14
   refine Am0 rfl fun K' HK=>?_
   go_simp
   cases HV.out
   refine HK.out _ _ ⟨by simp[HJ.out.sz],?_⟩
   iterate 14 apply Exists.intro
   refine⟨rfl,?_⟩
   constructor
   case k0=>exact fun _=>rfl
   case bx=>exact HV.out.bx
   case o13=>exact Un HV.out.o13
   case q13=>exact Uq hun HV.out.q13
   all_goals exact Um (by assumption)
  ·simp at ho
   subst ho
   clear hall hi
   refine Am0 rfl fun K' HK=>?_
   go_simp
   cases HV.out
   refine HK.out _ _ ⟨by simp[HJ.out.sz],?_⟩
   iterate 14 apply Exists.intro
   refine⟨rfl,?_⟩
   constructor
   case k1=>exact fun _=>rfl
   case bx=>exact HV.out.bx
   case o13=>exact Un HV.out.o13
   case q13=>exact Uq hun HV.out.q13
   all_goals exact Um (by assumption)
  ·simp at ho
   subst ho
   clear hall hi
   refine Am0 rfl fun K' HK=>?_
   go_simp
   cases HV.out
   refine HK.out _ _ ⟨by simp[HJ.out.sz],?_⟩
   iterate 14 apply Exists.intro
   refine⟨rfl,?_⟩
   constructor
   case k2=>exact fun _=>rfl
   case bx=>exact HV.out.bx
   case o13=>exact Un HV.out.o13
   case q13=>exact Uq hun HV.out.q13
   all_goals exact Um (by assumption)
  ·simp at ho
   subst ho
   have h1x:L.getD 1 false=true:=hall {on:=1,ground:=Ground.data} (by simp) (by decide)
   have h2x:L.getD 2 false=true:=hall {on:=2,ground:=Ground.data} (by simp) (by decide)
   have H1:=hI h1x
   have H2:=hI h2x
   clear hall hi h1x h2x
   have e0:=HV.out.k1 H1.out
   subst e0
   have e1:=HV.out.k2 H2.out
   subst e1
   have hki:=HKI.out
   refine Am0 rfl fun K' HK=>?_
   go_simp
   cases HV.out
   refine HK.out _ _ ⟨by simp[HJ.out.sz],?_⟩
   iterate 14 apply Exists.intro
   refine⟨rfl,?_⟩
   constructor
   case k3=>exact fun _=>rfl
   case bx=>exact HV.out.bx
   case o13=>exact Un HV.out.o13
   case q13=>exact Uq hun HV.out.q13
   all_goals exact Um (by assumption)
  ·simp at ho
   subst ho
   have h3x:L.getD 3 false=true:=hall {on:=3,ground:=Ground.data} (by simp) (by decide)
   have H3:=hI h3x
   clear hall hi h3x
   have e0:=HV.out.k3 H3.out
   subst e0
   refine Am0 rfl fun K' HK=>?_
   go_simp
   cases HV.out
   refine HK.out _ _ ⟨by simp[HJ.out.sz],?_⟩
   iterate 14 apply Exists.intro
   refine⟨rfl,?_⟩
   constructor
   case k4=>exact fun _=>rfl
   case bx=>exact HV.out.bx
   case o13=>exact Un HV.out.o13
   case q13=>exact Uq hun HV.out.q13
   all_goals exact Um (by assumption)
  ·simp at ho
   subst ho
   have h4x:L.getD 4 false=true:=hall {on:=4,ground:=Ground.data} (by simp) (by decide)
   have H4:=hI h4x
   clear hall hi h4x
   have e0:=HV.out.k4 H4.out
   subst e0
   obtain⟨cx,cy⟩:=(HRB.out _ (HV.out.bx.get 1 rfl)).2 k (px,py) HPK.out
   simp only at cx cy
   refine Am0 rfl fun K' HK=>?_
   go_simp
   cases HV.out
   refine HK.out _ _ ⟨by simp[HJ.out.sz],?_⟩
   iterate 14 apply Exists.intro
   refine⟨rfl,?_⟩
   constructor
   case k5=>exact fun _=>rfl
   case bx=>exact HV.out.bx
   case o13=>exact Un HV.out.o13
   case q13=>exact Uq hun HV.out.q13
   all_goals exact Um (by assumption)
  ·simp at ho
   subst ho
   clear hall hi
   refine Am0 rfl fun K' HK=>?_
   go_simp
   cases HV.out
   refine HK.out _ _ ⟨by simp[HJ.out.sz],?_⟩
   iterate 14 apply Exists.intro
   refine⟨rfl,?_⟩
   constructor
   case k6=>exact fun _=>rfl
   case bx=>exact HV.out.bx
   case o13=>exact Un HV.out.o13
   case q13=>exact Uq hun HV.out.q13
   all_goals exact Um (by assumption)
  ·simp at ho
   subst ho
   clear hall hi
   refine Am0 rfl fun K' HK=>?_
   go_simp
   cases HV.out
   refine HK.out _ _ ⟨by simp[HJ.out.sz],?_⟩
   iterate 14 apply Exists.intro
   refine⟨rfl,?_⟩
   constructor
   case k7=>exact fun _=>rfl
   case bx=>exact HV.out.bx
   case o13=>exact Un HV.out.o13
   case q13=>exact Uq hun HV.out.q13
   all_goals exact Um (by assumption)
  ·simp at ho
   subst ho
   have h6x:L.getD 6 false=true:=hall {on:=6,ground:=Ground.data} (by simp) (by decide)
   have h7x:L.getD 7 false=true:=hall {on:=7,ground:=Ground.data} (by simp) (by decide)
   have H6:=hI h6x
   have H7:=hI h7x
   clear hall hi h6x h7x
   have e0:=HV.out.k6 H6.out
   subst e0
   have e1:=HV.out.k7 H7.out
   subst e1
   have hki:=HKI.out
   refine Am0 rfl fun K' HK=>?_
   go_simp
   cases HV.out
   refine HK.out _ _ ⟨by simp[HJ.out.sz],?_⟩
   iterate 14 apply Exists.intro
   refine⟨rfl,?_⟩
   constructor
   case k8=>exact fun _=>rfl
   case bx=>exact HV.out.bx
   case o13=>exact Un HV.out.o13
   case q13=>exact Uq hun HV.out.q13
   all_goals exact Um (by assumption)
  ·simp at ho
   subst ho
   have h8x:L.getD 8 false=true:=hall {on:=8,ground:=Ground.data} (by simp) (by decide)
   have H8:=hI h8x
   clear hall hi h8x
   have e0:=HV.out.k8 H8.out
   subst e0
   refine Am0 rfl fun K' HK=>?_
   go_simp
   cases HV.out
   refine HK.out _ _ ⟨by simp[HJ.out.sz],?_⟩
   iterate 14 apply Exists.intro
   refine⟨rfl,?_⟩
   constructor
   case k9=>exact fun _=>rfl
   case bx=>exact HV.out.bx
   case o13=>exact Un HV.out.o13
   case q13=>exact Uq hun HV.out.q13
   all_goals exact Um (by assumption)
  ·simp at ho
   subst ho
   have h9x:L.getD 9 false=true:=hall {on:=9,ground:=Ground.data} (by simp) (by decide)
   have H9:=hI h9x
   clear hall hi h9x
   have e0:=HV.out.k9 H9.out
   subst e0
   obtain⟨cx,cy⟩:=(HRB.out _ (HV.out.bx.get 1 rfl)).2 k (px,py) HPK.out
   simp only at cx cy
   refine Am0 rfl fun K' HK=>?_
   go_simp
   cases HV.out
   refine HK.out _ _ ⟨by simp[HJ.out.sz],?_⟩
   iterate 14 apply Exists.intro
   refine⟨rfl,?_⟩
   constructor
   case k10=>exact fun _=>rfl
   case bx=>exact HV.out.bx
   case o13=>exact Un HV.out.o13
   case q13=>exact Uq hun HV.out.q13
   all_goals exact Um (by assumption)
  ·simp at ho
   subst ho
   have h0x:L.getD 0 false=true:=hall {on:=0,ground:=Ground.data} (by simp) (by decide)
   have h5x:L.getD 5 false=true:=hall {on:=5,ground:=Ground.data} (by simp) (by decide)
   have h10x:L.getD 10 false=true:=hall {on:=10,ground:=Ground.data} (by simp) (by decide)
   have H0:=hI h0x
   have H5:=hI h5x
   have H10:=hI h10x
   clear hall hi h0x h5x h10x
   have e0:=HV.out.k0 H0.out
   subst e0
   have e1:=HV.out.k5 H5.out
   subst e1
   have e2:=HV.out.k10 H10.out
   subst e2
   refine Am0 rfl fun K' HK=>?_
   go_simp
   refine (HIN.out _ HV.out.bx).mono ?_
   rintro e wn ⟨rfl,hbn⟩
   cases HV.out
   refine HK.out _ _ ⟨by simp[HJ.out.sz],?_⟩
   iterate 14 apply Exists.intro
   refine⟨rfl,?_⟩
   constructor
   case k11=>exact fun _=>rfl
   case bx=>exact HV.out.bx.below hbn
   case o13=>exact fun h j=>bkeep hbn (HV.out.o13 (Amv h) (Amw j))
   case n13=>exact fun h=>bkeep hbn (HV.out.n13 (Amv h))
   case q13=>exact Uq hun HV.out.q13
   all_goals exact Um (by assumption)
  ·simp at ho
   subst ho
   clear hall hi
   refine Am0 rfl fun K' HK=>?_
   go_simp
   cases HV.out
   refine HK.out _ _ ⟨by simp[HJ.out.sz],w'.heap.size,?_⟩
   iterate 13 apply Exists.intro
   refine⟨rfl,?_⟩
   constructor
   case k12=>exact fun _=>rfl
   case bx=>exact HV.out.bx.below ((Below.refl _ w').alloc (Aad _) _)
   case o13=>exact fun _ _=>Aa0 w' _
   case b13=>exact fun _=>⟨HV.out.bx.1.size,fun x hx e=>by have:=(Aab.1 (HV.out.bx.2 x hx)).1;omega⟩
   case n13=>exact fun h=>(Amx hoff (HV.out.q13 (Amv h))).elim
   case q13=>exact Uq hun HV.out.q13
   all_goals exact Um (by assumption)
  ·simp at ho
   subst ho
   have h12x:L.getD 12 false=true:=hall {on:=12,ground:=Ground.data} (by simp) (by decide)
   have h11x:L.getD 11 false=true:=hall {on:=11,ground:=Ground.data} (by simp) (by decide)
   have H12:=hI h12x
   have H11:=hI h11x
   clear hall hi h12x h11x
   have e0:=HV.out.k12 H12.out
   subst e0
   have e1:=HV.out.k11 H11.out
   subst e1
   have hko:=HV.out.o13 H12.out hoff
   have m0:=Aaa hko 0;have m1:=Aaa hko 1;have f0:=Aaf hko 0;have f1:=Aaf hko 1
   simp at m0 m1 f0 f1
   refine Am0 rfl fun K' HK=>?_
   go_simp
   cases HV.out
   refine HK.out _ _ ⟨by simp[HJ.out.sz],?_⟩
   iterate 14 apply Exists.intro
   refine⟨rfl,?_⟩
   constructor
   case bx=>exact HV.out.bx.far (b:=nb) (HV.out.b13 H12.out).1 (HV.out.b13 H12.out).2 _ _
   case o13=>exact fun _ h=>(Amx h (Amr hun)).elim
   case b13=>exact fun _=>HV.out.b13 H12.out
   case n13=>exact fun _=>set2 hko _ _
   case q13=>exact fun _=>Amu hun H12.out
   all_goals exact Um (by assumption)
theorem At8(ad:Addr)(l:List (Int×Int))(N c:Nat)(d:Int)(hN:l.length=N)(hm:N≤1000000)(w:World)(hR:RdP w ad l):
 Calls Tryz.prog 71 #[.slice (some ad) N c,.int .i64 d] w fun e w'=>((∃k:Nat,k<N∧atZ l d=(k:Int)∧e=.returned (.tuple #[.int .i64 (k:Int),.bool true]))∨(atZ l d=-1∧e=.returned (.tuple #[.int .i64 0,.bool false])))∧w=w':=by
 have HR:=hI hR
 have HNN:=hI hN
 clear hR hN
 go_enter Tryz.func71,Tryz.ntmps71
 go_wp2_with fail
 go_loop [6] (fun v=>∃k:Nat,v=.int .i64 (k:Int)∧k≤N∧Hid (∀x∈l.take k,inP d x=false)) (fun v=>N-(intOf v).toNat)
 case atStart=>exact⟨0,rfl,by omega,fun p hp=>by simp at hp⟩
 case round =>
  obtain⟨k,rfl,hk,HNO⟩:=hrel
  rcases Aam k N with hlt|hge
  ·obtain⟨⟨px,py⟩,hp⟩:∃p,l[k]?=some p:=⟨_,Aae (by rw[HNN.out];exact hlt)⟩
   have hcx:decide ((k:Int)<(N:Int))=true:=by simp;omega
   have hki:(k:Int)<(N:Int):=by omega
   obtain⟨c0,c1⟩:=HR.out.2 k _ hp
   simp only at c0 c1
   have HTK:Hid (l.take (k+1)=l.take k++[(px,py)]):=by show _=_;rw[List.take_add_one,hp];rfl
   have HP:=hI hp
   clear hp
   by_cases hpp:inP d (px,py)=true
   ·have HF:Hid (atZ l d=(k:Int)):=Apn HP.out hpp HNO.out
    unfold inP at hpp
    rw[Bool.and_eq_true] at hpp
    obtain⟨t1,t2⟩:=hpp
    simp only at t1 t2
    go_wp2_with fail
    refine bodyPost_ret (v:=.tuple #[.int .i64 (k:Int),.bool true]) (by simp[results,Tryz.results71,go_sem]) rfl ?_
    exact⟨.inl ⟨k,hlt,HF.out,rfl⟩,rfl⟩
   ·have HE:Hid (inP d (px,py)=false):=by show _=_;rwa [←Bool.not_eq_true]
    have hb:decide (px≤d)=false∨(decide (px≤d)=true∧decide (d<py)=false):=by
     rcases Int.lt_or_le d px with h|h
     ·exact .inl (Aaz (by omega))
     ·refine .inr ⟨Aay h,Aaz (fun h2=>hpp ?_)⟩
      unfold inP
      rw[Aay h,Aay h2]
      rfl
    clear hpp
    have hstep:∀x∈l.take (k+1),inP d x=false:=fun x hx=>by
     rw[HTK.out,List.mem_append] at hx
     rcases hx with hx|hx
     ·exact HNO.out x hx
     ·rw[List.mem_singleton] at hx;subst hx;exact HE.out
    have HST:=hI hstep
    clear hstep
    rcases hb with t1|⟨t1,t2⟩
    ·go_wp2_with fail
     go_round
     case rel=>exact⟨k+1,by go_num,by omega,HST.out⟩
     case measure=>simp[intOf];omega
    ·go_wp2_with fail
     go_round
     case rel=>exact⟨k+1,by go_num,by omega,HST.out⟩
     case measure=>simp[intOf];omega
  ·have hcx:decide ((k:Int)<(N:Int))=false:=by simp;omega
   have HF:Hid (atZ l d=-1):=App (fun x hx=>HNO.out x (by rw[Aai (by rw[HNN.out];exact hge)];exact hx))
   go_wp2_with fail
   refine bodyPost_ret (v:=.tuple #[.int .i64 0,.bool false]) (by simp[results,Tryz.results71,go_sem]) rfl ?_
   exact⟨.inr ⟨HF.out,rfl⟩,rfl⟩
structure RAOV(w:World)(i:Inst)(ad:Addr)(ob:Obj)(N cap k:Nat)(px py d:Int)(iq:Rat)  (L:Array Bool) (W:World) (s18 s19 s20 s21 s22 s23 s24 s25:Value):Prop where
 k0:L.getD 0 false=true→s18=.agg #[.string i.id,.int .i64 i.kind,.string i.cur,.int .i64 i.places,.int .i64 i.issued,.int .i64 i.matures,.string i.fn,.string i.fd,.string i.cn,.string i.cd,.int .i64 i.months,.int .i64 i.count,.string i.other,.string i.sn,.string i.sd]
 k1:L.getD 1 false=true→s19=.slice (some ad) N cap
 k2:L.getD 2 false=true→s20=.int .i64 (k:Int)
 k3:L.getD 3 false=true→s21=.pointer (some (ad.add (k*2)))
 k4:L.getD 4 false=true→s22=.pointer (some (ad.add (k*2)))
 k5:L.getD 5 false=true→s23=.int .i64 px
 k6:L.getD 6 false=true→s24=.int .i64 d
 k7:L.getD 7 false=true→s25=.agg #[.string (I iq.num),.string (dn iq)]
 bx:BX w [(w.heap.size,.cells i.cells 27 (0,0)),(ad.block,ob)] W
 o8:L.getD 8 false=false→W.heap[w.heap.size+1]?=some (fz)
 n8:L.getD 8 false=true→W.heap[w.heap.size+1]?=some (fobj iq)
structure RAOJ(w:World)(i:Inst)(ad:Addr)(ob:Obj)(N cap k:Nat)(px py d:Int)(iq:Rat)(x0 x4 x5 x8 x9 x10 x11 x12 x13 x14 x15 x16 x17:Value)(L:Array Bool)(a:Act)(W:World):Prop where
 sz:L.size=9
 fr:∃s18 s19 s20 s21 s22 s23 s24 s25:Value,a={tmps:=#[x0,.slice (some ad) N cap,.int .i64 d,.pointer (some ⟨w.heap.size,0,none⟩),x4,x5,.pointer (some ⟨w.heap.size+1,0,none⟩),.int .i64 (k:Int),x8,x9,x10,x11,x12,x13,x14,x15,x16,x17,s18,s19,s20,s21,s22,s23,s24,s25],defers:=[]}∧RAOV w i ad ob N cap k px py d iq  L W s18 s19 s20 s21 s22 s23 s24 s25
theorem At9(i:Inst)(h:BdI i)(ad:Addr)(N cap:Nat)(d:Int)(hd:okDay d)(hN:(perL i).length=N)(hN4:N≤1000)(w:World)(hR:RdP w ad (perL i)):
 Calls Tryz.prog 78 #[i.enc,.slice (some ad) N cap,.int .i64 d] w fun e w'=>e=.returned (fenc (accQ i d))∧Below w.heap.size w w':=by
 have HH:=hI h
 have HDD:=hI hd
 have HNN:=hI hN
 have HZ:=hI fenc_zero
 obtain⟨ob,hob,hrb⟩:=hR.box
 obtain⟨W0,hW0',hB0,hz,k0,k1⟩:=box2 w (.cells i.cells 27) fz
 have hW0:=hW0'.symm
 have hlt:ad.block<w.heap.size:=hR.1
 have hg0:BX w [(w.heap.size,.cells i.cells 27 (0,0)),(w.heap.size+1,fz),(ad.block,ob)] W0:=⟨hB0,fun x hx=>by
  rcases List.mem_cons.1 hx with rfl|hx
  ·exact k0
  ·rcases List.mem_cons.1 hx with rfl|hx
   ·exact k1
   ·rcases List.mem_cons.1 hx with rfl|hx
    ·exact bkeep hB0 hob
    ·cases hx⟩
 have HRB:Hid (∀W':World,W'.heap[ad.block]?=some ob→RdP W' ad (perL i)):=hrb
 have HLT:=hI hlt
 have HIX:=hI (fun W (hW:W.heap[ad.block]?=some ob)=>At8 ad (perL i) N cap d hN (by omega) W (hrb W hW))
 obtain⟨c0,c1,c2,c3,c4,c5,c6,c7,c8,c9,c10,c11,c12,c13,c14⟩:=Acs k0
 try simp[Inst.cells] at c0 c1 c2 c3 c4 c5 c6 c7 c8 c9 c10 c11 c12 c13 c14
 have HG0:=hI hg0
 clear hB0 hz k0 k1 hW0' h hd hN hR hob hrb hlt hg0
 unfold Inst.enc Inst.cells at *
 go_enter Tryz.func78,Tryz.ntmps78
 go_wp2_with fail
 refine (HIX.out _ (HG0.out.get 2 rfl)).mono ?_
 rintro e w1 ⟨hr,rfl⟩
 clear hW0 c0 c1 c2 c3 c4 c5 c6 c7 c8 c9 c10 c11 c12 c13 c14
 rcases hr with⟨k,hkN,hat,rfl⟩|⟨hat,rfl⟩
 ·obtain⟨⟨px,py⟩,hp⟩:∃p,(perL i)[k]?=some p:=⟨_,Aae (by rw[HNN.out];exact hkN)⟩
  have HPK:=hI hp
  have HACC:=hI (Ap2 hat hp)
  have hpx:=HH.out.per (Aar hp)
  have hle:px≤d:=by
   rcases Apq (perL i) d with⟨k',p',e1,e2,e3,_⟩|e1
   ·rw[hat] at e1
    obtain rfl:k=k':=by omega
    rw[hp] at e2
    cases e2
    exact e3
   ·rw[hat] at e1;omega
  have hIN:=fun W=>At6 i HH.out px d hpx.1 HDD.out hle W
  obtain⟨iq,hiq⟩:∃iq,intQ i px d=iq:=⟨_,rfl⟩
  simp only at HACC
  rw[hiq] at hIN HACC
  unfold fenc at hIN
  have HIN:Hid (∀W,BX w [(w.heap.size,.cells i.cells 27 (0,0)),(ad.block,ob)] W→Calls Tryz.prog 87 #[.agg #[.string i.id,.int .i64 i.kind,.string i.cur,.int .i64 i.places,.int .i64 i.issued,.int .i64 i.matures,.string i.fn,.string i.fd,.string i.cn,.string i.cd,.int .i64 i.months,.int .i64 i.count,.string i.other,.string i.sn,.string i.sd],.int .i64 px,.int .i64 d] W fun e w'=>e=.returned (.agg #[.string (I iq.num),.string (dn iq)])∧Below W.heap.size W w'):=fun W _=>hIN W
  have hg:BX w [(w.heap.size,.cells i.cells 27 (0,0)),(ad.block,ob)] W0.drew:=⟨HG0.out.1.drew,fun z hz=>by
   rcases List.mem_cons.1 hz with rfl|hz
   ·exact HG0.out.get 0 rfl
   ·rcases List.mem_cons.1 hz with rfl|hz
    ·exact HG0.out.get 2 rfl
    ·cases hz⟩
  have hko8:W0.drew.heap[w.heap.size+1]?=some fz:=HG0.out.get 1 rfl
  have HKI:Hid ((k:Int)<(N:Int)):=by show (k:Int)<(N:Int);omega
  have habl:=HLT.out
  clear hat hp hpx hle hIN hiq
  go_wp2_with fail
  have mixed:Tryz.prog.follows .mixedOrders=true:=by kernel_rfl
  refine wp_region_any mixed (Am3 (RAOJ w i ad ob N cap k px py d iq _ _ _ _ _ _ _ _ _ _ _ _ _) ?stRAO ?dnRAO _ _ _ _ ⟨by simp,⟨_,_,_,_,_,_,_,_,rfl,fun h=>by simp at h,fun h=>by simp at h,fun h=>by simp at h,fun h=>by simp at h,fun h=>by simp at h,fun h=>by simp at h,fun h=>by simp at h,fun h=>by simp at h,hg,fun _=>hko8,fun h=>by simp at h⟩⟩ (by decide))
  case dnRAO =>
   intro L a w' hj hr
   have all:=Am2 hr hj.sz (by kernel_rfl)
   obtain⟨s18,s19,s20,s21,s22,s23,s24,s25,rfl,hv⟩:=hj.fr
   have HF:=hI (And.intro (hv.n8 (all 8 (by omega))) hv.bx.1)
   clear all hv hj hr
   go_wp2_with fail
   refine bodyPost_ret (results_cell_row rfl _ _ (w.heap.size+1) _ _ (0,0) _ rfl HF.out.1 Tryz.underlying25 rfl (by kernel_rfl)) rfl ?_
   exact⟨by rw[HACC.out];rfl,HF.out.2⟩
  case stRAO =>
   intro L a w' hj i hi
   obtain⟨hun,o,ho,hall⟩:=mem_ready.1 hi
   have hoff:=Amt hun
   have hlt:=(Aab.1 ho).1
   simp at hlt
   obtain⟨s18,s19,s20,s21,s22,s23,s24,s25,rfl,hv⟩:=hj.fr
   have HV:=hI hv
   have HJ:=hI hj
   clear hv hj
   rcases (show i=0∨i=1∨i=2∨i=3∨i=4∨i=5∨i=6∨i=7∨i=8 from by omega) with rfl|rfl|rfl|rfl|rfl|rfl|rfl|rfl|rfl
   all_goals simp at ho
   all_goals subst ho
   have hb:=HV.out.bx.get 0 rfl
   obtain⟨c0,c1,c2,c3,c4,c5,c6,c7,c8,c9,c10,c11,c12,c13,c14⟩:=Acs hb
   try simp[Inst.cells] at c0 c1 c2 c3 c4 c5 c6 c7 c8 c9 c10 c11 c12 c13 c14
   rotate_left
   rotate_left
   rotate_left
   cases HV.out.k1 (Hq hall 1).out
   cases HV.out.k2 (Hq hall 2).out
   have hki:=HKI.out
   rotate_left
   cases HV.out.k3 (Hq hall 3).out
   rotate_left
   cases HV.out.k4 (Hq hall 4).out
   obtain⟨cx,cy⟩:=(HRB.out _ (HV.out.bx.get 1 rfl)).2 k (px,py) HPK.out
   simp only at cx cy
   rotate_left
   rotate_left
   ·cases HV.out.k0 (Hq hall 0).out
    cases HV.out.k5 (Hq hall 5).out
    cases HV.out.k6 (Hq hall 6).out
    clear hall hi
    refine Am0 rfl fun K' HK=>?_
    go_simp
    refine (HIN.out _ HV.out.bx).mono ?_
    rintro e wn ⟨rfl,hbn⟩
    cases HV.out
    refine HK.out _ _ ⟨by simp[HJ.out.sz],⟨_,_,_,_,_,_,_,_,rfl,?_,?_,?_,?_,?_,?_,?_,fun _=>rfl,HV.out.bx.below hbn,fun h=>bkeep hbn (HV.out.o8 (Amw h)),fun h=>bkeep hbn (HV.out.n8 (Amv h))⟩⟩
    all_goals exact Um (by assumption)
   ·cases HV.out.k7 (Hq hall 7).out
    clear hall hi
    have hko:=HV.out.o8 hoff
    have m0:=Aaa hko 0;have m1:=Aaa hko 1;have f0:=Aaf hko 0;have f1:=Aaf hko 1
    simp at m0 m1 f0 f1
    refine Am0 rfl fun K' HK=>?_
    go_simp
    cases HV.out
    refine HK.out _ _ ⟨by simp[HJ.out.sz],⟨_,_,_,_,_,_,_,_,rfl,?_,?_,?_,?_,?_,?_,?_,?_,HV.out.bx.far (b:=w.heap.size+1) (by omega) (by simp<;>omega) _ _,fun h=>(Amx h (Amr hun)).elim,fun _=>set2 hko _ _⟩⟩
    all_goals exact Um (by assumption)
   all_goals
    clear hall hi
    refine Am0 rfl fun K' HK=>?_
    go_simp
    cases HV.out
    refine HK.out _ _ ⟨by simp[HJ.out.sz],?_⟩
    iterate 8 apply Exists.intro
    refine⟨rfl,?_⟩
    constructor
    all_goals first|exact Um (by assumption)|exact Un (by assumption)|exact Uf (by assumption)|exact fun _=>rfl|assumption
 ·have HAQ:=hI (Ap3 hat)
  have k2:=HG0.out.get 1 rfl
  have m0:=Aaa k2 0
  have m1:=Aaa k2 1
  have f0:=Aaf k2 0
  have f1:=Aaf k2 1
  simp at m0 m1 f0 f1
  have HK2:=hI k2
  clear k2 hat
  go_wp2_with fail
  refine bodyPost_ret (results_cell_row rfl _ _ (w.heap.size+1) _ _ (0,0) _ rfl (Go.Proofs.YteennkgpeiafaaaGreatDoor.set2 HK2.out _ _) Tryz.underlying25 rfl (by kernel_rfl)) rfl ?_
  exact⟨by rw[HAQ.out,HZ.out],set2_below (by omega) HG0.out.1 _ _⟩
end Go.Proofs.YteennkgpeiafaaaGreatDoor
