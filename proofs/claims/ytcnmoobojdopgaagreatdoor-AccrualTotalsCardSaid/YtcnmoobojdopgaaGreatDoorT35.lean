/-
  The walks of trancheref02.Quo,trancheref11.Interest,flow,index,AccruedOn,day. (Printed by gen_rb4.py.)
-/
import Derived.Test.YtcnmoobojdopgaaGreatDoorT34
import Derived.Test.YtcnmoobojdopgaaGreatDoorT30
import Derived.Deep.DeepCutAuto
set_option linter.unusedVariables false
set_option linter.unusedSimpArgs false
set_option maxHeartbeats 16000000
set_option maxRecDepth 100000
namespace Go.Proofs.YtcnmoobojdopgaaGreatDoor
open Go.RowKit Tr Go.Shelf
attribute [local go_sem] Oper.semAt_some
theorem Awg(d:Int)(w:World):Calls Tryz.prog 176 #[.int .i64 d] w fun e w'=>e=.returned (.bool (propB (okDay d)))∧w=w':=by
 by_cases h0:-25567≤d
 ·have t1:decide (d≥-25567)=true:=Aax h0
  have t1':decide (-25567≤d)=true:=Aax h0
  by_cases h1:d≤84005
  ·have t2:decide (d≤84005)=true:=Aax h1
   have HP:Hid (propB (okDay d)=true):=propB_iff.2 ⟨h0,h1⟩
   clear h0 h1
   go_enter Tryz.func176,Tryz.ntmps176
   go_wp2_with fail
   go_ret
   exact⟨by rw[HP.out];first|rfl|simp[*],rfl⟩
  ·have t2:decide (d≤84005)=false:=Aay h1
   have HP:Hid (propB (okDay d)=false):=Au3 (fun h=>h1 h.2)
   clear h0 h1
   go_enter Tryz.func176,Tryz.ntmps176
   go_wp2_with fail
   go_ret
   exact⟨by rw[HP.out];first|rfl|simp[*],rfl⟩
 ·have t1:decide (d≥-25567)=false:=Aay h0
  have t1':decide (-25567≤d)=false:=Aay h0
  have HP:Hid (propB (okDay d)=false):=Au3 (fun h=>h0 h.1)
  clear h0
  go_enter Tryz.func176,Tryz.ntmps176
  go_wp2_with fail
  go_ret
  exact⟨by rw[HP.out];first|rfl|simp[*],rfl⟩
structure RNV(w:World)(i:Inst)(nb:Nat)(part m1 rq:Rat)  (L:Array Bool) (W:World) (s17 s18 s19 s20 s21 s22 s23:Value):Prop where
 k0:L.getD 0 false=true→s17=.pointer (some ⟨w.heap.size,6,none⟩)
 k1:L.getD 1 false=true→s18=.agg #[.string i.fn,.string i.fd]
 k2:L.getD 2 false=true→s19=.pointer (some ⟨w.heap.size,8,none⟩)
 k3:L.getD 3 false=true→s20=.agg #[.string i.cn,.string i.cd]
 k4:L.getD 4 false=true→s21=.agg #[.string (I m1.num),.string (dn m1)]
 k5:L.getD 5 false=true→s22=.agg #[.string (I part.num),.string (dn part)]
 k6:L.getD 6 false=true→s23=.agg #[.string (I rq.num),.string (dn rq)]
 bx:BX w [(w.heap.size,.cells i.cells 27 (0,0)),(nb,fobj part)] W
 o7:L.getD 7 false=false→W.heap[w.heap.size+1]?=some (fz)
 n7:L.getD 7 false=true→W.heap[w.heap.size+1]?=some (fobj rq)
structure RNJ(w:World)(i:Inst)(nb:Nat)(part m1 rq:Rat)(x0 x1 x2 x4 x5 x8 x9 x10 x11 x12 x13 x14 x15 x16:Value)(L:Array Bool)(a:Act)(W:World):Prop where
 sz:L.size=8
 fr:∃s17 s18 s19 s20 s21 s22 s23:Value,a={tmps:=#[x0,x1,x2,.pointer (some ⟨w.heap.size,0,none⟩),x4,x5,.pointer (some ⟨w.heap.size+1,0,none⟩),.pointer (some ⟨nb,0,none⟩),x8,x9,x10,x11,x12,x13,x14,x15,x16,s17,s18,s19,s20,s21,s22,s23],defers:=[]}∧RNV w i nb part m1 rq  L W s17 s18 s19 s20 s21 s22 s23
theorem Awh(i:Inst)(h:BdI i)(a b:Int)(ha:okDay a)(hb:okDay b)(hab:a≤b)(w:World):
 Calls Tryz.prog 237 #[i.enc,.int .i64 a,.int .i64 b] w fun e w'=>e=.returned (fenc (intQ i a b))∧Below w.heap.size w w':=by
 have HFR:=hI (fun W=>Awf i.count a b h.cnt.1 h.cnt.2 ha hb hab W)
 have hf:=h.fQ
 have hc:=h.cQ
 unfold CanQ at hf hc
 have B1:BdQ (fv i.fn i.fd) 60:=(fv_bd _ _ h.f1 (by have:=h.f2;omega)).mono (by omega)
 have B2:BdQ (fv i.cn i.cd) 60:=(fv_bd _ _ h.c1 (by have:=h.c2;omega)).mono (by omega)
 have C1:=fun W=>Aq1 B1 B2 (by omega) W
 have C2:=fun W=>Aq1 (k:=60) ((fc_bd h).mono (by omega)) ((Atm (c:=i.count) ha hb).mono (by omega)) (by omega) W
 have hq:fv i.fn i.fd*fv i.cn i.cd*dcF i.count a b=intQ i a b:=rfl
 unfold fenc at C1
 rw[←hf.1,←hf.2,←hc.1,←hc.2] at C1
 obtain⟨rq,hrq⟩:∃rq,intQ i a b=rq:=⟨_,rfl⟩
 obtain⟨m1,hm1⟩:∃m1,fv i.fn i.fd*fv i.cn i.cd=m1:=⟨_,rfl⟩
 obtain⟨part,hpart⟩:∃part,dcF i.count a b=part:=⟨_,rfl⟩
 have HQ:=hI hrq
 rw[hq,hrq,hm1,hpart] at C2
 rw[hm1] at C1
 rw[hpart] at HFR
 unfold fenc at C2 HFR
 have D1:=hI C1
 have D2:=hI C2
 clear C1 C2 h ha hb hab hq hrq hm1 hpart hf hc B1 B2
 obtain⟨W0,hW0',hB0,hz,k0,k1⟩:=box2 w (.cells i.cells 27) fz
 have hW0:=hW0'.symm
 have hg0:BX w [(w.heap.size,.cells i.cells 27 (0,0)),(w.heap.size+1,fz)] W0:=⟨hB0,fun x hx=>by
  rcases List.mem_cons.1 hx with rfl|hx
  ·exact k0
  ·rcases List.mem_cons.1 hx with rfl|hx
   ·exact k1
   ·cases hx⟩
 have c9:=Aaa k0 11
 simp[Inst.cells] at c9
 clear hB0 hz k0 k1 hW0'
 unfold Inst.enc Inst.cells at *
 go_enter Tryz.func237,Tryz.ntmps237
 go_wp2_with fail
 refine (HFR.out _).mono ?_
 rintro e w1 ⟨rfl,x1⟩
 have hg1:=hg0.below x1
 clear hg0 x1 hW0 c9
 go_wp2_with fail
 have hg2:=hg1.push (fobj part)
 obtain⟨W2,hW2⟩:∃W2,w1.alloc (fobj part)=W2:=⟨_,rfl⟩
 have hnb:w1.heap.size≠w.heap.size+1:=by have:=hg1.lt 1 rfl;omega
 generalize w1.heap.size=nb at hg2 hnb ⊢
 rw[hW2] at hg2 ⊢
 have HM1:Hid (∀W,BX w [(w.heap.size,.cells i.cells 27 (0,0)),(nb,fobj part)] W→Calls Tryz.prog 123 #[.agg #[.string i.fn,.string i.fd],.agg #[.string i.cn,.string i.cd]] W fun e w'=>e=.returned (.agg #[.string (I m1.num),.string (dn m1)])∧Below W.heap.size W w'):=fun W _=>D1.out W
 have HM2:Hid (∀W,BX w [(w.heap.size,.cells i.cells 27 (0,0)),(nb,fobj part)] W→Calls Tryz.prog 123 #[.agg #[.string (I m1.num),.string (dn m1)],.agg #[.string (I part.num),.string (dn part)]] W fun e w'=>e=.returned (.agg #[.string (I rq.num),.string (dn rq)])∧Below W.heap.size W w'):=fun W _=>D2.out W
 have hg:BX w [(w.heap.size,.cells i.cells 27 (0,0)),(nb,fobj part)] W2.drew:=⟨hg2.1.drew,fun z hz=>by
  rcases List.mem_cons.1 hz with rfl|hz
  ·exact hg2.get 1 rfl
  ·rcases List.mem_cons.1 hz with rfl|hz
   ·exact hg2.get 0 rfl
   ·cases hz⟩
 have hko7:W2.drew.heap[w.heap.size+1]?=some fz:=hg2.get 2 rfl
 clear hg1 hg2 hW2 D1 D2 HFR
 have mixed:Tryz.prog.follows .mixedOrders=true:=by kernel_rfl
 refine wp_region_any mixed (Arn (RNJ w i nb part m1 rq _ _ _ _ _ _ _ _ _ _ _ _ _ _) ?stRN ?dnRN _ _ _ _ ⟨by simp,⟨_,_,_,_,_,_,_,rfl,fun h=>by simp at h,fun h=>by simp at h,fun h=>by simp at h,fun h=>by simp at h,fun h=>by simp at h,fun h=>by simp at h,fun h=>by simp at h,hg,fun _=>hko7,fun h=>by simp at h⟩⟩ (by decide))
 case dnRN =>
  intro L a w' hj hr
  have all:=Aqb hr hj.sz (by kernel_rfl)
  obtain⟨s17,s18,s19,s20,s21,s22,s23,rfl,hv⟩:=hj.fr
  have HF:=hI (And.intro (hv.n7 (all 7 (by omega))) hv.bx.1)
  clear all hv hj hr
  go_wp2_with fail
  refine bodyPost_ret (results_cell_row rfl _ _ (w.heap.size+1) _ _ (0,0) _ rfl HF.out.1 Tryz.underlying25 rfl (by kernel_rfl)) rfl ?_
  exact⟨by rw[HQ.out];rfl,HF.out.2⟩
 case stRN =>
  intro L a w' hj i hi
  obtain⟨hun,o,ho,hall⟩:=mem_ready.1 hi
  have hoff:=Ap2 hun
  have hlt:=(Aab.1 ho).1
  simp at hlt
  obtain⟨s17,s18,s19,s20,s21,s22,s23,rfl,hv⟩:=hj.fr
  have HV:=hI hv
  have HJ:=hI hj
  clear hv hj
  rcases (show i=0∨i=1∨i=2∨i=3∨i=4∨i=5∨i=6∨i=7 from by omega) with rfl|rfl|rfl|rfl|rfl|rfl|rfl|rfl
  all_goals simp at ho
  all_goals subst ho
  rotate_left
  cases HV.out.k0 (Hq hall 0).out
  have hb:=HV.out.bx.get 0 rfl;have c6:=Aaa hb 6;have c7:=Aaa hb 7
  simp[Inst.cells] at c6 c7
  rotate_left
  rotate_left
  cases HV.out.k2 (Hq hall 2).out
  have hb:=HV.out.bx.get 0 rfl;have c6:=Aaa hb 8;have c7:=Aaa hb 9
  simp[Inst.cells] at c6 c7
  rotate_left
  ·cases HV.out.k1 (Hq hall 1).out
   cases HV.out.k3 (Hq hall 3).out
   clear hall hi
   refine Ap9 rfl fun K' HK=>?_
   go_simp
   refine (HM1.out _ HV.out.bx).mono ?_
   rintro e wn ⟨rfl,hbn⟩
   cases HV.out
   refine HK.out _ _ ⟨by simp[HJ.out.sz],⟨_,_,_,_,_,_,_,rfl,?_,?_,?_,?_,fun _=>rfl,?_,?_,HV.out.bx.below hbn,fun h=>bkeep hbn (HV.out.o7 (Ap5 h)),fun h=>bkeep hbn (HV.out.n7 (Ap4 h))⟩⟩
   all_goals exact Um (by assumption)
  have hb:=HV.out.bx.get 1 rfl;have c6:=Aaa hb 0;have c7:=Aaa hb 1
  simp at c6 c7
  rotate_left
  ·cases HV.out.k4 (Hq hall 4).out
   cases HV.out.k5 (Hq hall 5).out
   clear hall hi
   refine Ap9 rfl fun K' HK=>?_
   go_simp
   refine (HM2.out _ HV.out.bx).mono ?_
   rintro e wn ⟨rfl,hbn⟩
   cases HV.out
   refine HK.out _ _ ⟨by simp[HJ.out.sz],⟨_,_,_,_,_,_,_,rfl,?_,?_,?_,?_,?_,?_,fun _=>rfl,HV.out.bx.below hbn,fun h=>bkeep hbn (HV.out.o7 (Ap5 h)),fun h=>bkeep hbn (HV.out.n7 (Ap4 h))⟩⟩
   all_goals exact Um (by assumption)
  ·cases HV.out.k6 (Hq hall 6).out
   clear hall hi
   have hko:=HV.out.o7 hoff
   have m0:=Aaa hko 0;have m1:=Aaa hko 1;have f0:=Aaf hko 0;have f1:=Aaf hko 1
   simp at m0 m1 f0 f1
   refine Ap9 rfl fun K' HK=>?_
   go_simp
   cases HV.out
   refine HK.out _ _ ⟨by simp[HJ.out.sz],⟨_,_,_,_,_,_,_,rfl,?_,?_,?_,?_,?_,?_,?_,HV.out.bx.far (b:=w.heap.size+1) (by omega) (by simp<;>omega) _ _,fun h=>(Ap6 h (Ap0 hun)).elim,fun _=>set2 hko _ _⟩⟩
   all_goals exact Um (by assumption)
  all_goals
   clear hall hi
   refine Ap9 rfl fun K' HK=>?_
   go_simp
   cases HV.out
   refine HK.out _ _ ⟨by simp[HJ.out.sz],?_⟩
   iterate 7 apply Exists.intro
   refine⟨rfl,?_⟩
   constructor
   all_goals first|exact Um (by assumption)|exact Un (by assumption)|exact Uf (by assumption)|exact fun _=>rfl|assumption
theorem Awi(ad:Addr)(l:List (Int×Int))(N c:Nat)(d:Int)(hN:l.length=N)(hm:N≤1000000)(w:World)(hR:RdP w ad l):
 Calls Tryz.prog 236 #[.slice (some ad) N c,.int .i64 d] w fun e w'=>((∃k:Nat,k<N∧atZ l d=(k:Int)∧e=.returned (.tuple #[.int .i64 (k:Int),.bool true]))∨(atZ l d=-1∧e=.returned (.tuple #[.int .i64 0,.bool false])))∧w=w':=by
 have HR:=hI hR
 have HNN:=hI hN
 clear hR hN
 go_enter Tryz.func236,Tryz.ntmps236
 go_wp2_with fail
 go_loop [6] (fun v=>∃k:Nat,v=.int .i64 (k:Int)∧k≤N∧Hid (∀x∈l.take k,inP d x=false)) (fun v=>N-(intOf v).toNat)
 case atStart=>exact⟨0,rfl,by omega,fun p hp=>by simp at hp⟩
 case round =>
  obtain⟨k,rfl,hk,HNO⟩:=hrel
  rcases Aam k N with hlt|hge
  ·obtain⟨⟨px,py⟩,hp⟩:∃p,l[k]?=some p:=⟨_,Aae (by rw[HNN.out];exact hlt)⟩
   have hcx:decide ((k:Int)<(N:Int))=true:=by simp;omega
   have hki:(k:Int)<(N:Int):=by omega
   obtain⟨c0,c1⟩:=HR.out.2 k _ hp
   simp only at c0 c1
   have HTK:Hid (l.take (k+1)=l.take k++[(px,py)]):=by show _=_;rw[List.take_add_one,hp];rfl
   have HP:=hI hp
   clear hp
   by_cases hpp:inP d (px,py)=true
   ·have HF:Hid (atZ l d=(k:Int)):=Att HP.out hpp HNO.out
    unfold inP at hpp
    rw[Bool.and_eq_true] at hpp
    obtain⟨t1,t2⟩:=hpp
    simp only at t1 t2
    go_wp2_with fail
    refine bodyPost_ret (v:=.tuple #[.int .i64 (k:Int),.bool true]) (by simp[results,Tryz.results236,go_sem]) rfl ?_
    exact⟨.inl ⟨k,hlt,HF.out,rfl⟩,rfl⟩
   ·have HE:Hid (inP d (px,py)=false):=by show _=_;rwa [←Bool.not_eq_true]
    have hb:decide (px≤d)=false∨(decide (px≤d)=true∧decide (d<py)=false):=by
     rcases Int.lt_or_le d px with h|h
     ·exact .inl (Aay (by omega))
     ·refine .inr ⟨Aax h,Aay (fun h2=>hpp ?_)⟩
      unfold inP
      rw[Aax h,Aax h2]
      rfl
    clear hpp
    have hstep:∀x∈l.take (k+1),inP d x=false:=fun x hx=>by
     rw[HTK.out,List.mem_append] at hx
     rcases hx with hx|hx
     ·exact HNO.out x hx
     ·rw[List.mem_singleton] at hx;subst hx;exact HE.out
    have HST:=hI hstep
    clear hstep
    rcases hb with t1|⟨t1,t2⟩
    ·go_wp2_with fail
     go_round
     case rel=>exact⟨k+1,by go_num,by omega,HST.out⟩
     case measure=>simp[intOf];omega
    ·go_wp2_with fail
     go_round
     case rel=>exact⟨k+1,by go_num,by omega,HST.out⟩
     case measure=>simp[intOf];omega
  ·have hcx:decide ((k:Int)<(N:Int))=false:=by simp;omega
   have HF:Hid (atZ l d=-1):=Atu (fun x hx=>HNO.out x (by rw[Aai (by rw[HNN.out];exact hge)];exact hx))
   go_wp2_with fail
   refine bodyPost_ret (v:=.tuple #[.int .i64 0,.bool false]) (by simp[results,Tryz.results236,go_sem]) rfl ?_
   exact⟨.inr ⟨HF.out,rfl⟩,rfl⟩
structure RAOV(w:World)(i:Inst)(ad:Addr)(ob:Obj)(N cap k:Nat)(px py d:Int)(iq:Rat)  (L:Array Bool) (W:World) (s18 s19 s20 s21 s22 s23 s24 s25:Value):Prop where
 k0:L.getD 0 false=true→s18=.agg #[.string i.id,.int .i64 i.kind,.string i.cur,.int .i64 i.places,.int .i64 i.issued,.int .i64 i.matures,.string i.fn,.string i.fd,.string i.cn,.string i.cd,.int .i64 i.months,.int .i64 i.count,.string i.other,.string i.sn,.string i.sd]
 k1:L.getD 1 false=true→s19=.slice (some ad) N cap
 k2:L.getD 2 false=true→s20=.int .i64 (k:Int)
 k3:L.getD 3 false=true→s21=.pointer (some (ad.add (k*2)))
 k4:L.getD 4 false=true→s22=.pointer (some (ad.add (k*2)))
 k5:L.getD 5 false=true→s23=.int .i64 px
 k6:L.getD 6 false=true→s24=.int .i64 d
 k7:L.getD 7 false=true→s25=.agg #[.string (I iq.num),.string (dn iq)]
 bx:BX w [(w.heap.size,.cells i.cells 27 (0,0)),(ad.block,ob)] W
 o8:L.getD 8 false=false→W.heap[w.heap.size+1]?=some (fz)
 n8:L.getD 8 false=true→W.heap[w.heap.size+1]?=some (fobj iq)
structure RAOJ(w:World)(i:Inst)(ad:Addr)(ob:Obj)(N cap k:Nat)(px py d:Int)(iq:Rat)(x0 x4 x5 x8 x9 x10 x11 x12 x13 x14 x15 x16 x17:Value)(L:Array Bool)(a:Act)(W:World):Prop where
 sz:L.size=9
 fr:∃s18 s19 s20 s21 s22 s23 s24 s25:Value,a={tmps:=#[x0,.slice (some ad) N cap,.int .i64 d,.pointer (some ⟨w.heap.size,0,none⟩),x4,x5,.pointer (some ⟨w.heap.size+1,0,none⟩),.int .i64 (k:Int),x8,x9,x10,x11,x12,x13,x14,x15,x16,x17,s18,s19,s20,s21,s22,s23,s24,s25],defers:=[]}∧RAOV w i ad ob N cap k px py d iq  L W s18 s19 s20 s21 s22 s23 s24 s25
theorem Awj(i:Inst)(h:BdI i)(ad:Addr)(N cap:Nat)(d:Int)(hd:okDay d)(hN:(perL i).length=N)(hN4:N≤1000)(w:World)(hR:RdP w ad (perL i)):
 Calls Tryz.prog 177 #[i.enc,.slice (some ad) N cap,.int .i64 d] w fun e w'=>e=.returned (fenc (accQ i d))∧Below w.heap.size w w':=by
 have HH:=hI h
 have HDD:=hI hd
 have HNN:=hI hN
 have HZ:=hI fenc_zero
 obtain⟨ob,hob,hrb⟩:=hR.box
 obtain⟨W0,hW0',hB0,hz,k0,k1⟩:=box2 w (.cells i.cells 27) fz
 have hW0:=hW0'.symm
 have hlt:ad.block<w.heap.size:=hR.1
 have hg0:BX w [(w.heap.size,.cells i.cells 27 (0,0)),(w.heap.size+1,fz),(ad.block,ob)] W0:=⟨hB0,fun x hx=>by
  rcases List.mem_cons.1 hx with rfl|hx
  ·exact k0
  ·rcases List.mem_cons.1 hx with rfl|hx
   ·exact k1
   ·rcases List.mem_cons.1 hx with rfl|hx
    ·exact bkeep hB0 hob
    ·cases hx⟩
 have HRB:Hid (∀W':World,W'.heap[ad.block]?=some ob→RdP W' ad (perL i)):=hrb
 have HLT:=hI hlt
 have HIX:=hI (fun W (hW:W.heap[ad.block]?=some ob)=>Awi ad (perL i) N cap d hN (by omega) W (hrb W hW))
 obtain⟨c0,c1,c2,c3,c4,c5,c6,c7,c8,c9,c10,c11,c12,c13,c14⟩:=Acq k0
 try simp[Inst.cells] at c0 c1 c2 c3 c4 c5 c6 c7 c8 c9 c10 c11 c12 c13 c14
 have HG0:=hI hg0
 clear hB0 hz k0 k1 hW0' h hd hN hR hob hrb hlt hg0
 unfold Inst.enc Inst.cells at *
 go_enter Tryz.func177,Tryz.ntmps177
 go_wp2_with fail
 refine (HIX.out _ (HG0.out.get 2 rfl)).mono ?_
 rintro e w1 ⟨hr,rfl⟩
 clear hW0 c0 c1 c2 c3 c4 c5 c6 c7 c8 c9 c10 c11 c12 c13 c14
 rcases hr with⟨k,hkN,hat,rfl⟩|⟨hat,rfl⟩
 ·obtain⟨⟨px,py⟩,hp⟩:∃p,(perL i)[k]?=some p:=⟨_,Aae (by rw[HNN.out];exact hkN)⟩
  have HPK:=hI hp
  have HACC:=hI (At3 hat hp)
  have hpx:=HH.out.per (Aas hp)
  have hle:px≤d:=by
   rcases Atv (perL i) d with⟨k',p',e1,e2,e3,_⟩|e1
   ·rw[hat] at e1
    obtain rfl:k=k':=by omega
    rw[hp] at e2
    cases e2
    exact e3
   ·rw[hat] at e1;omega
  have hIN:=fun W=>Awh i HH.out px d hpx.1 HDD.out hle W
  obtain⟨iq,hiq⟩:∃iq,intQ i px d=iq:=⟨_,rfl⟩
  simp only at HACC
  rw[hiq] at hIN HACC
  unfold fenc at hIN
  have HIN:Hid (∀W,BX w [(w.heap.size,.cells i.cells 27 (0,0)),(ad.block,ob)] W→Calls Tryz.prog 237 #[.agg #[.string i.id,.int .i64 i.kind,.string i.cur,.int .i64 i.places,.int .i64 i.issued,.int .i64 i.matures,.string i.fn,.string i.fd,.string i.cn,.string i.cd,.int .i64 i.months,.int .i64 i.count,.string i.other,.string i.sn,.string i.sd],.int .i64 px,.int .i64 d] W fun e w'=>e=.returned (.agg #[.string (I iq.num),.string (dn iq)])∧Below W.heap.size W w'):=fun W _=>hIN W
  have hg:BX w [(w.heap.size,.cells i.cells 27 (0,0)),(ad.block,ob)] W0.drew:=⟨HG0.out.1.drew,fun z hz=>by
   rcases List.mem_cons.1 hz with rfl|hz
   ·exact HG0.out.get 0 rfl
   ·rcases List.mem_cons.1 hz with rfl|hz
    ·exact HG0.out.get 2 rfl
    ·cases hz⟩
  have hko8:W0.drew.heap[w.heap.size+1]?=some fz:=HG0.out.get 1 rfl
  have HKI:Hid ((k:Int)<(N:Int)):=by show (k:Int)<(N:Int);omega
  have habl:=HLT.out
  clear hat hp hpx hle hIN hiq
  go_wp2_with fail
  have mixed:Tryz.prog.follows .mixedOrders=true:=by kernel_rfl
  refine wp_region_any mixed (Arn (RAOJ w i ad ob N cap k px py d iq _ _ _ _ _ _ _ _ _ _ _ _ _) ?stRAO ?dnRAO _ _ _ _ ⟨by simp,⟨_,_,_,_,_,_,_,_,rfl,fun h=>by simp at h,fun h=>by simp at h,fun h=>by simp at h,fun h=>by simp at h,fun h=>by simp at h,fun h=>by simp at h,fun h=>by simp at h,fun h=>by simp at h,hg,fun _=>hko8,fun h=>by simp at h⟩⟩ (by decide))
  case dnRAO =>
   intro L a w' hj hr
   have all:=Aqb hr hj.sz (by kernel_rfl)
   obtain⟨s18,s19,s20,s21,s22,s23,s24,s25,rfl,hv⟩:=hj.fr
   have HF:=hI (And.intro (hv.n8 (all 8 (by omega))) hv.bx.1)
   clear all hv hj hr
   go_wp2_with fail
   refine bodyPost_ret (results_cell_row rfl _ _ (w.heap.size+1) _ _ (0,0) _ rfl HF.out.1 Tryz.underlying25 rfl (by kernel_rfl)) rfl ?_
   exact⟨by rw[HACC.out];rfl,HF.out.2⟩
  case stRAO =>
   intro L a w' hj i hi
   obtain⟨hun,o,ho,hall⟩:=mem_ready.1 hi
   have hoff:=Ap2 hun
   have hlt:=(Aab.1 ho).1
   simp at hlt
   obtain⟨s18,s19,s20,s21,s22,s23,s24,s25,rfl,hv⟩:=hj.fr
   have HV:=hI hv
   have HJ:=hI hj
   clear hv hj
   rcases (show i=0∨i=1∨i=2∨i=3∨i=4∨i=5∨i=6∨i=7∨i=8 from by omega) with rfl|rfl|rfl|rfl|rfl|rfl|rfl|rfl|rfl
   all_goals simp at ho
   all_goals subst ho
   have hb:=HV.out.bx.get 0 rfl
   obtain⟨c0,c1,c2,c3,c4,c5,c6,c7,c8,c9,c10,c11,c12,c13,c14⟩:=Acq hb
   try simp[Inst.cells] at c0 c1 c2 c3 c4 c5 c6 c7 c8 c9 c10 c11 c12 c13 c14
   rotate_left
   rotate_left
   rotate_left
   cases HV.out.k1 (Hq hall 1).out
   cases HV.out.k2 (Hq hall 2).out
   have hki:=HKI.out
   rotate_left
   cases HV.out.k3 (Hq hall 3).out
   rotate_left
   cases HV.out.k4 (Hq hall 4).out
   obtain⟨cx,cy⟩:=(HRB.out _ (HV.out.bx.get 1 rfl)).2 k (px,py) HPK.out
   simp only at cx cy
   rotate_left
   rotate_left
   ·cases HV.out.k0 (Hq hall 0).out
    cases HV.out.k5 (Hq hall 5).out
    cases HV.out.k6 (Hq hall 6).out
    clear hall hi
    refine Ap9 rfl fun K' HK=>?_
    go_simp
    refine (HIN.out _ HV.out.bx).mono ?_
    rintro e wn ⟨rfl,hbn⟩
    cases HV.out
    refine HK.out _ _ ⟨by simp[HJ.out.sz],⟨_,_,_,_,_,_,_,_,rfl,?_,?_,?_,?_,?_,?_,?_,fun _=>rfl,HV.out.bx.below hbn,fun h=>bkeep hbn (HV.out.o8 (Ap5 h)),fun h=>bkeep hbn (HV.out.n8 (Ap4 h))⟩⟩
    all_goals exact Um (by assumption)
   ·cases HV.out.k7 (Hq hall 7).out
    clear hall hi
    have hko:=HV.out.o8 hoff
    have m0:=Aaa hko 0;have m1:=Aaa hko 1;have f0:=Aaf hko 0;have f1:=Aaf hko 1
    simp at m0 m1 f0 f1
    refine Ap9 rfl fun K' HK=>?_
    go_simp
    cases HV.out
    refine HK.out _ _ ⟨by simp[HJ.out.sz],⟨_,_,_,_,_,_,_,_,rfl,?_,?_,?_,?_,?_,?_,?_,?_,HV.out.bx.far (b:=w.heap.size+1) (by omega) (by simp<;>omega) _ _,fun h=>(Ap6 h (Ap0 hun)).elim,fun _=>set2 hko _ _⟩⟩
    all_goals exact Um (by assumption)
   all_goals
    clear hall hi
    refine Ap9 rfl fun K' HK=>?_
    go_simp
    cases HV.out
    refine HK.out _ _ ⟨by simp[HJ.out.sz],?_⟩
    iterate 8 apply Exists.intro
    refine⟨rfl,?_⟩
    constructor
    all_goals first|exact Um (by assumption)|exact Un (by assumption)|exact Uf (by assumption)|exact fun _=>rfl|assumption
 ·have HAQ:=hI (At4 hat)
  have k2:=HG0.out.get 1 rfl
  have m0:=Aaa k2 0
  have m1:=Aaa k2 1
  have f0:=Aaf k2 0
  have f1:=Aaf k2 1
  simp at m0 m1 f0 f1
  have HK2:=hI k2
  clear k2 hat
  go_wp2_with fail
  refine bodyPost_ret (results_cell_row rfl _ _ (w.heap.size+1) _ _ (0,0) _ rfl (Go.Proofs.YtcnmoobojdopgaaGreatDoor.set2 HK2.out _ _) Tryz.underlying25 rfl (by kernel_rfl)) rfl ?_
  exact⟨by rw[HAQ.out,HZ.out],Ah0 (by omega) HG0.out.1 _ _⟩
end Go.Proofs.YtcnmoobojdopgaaGreatDoor
