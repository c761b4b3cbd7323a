/-
  The walks of bond.interest,Periods. (Printed by gen_bd8.py.)
-/
import Derived.Test.YtcnmoobojdopgaaGreatDoorI26
import Derived.Test.YtcnmoobojdopgaaGreatDoorI28
set_option linter.unusedVariables false
set_option linter.unusedSimpArgs false
set_option maxHeartbeats 16000000
set_option maxRecDepth 100000
namespace Go.Proofs.YtcnmoobojdopgaaGreatDoor
open Go.RowKit Tr Go.Shelf
structure BdI(i:Inst):Prop where
 sz:i.sized
 f1:i.fn.size≤20
 f2:i.fd.size≤19
 c1:i.cn.size≤20
 c2:i.cd.size≤19
 ok:i.ok
 kd:i.kind=2
theorem BdI.bo{i:Inst}(h:BdI i):Ak4 i:=h.ok.bond h.kd
theorem BdI.mat{i:Inst}(h:BdI i):okDay i.matures∧i.issued<i.matures:=by
 rcases h.ok.matures with⟨_,h2,_⟩|⟨_,h2,h3⟩
 ·exact absurd h.kd h2
 ·exact⟨h2,h3⟩
theorem BdI.mo{i:Inst}(h:BdI i):1≤i.months∧i.months≤12:=by
 have:=h.bo.2.2.1
 unfold monthsL at this
 simp at this
 omega
theorem BdI.cnt{i:Inst}(h:BdI i):1≤i.count∧i.count≤5:=⟨h.bo.2.2.2.1,h.bo.2.2.2.2.1⟩
noncomputable def perL(i:Inst):List (Int×Int):=pers i.issued i.matures i.months
noncomputable def intQ(i:Inst)(a b:Int):Rat:=fv i.fn i.fd*fv i.cn i.cd*dcF i.count a b
theorem Asj{c a b:Int}(ha:okDay a)(hb:okDay b):BdQ (dcF c a b) 19:=by
 have h1:=Aka (c:=c) ha.1 ha.2 hb.1 hb.2
 obtain⟨a0,a1⟩:=ha
 obtain⟨b0,b1⟩:=hb
 unfold dcF
 split
 ·exact Aqq ⟨b0,b1⟩ ⟨a0,a1⟩
 ·split
  ·have e:((b-a:Int):Rat) / 365=Rat.divInt (b-a) 365:=by rw[Rat.divInt_eq_div];rfl
   rw[e];exact (BdQ.divInt (k:=9) (by omega) (by omega) (by omega)).mono (by omega)
  ·split
   ·have e:((b-a:Int):Rat) / 360=Rat.divInt (b-a) 360:=by rw[Rat.divInt_eq_div];rfl
    rw[e];exact (BdQ.divInt (k:=9) (by omega) (by omega) (by omega)).mono (by omega)
   ·have e:((Aj3 c a b:Int):Rat) / 360=Rat.divInt (Aj3 c a b) 360:=by rw[Rat.divInt_eq_div];rfl
    rw[e];exact (BdQ.divInt (k:=9) (by omega) (by omega) (by omega)).mono (by omega)
theorem fc_bd{i:Inst}(h:BdI i):BdQ (fv i.fn i.fd*fv i.cn i.cd) 40:=BdQ.mul (a:=20) (b:=20) (fv_bd _ _ h.f1 (by have:=h.f2;omega)) (fv_bd _ _ h.c1 (by have:=h.c2;omega))
theorem Ask{i:Inst}(h:BdI i){a b:Int}(ha:okDay a)(hb:okDay b):BdQ (intQ i a b) 59:=BdQ.mul (a:=40) (b:=19) (fc_bd h) (Asj ha hb)
structure BNV(w:World)(i:Inst)(nb:Nat)(part m1 rq:Rat)  (L:Array Bool) (W:World) (s17 s18 s19 s20 s21 s22 s23:Value):Prop where
 k0:L.getD 0 false=true→s17=.pointer (some ⟨w.heap.size,6,none⟩)
 k1:L.getD 1 false=true→s18=.agg #[.string i.fn,.string i.fd]
 k2:L.getD 2 false=true→s19=.pointer (some ⟨w.heap.size,8,none⟩)
 k3:L.getD 3 false=true→s20=.agg #[.string i.cn,.string i.cd]
 k4:L.getD 4 false=true→s21=.agg #[.string (I m1.num),.string (dn m1)]
 k5:L.getD 5 false=true→s22=.agg #[.string (I part.num),.string (dn part)]
 k6:L.getD 6 false=true→s23=.agg #[.string (I rq.num),.string (dn rq)]
 bx:BX w [(w.heap.size,.cells i.cells 27 (0,0)),(nb,fobj part)] W
 o7:L.getD 7 false=false→W.heap[w.heap.size+1]?=some (fz)
 n7:L.getD 7 false=true→W.heap[w.heap.size+1]?=some (fobj rq)
structure BNJ(w:World)(i:Inst)(nb:Nat)(part m1 rq:Rat)(x0 x1 x2 x4 x5 x8 x9 x10 x11 x12 x13 x14 x15 x16:Value)(L:Array Bool)(a:Act)(W:World):Prop where
 sz:L.size=8
 fr:∃s17 s18 s19 s20 s21 s22 s23:Value,a={tmps:=#[x0,x1,x2,.pointer (some ⟨w.heap.size,0,none⟩),x4,x5,.pointer (some ⟨w.heap.size+1,0,none⟩),.pointer (some ⟨nb,0,none⟩),x8,x9,x10,x11,x12,x13,x14,x15,x16,s17,s18,s19,s20,s21,s22,s23],defers:=[]}∧BNV w i nb part m1 rq  L W s17 s18 s19 s20 s21 s22 s23
theorem Asm(i:Inst)(h:BdI i)(a b:Int)(ha:okDay a)(hb:okDay b)(hab:a≤b)(w:World)(ht:Tabs w):
 Calls Tryz.prog 55 #[i.enc,.int .i64 a,.int .i64 b] w fun e w'=>e=.returned (fenc (intQ i a b))∧Below w.heap.size w w':=by
 have HFR:=hI (fun W (hW:Tabs W)=>Ar8 i.count h.cnt.1 h.cnt.2 a b ha hb hab W hW)
 have s1:=h.f1
 have s2:=h.f2
 have s3:=h.c1
 have s4:=h.c2
 have C1:=fun W (hW:Tabs W)=>Ahs i.fn i.fd i.cn i.cd W (by omega) (by omega) (by omega) (by omega) hW
 have C2:=fun W (hW:Tabs W)=>fMulQ (fc_bd h) (Asj (c:=i.count) ha hb) (by omega) (by omega) W hW
 have hq:fv i.fn i.fd*fv i.cn i.cd*dcF i.count a b=intQ i a b:=rfl
 obtain⟨rq,hrq⟩:∃rq,intQ i a b=rq:=⟨_,rfl⟩
 obtain⟨m1,hm1⟩:∃m1,fv i.fn i.fd*fv i.cn i.cd=m1:=⟨_,rfl⟩
 obtain⟨part,hpart⟩:∃part,dcF i.count a b=part:=⟨_,rfl⟩
 have HQ:=hI hrq
 rw[hq,hrq,hm1,hpart] at C2
 rw[hm1] at C1
 rw[hpart] at HFR
 have HT:=hI ht
 unfold fenc at C1 C2 HFR
 have D1:=hI C1
 have D2:=hI C2
 clear C1 C2 h ha hb hab ht hq hrq hm1 hpart s1 s2 s3 s4
 obtain⟨W0,hW0',hB0,hz,k0,k1⟩:=box2 w (.cells i.cells 27) fz
 have hW0:=hW0'.symm
 have hg0:BX w [(w.heap.size,.cells i.cells 27 (0,0)),(w.heap.size+1,fz)] W0:=⟨hB0,fun x hx=>by
  rcases List.mem_cons.1 hx with rfl|hx
  ·exact k0
  ·rcases List.mem_cons.1 hx with rfl|hx
   ·exact k1
   ·cases hx⟩
 have c9:=Aaa k0 11
 simp[Inst.cells] at c9
 clear hB0 hz k0 k1 hW0'
 unfold Inst.enc Inst.cells at *
 go_enter Tryz.func55,Tryz.ntmps55
 go_wp2_with fail
 refine (HFR.out _ (HT.out.below hg0.1)).mono ?_
 rintro e w1 ⟨rfl,x1⟩
 have hg1:=hg0.below x1
 clear hg0 x1 hW0 c9
 go_wp2_with fail
 have hg2:=hg1.push (fobj part)
 obtain⟨W2,hW2⟩:∃W2,w1.alloc (fobj part)=W2:=⟨_,rfl⟩
 have hnb:w1.heap.size≠w.heap.size+1:=by have:=hg1.lt 1 rfl;omega
 generalize w1.heap.size=nb at hg2 hnb ⊢
 rw[hW2] at hg2 ⊢
 have HM1:Hid (∀W,BX w [(w.heap.size,.cells i.cells 27 (0,0)),(nb,fobj part)] W→Calls Tryz.prog 12 #[.agg #[.string i.fn,.string i.fd],.agg #[.string i.cn,.string i.cd]] W fun e w'=>e=.returned (.agg #[.string (I m1.num),.string (dn m1)])∧Below W.heap.size W w'):=fun W hW=>D1.out W (HT.out.below hW.1)
 have HM2:Hid (∀W,BX w [(w.heap.size,.cells i.cells 27 (0,0)),(nb,fobj part)] W→Calls Tryz.prog 12 #[.agg #[.string (I m1.num),.string (dn m1)],.agg #[.string (I part.num),.string (dn part)]] W fun e w'=>e=.returned (.agg #[.string (I rq.num),.string (dn rq)])∧Below W.heap.size W w'):=fun W hW=>D2.out W (HT.out.below hW.1)
 have hg:BX w [(w.heap.size,.cells i.cells 27 (0,0)),(nb,fobj part)] W2.drew:=⟨hg2.1.drew,fun z hz=>by
  rcases List.mem_cons.1 hz with rfl|hz
  ·exact hg2.get 1 rfl
  ·rcases List.mem_cons.1 hz with rfl|hz
   ·exact hg2.get 0 rfl
   ·cases hz⟩
 have hko7:W2.drew.heap[w.heap.size+1]?=some fz:=hg2.get 2 rfl
 clear hg1 hg2 hW2 D1 D2 HFR
 have mixed:Tryz.prog.follows .mixedOrders=true:=by kernel_rfl
 refine wp_region_any mixed (Aqj (BNJ w i nb part m1 rq _ _ _ _ _ _ _ _ _ _ _ _ _ _) ?stBN ?dnBN _ _ _ _ ⟨by simp,⟨_,_,_,_,_,_,_,rfl,fun h=>by simp at h,fun h=>by simp at h,fun h=>by simp at h,fun h=>by simp at h,fun h=>by simp at h,fun h=>by simp at h,fun h=>by simp at h,hg,fun _=>hko7,fun h=>by simp at h⟩⟩ (by decide))
 case dnBN =>
  intro L a w' hj hr
  have all:=Apr hr hj.sz (by kernel_rfl)
  obtain⟨s17,s18,s19,s20,s21,s22,s23,rfl,hv⟩:=hj.fr
  have HF:=hI (And.intro (hv.n7 (all 7 (by omega))) hv.bx.1)
  clear all hv hj hr
  go_wp2_with fail
  refine bodyPost_ret (results_cell_row rfl _ _ (w.heap.size+1) _ _ (0,0) _ rfl HF.out.1 Tryz.underlying25 rfl (by kernel_rfl)) rfl ?_
  exact⟨by rw[HQ.out];rfl,HF.out.2⟩
 case stBN =>
  intro L a w' hj i hi
  obtain⟨hun,o,ho,hall⟩:=mem_ready.1 hi
  have hoff:=Apg hun
  have hlt:=(Aab.1 ho).1
  simp at hlt
  obtain⟨s17,s18,s19,s20,s21,s22,s23,rfl,hv⟩:=hj.fr
  have HV:=hI hv
  have HJ:=hI hj
  clear hv hj
  rcases (show i=0∨i=1∨i=2∨i=3∨i=4∨i=5∨i=6∨i=7 from by omega) with rfl|rfl|rfl|rfl|rfl|rfl|rfl|rfl
  all_goals simp at ho
  all_goals subst ho
  rotate_left
  cases HV.out.k0 (Hq hall 0).out
  have hb:=HV.out.bx.get 0 rfl;have c6:=Aaa hb 6;have c7:=Aaa hb 7
  simp[Inst.cells] at c6 c7
  rotate_left
  rotate_left
  cases HV.out.k2 (Hq hall 2).out
  have hb:=HV.out.bx.get 0 rfl;have c6:=Aaa hb 8;have c7:=Aaa hb 9
  simp[Inst.cells] at c6 c7
  rotate_left
  ·cases HV.out.k1 (Hq hall 1).out
   cases HV.out.k3 (Hq hall 3).out
   clear hall hi
   refine App rfl fun K' HK=>?_
   go_simp
   refine (HM1.out _ HV.out.bx).mono ?_
   rintro e wn ⟨rfl,hbn⟩
   cases HV.out
   refine HK.out _ _ ⟨by simp[HJ.out.sz],⟨_,_,_,_,_,_,_,rfl,?_,?_,?_,?_,fun _=>rfl,?_,?_,HV.out.bx.below hbn,fun h=>bkeep hbn (HV.out.o7 (Apj h)),fun h=>bkeep hbn (HV.out.n7 (Api h))⟩⟩
   all_goals exact Um (by assumption)
  have hb:=HV.out.bx.get 1 rfl;have c6:=Aaa hb 0;have c7:=Aaa hb 1
  simp at c6 c7
  rotate_left
  ·cases HV.out.k4 (Hq hall 4).out
   cases HV.out.k5 (Hq hall 5).out
   clear hall hi
   refine App rfl fun K' HK=>?_
   go_simp
   refine (HM2.out _ HV.out.bx).mono ?_
   rintro e wn ⟨rfl,hbn⟩
   cases HV.out
   refine HK.out _ _ ⟨by simp[HJ.out.sz],⟨_,_,_,_,_,_,_,rfl,?_,?_,?_,?_,?_,?_,fun _=>rfl,HV.out.bx.below hbn,fun h=>bkeep hbn (HV.out.o7 (Apj h)),fun h=>bkeep hbn (HV.out.n7 (Api h))⟩⟩
   all_goals exact Um (by assumption)
  ·cases HV.out.k6 (Hq hall 6).out
   clear hall hi
   have hko:=HV.out.o7 hoff
   have m0:=Aaa hko 0;have m1:=Aaa hko 1;have f0:=Aaf hko 0;have f1:=Aaf hko 1
   simp at m0 m1 f0 f1
   refine App rfl fun K' HK=>?_
   go_simp
   cases HV.out
   refine HK.out _ _ ⟨by simp[HJ.out.sz],⟨_,_,_,_,_,_,_,rfl,?_,?_,?_,?_,?_,?_,?_,HV.out.bx.far (b:=w.heap.size+1) (by omega) (by simp<;>omega) _ _,fun h=>(Apk h (Ape hun)).elim,fun _=>set2 hko _ _⟩⟩
   all_goals exact Um (by assumption)
  all_goals
   clear hall hi
   refine App rfl fun K' HK=>?_
   go_simp
   cases HV.out
   refine HK.out _ _ ⟨by simp[HJ.out.sz],?_⟩
   iterate 7 apply Exists.intro
   refine⟨rfl,?_⟩
   constructor
   all_goals first|exact Um (by assumption)|exact Un (by assumption)|exact Uf (by assumption)|exact fun _=>rfl|assumption
theorem Asn{W:World}{base base':Nat}{e:TypeId}{size n:Nat}{v:Value}{xs:List Value}(h:W.ownsRow base e size v n xs)(hb:base'≤base):W.ownsRow base' e size v n xs:=by
 obtain⟨h1,h2⟩:=h
 refine⟨h1,?_⟩
 rcases h2 with h2|⟨g,cap,cur,hv,hg,hr⟩
 ·exact .inl h2
 ·exact .inr ⟨g,cap,cur,hv,Aap hb hg,hr⟩
theorem Asp(i:Inst)(h:BdI i)(w:World)(ht:Tabs w):Calls Tryz.prog 31 #[i.enc] w (Ash w i.issued i.matures i.months):=by
 have HCK:=hI (fun W (hW:Tabs W)=>Aq0 i h.sz W hW)
 have HOK:=hI h.ok
 have HBU:=hI (fun W=>Asi i.issued i.matures i.months h.ok.issued h.mat.1 h.mat.2 h.mo.1 (by have:=h.mo.2;omega) W)
 have HK:=hI h.kd
 have HT:=hI ht
 clear h ht
 obtain⟨Q,hQ⟩:∃Q,Ash w i.issued i.matures i.months=Q:=⟨_,rfl⟩
 rw[hQ]
 have HQ:=hI hQ
 clear hQ
 obtain⟨W0,hW0,hB0,hz,k0⟩:=ibox i w
 have hg0:BX w [(w.heap.size,.cells i.cells 27 (0,0))] W0:=⟨hB0,fun x hx=>by
  rcases List.mem_cons.1 hx with rfl|hx
  ·exact k0
  ·cases hx⟩
 obtain⟨c0,c1,c2,c3,c4,c5,c6,c7,c8,c9,c10,c11,c12,c13,c14⟩:=Acn k0
 try simp[Inst.cells] at c0 c1 c2 c3 c4 c5 c6 c7 c8 c9 c10 c11 c12 c13 c14
 clear hB0 hz k0
 unfold Inst.enc Inst.cells at *
 go_enter Tryz.func31,Tryz.ntmps31
 go_wp2_with fail
 refine (HCK.out _ (HT.out.below hg0.1)).mono ?_
 rintro e w1 ⟨n,rfl,hn,x1⟩
 obtain rfl:n=0:=hn.2 HOK.out
 have hg1:=hg0.below x1
 clear hg0 x1 hW0 hn c0 c1 c2 c3 c4 c5 c6 c7 c8 c9 c10 c11 c12 c13 c14
 have k1:=hg1.get 0 rfl
 have c1:=Aaa k1 1
 have c4:=Aaa k1 4
 have c5:=Aaa k1 5
 have c10:=Aaa k1 10
 simp at c1 c4 c5 c10
 rw[HK.out] at c1
 clear k1
 go_wp2_with fail
 refine (HBU.out _).mono ?_
 rintro e w2 ⟨x2,hr⟩
 have hb2:=hg1.1.trans (x2.mono hg1.1.size)
 have hsz:=hg1.1.size
 rcases hr with⟨hl,rfl⟩|⟨hl,v,rfl,hrow⟩
 ·have HF:=hI (And.intro hb2 hl)
  clear hb2 hl x2 hg1
  go_wp2_with fail
  rw[←HQ.out]
  exact⟨HF.out.1,.inl ⟨HF.out.2,rfl⟩⟩
 ·have HF:=hI (And.intro hb2 (And.intro hl (Asn hrow hsz)))
  clear hb2 hl x2 hg1 hrow
  go_wp2_with fail
  rw[←HQ.out]
  exact⟨HF.out.1,.inr ⟨HF.out.2.1,v,rfl,HF.out.2.2⟩⟩
def RdP(W:World)(ad:Addr)(l:List (Int×Int)):Prop:=ad.block<W.heap.size∧∀(j:Nat) (p:Int×Int),l[j]?=some p→W.cell? (ad.add (j*2))=some (.int .i64 p.1)∧W.cell? ⟨(ad.add (j*2)).block,(ad.add (j*2)).off+1,none⟩=some (.int .i64 p.2)
theorem RdP.below{W W':World}{ad:Addr}{l:List (Int×Int)}(h:RdP W ad l)(hb:Below W.heap.size W W'):RdP W' ad l:=by
 obtain⟨h1,h2⟩:=h
 refine⟨Aah h1 hb.size,fun j p hp=>?_⟩
 obtain⟨a,b⟩:=h2 j p hp
 exact⟨(hb.cell (by rw[Ach];exact h1)).trans a,(hb.cell (by show (ad.add (j*2)).block<_;rw[Ach];exact h1)).trans b⟩
theorem persV_get:∀(l:List (Int×Int)) (j:Nat) (p:Int×Int),l[j]?=some p→(persV l)[j*2]?=some (.int .i64 p.1)∧(persV l)[j*2+1]?=some (.int .i64 p.2)
 | [],j,p,h=>by simp at h
 | x::r,0,p,h=>by
   simp at h;subst h
   simp[persV,perV]
 | x::r,j+1,p,h=>by
   simp at h
   have:=persV_get r j p h
   simp only[persV,List.flatMap_cons,perV] at this ⊢
   rw[show (j+1)*2=j*2+2 from by omega]
   simpa using this
theorem RdP.of_own{W:World}{base:Nat}{v:Value}{l:List (Int×Int)}(h:W.ownsRow base 60 2 v l.length (persV l))(hl:l≠[]):∃ad cap,v=.slice (some ad) l.length cap∧l.length≤cap∧base≤ad.block∧RdP W ad l:=by
 rcases h.2 with⟨_,h0⟩|⟨g,cap,cur,rfl,hb,hg,hnc,hcm,_⟩
 ·exact absurd (Aag h0) hl
 ·refine⟨⟨g,0,none⟩,cap,rfl,hnc,hb,(Aab.1 hg).1,fun j p hp=>?_⟩
  have hc:=h.cells (g:=g) rfl
  obtain⟨q0,q1⟩:=persV_get l j p hp
  have e0:=hc _ _ q0
  have e1:=hc _ _ q1
  rw[An3] at e0 e1 ⊢
  exact⟨e0,e1⟩
theorem RdP.own_box{W:World}{base:Nat}{v:Value}{l:List (Int×Int)}(h:W.ownsRow base 60 2 v l.length (persV l))(hl:l≠[]):∃ad cap cur,v=.slice (some ad) l.length cap∧l.length≤cap∧base≤ad.block∧W.heap[ad.block]?=some (.cells cur 60 (0,0))∧∀W':World,W'.heap[ad.block]?=some (.cells cur 60 (0,0))→RdP W' ad l:=by
 rcases h.2 with⟨_,h0⟩|⟨g,cap,cur,hv,hb,hg,hnc,hcm,_⟩
 ·exact absurd (Aag h0) hl
 ·subst hv
  refine⟨⟨g,0,none⟩,cap,cur,rfl,hnc,hb,hg,fun W' hW=>⟨(Aab.1 hW).1,fun j p hp=>?_⟩⟩
  have hc:=h.cells (g:=g) rfl
  obtain⟨q0,q1⟩:=persV_get l j p hp
  have e0:=hc _ _ q0
  have e1:=hc _ _ q1
  rw[An3] at e0 e1 ⊢
  have e:∀k,W'.cell? ⟨g,k,none⟩=W.cell? ⟨g,k,none⟩:=fun k=>by unfold World.cell?;rw[hW,hg]
  exact⟨(e _).trans e0,(e _).trans e1⟩
def RdPo(W:World)(ad:Addr)(l:List (Int×Int)):Prop:=∃cur,W.heap[ad.block]?=some (.cells cur 60 (0,0))∧∀W':World,W'.heap[ad.block]?=some (.cells cur 60 (0,0))→RdP W' ad l
theorem RdPo.rd{W:World}{ad:Addr}{l:List (Int×Int)}(h:RdPo W ad l):RdP W ad l:=by
 obtain⟨cur,h1,h2⟩:=h
 exact h2 W h1
theorem Asq(a b mo:Int):pers a b mo≠[]:=fun h=>by
 have:=Ajv a b mo
 rw[h] at this
 simp at this
def inP(d:Int)(p:Int×Int):Bool:=decide (p.1≤d)&&decide (d<p.2)
def atZ(l:List (Int×Int))(d:Int):Int:=match l.findIdx? (inP d) with
 | some k=>(k:Int)
 | none=>-1
theorem Asr{l:List (Int×Int)}{d:Int}{k:Nat}{p:Int×Int}(hp:l[k]?=some p)(h:inP d p=true)(hn:∀x∈l.take k,inP d x=false):atZ l d=(k:Int):=by
 have hk:=(Aak.1 hp).1
 have e:l.findIdx? (inP d)=some k:=by
  rw[List.findIdx?_eq_some_iff_getElem]
  refine⟨hk,?_,fun j hj=>?_⟩
  ·rw[(Aak.1 hp).2];exact h
  ·rw[Bool.not_eq_true]
   exact hn _ (List.mem_take_iff_getElem.2 ⟨j,by omega,rfl⟩)
 unfold atZ;rw[e]
theorem Ass{l:List (Int×Int)}{d:Int}(hn:∀x∈l,inP d x=false):atZ l d=-1:=by
 have e:l.findIdx? (inP d)=none:=List.findIdx?_eq_none_iff.2 hn
 unfold atZ;rw[e]
theorem Ast(l:List (Int×Int))(d:Int):(∃(k:Nat) (p:Int×Int),atZ l d=(k:Int)∧l[k]?=some p∧p.1≤d∧d<p.2)∨atZ l d=-1:=by
 unfold atZ
 cases h:l.findIdx? (inP d) with
 | none=>exact .inr rfl
 | some k =>
   rw[List.findIdx?_eq_some_iff_getElem] at h
   obtain⟨hk,hp,_⟩:=h
   refine .inl ⟨k,l[k],rfl,Aae hk,?_⟩
   unfold inP at hp
   simpa using hp
theorem Asu(p:Int×Int)(d:Int)(b:Nat)(w:World)(hb:Boxed w b 22 (.int .i64 d)):Calls Tryz.prog 110 #[.agg #[.int .i64 p.1,.int .i64 p.2],.pointer (some ⟨b,0,none⟩)] w fun e w'=>e=.returned (.bool (inP d p))∧Below w.heap.size w w':=by
 obtain⟨x,y⟩:=p
 have hc:=hb.cell
 have hlt:=hb.lt
 by_cases h:x≤d
 ·have t1:decide (x≤d)=true:=Aav h
  have HI:Hid (inP d (x,y)=decide (d<y)):=by show inP d (x,y)=_;unfold inP;rw[t1];rfl
  clear h hb
  go_enter Tryz.func110,Tryz.ntmps110
  go_wp2_with fail
  go_ret
  exact⟨by rw[HI.out];rfl,(Below.refl _ w).alloc (Aad _) _⟩
 ·have t1:decide (x≤d)=false:=Aaw h
  have HI:Hid (inP d (x,y)=false):=by show inP d (x,y)=_;unfold inP;rw[t1];rfl
  clear h hb
  go_enter Tryz.func110,Tryz.ntmps110
  go_wp2_with fail
  go_ret
  exact⟨by rw[HI.out];rfl,(Below.refl _ w).alloc (Aad _) _⟩
theorem Asv(ad:Addr)(l:List (Int×Int))(N c:Nat)(d:Int)(b:Nat)(hN:l.length=N)(hm:N≤1000000)(w:World)(hR:RdP w ad l)(hb:Boxed w b 22 (.int .i64 d)):
 Calls Tryz.prog 85 #[.slice (some ad) N c,.func (.func 110) #[] #[.pointer (some ⟨b,0,none⟩)]] w fun e w'=>e=.returned (.int .i64 (atZ l d))∧Below w.heap.size w w':=by
 have HR:=hI hR
 have HNN:=hI hN
 have HBX:=hI hb
 clear hR hN hb
 go_enter Tryz.func85,Tryz.ntmps85
 go_wp2_with fail
 go_loopw [5,8] (fun _ v wr=>∃k:Nat,v=.int .i64 (k:Int)∧k≤N∧Hid (∀x∈l.take k,inP d x=false)∧Hid (Below w.heap.size w wr)) (fun _ v _=>N-(intOf v).toNat)
 case atStart=>exact⟨0,rfl,by omega,fun p hp=>by simp at hp,Below.refl _ _⟩
 case round =>
  obtain⟨k,rfl,hk,HNO,HB⟩:=hrel
  rcases Aam k N with hlt|hge
  ·obtain⟨p,hp⟩:∃p,l[k]?=some p:=⟨_,Aae (by rw[HNN.out];exact hlt)⟩
   have hcx:decide ((k:Int)<(N:Int))=true:=by simp;omega
   obtain⟨c0,c1⟩:=(HR.out.below HB.out).2 k p hp
   have HTK:Hid (l.take (k+1)=l.take k++[p]):=by show _=_;rw[List.take_add_one,hp];rfl
   have HP:=hI hp
   have HCL:=hI (Asu p d b wr ((HB.out.block _ HBX.out.lt).trans HBX.out))
   clear hp
   go_wp2_with fail
   refine HCL.out.mono ?_
   rintro e w1 ⟨rfl,b1⟩
   have HB1:=hI (HB.out.trans (b1.mono HB.out.size))
   clear b1 HCL c0 c1
   cases hpp:inP d p
   case true =>
    have HF:Hid (atZ l d=(k:Int)):=Asr HP.out hpp HNO.out
    clear hpp
    go_wp2_with fail
    go_ret
    exact⟨by rw[HF.out];rfl,HB1.out⟩
   case false =>
    have HE:=hI hpp
    clear hpp
    go_wp2_with fail
    go_roundw
    case rel =>
     refine⟨k+1,by go_num,by omega,fun x hx=>?_,HB1.out⟩
     rw[HTK.out,List.mem_append] at hx
     rcases hx with hx|hx
     ·exact HNO.out x hx
     ·rw[List.mem_singleton] at hx;subst hx;exact HE.out
    case measure=>simp[intOf];omega
  ·have hcx:decide ((k:Int)<(N:Int))=false:=by simp;omega
   have HF:Hid (atZ l d=-1):=Ass (fun x hx=>HNO.out x (by rw[Aai (by rw[HNN.out];exact hge)];exact hx))
   go_wp2_with fail
   go_ret
   exact⟨by rw[HF.out];rfl,HB.out⟩
theorem bAt_any(ad:Addr)(l:List (Int×Int))(N c:Nat)(d:Int)(hN:l.length=N)(hm:N≤1000000)(w:World)(hR:RdP w ad l):
 Calls Tryz.prog 52 #[.slice (some ad) N c,.int .i64 d] w fun e w'=>e=.returned (.int .i64 (atZ l d))∧Below w.heap.size w w':=by
 have b0:Below w.heap.size w (w.alloc (.cells #[.int .i64 d] 22)):=(Below.refl _ w).alloc (Aad _) _
 have HI:=hI (Asv ad l N c d w.heap.size hN hm (w.alloc (.cells #[.int .i64 d] 22)) (hR.below b0) (Boxed.new w _ _))
 have HB:=hI b0
 clear hN hm hR b0
 go_enter Tryz.func52,Tryz.ntmps52
 go_wp2_with fail
 refine HI.out.mono ?_
 rintro e w1 ⟨rfl,b1⟩
 have HB1:=hI (HB.out.trans (b1.mono HB.out.size))
 clear b1
 go_wp2_with fail
 go_ret
 exact⟨rfl,HB1.out⟩
theorem Asw(n d:ByteArray)(s1:n.size≤2000000)(s2:d.size≤2000000)(hc:CanQ n d)(w:World)(ht:Tabs w):Calls Tryz.prog 109 #[.agg #[.string n,.string d]] w fun e w'=>e=.returned (.bool false)∧Below w.heap.size w w':=by
 have b0:Below w.heap.size w (w.alloc (.cells #[.string n,.string d] 25)):=(Below.refl _ w).alloc (Aad _) _
 have H:=hI (Ahx n d (w.alloc (.cells #[.string n,.string d] 25)) s1 s2 hc (ht.below b0))
 have HB:=hI b0
 clear s1 s2 hc ht b0
 go_enter Tryz.func109,Tryz.ntmps109
 go_wp2_with fail
 refine H.out.mono ?_
 rintro e w1 ⟨rfl,b1⟩
 have HB1:=hI (HB.out.trans (b1.mono HB.out.size))
 clear b1
 go_wp2_with fail
 go_ret
 exact⟨rfl,HB1.out⟩
theorem Asx(n d:ByteArray)(s1:n.size≤2000000)(s2:d.size≤2000000)(hc:¬CanQ n d)(w:World)(ht:Tabs w):Calls Tryz.prog 109 #[.agg #[.string n,.string d]] w fun e w'=>e=.returned (.bool true)∧Below w.heap.size w w':=by
 have b0:Below w.heap.size w (w.alloc (.cells #[.string n,.string d] 25)):=(Below.refl _ w).alloc (Aad _) _
 have H:=hI (Ahy n d (w.alloc (.cells #[.string n,.string d] 25)) s1 s2 hc (ht.below b0))
 have HB:=hI b0
 clear s1 s2 hc ht b0
 go_enter Tryz.func109,Tryz.ntmps109
 go_wp2_with fail
 refine H.out.mono ?_
 rintro e w1 ⟨rfl,b1⟩
 have HB1:=hI (HB.out.trans (b1.mono HB.out.size))
 clear b1
 go_wp2_with fail
 go_ret
 exact⟨rfl,HB1.out⟩
theorem Asy(fv:Value)(k:Int)(w:World)(h:Calls Tryz.prog 168 #[fv,.func (.func 109) #[] #[]] w fun e w'=>e=.returned (.int .i64 k)∧Below w.heap.size w w'):Calls Tryz.prog 108 #[fv,.func (.func 109) #[] #[]] w fun e w'=>e=.returned (.bool (decide (0≤k)))∧Below w.heap.size w w':=by
 have H:=hI h
 clear h
 go_enter Tryz.func108,Tryz.ntmps108
 go_wp2_with fail
 refine H.out.mono ?_
 rintro e w1 ⟨rfl,b1⟩
 have HB1:=hI b1
 clear b1
 go_wp2_with fail
 go_ret
 exact⟨rfl,HB1.out⟩
theorem Asz(g:Nat)(n d:ByteArray)(bad:Bool)(s1:n.size≤2000000)(s2:d.size≤2000000)(hc:bad=false↔CanQ n d)(w:World)(hg:w.heap[g]?=some (.cells #[.string n,.string d] 25 (0,0)))(ht:Tabs w):
 Calls Tryz.prog 108 #[.slice (some ⟨g,0,none⟩) 1 1,.func (.func 109) #[] #[]] w fun e w'=>e=.returned (.bool bad)∧Below w.heap.size w w':=by
 obtain⟨c0,c1⟩:=Ar9 hg
 cases bad with
 | false =>
   have H:=hI (Asw n d s1 s2 (hc.1 rfl) w ht)
   clear hc s1 s2 ht hg
   refine Asy _ (-1) w ?_
   go_enter Tryz.func168,Tryz.ntmps168
   go_wp2_with fail
   go_loopw [8] (fun v wr=>(v=.int .i64 0∧wr=w)∨(v=.int .i64 1∧Hid (Below w.heap.size w wr))) (fun v _=>1-(intOf v).toNat)
   case atStart=>exact .inl ⟨rfl,rfl⟩
   case round =>
    rcases hrel with⟨rfl,rfl⟩|⟨rfl,HB⟩
    ·go_wp2_with fail
     refine H.out.mono ?_
     rintro e w1 ⟨rfl,b1⟩
     have HB1:=hI b1
     clear b1
     go_wp2_with fail
     go_roundw
     case rel=>exact .inr ⟨rfl,HB1.out⟩
     case measure=>simp[intOf]
    ·go_wp2_with fail
     go_ret
     exact⟨rfl,HB.out⟩
 | true =>
   have H:=hI (Asx n d s1 s2 (fun h=>by have:=hc.2 h;cases this) w ht)
   clear hc s1 s2 ht hg
   refine Asy _ 0 w ?_
   go_enter Tryz.func168,Tryz.ntmps168
   go_wp2_with fail
   go_loopw [8] (fun v wr=>v=.int .i64 0∧wr=w) (fun v _=>0)
   case atStart=>exact⟨rfl,rfl⟩
   case round =>
    obtain⟨rfl,rfl⟩:=hrel
    go_wp2_with fail
    refine H.out.mono ?_
    rintro e w1 ⟨rfl,b1⟩
    have HB1:=hI b1
    clear b1
    go_wp2_with fail
    go_ret
    exact⟨rfl,HB1.out⟩
def CkPer(w:World)(i:Inst)(d:Int)(e:Ending)(w':World):Prop :=
 Below w.heap.size w w'∧((400≤(cuts i.issued i.matures i.months).length∧e=.returned (.tuple #[.slice none 0 0,.int .i64 4]))∨((cuts i.issued i.matures i.months).length≤399 ∧
  ((¬okDay d∧e=.returned (.tuple #[.slice none 0 0,.int .i64 13]))∨(okDay d∧∃ad cap,e=.returned (.tuple #[.slice (some ad) (perL i).length cap,.int .i64 0])∧w.heap.size≤ad.block∧RdPo w' ad (perL i)))))
theorem bChk_ok(i:Inst)(h:BdI i)(d:Int)(A:Option Addr)(n c:Nat)(w:World)(hf:∀W,Below w.heap.size w W→Calls Tryz.prog 108 #[.slice A n c,.func (.func 109) #[] #[]] W fun e w'=>e=.returned (.bool false)∧Below W.heap.size W w')(ht:Tabs w):
 Calls Tryz.prog 50 #[i.enc,.int .i64 d,.slice A n c] w (CkPer w i d):=by
 have HF:=hI hf
 have HP:=hI (fun W (hW:Tabs W)=>Asp i h W hW)
 have HT:=hI ht
 clear h ht hf
 obtain⟨Q,hQ⟩:∃Q,CkPer w i d=Q:=⟨_,rfl⟩
 rw[hQ]
 have HQ:=hI hQ
 clear hQ
 obtain⟨W0,hW0,hB0,hz,k0⟩:=ibox i w
 have HK0:Hid (InstBox W0 w.heap.size i):=k0
 have HB0:=hI hB0
 clear hB0 hz k0
 unfold Inst.enc Inst.cells at *
 go_enter Tryz.func50,Tryz.ntmps50
 go_wp2_with fail
 refine (HF.out _ HB0.out).mono ?_
 rintro e w1 ⟨rfl,x1⟩
 have HB1:=hI (HB0.out.trans (x1.mono HB0.out.size))
 have k1:InstBox w1 w.heap.size i:=HK0.out.below x1
 obtain⟨c0,c1,c2,c3,c4,c5,c6,c7,c8,c9,c10,c11,c12,c13,c14⟩:=Acn k1
 clear x1 k1 hW0
 go_wp2_with fail
 refine (HP.out _ (HT.out.below HB1.out)).mono ?_
 rintro e w2 ⟨x2,hr⟩
 have HB2:=hI (HB1.out.trans (x2.mono HB1.out.size))
 rcases hr with⟨hl,rfl⟩|⟨hl,v,rfl,hrow⟩
 ·have HL:=hI hl
  clear hl x2 c0 c1 c2 c3 c4 c5 c6 c7 c8 c9 c10 c11 c12 c13 c14
  go_wp2_with fail
  rw[←HQ.out]
  exact⟨HB2.out,.inl ⟨HL.out,rfl⟩⟩
 ·have HL:=hI hl
  obtain⟨ad,cap,cur,rfl,hc,hbk,hoo,hrr⟩:=RdP.own_box hrow (Asq _ _ _)
  have hrd:RdPo w2 ad (perL i):=⟨cur,hoo,hrr⟩
  have HRD:=hI (And.intro (Aap HB1.out.size hbk) hrd)
  obtain⟨N,hN⟩:∃N,(pers i.issued i.matures i.months).length=N:=⟨_,rfl⟩
  have HN:Hid ((perL i).length=N):=hN
  rw[hN]
  clear hl x2 hrow hrd hc hbk hN hoo hrr c0 c1 c2 c3 c4 c5 c6 c7 c8 c9 c10 c11 c12 c13 c14
  by_cases hd:okDay d
  ·have t1:decide (d < -25567)=false:=Aaw (by unfold okDay at hd;omega)
   have t2:decide (84005<d)=false:=Aaw (by unfold okDay at hd;omega)
   have HD:=hI hd
   clear hd
   go_wp2_with fail
   rw[←HQ.out]
   exact⟨HB2.out,.inr ⟨HL.out,.inr ⟨HD.out,ad,cap,by rw[HN.out];rfl,HRD.out.1,HRD.out.2⟩⟩⟩
  ·have HD:=hI hd
   by_cases hx:d < -25567
   ·have t1:decide (d < -25567)=true:=Aav hx
    clear hx hd
    go_wp2_with fail
    rw[←HQ.out]
    exact⟨HB2.out,.inr ⟨HL.out,.inl ⟨HD.out,rfl⟩⟩⟩
   ·have t1:decide (d < -25567)=false:=Aaw hx
    have t2:decide (84005<d)=true:=Aav (by unfold okDay at hd;omega)
    clear hx hd
    go_wp2_with fail
    rw[←HQ.out]
    exact⟨HB2.out,.inr ⟨HL.out,.inl ⟨HD.out,rfl⟩⟩⟩
theorem RdP.box{W:World}{ad:Addr}{l:List (Int×Int)}(h:RdP W ad l):∃o:Obj,W.heap[ad.block]?=some o∧∀W':World,W'.heap[ad.block]?=some o→RdP W' ad l:=by
 obtain⟨h1,h2⟩:=h
 refine⟨_,Array.getElem?_eq_getElem h1,fun W' hW=>⟨(Aab.1 hW).1,fun j p hp=>?_⟩⟩
 obtain⟨c0,c1⟩:=h2 j p hp
 have e:∀a:Addr,a.block=ad.block→W'.cell? a=W.cell? a:=fun a ha=>by
  unfold World.cell?
  rw[ha,hW,Array.getElem?_eq_getElem h1]
 exact⟨(e _ (Ach _ _)).trans c0,(e _ (by show (ad.add (j*2)).block=_;exact Ach _ _)).trans c1⟩
theorem As0{l:List Int}{p:Int×Int}(h:p∈pairs l):p.1∈l∧p.2∈l:=by
 obtain⟨j,hj⟩:=List.getElem?_of_mem h
 rw[pairs_get] at hj
 split at hj
 ·rename_i x y hx hy
  injection hj with hj;subst hj
  exact⟨Aar hx,Aar hy⟩
 ·cases hj
theorem pers_ok{a b mo:Int}(hmo:1≤mo)(h0:-25567≤b)(h1:b≤84005)(hab:a<b){p:Int×Int}(h:p∈pers a b mo):a≤p.1∧p.1≤b∧a≤p.2∧p.2≤b:=by
 obtain⟨m1,m2⟩:=As0 h
 have hm:∀x∈ends a b mo,a≤x∧x≤b:=by
  intro x hx
  unfold ends at hx
  rw[List.mem_cons,List.mem_append,List.mem_reverse,List.mem_singleton] at hx
  rcases hx with rfl|hx|rfl
  ·exact⟨Int.le_refl _,Int.le_of_lt hab⟩
  ·have:=Ajs hmo h0 h1 hx
   omega
  ·exact⟨Int.le_of_lt hab,Int.le_refl _⟩
 exact⟨(hm _ m1).1,(hm _ m1).2,(hm _ m2).1,(hm _ m2).2⟩
theorem BdI.per{i:Inst}(h:BdI i){p:Int×Int}(hp:p∈perL i):okDay p.1∧okDay p.2:=by
 have h1:=pers_ok h.mo.1 h.mat.1.1 h.mat.1.2 h.mat.2 hp
 obtain⟨a0,a1⟩:=h.ok.issued
 obtain⟨b0,b1⟩:=h.mat.1
 exact⟨⟨by omega,by omega⟩,⟨by omega,by omega⟩⟩
noncomputable def accQ(i:Inst)(d:Int):Rat:=match (perL i).findIdx? (inP d) with
 | some k=>intQ i ((perL i).getD k (0,0)).1 d
 | none=>0
theorem As1{i:Inst}{d:Int}{k:Nat}{p:Int×Int}(h:atZ (perL i) d=(k:Int))(hp:(perL i)[k]?=some p):accQ i d=intQ i p.1 d:=by
 unfold atZ at h
 unfold accQ
 cases hx:(perL i).findIdx? (inP d) with
 | none=>rw[hx] at h;simp only at h;omega
 | some j =>
   rw[hx] at h;simp only at h
   obtain rfl:j=k:=by omega
   show intQ i ((perL i).getD j (0,0)).1 d=_
   rw[Aat,hp];rfl
theorem As2{i:Inst}{d:Int}(h:atZ (perL i) d=-1):accQ i d=0:=by
 unfold atZ at h
 unfold accQ
 cases hx:(perL i).findIdx? (inP d) with
 | none=>rfl
 | some j=>rw[hx] at h;simp only at h;omega
def As3(i:Inst)(d:Int)(q:Rat)(e:Ending):Prop :=
 (400≤(cuts i.issued i.matures i.months).length∧e=.returned (.tuple #[fenc 0,.int .i64 4]))∨((cuts i.issued i.matures i.months).length≤399 ∧
   ((¬okDay d∧e=.returned (.tuple #[fenc 0,.int .i64 13]))∨(okDay d∧((¬(i.issued≤d∧d≤i.matures)∧e=.returned (.tuple #[fenc 0,.int .i64 24]))∨((i.issued≤d∧d≤i.matures)∧e=.returned (.tuple #[fenc (q+accQ i d),.int .i64 0]))))))
def As4(w:World)(i:Inst)(d:Int)(q:Rat)(e:Ending)(w':World):Prop:=Below w.heap.size w w'∧As3 i d q e
structure DTV(w:World)(i:Inst)(fn fd:ByteArray)(ad:Addr)(ob:Obj)(N cap k:Nat)(x d:Int)(iq rq:Rat)  (L:Array Bool) (W:World) (s7 s39 s40 s41 s42 s43 s44 s45 s46 s47 s48:Value):Prop where
 k0:L.getD 0 false=true→s39=.agg #[.string fn,.string fd]
 k1:L.getD 1 false=true→s40=.agg #[.string i.id,.int .i64 i.kind,.string i.cur,.int .i64 i.places,.int .i64 i.issued,.int .i64 i.matures,.string i.fn,.string i.fd,.string i.cn,.string i.cd,.int .i64 i.months,.int .i64 i.count,.string i.other,.string i.sn,.string i.sd]
 k2:L.getD 2 false=true→s41=.slice (some ad) N cap
 k3:L.getD 3 false=true→s42=.int .i64 (k:Int)
 k4:L.getD 4 false=true→s43=.pointer (some (ad.add (k*2)))
 k5:L.getD 5 false=true→s44=.pointer (some (ad.add (k*2)))
 k6:L.getD 6 false=true→s45=.int .i64 x
 k7:L.getD 7 false=true→s46=.int .i64 d
 k8:L.getD 8 false=true→s47=.agg #[.string (I iq.num),.string (dn iq)]
 k9:L.getD 9 false=true→s48=.agg #[.string (I rq.num),.string (dn rq)]
 k11:L.getD 11 false=true→s7=.int .i64 0
 bx:BX w [(w.heap.size,.cells i.cells 27 (0,0)),(w.heap.size+1,.cells #[.string fn,.string fd] 25 (0,0)),(ad.block,ob)] W
 o10:L.getD 10 false=false→W.heap[w.heap.size+2]?=some (fz)
 n10:L.getD 10 false=true→W.heap[w.heap.size+2]?=some (fobj rq)
structure DTJ(w:World)(i:Inst)(fn fd:ByteArray)(ad:Addr)(ob:Obj)(N cap k:Nat)(x d:Int)(iq rq:Rat)(x0 x2 x4 x9 x11 x12 x13 x14 x15 x16 x17 x18 x19 x20 x21 x22 x23 x24 x25 x26 x27 x28 x29 x30 x31 x32 x33 x34 x35 x36 x37 x38 x49:Value)(L:Array Bool)(a:Act)(W:World):Prop where
 sz:L.size=12
 fr:∃s7 s39 s40 s41 s42 s43 s44 s45 s46 s47 s48:Value,a={tmps:=#[x0,.int .i64 d,x2,.pointer (some ⟨w.heap.size,0,none⟩),x4,.pointer (some ⟨w.heap.size+1,0,none⟩),.pointer (some ⟨w.heap.size+2,0,none⟩),s7,.slice (some ad) N cap,x9,.int .i64 (k:Int),x11,x12,x13,x14,x15,x16,x17,x18,x19,x20,x21,x22,x23,x24,x25,x26,x27,x28,x29,x30,x31,x32,x33,x34,x35,x36,x37,x38,s39,s40,s41,s42,s43,s44,s45,s46,s47,s48,x49],defers:=[]}∧DTV w i fn fd ad ob N cap k x d iq rq  L W s7 s39 s40 s41 s42 s43 s44 s45 s46 s47 s48
theorem As5(i:Inst)(h:BdI i)(d:Int)(fn fd:ByteArray)(s1:fn.size≤900000)(s2:fd.size≤900000)(hb:BdQ (fv fn fd) 1000)(hc:CanQ fn fd)(w:World)(ht:Tabs w):
 Calls Tryz.prog 16 #[i.enc,.int .i64 d,.agg #[.string fn,.string fd]] w (As4 w i d (fv fn fd)):=by
 have HH:=hI h
 have HT:=hI ht
 have HCQ:Hid (.agg #[.string fn,.string fd]=fenc (fv fn fd)):=by show _=_;unfold fenc;rw[←hc.1,←hc.2]
 have HBQ:=hI hb
 have HSZ:=hI (And.intro s1 s2)
 obtain⟨Q,hQ⟩:∃Q,As4 w i d (fv fn fd)=Q:=⟨_,rfl⟩
 rw[hQ]
 have HQ:=hI hQ
 obtain⟨W0,hW0',hB0,hz,k0,k1,k2⟩:=box3 w (.cells i.cells 27) (.cells #[.string fn,.string fd] 25) fz
 have hW0:=hW0'.symm
 have hg0:BX w [(w.heap.size,.cells i.cells 27 (0,0)),(w.heap.size+1,.cells #[.string fn,.string fd] 25 (0,0)),(w.heap.size+2,fz)] W0:=⟨hB0,fun x hx=>by
  rcases List.mem_cons.1 hx with rfl|hx
  ·exact k0
  ·rcases List.mem_cons.1 hx with rfl|hx
   ·exact k1
   ·rcases List.mem_cons.1 hx with rfl|hx
    ·exact k2
    ·cases hx⟩
 have HG0:=hI hg0
 have HCK:Hid (∀W,W=W0.alloc (.cells #[.string fn,.string fd] 25)→Calls Tryz.prog 50 #[i.enc,.int .i64 d,.slice (some ⟨W0.heap.size,0,none⟩) 1 1] W (CkPer W i d)):=fun W hW=>by
  subst hW
  have b1:Below W0.heap.size W0 (W0.alloc (.cells #[.string fn,.string fd] 25)):=(Below.refl _ W0).alloc (Aad _) _
  refine bChk_ok i h d _ 1 1 _ (fun W' hW'=>Asz W0.heap.size fn fd false (by omega) (by omega) ⟨fun _=>hc,fun _=>rfl⟩ W' (bkeep hW' (Aax W0 _)) (ht.below (hB0.trans ((b1.trans (hW'.mono b1.size)).mono hB0.size)))) (ht.below (hB0.trans (b1.mono hB0.size)))
 have c0:=Aaa k0 0
 have c1:=Aaa k0 1
 have c2:=Aaa k0 2
 have c3:=Aaa k0 3
 have c4:=Aaa k0 4
 have c5:=Aaa k0 5
 have c6:=Aaa k0 6
 have c7:=Aaa k0 7
 have c8:=Aaa k0 8
 have c9:=Aaa k0 9
 have c10:=Aaa k0 10
 have c11:=Aaa k0 11
 have c12:=Aaa k0 12
 have c13:=Aaa k0 13
 have c14:=Aaa k0 14
 have q0:=Aaa k1 0
 have q1:=Aaa k1 1
 simp[Inst.cells] at c0 c1 c2 c3 c4 c5 c6 c7 c8 c9 c10 c11 c12 c13 c14 q0 q1
 clear hB0 hz k0 k1 k2 hW0' h hb hc s1 s2 ht hQ
 unfold Inst.enc Inst.cells at *
 go_enter Tryz.func16,Tryz.ntmps16
 go_wp2_with fail
 refine (HCK.out _ rfl).mono ?_
 rintro e w1 ⟨x1,hr⟩
 have hg1:=(hg0.below ((Below.refl _ W0).alloc (Aad _) (.cells #[.string fn,.string fd] 25))).below x1
 have k2:=hg1.get 2 rfl
 have m0:=Aaa k2 0
 have m1:=Aaa k2 1
 have f0:=Aaf k2 0
 have f1:=Aaf k2 1
 have k1:=hg1.get 1 rfl
 have q0:=Aaa k1 0
 have q1:=Aaa k1 1
 have k0:=hg1.get 0 rfl
 obtain⟨c0,c1,c2,c3,c4,c5,c6,c7,c8,c9,c10,c11,c12,c13,c14⟩:=Acn k0
 try simp[Inst.cells] at c0 c1 c2 c3 c4 c5 c6 c7 c8 c9 c10 c11 c12 c13 c14
 simp at m0 m1 f0 f1 q0 q1
 have HG1:=hI hg1
 have HK2:=hI k2
 have hzero:fenc 0=.agg #[.string ⟨#[]⟩,.string ⟨#[]⟩]:=fenc_zero
 have HZ:=hI hzero
 have hsz:w.heap.size+3≤W0.heap.size:=by rw[←hW0];simp
 have HSW:=hI hsz
 clear hg0 hg1 k0 k1 k2 hW0 hzero hsz
 rcases hr with⟨hl,rfl⟩|⟨hl,⟨hd,rfl⟩|⟨hd,ad,cap,rfl,hab,hrd⟩⟩
 ·have HL:=hI hl
  clear hl x1
  go_wp2_with fail
  refine bodyPost_ret (Ar4 rfl _ _ (w.heap.size+2) _ _ (0,0) _ rfl (Go.Proofs.YtcnmoobojdopgaaGreatDoor.set2 HK2.out _ _) Tryz.underlying25 rfl (by kernel_rfl)) rfl ?_
  rw[←HQ.out]
  exact⟨Ahd (by omega) HG1.out.1 _ _,.inl ⟨HL.out,by rw[HZ.out];rfl⟩⟩
 ·have HL:=hI hl
  have HD:=hI hd
  clear hl hd x1
  go_wp2_with fail
  refine bodyPost_ret (Ar4 rfl _ _ (w.heap.size+2) _ _ (0,0) _ rfl (Go.Proofs.YtcnmoobojdopgaaGreatDoor.set2 HK2.out _ _) Tryz.underlying25 rfl (by kernel_rfl)) rfl ?_
  rw[←HQ.out]
  exact⟨Ahd (by omega) HG1.out.1 _ _,.inr ⟨HL.out,.inl ⟨HD.out,by rw[HZ.out];rfl⟩⟩⟩
 ·have HL:=hI hl
  have HD:=hI hd
  obtain⟨N,hN⟩:∃N,(perL i).length=N:=⟨_,rfl⟩
  have HN:=hI hN
  rw[hN]
  replace hrd:=hrd.rd
  have HRD:=hI hrd
  have hab2:w.heap.size+3<ad.block:=by simp only[World.size_alloc] at hab;have:=HSW.out;omega
  clear hl x1 hrd hN hab hd
  by_cases hlife:i.issued≤d∧d≤i.matures
  ·have t1:decide (d<i.issued)=false:=Aaw (by omega)
   have t2:decide (i.matures<d)=false:=Aaw (by omega)
   have t3:decide (d > i.matures)=false:=Aaw (by omega)
   have HLF:=hI hlife
   clear hlife
   have HNB:Hid (N≤400):=by
    show N≤400
    have h1:=Ajv i.issued i.matures i.months
    have h2:=HL.out
    have h3:=HN.out
    unfold perL at h3
    omega
   have HAT:=hI (bAt_any ad (perL i) N cap d HN.out (by have:=HNB.out;omega) w1 HRD.out)
   rcases Ast (perL i) d with⟨k,p,hk,hp,hpd,hdp⟩|hk
   ·rw [hk] at HAT
    have HPK:=hI hp
    have hkl:k<N:=by rw[←HN.out];exact (Aak.1 hp).1
    have HPD:=hI (And.intro hpd hdp)
    have HACC:Hid (accQ i d=intQ i p.1 d):=As1 hk hp
    have tk:decide ((0:Int)≤(k:Int))=true:=Aav (by omega)
    have tk2:decide ((k:Int)≥0)=true:=Aav (by omega)
    clear hk hp hpd hdp
    go_wp2_with fail
    refine HAT.out.mono ?_
    rintro e w2 ⟨rfl,x2⟩
    have hg2:=HG1.out.below x2
    have hrd2:=HRD.out.below x2
    obtain⟨ob,hob,hbx⟩:=hrd2.box
    have HRB:=hI hbx
    clear c0 c1 c2 c3 c4 c5 c6 c7 c8 c9 c10 c11 c12 c13 c14 q0 q1 m0 m1 f0 f1 x2 HAT
    go_wp2_with fail
    have hIN:=fun W (hW:Tabs W)=>Asm i HH.out p.1 d (HH.out.per (Aar HPK.out)).1 HD.out HPD.out.1 W hW
    have hbI:=Ask HH.out (HH.out.per (Aar HPK.out)).1 HD.out
    obtain⟨iq,hiq⟩:∃iq,intQ i p.1 d=iq:=⟨_,rfl⟩
    rw[hiq] at hIN hbI HACC
    have hAD:=fun W (hW:Tabs W)=>fAddQ HBQ.out hbI (by omega) (by omega) W hW
    obtain⟨rq,hrq⟩:∃rq,fv fn fd+iq=rq:=⟨_,rfl⟩
    have HRQ:=hI hrq
    rw[hrq,←HCQ.out] at hAD
    have HFIN:Hid (As3 i d (fv fn fd) (.returned (.tuple #[.agg #[.string (I rq.num),.string (dn rq)],.int .i64 0]))):=.inr ⟨HL.out,.inr ⟨HD.out,.inr ⟨HLF.out,by rw[HACC.out,HRQ.out];rfl⟩⟩⟩
    unfold fenc at hIN hAD
    have HIN:Hid (∀W,BX w [(w.heap.size,.cells i.cells 27 (0,0)),(w.heap.size+1,.cells #[.string fn,.string fd] 25 (0,0)),(ad.block,ob)] W→Calls Tryz.prog 55 #[.agg #[.string i.id,.int .i64 i.kind,.string i.cur,.int .i64 i.places,.int .i64 i.issued,.int .i64 i.matures,.string i.fn,.string i.fd,.string i.cn,.string i.cd,.int .i64 i.months,.int .i64 i.count,.string i.other,.string i.sn,.string i.sd],.int .i64 p.1,.int .i64 d] W fun e w'=>e=.returned (.agg #[.string (I iq.num),.string (dn iq)])∧Below W.heap.size W w'):=fun W hW=>hIN W (HT.out.below hW.1)
    have HAD:Hid (∀W,BX w [(w.heap.size,.cells i.cells 27 (0,0)),(w.heap.size+1,.cells #[.string fn,.string fd] 25 (0,0)),(ad.block,ob)] W→Calls Tryz.prog 51 #[.agg #[.string fn,.string fd],.agg #[.string (I iq.num),.string (dn iq)]] W fun e w'=>e=.returned (.agg #[.string (I rq.num),.string (dn rq)])∧Below W.heap.size W w'):=fun W hW=>hAD W (HT.out.below hW.1)
    have hg:BX w [(w.heap.size,.cells i.cells 27 (0,0)),(w.heap.size+1,.cells #[.string fn,.string fd] 25 (0,0)),(ad.block,ob)] w2.drew:=⟨hg2.1.drew,fun z hz=>by
     rcases List.mem_cons.1 hz with rfl|hz
     ·exact hg2.get 0 rfl
     ·rcases List.mem_cons.1 hz with rfl|hz
      ·exact hg2.get 1 rfl
      ·rcases List.mem_cons.1 hz with rfl|hz
       ·exact hob
       ·cases hz⟩
    have hko10:w2.drew.heap[w.heap.size+2]?=some fz:=hg2.get 2 rfl
    clear hg2 hob hbx hiq hrq hIN hAD hbI
    have mixed:Tryz.prog.follows .mixedOrders=true:=by kernel_rfl
    refine wp_region_any mixed (Aqj (DTJ w i fn fd ad ob N cap k p.1 d iq rq _ _ _ _ _ _ _ _ _ _ _ _ _ _ _ _ _ _ _ _ _ _ _ _ _ _ _ _ _ _ _ _ _) ?stDT ?dnDT _ _ _ _ ⟨by simp,⟨_,_,_,_,_,_,_,_,_,_,_,rfl,fun h=>by simp at h,fun h=>by simp at h,fun h=>by simp at h,fun h=>by simp at h,fun h=>by simp at h,fun h=>by simp at h,fun h=>by simp at h,fun h=>by simp at h,fun h=>by simp at h,fun h=>by simp at h,fun h=>by simp at h,hg,fun _=>hko10,fun h=>by simp at h⟩⟩ (by decide))
    case dnDT =>
     intro L a w' hj hr
     have all:=Apr hr hj.sz (by kernel_rfl)
     obtain⟨s7,s39,s40,s41,s42,s43,s44,s45,s46,s47,s48,rfl,hv⟩:=hj.fr
     have HF:=hI (And.intro (hv.n10 (all 10 (by omega))) (And.intro hv.bx.1 (hv.k11 (all 11 (by omega)))))
     clear all hv hj hr
     obtain⟨_,_,e7⟩:=HF.out
     subst e7
     go_wp2_with fail
     refine bodyPost_ret (Ar4 rfl _ _ (w.heap.size+2) _ _ (0,0) _ rfl HF.out.1 Tryz.underlying25 rfl (by kernel_rfl)) rfl ?_
     rw[←HQ.out]
     exact⟨HF.out.2.1,HFIN.out⟩
    case stDT =>
     intro L a w' hj i hi
     obtain⟨hun,o,ho,hall⟩:=mem_ready.1 hi
     have hoff:=Apg hun
     have hlt:=(Aab.1 ho).1
     simp at hlt
     obtain⟨s7,s39,s40,s41,s42,s43,s44,s45,s46,s47,s48,rfl,hv⟩:=hj.fr
     have HV:=hI hv
     have HJ:=hI hj
     clear hv hj
     rcases (show i=0∨i=1∨i=2∨i=3∨i=4∨i=5∨i=6∨i=7∨i=8∨i=9∨i=10∨i=11 from by omega) with rfl|rfl|rfl|rfl|rfl|rfl|rfl|rfl|rfl|rfl|rfl|rfl
     all_goals simp at ho
     all_goals subst ho
     have hb:=HV.out.bx.get 1 rfl;have c6:=Aaa hb 0;have c7:=Aaa hb 1
     simp at c6 c7
     rotate_left
     have hb:=HV.out.bx.get 0 rfl
     obtain⟨c0,c1,c2,c3,c4,c5,c6,c7,c8,c9,c10,c11,c12,c13,c14⟩:=Acn hb
     try simp[Inst.cells] at c0 c1 c2 c3 c4 c5 c6 c7 c8 c9 c10 c11 c12 c13 c14
     rotate_left
     rotate_left
     rotate_left
     cases HV.out.k2 (Hq hall 2).out
     cases HV.out.k3 (Hq hall 3).out
     have hki:(k:Int)<(N:Int):=by omega
     rotate_left
     cases HV.out.k4 (Hq hall 4).out
     rotate_left
     cases HV.out.k5 (Hq hall 5).out
     have hcc:=(HRB.out _ (HV.out.bx.get 2 rfl)).2 k p HPK.out
     obtain⟨cx,_⟩:=hcc
     rotate_left
     rotate_left
     ·cases HV.out.k1 (Hq hall 1).out
      cases HV.out.k6 (Hq hall 6).out
      cases HV.out.k7 (Hq hall 7).out
      clear hall hi
      refine App rfl fun K' HK=>?_
      go_simp
      refine (HIN.out _ HV.out.bx).mono ?_
      rintro e wn ⟨rfl,hbn⟩
      cases HV.out
      refine HK.out _ _ ⟨by simp[HJ.out.sz],⟨_,_,_,_,_,_,_,_,_,_,_,rfl,?_,?_,?_,?_,?_,?_,?_,?_,fun _=>rfl,?_,?_,HV.out.bx.below hbn,fun h=>bkeep hbn (HV.out.o10 (Apj h)),fun h=>bkeep hbn (HV.out.n10 (Api h))⟩⟩
      all_goals exact Um (by assumption)
     ·cases HV.out.k0 (Hq hall 0).out
      cases HV.out.k8 (Hq hall 8).out
      clear hall hi
      refine App rfl fun K' HK=>?_
      go_simp
      refine (HAD.out _ HV.out.bx).mono ?_
      rintro e wn ⟨rfl,hbn⟩
      cases HV.out
      refine HK.out _ _ ⟨by simp[HJ.out.sz],⟨_,_,_,_,_,_,_,_,_,_,_,rfl,?_,?_,?_,?_,?_,?_,?_,?_,?_,fun _=>rfl,?_,HV.out.bx.below hbn,fun h=>bkeep hbn (HV.out.o10 (Apj h)),fun h=>bkeep hbn (HV.out.n10 (Api h))⟩⟩
      all_goals exact Um (by assumption)
     ·cases HV.out.k9 (Hq hall 9).out
      clear hall hi
      have hko:=HV.out.o10 hoff
      have m0:=Aaa hko 0;have m1:=Aaa hko 1;have f0:=Aaf hko 0;have f1:=Aaf hko 1
      simp at m0 m1 f0 f1
      refine App rfl fun K' HK=>?_
      go_simp
      cases HV.out
      refine HK.out _ _ ⟨by simp[HJ.out.sz],⟨_,_,_,_,_,_,_,_,_,_,_,rfl,?_,?_,?_,?_,?_,?_,?_,?_,?_,?_,?_,HV.out.bx.far (b:=w.heap.size+2) (by omega) (by simp<;>omega) _ _,fun h=>(Apk h (Ape hun)).elim,fun _=>set2 hko _ _⟩⟩
      all_goals exact Um (by assumption)
     rotate_left
     all_goals
      clear hall hi
      refine App rfl fun K' HK=>?_
      go_simp
      cases HV.out
      refine HK.out _ _ ⟨by simp[HJ.out.sz],?_⟩
      iterate 11 apply Exists.intro
      refine⟨rfl,?_⟩
      constructor
      all_goals first|exact Um (by assumption)|exact Un (by assumption)|exact Uf (by assumption)|exact fun _=>rfl|assumption
   ·rw[hk] at HAT
    have HACC:Hid (accQ i d=0):=As2 hk
    have HFIN:Hid (As3 i d (fv fn fd) (.returned (.tuple #[.agg #[.string fn,.string fd],.int .i64 0]))):=.inr ⟨HL.out,.inr ⟨HD.out,.inr ⟨HLF.out,by rw[HACC.out,Rat.add_zero,←HCQ.out]⟩⟩⟩
    clear hk
    go_wp2_with fail
    refine HAT.out.mono ?_
    rintro e w2 ⟨rfl,x2⟩
    have hg2:=HG1.out.below x2
    have k2:=hg2.get 2 rfl
    have m0:=Aaa k2 0
    have m1:=Aaa k2 1
    have f0:=Aaf k2 0
    have f1:=Aaf k2 1
    have k1:=hg2.get 1 rfl
    have q0:=Aaa k1 0
    have q1:=Aaa k1 1
    simp at m0 m1 f0 f1 q0 q1
    have HG2:=hI hg2
    have HK3:=hI k2
    clear c0 c1 c2 c3 c4 c5 c6 c7 c8 c9 c10 c11 c12 c13 c14 x2 HAT k1 k2 hg2
    go_wp2_with fail
    refine bodyPost_ret (Ar4 rfl _ _ (w.heap.size+2) _ _ (0,0) _ rfl (Go.Proofs.YtcnmoobojdopgaaGreatDoor.set2 HK3.out _ _) Tryz.underlying25 rfl (by kernel_rfl)) rfl ?_
    rw[←HQ.out]
    exact⟨Ahd (by omega) HG2.out.1 _ _,HFIN.out⟩
  ·have HLF:=hI hlife
   have hx:decide (d<i.issued)=true∨(decide (d<i.issued)=false∧decide (d > i.matures)=true∧decide (i.matures<d)=true):=by
    rcases Int.lt_or_le d i.issued with h|h
    ·exact .inl (Aav h)
    ·exact .inr ⟨Aaw (by omega),Aav (by omega),Aav (by omega)⟩
   clear hlife
   rcases hx with t1|⟨t1,t2,t3⟩
   all_goals
    go_wp2_with fail
    refine bodyPost_ret (Ar4 rfl _ _ (w.heap.size+2) _ _ (0,0) _ rfl (Go.Proofs.YtcnmoobojdopgaaGreatDoor.set2 HK2.out _ _) Tryz.underlying25 rfl (by kernel_rfl)) rfl ?_
    rw[←HQ.out]
    exact⟨Ahd (by omega) HG1.out.1 _ _,.inr ⟨HL.out,.inr ⟨HD.out,.inl ⟨HLF.out,by rw[HZ.out];rfl⟩⟩⟩⟩
attribute [local go_sem] Oper.semAt_some
theorem fv_zero:fv ⟨#[]⟩ ⟨#[]⟩=0:=by kernel_rfl
theorem canQ_nil:CanQ ⟨#[]⟩ ⟨#[]⟩:=by
 unfold CanQ
 rw[fv_zero]
 exact⟨by rw[show (0:Rat).num=0 from rfl,←zero_eq],by unfold dn;rw[show (0:Rat).den=1 from rfl,if_pos rfl]⟩
def KpL(n₀:Nat)(ks:List (Nat×Obj))(W W':World):Prop:=Below n₀ W W'∧∀x,x∈ks→W.heap[x.1]?=some x.2→W'.heap[x.1]?=some x.2
theorem KpL.trans{n₀:Nat}{ks:List (Nat×Obj)}{A B C:World}(h:KpL n₀ ks A B)(k:KpL n₀ ks B C):KpL n₀ ks A C:=⟨h.1.trans k.1,fun x hx ha=>k.2 x hx (h.2 x hx ha)⟩
theorem KpL.put{n₀:Nat}{ks:List (Nat×Obj)}(hk:∀x,x∈ks→x.2.isCells=true){W:World}{l:Nat}{o:Obj}(hn:n₀≤l)(o':Obj)(hl:W.heap[l]?=some o)(ho:o.isCells=false):KpL n₀ ks W (W.putObj l o'):=⟨⟨rfl,rfl,rfl,by simp[World.putObj],fun k hk'=>World.putObj_heap_other (by omega)⟩,fun x hx h=>Arv o' h (hk x hx) hl ho⟩
theorem pers_lt{a b mo:Int}(hmo:1≤mo)(h0:-25567≤b)(h1:b≤84005)(hab:a<b){j:Nat}{p:Int×Int}(h:(pers a b mo)[j]?=some p):p.1<p.2:=by
 unfold pers at h
 rw[pairs_get] at h
 split at h
 ·rename_i x y hx hy
  injection h with h;subst h
  obtain⟨i1,e1⟩:=Aak.1 hx
  obtain⟨i2,e2⟩:=Aak.1 hy
  have:=List.pairwise_iff_getElem.1 (Ajw hmo h0 h1 hab) j (j+1) i1 i2 (by omega)
  rw[e1,e2] at this
  exact this
 ·cases h
end Go.Proofs.YtcnmoobojdopgaaGreatDoor
