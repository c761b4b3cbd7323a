/-
  The walk of bond.Coupon. (Printed by gen_bd16.py.)
-/
import Derived.Test.YteennkgpeiafaaaGreatDoorG35
set_option linter.unusedVariables false
set_option linter.unusedSimpArgs false
set_option maxHeartbeats 16000000
set_option maxRecDepth 100000
namespace Go.Proofs.YteennkgpeiafaaaGreatDoor
open Go.RowKit Tr Go.Shelf
attribute [local go_sem] Oper.semAt_some
structure CPNV(w:World)(i:Inst)(ad:Addr)(cur:Array Value)(N cap k:Nat)(px py:Int)(iq:Rat)  (L:Array Bool) (W:World) (s5 s26 s27 s28 s29 s30 s31 s32 s33 s34 s35 s36 s37:Value):Prop where
 k0:L.getD 0 false=true→s26=.agg #[.string i.id,.int .i64 i.kind,.string i.cur,.int .i64 i.places,.int .i64 i.issued,.int .i64 i.matures,.string i.fn,.string i.fd,.string i.cn,.string i.cd,.int .i64 i.months,.int .i64 i.count,.string i.other,.string i.sn,.string i.sd]
 k1:L.getD 1 false=true→s27=.slice (some ad) N cap
 k2:L.getD 2 false=true→s28=.int .i64 (k:Int)
 k3:L.getD 3 false=true→s29=.pointer (some (ad.add (k*2)))
 k4:L.getD 4 false=true→s30=.pointer (some (ad.add (k*2)))
 k5:L.getD 5 false=true→s31=.int .i64 px
 k6:L.getD 6 false=true→s32=.slice (some ad) N cap
 k7:L.getD 7 false=true→s33=.int .i64 (k:Int)
 k8:L.getD 8 false=true→s34=.pointer (some (ad.add (k*2)))
 k9:L.getD 9 false=true→s35=.pointer (some ⟨(ad.add (k*2)).block,(ad.add (k*2)).off+1,none⟩)
 k10:L.getD 10 false=true→s36=.int .i64 py
 k11:L.getD 11 false=true→s37=.agg #[.string (I iq.num),.string (dn iq)]
 k13:L.getD 13 false=true→s5=.int .i64 0
 bx:BX w [(w.heap.size,.cells i.cells 27 (0,0)),(ad.block,.cells cur 50 (0,0))] W
 o12:L.getD 12 false=false→W.heap[w.heap.size+1]?=some (fz)
 n12:L.getD 12 false=true→W.heap[w.heap.size+1]?=some (fobj iq)
structure CPNJ(w:World)(i:Inst)(ad:Addr)(cur:Array Value)(N cap k:Nat)(px py:Int)(iq:Rat)(x0 x3 x7 x8 x9 x10 x11 x12 x13 x14 x15 x16 x17 x18 x19 x20 x21 x22 x23 x24 x25:Value)(L:Array Bool)(a:Act)(W:World):Prop where
 sz:L.size=14
 fr:∃s5 s26 s27 s28 s29 s30 s31 s32 s33 s34 s35 s36 s37:Value,a={tmps:=#[x0,.int .i64 (k:Int),.pointer (some ⟨w.heap.size,0,none⟩),x3,.pointer (some ⟨w.heap.size+1,0,none⟩),s5,.slice (some ad) N cap,x7,x8,x9,x10,x11,x12,x13,x14,x15,x16,x17,x18,x19,x20,x21,x22,x23,x24,x25,s26,s27,s28,s29,s30,s31,s32,s33,s34,s35,s36,s37],defers:=[]}∧CPNV w i ad cur N cap k px py iq  L W s5 s26 s27 s28 s29 s30 s31 s32 s33 s34 s35 s36 s37
def CoupP(w:World)(i:Inst)(z:Int)(e:Ending)(w':World):Prop :=
 Below w.heap.size w w'∧((400≤(cuts i.issued i.matures i.months).length∧e=.returned (.tuple #[fenc 0,.int .i64 4]))∨((cuts i.issued i.matures i.months).length≤399 ∧
  ((¬(0≤z∧z<((perL i).length:Int))∧e=.returned (.tuple #[fenc 0,.int .i64 2])) ∨
    ∃(k:Nat) (p:Int×Int),z=(k:Int)∧(perL i)[k]?=some p∧e=.returned (.tuple #[fenc (intQ i p.1 p.2),.int .i64 0]))))
theorem Aqw(i:Inst)(h:BdI i)(z:Int)(w:World)(ht:Tabs w):Calls Tryz.prog 27 #[i.enc,.int .i64 z] w (CoupP w i z):=by
 have HH:=hI h
 have HP:=hI (fun W (hW:Tabs W)=>Apk i h W hW)
 have HT:=hI ht
 obtain⟨Q,hQ⟩:∃Q,CoupP w i z=Q:=⟨_,rfl⟩
 rw[hQ]
 have HQ:=hI hQ
 have HZ:=hI fenc_zero
 obtain⟨W0,hW0',hB0,hz,k0,k1⟩:=box2 w (.cells i.cells 27) fz
 have hW0:=hW0'.symm
 have hg0:BX w [(w.heap.size,.cells i.cells 27 (0,0)),(w.heap.size+1,fz)] W0:=⟨hB0,fun x hx=>by
  rcases List.mem_cons.1 hx with rfl|hx
  ·exact k0
  ·rcases List.mem_cons.1 hx with rfl|hx
   ·exact k1
   ·cases hx⟩
 have hsz:w.heap.size+2≤W0.heap.size:=by omega
 obtain⟨c0,c1,c2,c3,c4,c5,c6,c7,c8,c9,c10,c11,c12,c13,c14⟩:=Acs k0
 try simp[Inst.cells] at c0 c1 c2 c3 c4 c5 c6 c7 c8 c9 c10 c11 c12 c13 c14
 clear hB0 hz k0 k1 hW0' h ht hQ
 unfold Inst.enc Inst.cells at *
 go_enter Tryz.func27,Tryz.ntmps27
 go_wp2_with fail
 refine (HP.out _ (HT.out.below hg0.1)).mono ?_
 rintro e w1 ⟨x1,hr⟩
 have hg1:=hg0.below x1
 have k2:=hg1.get 1 rfl
 have m0:=Aaa k2 0
 have m1:=Aaa k2 1
 have f0:=Aaf k2 0
 have f1:=Aaf k2 1
 simp at m0 m1 f0 f1
 have HG1:=hI hg1
 have HK2:=hI k2
 clear hg0 hg1 k2 x1 hW0 c0 c1 c2 c3 c4 c5 c6 c7 c8 c9 c10 c11 c12 c13 c14
 rcases hr with⟨hl,rfl⟩|⟨hl,v,rfl,hown⟩
 ·have HL:=hI hl
  clear hl
  go_wp2_with fail
  refine bodyPost_ret (An1 rfl _ _ (w.heap.size+1) _ _ (0,0) _ rfl (Go.Proofs.YteennkgpeiafaaaGreatDoor.set2 HK2.out _ _) Tryz.underlying25 rfl (by kernel_rfl)) rfl ?_
  rw[←HQ.out]
  exact⟨set2_below (by omega) HG1.out.1 _ _,.inl ⟨HL.out,by rw[HZ.out];rfl⟩⟩
 have HL:=hI hl
 obtain⟨ad,cap,cur,rfl,_,hab,hbx,hrr⟩:=RdP.own_box hown (Apm _ _ _)
 obtain⟨N,hN⟩:∃N,(pers i.issued i.matures i.months).length=N:=⟨_,rfl⟩
 rw[hN]
 have HN:Hid ((perL i).length=N):=hN
 have HRR:Hid (∀W':World,W'.heap[ad.block]?=some (.cells cur 50 (0,0))→RdP W' ad (perL i)):=hrr
 have hab2:w.heap.size+2≤ad.block:=by omega
 have hN4:N≤400:=by
  have h1:=Ajd i.issued i.matures i.months
  omega
 have HBX:=hI hbx
 clear hl hown hab hbx hrr hN hsz
 by_cases hz:0≤z∧z<(N:Int)
 ·obtain⟨k,rfl⟩:∃k:Nat,z=(k:Int):=⟨z.toNat,by omega⟩
  have hkl:k<N:=by omega
  have t1:decide ((k:Int)<0)=false:=Aaz (by omega)
  have t2:decide ((k:Int)≥(N:Int))=false:=Aaz (by omega)
  have t3:decide ((N:Int)≤(k:Int))=false:=Aaz (by omega)
  have t4:decide (N≤k)=false:=Aaz (by omega)
  obtain⟨⟨px,py⟩,hp⟩:∃p,(perL i)[k]?=some p:=⟨_,Aae (by rw[HN.out];exact hkl)⟩
  have HPK:=hI hp
  have hpx:=HH.out.per (Aar hp)
  simp only at hpx
  have hlt2:px<py:=Aqa HH.out.mo.1 HH.out.mat.1.1 HH.out.mat.1.2 HH.out.mat.2 hp
  have hIN:=fun W (hW:Tabs W)=>Api i HH.out px py hpx.1 hpx.2 (Int.le_of_lt hlt2) W hW
  obtain⟨iq,hiq⟩:∃iq,intQ i px py=iq:=⟨_,rfl⟩
  rw[hiq] at hIN
  have HIQ:=hI hiq
  unfold fenc at hIN
  have HIN:Hid (∀W,BX w [(w.heap.size,.cells i.cells 27 (0,0)),(ad.block,.cells cur 50 (0,0))] W→Calls Tryz.prog 77 #[.agg #[.string i.id,.int .i64 i.kind,.string i.cur,.int .i64 i.places,.int .i64 i.issued,.int .i64 i.matures,.string i.fn,.string i.fd,.string i.cn,.string i.cd,.int .i64 i.months,.int .i64 i.count,.string i.other,.string i.sn,.string i.sd],.int .i64 px,.int .i64 py] W fun e w'=>e=.returned (.agg #[.string (I iq.num),.string (dn iq)])∧Below W.heap.size W w'):=fun W hW=>hIN W (HT.out.below hW.1)
  have hg:BX w [(w.heap.size,.cells i.cells 27 (0,0)),(ad.block,.cells cur 50 (0,0))] w1.drew:=⟨HG1.out.1.drew,fun z hz=>by
   rcases List.mem_cons.1 hz with rfl|hz
   ·exact HG1.out.get 0 rfl
   ·rcases List.mem_cons.1 hz with rfl|hz
    ·exact HBX.out
    ·cases hz⟩
  have hko12:w1.drew.heap[w.heap.size+1]?=some fz:=HK2.out
  clear hp hpx hlt2 hIN hiq hz m0 m1 f0 f1
  go_wp2_with fail
  have mixed:Tryz.prog.follows .mixedOrders=true:=by kernel_rfl
  refine wp_region_any mixed (Am3 (CPNJ w i ad cur N cap k px py iq _ _ _ _ _ _ _ _ _ _ _ _ _ _ _ _ _ _ _ _ _) ?stCPN ?dnCPN _ _ _ _ ⟨by simp,⟨_,_,_,_,_,_,_,_,_,_,_,_,_,rfl,fun h=>by simp at h,fun h=>by simp at h,fun h=>by simp at h,fun h=>by simp at h,fun h=>by simp at h,fun h=>by simp at h,fun h=>by simp at h,fun h=>by simp at h,fun h=>by simp at h,fun h=>by simp at h,fun h=>by simp at h,fun h=>by simp at h,fun h=>by simp at h,hg,fun _=>hko12,fun h=>by simp at h⟩⟩ (by decide))
  case dnCPN =>
   intro L a w' hj hr
   have all:=Am2 hr hj.sz (by kernel_rfl)
   obtain⟨s5,s26,s27,s28,s29,s30,s31,s32,s33,s34,s35,s36,s37,rfl,hv⟩:=hj.fr
   have HF:=hI (And.intro (hv.n12 (all 12 (by omega))) (And.intro hv.bx.1 (hv.k13 (all 13 (by omega)))))
   clear all hv hj hr
   obtain⟨_,_,e7⟩:=HF.out
   subst e7
   go_wp2_with fail
   refine bodyPost_ret (An1 rfl _ _ (w.heap.size+1) _ _ (0,0) _ rfl HF.out.1 Tryz.underlying25 rfl (by kernel_rfl)) rfl ?_
   rw[←HQ.out]
   exact⟨HF.out.2.1,.inr ⟨HL.out,.inr ⟨k,(px,py),rfl,HPK.out,by rw[HIQ.out];rfl⟩⟩⟩
  case stCPN =>
   intro L a w' hj i hi
   obtain⟨hun,o,ho,hall⟩:=mem_ready.1 hi
   have hoff:=Amt hun
   have hlt:=(Aab.1 ho).1
   simp at hlt
   obtain⟨s5,s26,s27,s28,s29,s30,s31,s32,s33,s34,s35,s36,s37,rfl,hv⟩:=hj.fr
   have HV:=hI hv
   have HJ:=hI hj
   clear hv hj
   rcases (show i=0∨i=1∨i=2∨i=3∨i=4∨i=5∨i=6∨i=7∨i=8∨i=9∨i=10∨i=11∨i=12∨i=13 from by omega) with rfl|rfl|rfl|rfl|rfl|rfl|rfl|rfl|rfl|rfl|rfl|rfl|rfl|rfl
   all_goals simp at ho
   all_goals subst ho
   have hb:=HV.out.bx.get 0 rfl
   obtain⟨c0,c1,c2,c3,c4,c5,c6,c7,c8,c9,c10,c11,c12,c13,c14⟩:=Acs hb
   try simp[Inst.cells] at c0 c1 c2 c3 c4 c5 c6 c7 c8 c9 c10 c11 c12 c13 c14
   rotate_left
   rotate_left
   rotate_left
   cases HV.out.k1 (Hq hall 1).out
   cases HV.out.k2 (Hq hall 2).out
   have hki:(k:Int)<(N:Int):=by omega
   rotate_left
   cases HV.out.k3 (Hq hall 3).out
   rotate_left
   cases HV.out.k4 (Hq hall 4).out
   obtain⟨cx,cy⟩:=(HRR.out _ (HV.out.bx.get 1 rfl)).2 k (px,py) HPK.out
   simp only at cx cy
   rotate_left
   rotate_left
   rotate_left
   cases HV.out.k6 (Hq hall 6).out
   cases HV.out.k7 (Hq hall 7).out
   have hki:(k:Int)<(N:Int):=by omega
   rotate_left
   cases HV.out.k8 (Hq hall 8).out
   rotate_left
   cases HV.out.k9 (Hq hall 9).out
   obtain⟨cx,cy⟩:=(HRR.out _ (HV.out.bx.get 1 rfl)).2 k (px,py) HPK.out
   simp only at cx cy
   rotate_left
   ·cases HV.out.k0 (Hq hall 0).out
    cases HV.out.k5 (Hq hall 5).out
    cases HV.out.k10 (Hq hall 10).out
    clear hall hi
    refine Am0 rfl fun K' HK=>?_
    go_simp
    refine (HIN.out _ HV.out.bx).mono ?_
    rintro e wn ⟨rfl,hbn⟩
    cases HV.out
    refine HK.out _ _ ⟨by simp[HJ.out.sz],⟨_,_,_,_,_,_,_,_,_,_,_,_,_,rfl,?_,?_,?_,?_,?_,?_,?_,?_,?_,?_,?_,fun _=>rfl,?_,HV.out.bx.below hbn,fun h=>bkeep hbn (HV.out.o12 (Amw h)),fun h=>bkeep hbn (HV.out.n12 (Amv h))⟩⟩
    all_goals exact Um (by assumption)
   ·cases HV.out.k11 (Hq hall 11).out
    clear hall hi
    have hko:=HV.out.o12 hoff
    have m0:=Aaa hko 0;have m1:=Aaa hko 1;have f0:=Aaf hko 0;have f1:=Aaf hko 1
    simp at m0 m1 f0 f1
    refine Am0 rfl fun K' HK=>?_
    go_simp
    cases HV.out
    refine HK.out _ _ ⟨by simp[HJ.out.sz],⟨_,_,_,_,_,_,_,_,_,_,_,_,_,rfl,?_,?_,?_,?_,?_,?_,?_,?_,?_,?_,?_,?_,?_,HV.out.bx.far (b:=w.heap.size+1) (by omega) (by simp<;>omega) _ _,fun h=>(Amx h (Amr hun)).elim,fun _=>set2 hko _ _⟩⟩
    all_goals exact Um (by assumption)
   rotate_left
   all_goals
    clear hall hi
    refine Am0 rfl fun K' HK=>?_
    go_simp
    cases HV.out
    refine HK.out _ _ ⟨by simp[HJ.out.sz],?_⟩
    iterate 13 apply Exists.intro
    refine⟨rfl,?_⟩
    constructor
    all_goals first|exact Um (by assumption)|exact Un (by assumption)|exact Uf (by assumption)|exact fun _=>rfl|assumption
 ·have HNZ:=hI hz
  have hx:decide (z<0)=true∨(decide (z<0)=false∧decide (z≥(N:Int))=true∧decide ((N:Int)≤z)=true):=by
   rcases Int.lt_or_le z 0 with h|h
   ·exact .inl (Aay h)
   ·exact .inr ⟨Aaz (by omega),Aay (by omega),Aay (by omega)⟩
  clear hz
  rcases hx with t1|⟨t1,t2,t3⟩
  all_goals
   go_wp2_with fail
   refine bodyPost_ret (An1 rfl _ _ (w.heap.size+1) _ _ (0,0) _ rfl (Go.Proofs.YteennkgpeiafaaaGreatDoor.set2 HK2.out _ _) Tryz.underlying25 rfl (by kernel_rfl)) rfl ?_
   rw[←HQ.out]
   exact⟨set2_below (by omega) HG1.out.1 _ _,.inr ⟨HL.out,.inl ⟨by rw[HN.out];exact HNZ.out,by rw[HZ.out];rfl⟩⟩⟩
end Go.Proofs.YteennkgpeiafaaaGreatDoor
namespace Go.Proofs.YteennkgpeiafaaaGreatDoor
open Go.RowKit Tr Go.Shelf
theorem Aqx{n d:ByteArray}(h:Akn n d=0):CanQ n d:=by
 refine Classical.byContradiction fun hc=>?_
 unfold Akn at h
 rw[if_pos hc] at h
 exact absurd h (by decide)
theorem Aqy{n d:ByteArray}(h:CanQ n d):vl n=(fv n d).num:=by
 have h1:=congrArg vl h.1
 rw[vl_I] at h1
 exact h1
theorem BdI.fQ{i:Inst}(h:BdI i):CanQ i.fn i.fd:=Aqx h.ok.n1
theorem BdI.cQ{i:Inst}(h:BdI i):CanQ i.cn i.cd:=Aqx h.ok.n2
theorem BdI.face_pos{i:Inst}(h:BdI i):0<fv i.fn i.fd:=num_pos'.1 (by rw[←Aqy h.fQ];exact h.bo.1)
theorem BdI.coup_nn{i:Inst}(h:BdI i):0≤fv i.cn i.cd:=Rat.num_nonneg.1 (by rw[←Aqy h.cQ];exact h.bo.2.1)
theorem BdI.fc_nn{i:Inst}(h:BdI i):0≤fv i.fn i.fd*fv i.cn i.cd:=Rat.mul_nonneg (Rat.le_of_lt h.face_pos) h.coup_nn
theorem Aqz{a b mo:Int}{k:Nat}{p:Int×Int}(h:(pers a b mo)[k]?=some p):(ends a b mo)[k]?=some p.1∧(ends a b mo)[k+1]?=some p.2:=by
 unfold pers at h
 rw[pairs_get] at h
 split at h
 ·rename_i x y hx hy
  injection h with h;subst h
  exact⟨hx,hy⟩
 ·cases h
theorem Aq0(a b mo:Int):(ends a b mo).length=(pers a b mo).length+1:=by
 rw[Ajd]
 unfold ends
 rw[Aaw,Aan,List.length_reverse]
 rfl
theorem ends_lt{i:Inst}(h:BdI i){j k:Nat}{x y:Int}(hx:(ends i.issued i.matures i.months)[j]?=some x)(hy:(ends i.issued i.matures i.months)[k]?=some y)(hjk:j<k):x<y:=by
 obtain⟨i1,e1⟩:=Aak.1 hx
 obtain⟨i2,e2⟩:=Aak.1 hy
 have:=List.pairwise_iff_getElem.1 (Aje h.mo.1 h.mat.1.1 h.mat.1.2 h.mat.2) j k i1 i2 hjk
 rw[e1,e2] at this
 exact this
theorem ends_le{i:Inst}(h:BdI i){j k:Nat}{x y:Int}(hx:(ends i.issued i.matures i.months)[j]?=some x)(hy:(ends i.issued i.matures i.months)[k]?=some y)(hjk:j≤k):x≤y:=by
 rcases Aam j k with h1|h1
 ·exact Int.le_of_lt (ends_lt h hx hy h1)
 ·have:j=k:=by omega
  subst this
  rw[hx] at hy
  injection hy with hy
  omega
theorem Aq1{i:Inst}(h:BdI i){k:Nat}{p:Int×Int}(hp:(perL i)[k]?=some p):p.1<p.2:=Aqa h.mo.1 h.mat.1.1 h.mat.1.2 h.mat.2 hp
theorem per_in{i:Inst}(h:BdI i){k:Nat}{p:Int×Int}(hp:(perL i)[k]?=some p):i.issued≤p.1∧p.1≤i.matures∧i.issued≤p.2∧p.2≤i.matures:=Ap1 h.mo.1 h.mat.1.1 h.mat.1.2 h.mat.2 (Aar hp)
theorem Aq2{i:Inst}{k:Nat}{p:Int×Int}(hp:(perL i)[k]?=some p)(hk:k+1=(perL i).length):p.2=i.matures:=by
 have h1:=(Aqz hp).2
 have h2:=Aq0 i.issued i.matures i.months
 have h3:(ends i.issued i.matures i.months).getLast? = some i.matures:=by unfold ends;rw[←List.cons_append];exact List.getLast?_concat
 rw[List.getLast?_eq_getElem?,h2] at h3
 have e:(pers i.issued i.matures i.months).length+1-1=k+1:=by show (perL i).length+1-1=_;omega
 rw[e,h1] at h3
 injection h3
theorem Aq3{i:Inst}(h:BdI i){k:Nat}{p:Int×Int}(hp:(perL i)[k]?=some p){d:Int}(h1:p.1≤d)(h2:d<p.2):atZ (perL i) d=(k:Int):=by
 refine Apn hp (by unfold inP;rw[Aay h1,Aay h2];rfl) fun x hx=>?_
 obtain⟨j,hj,rfl⟩:=List.mem_take_iff_getElem.1 hx
 have hx2:(perL i)[j]?=some (perL i)[j]:=Aae (by omega)
 have:=ends_le h (Aqz hx2).2 (Aqz hp).1 (by omega)
 unfold inP
 rw[Aaz (p:=d<(perL i)[j].2) (by omega),Bool.and_false]
theorem Aq4{c a:Int}(ha:okDay a):dcF c a a=0:=by
 have z:((0:Int):Rat)=0:=rfl
 unfold dcF
 split
 ·exact Rat.sub_self
 ·split
  ·rw[Int.sub_self,z,Rat.div_def,Rat.zero_mul]
  ·split
   ·rw[Int.sub_self,z,Rat.div_def,Rat.zero_mul]
   ·rw[Aju ha.1 ha.2,z,Rat.div_def,Rat.zero_mul]
theorem Aq5{a b:Int}{c:Rat}(hc:0<c)(h:a≤b):(a:Rat) / c≤(b:Rat) / c:=by
 rw[Rat.div_def,Rat.div_def]
 exact Rat.mul_le_mul_of_nonneg_right (Rat.intCast_le_intCast.2 h) (Rat.le_of_lt (Rat.inv_pos.2 hc))
theorem Aq6{c a b d:Int}(ha:okDay a)(hb:okDay b)(h:b≤d)(hd:okDay d):dcF c a b≤dcF c a d:=by
 unfold dcF
 split
 ·have:=Aj0 hb.1 h hd.2
  grind
 ·split
  ·exact Aq5 (by decide) (by omega)
  ·split
   ·exact Aq5 (by decide) (by omega)
   ·exact Aq5 (by decide) (Ajt ha.1 ha.2 hb.1 h hd.2)
theorem dcF_nn{c a b:Int}(ha:okDay a)(hb:okDay b)(h:a≤b):0≤dcF c a b:=by
 have:=Aq6 (c:=c) ha ha h hb
 rw[Aq4 ha] at this
 exact this
theorem intQ_nn{i:Inst}(h:BdI i){a b:Int}(ha:okDay a)(hb:okDay b)(hab:a≤b):0≤intQ i a b:=Rat.mul_nonneg h.fc_nn (dcF_nn ha hb hab)
theorem acc_per{i:Inst}(h:BdI i){k:Nat}{p:Int×Int}(hp:(perL i)[k]?=some p){d:Int}(h1:p.1≤d)(h2:d<p.2):accQ i d=intQ i p.1 d:=Ap2 (Aq3 h hp h1 h2) hp
noncomputable def coupQ(i:Inst)(k:Nat):Rat:=intQ i ((perL i).getD k (0,0)).1 ((perL i).getD k (0,0)).2
theorem Aq7{i:Inst}{k:Nat}{p:Int×Int}(hp:(perL i)[k]?=some p):coupQ i k=intQ i p.1 p.2:=by
 unfold coupQ
 rw[Aas,hp]
 rfl
theorem Aq8{i:Inst}(h:BdI i){k:Nat}(hk:k<(perL i).length):0≤coupQ i k:=by
 obtain⟨p,hp⟩:∃p,(perL i)[k]?=some p:=⟨_,Aae hk⟩
 have ho:=h.per (Aar hp)
 rw[Aq7 hp]
 exact intQ_nn h ho.1 ho.2 (Int.le_of_lt (Aq1 h hp))
theorem Aq9(i:Inst)(k:Nat):(payAt i (perL i) k).2.2=coupQ i k+(if k+1=(perL i).length then fv i.fn i.fd else 0):=rfl
theorem Ara{i:Inst}{k:Nat}(h:k<(perL i).length):(amtL i)[k]?=some (coupQ i k+(if k+1=(perL i).length then fv i.fn i.fd else 0)):=by rw[Aqs i h,Aq9]
theorem Arb{i:Inst}{k:Nat}(h:k<(perL i).length):(amtL i).drop k=(coupQ i k+(if k+1=(perL i).length then fv i.fn i.fd else 0))::(amtL i).drop (k+1):=by
 obtain⟨hj,e⟩:=Aak.1 (Ara h)
 rw[Aax hj,e]
theorem Arc{i:Inst}(h:BdI i){k:Nat}{p:Int×Int}(hp:(perL i)[k]?=some p)(y:Rat):presQ i p.1 y=pv (1+y) ((amtL i).drop k):=by
 have hk:=(Aak.1 hp).1
 have hlt:=Aq1 h hp
 rw[Aqv (Aq3 h hp (Int.le_refl _) hlt) hp (Ara hk),Arb hk,pv]
 have e:Rat.divInt (p.2-p.1) (p.2-p.1)=1:=by
  have h0:(p.2-p.1)≠0:=by omega
  rw[Rat.divInt_eq_div,Rat.div_def]
  exact Rat.mul_inv_cancel _ (by intro h;exact h0 (Rat.intCast_inj.1 (h.trans (show (0:Rat)=((0:Int):Rat) from rfl))))
 rw[e,Rat.mul_one,Rat.add_comm (pv _ _)]
theorem Ard(i:Inst):(amtL i).drop (perL i).length=[]:=List.drop_eq_nil_of_le (by rw[Aqr];exact Aad _)
theorem Are{i:Inst}{c:Rat}(hc:∀j,j<(perL i).length→coupQ i j=c):∀(n k:Nat),k+n+1=(perL i).length→(amtL i).drop k=List.replicate n c++[c+fv i.fn i.fd]
 | 0,k,hk=>by
   rw[Arb (by omega),if_pos (by omega),hc k (by omega),show k+1=(perL i).length from by omega,Ard]
   rfl
 | n+1,k,hk=>by
   rw[Arb (by omega),if_neg (by omega),hc k (by omega),Are hc n (k+1) (by omega),Rat.add_zero]
   rfl
theorem Arf{i:Inst}(h:BdI i){k:Nat}{p:Int×Int}(hp:(perL i)[k]?=some p){c:Rat}(hc:∀j,j<(perL i).length→coupQ i j=c):
 presQ i p.1 (c / fv i.fn i.fd)=fv i.fn i.fd:=by
 have hk:=(Aak.1 hp).1
 have hc0:0≤c:=by rw[←hc k hk];exact Aq8 h hk
 have hf:=h.face_pos
 have hd:0≤c / fv i.fn i.fd:=Aj5 hc0 hf
 rw[Arc h hp,Are hc ((perL i).length-k-1) k (by omega)]
 exact Aj6 (by grind) rfl (by grind) _
theorem left_ok{i:Inst}(h:BdI i){k:Nat}{p:Int×Int}(hp:(perL i)[k]?=some p){d:Int}(h1:p.1≤d)(h2:d<p.2):0<Rat.divInt (p.2-d) (p.2-p.1)∧Rat.divInt (p.2-d) (p.2-p.1)≤1:=part_le (by omega) (by omega)
theorem by_pos{y t:Rat}(hy:0<1+y)(h0:0<t)(h1:t≤1):0<1+y*t:=by
 rcases (Rat.le_total:0≤y∨y≤0) with h|h
 ·have:=Rat.mul_nonneg h (Rat.le_of_lt h0)
  grind
 ·have h3:(-y)*t≤(-y)*1:=Rat.mul_le_mul_of_nonneg_left h1 (by grind)
  grind
theorem pres_pv{i:Inst}(h:BdI i){k:Nat}{p:Int×Int}(hp:(perL i)[k]?=some p){d:Int}(h1:p.1≤d)(h2:d<p.2)(y:Rat):presQ i d y=pvB (1+y*Rat.divInt (p.2-d) (p.2-p.1)) (1+y) ((amtL i).drop k):=by
 have hk:=(Aak.1 hp).1
 rw[Aqv (Aq3 h hp h1 h2) hp (Ara hk),Arb hk,pvB,Rat.add_comm (pv _ _)]
theorem Arg{i:Inst}{k:Nat}{p:Int×Int}(hp:(perL i)[k]?=some p):(payAt i (perL i) k).1=p.1∧(payAt i (perL i) k).2.1=p.2:=by
 unfold payAt
 rw[Aas,hp]
 exact⟨rfl,rfl⟩
theorem Arh(xs:List (Int×Int×Rat)):Aqh xs=(xs.filter fun x=>!decide (x.2.2=0)).map fun x=>(x.2.1,x.2.2):=by
 unfold Aqh
 induction xs with
 | nil=>rfl
 | cons x r ih =>
   by_cases h:x.2.2=0
   ·rw[List.filterMap_cons,if_pos h,List.filter_cons_of_neg (by simp[h]),ih]
   ·rw[List.filterMap_cons,if_neg h,List.filter_cons_of_pos (by simp[h]),List.map_cons,ih]
theorem Ari(i:Inst):(Aqk i).length≤(perL i).length:=by
 unfold Aqk
 have:=Aqj (paysN i (perL i) (perL i).length)
 rw[Ap9] at this
 exact this
theorem per_pos(i:Inst):0<(perL i).length:=by have:=Ajd i.issued i.matures i.months;unfold perL;omega
theorem Arj{i:Inst}(h:BdI i):(Aqk i).getLast? = some (i.matures,coupQ i ((perL i).length-1)+fv i.fn i.fd):=by
 obtain⟨m,hm⟩:∃m,(perL i).length=m+1:=⟨(perL i).length-1,by have:=per_pos i;omega⟩
 have hc:=Aq8 h (k:=m) (by omega)
 have hf:=h.face_pos
 obtain⟨p,hp⟩:∃p,(perL i)[m]?=some p:=⟨_,Aae (by omega)⟩
 unfold Aqk
 rw[hm,Ap8,Aqi]
 have e1:(payAt i (perL i) m).2.2=coupQ i m+fv i.fn i.fd:=by rw[Aq9,if_pos hm.symm]
 rw[if_neg (by rw[e1];grind),List.getLast?_concat,e1,(Arg hp).2,Aq2 hp hm.symm]
 rfl
theorem Ark{i:Inst}(h:BdI i):Aqk i≠[]:=by
 intro h0
 have:=Arj h
 rw[h0] at this
 cases this
def restL(i:Inst)(d:Int):List (Int×Rat)→List (Int×Rat):=fun l=>l.filter fun f=>!decide (f.1≤d)
theorem Arm(i:Inst)(d:Int):restL i d (Aqk i)=Aqh ((paysN i (perL i) (perL i).length).filter fun x=>!decide (x.2.1≤d)):=by
 unfold restL Aqk
 rw[Arh,Arh,List.filter_map,List.filter_filter,List.filter_filter]
 congr 1
 refine List.filter_congr fun x _=>?_
 exact Bool.and_comm _ _
noncomputable def addX(d n:Int):Int:=(addM d n).getD 0
noncomputable def addC(d n:Int):Int:=match addM d n with
 | some _=>0
 | none=>if -4800≤n∧n≤4800 then 13 else 2
theorem Arn{d n x:Int}(h:addM d n=some x):addX d n=x∧addC d n=0:=by unfold addX addC;rw[h];exact⟨rfl,rfl⟩
theorem Arp{d n:Int}(h:addM d n=none):addC d n≠0:=by unfold addC;rw[h];simp only;split<;>decide
theorem Arq{d n:Int}(h:¬(-4800≤n∧n≤4800)):addM d n=none:=by unfold addM;rw[if_neg (fun x=>h x.1)]
noncomputable def cutC(a b mo:Int)(j:Nat):Int:=match cutAt a b mo j with
 | some d=>d
 | none=>a
theorem Arr{a b mo d:Int}{j:Nat}(h:cutAt a b mo j=some d):cutC a b mo j=d∧a<d:=by
 unfold cutC;rw[h];exact⟨rfl,(Ai0 h).2⟩
theorem Ars{a b mo:Int}{j:Nat}(h:cutAt a b mo j=none):cutC a b mo j=a:=by unfold cutC;rw[h]
theorem Art(a b mo:Int)(j:Nat):(cutAt a b mo j=some (addX b (-(j*mo)))∧addC b (-(j*mo))=0∧a<addX b (-(j*mo)))∨(cutAt a b mo j=none∧(addC b (-(j*mo))≠0∨addX b (-(j*mo))≤a)):=by
 cases h:addM b (-(j*mo)) with
 | none=>exact .inr ⟨Ai2 (fun d hd=>by rw[h] at hd;cases hd),.inl (Arp h)⟩
 | some x =>
   obtain⟨e1,e2⟩:=Arn h
   rw[e1,e2]
   rcases Int.lt_or_le a x with hl|hl
   ·exact .inl ⟨Ai1 h hl,rfl,hl⟩
   ·exact .inr ⟨Ai2 (fun d hd=>by rw[h] at hd;injection hd with hd;omega),.inr hl⟩
noncomputable def backL(a b mo:Int)(k:Nat):List Int:=((cuts a b mo).take k).reverse++[b]
noncomputable def headL(a b mo:Int)(k:Nat):Int:=(backL a b mo k).headD 0
theorem back_ne(a b mo:Int)(k:Nat):∃r,backL a b mo k=headL a b mo k::r:=by
 unfold headL
 cases h:backL a b mo k with
 | nil=>unfold backL at h;simp at h
 | cons x r=>exact⟨r,rfl⟩
theorem Aru{a b mo:Int}{k:Nat}{x:Int}(h:(cuts a b mo)[k]?=some x):backL a b mo (k+1)=x::backL a b mo k:=by
 unfold backL
 rw[List.take_add_one,h]
 simp
theorem Arv{a b mo:Int}{k:Nat}{x:Int}(h:(cuts a b mo)[k]?=some x):headL a b mo (k+1)=x:=by unfold headL;rw[Aru h];rfl
theorem Arw{a b mo:Int}(k:Nat)(x:Int):pairs (x::backL a b mo k)=(x,headL a b mo k)::pairs (backL a b mo k):=by
 obtain⟨r,hr⟩:=back_ne a b mo k
 rw[hr]
 rfl
theorem Arx(a b mo:Int):pairs (a::backL a b mo (cuts a b mo).length)=pers a b mo:=by
 unfold backL pers ends
 rw[List.take_length]
def fsum(g:Rat):Rat→List Rat→Rat
 | _,[]=>0
 | c,x::r=>x / c+fsum g (c*g) r
theorem Ary{a b c:Rat}(hb:b≠0)(hc:c≠0):a / b / c=a / (c*b):=by
 have hcb:c*b≠0:=fun h=>by
  rcases Rat.mul_eq_zero.1 h with h|h
  ·exact hc h
  ·exact hb h
 have e1:=Rat.mul_inv_cancel b hb
 have e2:=Rat.mul_inv_cancel c hc
 have e3:=Rat.mul_inv_cancel (c*b) hcb
 rw[Rat.div_def,Rat.div_def,Rat.div_def]
 have e4:b⁻¹*c⁻¹*(c*b)=1:=by
  have:b⁻¹*c⁻¹*(c*b)=(b*b⁻¹)*(c*c⁻¹):=by grind
  rw[this,e1,e2,Rat.mul_one]
 have e5:b⁻¹*c⁻¹=(c*b)⁻¹:=by
  have h1:b⁻¹*c⁻¹*(c*b)*(c*b)⁻¹=(c*b)⁻¹:=by rw[e4,Rat.one_mul]
  rw[Rat.mul_assoc,e3,Rat.mul_one] at h1
  exact h1
 rw[Rat.mul_assoc,e5]
theorem Arz(a b c:Rat):a / c+b / c=(a+b) / c:=by rw[Rat.div_def,Rat.div_def,Rat.div_def,Rat.add_mul]
theorem mul_ne'{a b:Rat}(ha:a≠0)(hb:b≠0):a*b≠0:=fun h=>by
 rcases Rat.mul_eq_zero.1 h with h|h
 ·exact ha h
 ·exact hb h
theorem Ar0{g:Rat}(hg:g≠0):∀(l:List Rat) (c:Rat),c≠0→fsum g (c*g) l=pv g l / c
 | [],c,_=>by show (0:Rat)=0 / c;rw[Rat.div_def,Rat.zero_mul]
 | x::r,c,hc=>by
   have ih:=Ar0 hg r (c*g) (mul_ne' hc hg)
   show x / (c*g)+fsum g (c*g*g) r=pv g (x::r) / c
   rw[ih,pv,Ary hg hc,Arz]
theorem Ar1{g c:Rat}(hg:g≠0)(hc:c≠0):∀l:List Rat,fsum g c l=pvB c g l
 | []=>rfl
 | x::r=>by
   show x / c+fsum g (c*g) r=pvB c g (x::r)
   rw[Ar0 hg r c hc,pvB,Arz]
noncomputable def Ar2(i:Inst)(d:Int)(k:Nat):List (Int×Rat):=Aqh ((paysN i (perL i) k).filter fun x=>!decide (x.2.1≤d))
theorem Ar3(i:Inst)(d:Int){k:Nat}{p:Int×Int}(hp:(perL i)[k]?=some p):Ar2 i d (k+1)=Ar2 i d k++(if d<p.2∧(payAt i (perL i) k).2.2≠0 then [(p.2,(payAt i (perL i) k).2.2)] else []):=by
 have h1:=(Arg (i:=i) hp).2
 unfold Ar2
 rw[Ap8,List.filter_append]
 by_cases h:d<p.2
 ·have e:([payAt i (perL i) k].filter fun x=>!decide (x.2.1≤d))=[payAt i (perL i) k]:=by
   rw[List.filter_cons,h1,Aaz (show ¬p.2≤d by omega)]
   rfl
  rw[e,Aqi,h1]
  by_cases h2:(payAt i (perL i) k).2.2=0
  ·rw[if_pos h2,if_neg (fun x=>x.2 h2)]
  ·rw[if_neg h2,if_pos ⟨h,h2⟩]
 ·have e:([payAt i (perL i) k].filter fun x=>!decide (x.2.1≤d))=[]:=by
   rw[List.filter_cons,h1,Aay (show p.2≤d by omega)]
   rfl
  rw[e,if_neg (fun x=>h x.1),List.append_nil,List.append_nil]
theorem Ar4(i:Inst)(d:Int)(k:Nat):(Ar2 i d k).length≤k:=by
 unfold Ar2
 refine Aap (Aqj _) (Aap (List.length_filter_le _ _) ?_)
 rw[Ap9]
 exact Aad _
theorem Ar5(i:Inst)(d:Int):Ar2 i d (perL i).length=restL i d (Aqk i):=(Arm i d).symm
theorem Ar6{i:Inst}(h:BdI i){d:Int}(hd:d < -25567):Ar2 i d (perL i).length=Aqk i:=by
 unfold Ar2 Aqk
 congr 1
 rw[List.filter_eq_self]
 intro x hx
 unfold paysN at hx
 rw[List.mem_map] at hx
 obtain⟨k,hk,rfl⟩:=hx
 rw[List.mem_range] at hk
 obtain⟨p,hp⟩:∃p,(perL i)[k]?=some p:=⟨_,Aae hk⟩
 rw[(Arg (i:=i) hp).2,Aaz (by have:=(h.per (Aar hp)).2.1;omega)]
 rfl
def eb:Inst:=⟨⟨#[98]⟩,2,⟨#[85,83,68]⟩,0,19737,20103,⟨#[49,48,48,48]⟩,⟨#[]⟩,⟨#[51]⟩,⟨#[53,48]⟩,6,3,⟨#[]⟩,⟨#[]⟩,⟨#[]⟩⟩
theorem eb_f:fv eb.fn eb.fd=1000:=by kernel_rfl
theorem eb_c:fv eb.cn eb.cd=mkRat 3 50:=by kernel_rfl
theorem eb_n{n d:ByteArray}(q:Rat)(h:fv n d=q)(h1:n=I q.num)(h2:d=dn q)(h3:ndig n≤40)(h4:ndig d≤40):Akn n d=0:=by
 have hc:CanQ n d:=by
  unfold CanQ
  rw[h]
  exact⟨h1,h2⟩
 unfold Akn
 rw[if_neg (fun x=>x hc),if_neg (by omega)]
theorem eb_ok:BdI eb where
 sz:=⟨by decide,by decide,by decide,by decide,by decide,by decide,by decide,by decide,by decide⟩
 f1:=by decide
 f2:=by decide
 c1:=by decide
 c2:=by decide
 kd:=rfl
 ok:={id:=by decide,kind:=by decide,cur:=by decide,places:=by decide,issued:=by unfold okDay;decide,matures:=.inr ⟨by decide,by unfold okDay;decide,by decide⟩,n1:=eb_n 1000 eb_f (by kernel_rfl) (by kernel_rfl) (by decide) (by decide),n2:=eb_n (mkRat 3 50) eb_c (by kernel_rfl) (by kernel_rfl) (by decide) (by decide),n3:=eb_n 0 (by kernel_rfl) (by kernel_rfl) (by kernel_rfl) (by decide) (by decide),plain:=fun h=>absurd rfl h,bond:=fun _=>⟨by decide,by decide,by decide,by decide,by decide,rfl,by decide⟩,fwd:=fun h=>absurd h (by decide)}
theorem d_issued:VDate 2024 1 15∧dayOf 2024 1 15=19737:=by unfold VDate lenB leapB;decide
theorem d_jul:VDate 2024 7 15∧dayOf 2024 7 15=19919:=by unfold VDate lenB leapB;decide
theorem d_mat:VDate 2025 1 15∧dayOf 2025 1 15=20103:=by unfold VDate lenB leapB;decide
theorem d_apr:VDate 2024 4 15∧dayOf 2024 4 15=19828:=by unfold VDate lenB leapB;decide
theorem eb_dk:dK 20103=24300∧dD 20103=15:=dK_eq d_mat.1 d_mat.2
theorem eb_cuts:cuts 19737 20103 6=[19919]:=by
 have a1:addM 20103 (-((1:Nat)*(6:Int)))=some 19919:=by
  unfold addM
  rw[eb_dk.1,eb_dk.2,if_pos (by decide),Air]
  have e:dayOf (kY (24300+-((1:Nat)*(6:Int)))) (kM (24300+-((1:Nat)*(6:Int)))) (min 15 (kL (24300+-((1:Nat)*(6:Int)))))=19919:=by decide
  rw[e]
 have a2:addM 20103 (-((2:Nat)*(6:Int)))=some 19737:=by
  unfold addM
  rw[eb_dk.1,eb_dk.2,if_pos (by decide),Air]
  have e:dayOf (kY (24300+-((2:Nat)*(6:Int)))) (kM (24300+-((2:Nat)*(6:Int)))) (min 15 (kL (24300+-((2:Nat)*(6:Int)))))=19737:=by decide
  rw[e]
 have c1:cutAt 19737 20103 6 1=some 19919:=Ai1 a1 (by decide)
 have c2:cutAt 19737 20103 6 2=none:=Ai2 (fun d hd=>by
  have hd':addM 20103 (-((2:Nat)*(6:Int)))=some d:=hd
  rw[a2] at hd'
  injection hd' with hd'
  omega)
 have n0:=Ai8 (a:=19737) (b:=20103) (mo:=6) (by decide) (i:=0) (Nat.zero_le _)
 rw[show 0+1=1 from rfl,c1] at n0
 have hl:1≤(cuts 19737 20103 6).length:=(Aak.1 n0).1
 have n1:=Ai8 (a:=19737) (b:=20103) (mo:=6) (by decide) (i:=1) hl
 rw[show 1+1=2 from rfl,c2] at n1
 have hl2:(cuts 19737 20103 6).length≤1:=List.getElem?_eq_none_iff.1 n1
 generalize cuts 19737 20103 6=l at n0 hl hl2
 match l,n0,hl2 with
 | [x],n0,_=>simp at n0;rw[n0]
theorem eb_per:perL eb=[(19737,19919),(19919,20103)]:=by
 show pers 19737 20103 6=_
 unfold pers ends
 rw[eb_cuts]
 rfl
theorem eb_few:(cuts eb.issued eb.matures eb.months).length≤399:=by
 show (cuts 19737 20103 6).length≤399
 rw[eb_cuts]
 decide
theorem eb_y1:dcF 3 19737 19919=mkRat 1 2:=by
 unfold dcF
 rw[if_neg (by decide),if_neg (by decide),if_neg (by decide),Ajp d_issued.1 d_issued.2 d_jul.1 d_jul.2,show d30 3 2024 1 15 2024 7 15=180 from by decide]
 kernel_rfl
theorem eb_y2:dcF 3 19919 20103=mkRat 1 2:=by
 unfold dcF
 rw[if_neg (by decide),if_neg (by decide),if_neg (by decide),Ajp d_jul.1 d_jul.2 d_mat.1 d_mat.2,show d30 3 2024 7 15 2025 1 15=180 from by decide]
 kernel_rfl
theorem eb_y3:dcF 3 19737 19828=mkRat 1 4:=by
 unfold dcF
 rw[if_neg (by decide),if_neg (by decide),if_neg (by decide),Ajp d_issued.1 d_issued.2 d_apr.1 d_apr.2,show d30 3 2024 1 15 2024 4 15=90 from by decide]
 kernel_rfl
theorem Ar7{a b:Int}{q:Rat}(h:dcF 3 a b=q):intQ eb a b=1000*mkRat 3 50*q:=by
 unfold intQ
 rw[eb_f,eb_c]
 show _*dcF 3 a b=_
 rw[h]
theorem eb_p0:(perL eb)[0]?=some (19737,19919):=by rw[eb_per];rfl
theorem eb_p1:(perL eb)[1]?=some (19919,20103):=by rw[eb_per];rfl
theorem eb_len:(perL eb).length=2:=by rw[eb_per];rfl
theorem eb_c0:coupQ eb 0=30:=by rw[Aq7 eb_p0,Ar7 eb_y1];kernel_rfl
theorem eb_c1:coupQ eb 1=30:=by rw[Aq7 eb_p1,Ar7 eb_y2];kernel_rfl
theorem eb_acc:accQ eb 19828=15:=by rw[acc_per eb_ok eb_p0 (by decide) (by decide),Ar7 eb_y3];kernel_rfl
theorem eb_flows:Aqk eb=[(19919,30),(20103,1030)]:=by
 unfold Aqk
 rw[eb_len,show (2:Nat)=0+1+1 from rfl,Ap8,Ap8,Aqi,Aqi]
 have p0:payAt eb (perL eb) 0=(19737,19919,30):=by
  have e:=Aq9 eb 0
  rw[eb_c0,eb_len,if_neg (by decide),Rat.add_zero] at e
  exact Prod.ext (Arg eb_p0).1 (Prod.ext (Arg eb_p0).2 e)
 have p1:payAt eb (perL eb) 1=(19919,20103,1030):=by
  have e:=Aq9 eb 1
  rw[eb_c1,eb_len,if_pos (by decide),eb_f] at e
  exact Prod.ext (Arg eb_p1).1 (Prod.ext (Arg eb_p1).2 (e.trans (by kernel_rfl)))
 rw[p0,p1,if_neg (by decide),if_neg (by decide)]
 rfl
theorem eb_cc:∀j,j<(perL eb).length→coupQ eb j=30:=by
 intro j hj
 rw[eb_len] at hj
 rcases (show j=0∨j=1 by omega) with rfl|rfl
 ·exact eb_c0
 ·exact eb_c1
theorem eb_rate:(30:Rat) / fv eb.fn eb.fd=mkRat 3 100:=by rw[eb_f];kernel_rfl
theorem eb_pres0:presQ eb 19737 (mkRat 3 100)=1000:=by
 have:=Arf eb_ok eb_p0 eb_cc
 rw[eb_rate,eb_f] at this
 exact this
theorem eb_pres1:presQ eb 19919 (mkRat 3 100)=1000:=by
 have:=Arf eb_ok eb_p1 eb_cc
 rw[eb_rate,eb_f] at this
 exact this
end Go.Proofs.YteennkgpeiafaaaGreatDoor
