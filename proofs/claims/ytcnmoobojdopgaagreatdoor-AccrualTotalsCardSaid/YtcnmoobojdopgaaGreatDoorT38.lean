/-
  The walks of trancheref11.Flows,Rest,Dirty,Accrued. (Printed by gen_rb6.py.)
-/
import Derived.Test.YtcnmoobojdopgaaGreatDoorT37
set_option linter.unusedVariables false
set_option linter.unusedSimpArgs false
set_option maxHeartbeats 16000000
set_option maxRecDepth 100000
namespace Go.Proofs.YtcnmoobojdopgaaGreatDoor
open Go.RowKit Tr Go.Shelf
attribute [local go_sem] Oper.semAt_some
structure RDTV(w:World)(i:Inst)(fn fd:ByteArray)(ad:Addr)(ob:Obj)(N cap:Nat)(d:Int)(iq rq:Rat)  (L:Array Bool) (W:World) (s7 s35 s36 s37 s38 s39 s40:Value):Prop where
 k0:L.getD 0 false=true→s35=.agg #[.string fn,.string fd]
 k1:L.getD 1 false=true→s36=.agg #[.string i.id,.int .i64 i.kind,.string i.cur,.int .i64 i.places,.int .i64 i.issued,.int .i64 i.matures,.string i.fn,.string i.fd,.string i.cn,.string i.cd,.int .i64 i.months,.int .i64 i.count,.string i.other,.string i.sn,.string i.sd]
 k2:L.getD 2 false=true→s37=.slice (some ad) N cap
 k3:L.getD 3 false=true→s38=.int .i64 d
 k4:L.getD 4 false=true→s39=.agg #[.string (I iq.num),.string (dn iq)]
 k5:L.getD 5 false=true→s40=.agg #[.string (I rq.num),.string (dn rq)]
 k7:L.getD 7 false=true→s7=.int .i64 0
 bx:BX w [(w.heap.size,.cells i.cells 27 (0,0)),(w.heap.size+1,.cells #[.string fn,.string fd] 25 (0,0)),(ad.block,ob)] W
 o6:L.getD 6 false=false→W.heap[w.heap.size+2]?=some (fz)
 n6:L.getD 6 false=true→W.heap[w.heap.size+2]?=some (fobj rq)
structure RDTJ(w:World)(i:Inst)(fn fd:ByteArray)(ad:Addr)(ob:Obj)(N cap:Nat)(d:Int)(iq rq:Rat)(x0 x2 x4 x9 x10 x11 x12 x13 x14 x15 x16 x17 x18 x19 x20 x21 x22 x23 x24 x25 x26 x27 x28 x29 x30 x31 x32 x33 x34:Value)(L:Array Bool)(a:Act)(W:World):Prop where
 sz:L.size=8
 fr:∃s7 s35 s36 s37 s38 s39 s40:Value,a={tmps:=#[x0,.int .i64 d,x2,.pointer (some ⟨w.heap.size,0,none⟩),x4,.pointer (some ⟨w.heap.size+1,0,none⟩),.pointer (some ⟨w.heap.size+2,0,none⟩),s7,.slice (some ad) N cap,x9,x10,x11,x12,x13,x14,x15,x16,x17,x18,x19,x20,x21,x22,x23,x24,x25,x26,x27,x28,x29,x30,x31,x32,x33,x34,s35,s36,s37,s38,s39,s40],defers:=[]}∧RDTV w i fn fd ad ob N cap d iq rq  L W s7 s35 s36 s37 s38 s39 s40
theorem Awx{i:Inst}(hg:GI i)(d:Int)(fn fd:ByteArray)(s1:fn.size≤16)(s2:fd.size≤16)(w:World):
 Calls Tryz.prog 121 #[i.enc,.int .i64 d,.agg #[.string fn,.string fd]] w fun e w'=>e=.returned (.tuple #[fenc (dyQ i d fn fd),.int .i64 (dyC i d fn fd)])∧Below w.heap.size w w':=by
 have HP:=hI (fun W=>Awv hg fn fd s1 s2 W)
 have HD:=hI (fun W=>Awg d W)
 have HZ:=hI fenc_zero
 have HGI:=hI hg
 have HSS:=hI (And.intro s1 s2)
 obtain⟨W0,hW0',hB0,hz,k0,k1,k2⟩:=box3 w (.cells i.cells 27) (.cells #[.string fn,.string fd] 25) fz
 have hW0:=hW0'.symm
 have hg0:BX w [(w.heap.size,.cells i.cells 27 (0,0)),(w.heap.size+1,.cells #[.string fn,.string fd] 25 (0,0)),(w.heap.size+2,fz)] W0:=⟨hB0,fun x hx=>by
  rcases List.mem_cons.1 hx with rfl|hx
  ·exact k0
  ·rcases List.mem_cons.1 hx with rfl|hx
   ·exact k1
   ·rcases List.mem_cons.1 hx with rfl|hx
    ·exact k2
    ·cases hx⟩
 obtain⟨c0,c1,c2,c3,c4,c5,c6,c7,c8,c9,c10,c11,c12,c13,c14⟩:=Acq k0
 try simp[Inst.cells] at c0 c1 c2 c3 c4 c5 c6 c7 c8 c9 c10 c11 c12 c13 c14
 have q0:=Aaa k1 0
 have q1:=Aaa k1 1
 simp at q0 q1
 have hs0:w.heap.size+3≤W0.heap.size:=by omega
 have HS0:=hI hs0
 clear hB0 hz k0 k1 k2 hW0' hg hs0 s1 s2
 unfold Inst.enc Inst.cells at *
 go_enter Tryz.func121,Tryz.ntmps121
 go_wp2_with fail
 refine (HP.out _).mono ?_
 rintro e w1 hpv
 have hg1:=hg0.below hpv.2
 have k2:=hg1.get 2 rfl
 have m0:=Aaa k2 0
 have m1:=Aaa k2 1
 have f0:=Aaf k2 0
 have f1:=Aaf k2 1
 simp at m0 m1 f0 f1
 have HK2:=hI k2
 have HG1:=hI hg1
 clear hg0 hg1 k2 hW0 q0 q1 c0 c1 c2 c3 c4 c5 c6 c7 c8 c9 c10 c11 c12 c13 c14
 by_cases hn:ckC i fn fd=0
 case neg =>
  obtain⟨⟨A,k,rfl,_,_⟩,_⟩:=hpv
  have HCC:Hid (dyC i d fn fd=ckC i fn fd∧dyQ i d fn fd=0):=by
   have hc:dyC i d fn fd=ckC i fn fd:=by
    unfold dyC
    by_cases hq:CanQ fn fd
    ·rw[if_neg (fun x=>x hq),if_pos (by rw[←Awr (i:=i) hq];exact hn),Awr hq]
    ·rw[if_pos hq,Aws hq]
   exact⟨hc,by unfold dyQ;rw[if_neg (by rw[hc];exact hn)]⟩
  obtain⟨n,hnn⟩:∃n,ckC i fn fd=n:=⟨_,rfl⟩
  rw[hnn] at HCC hn ⊢
  have t1:(n==0)=false:=Aaj.2 hn
  have t2:(n != 0)=true:=by rw[bne,t1];rfl
  clear hn hnn
  go_wp2_with fail
  refine bodyPost_ret (As6 rfl _ _ (w.heap.size+2) _ _ (0,0) _ rfl (Go.Proofs.YtcnmoobojdopgaaGreatDoor.set2 HK2.out _ _) Tryz.underlying25 rfl (by kernel_rfl)) rfl ?_
  exact⟨by rw[HCC.out.1,HCC.out.2,HZ.out];rfl,Ah0 (by omega) HG1.out.1 _ _⟩
 have hq:CanQ fn fd:=by
  by_cases hq:CanQ fn fd
  ·exact hq
  ·rw[Aws hq] at hn;cases hn
 have hn0:perC i=0:=by rw[←Awr (i:=i) hq];exact hn
 obtain⟨h1,h2,h3⟩:=Auu hn0
 have hb:=HGI.out.bd h1 h2
 rw[Awu hn,hn] at hpv
 obtain⟨ad,cap,rfl,hrp,hab⟩:=hpv.have (Ats _ _ _)
 obtain⟨ob,hob,hrb⟩:=hrp.box
 have HRB:Hid (∀W':World,W'.heap[ad.block]?=some ob→RdP W' ad (perL i)):=hrb
 obtain⟨N,hN⟩:∃N,(perL i).length=N:=⟨_,rfl⟩
 rw[hN]
 have hN4:N≤400:=by
  have h5:=Akk i.issued i.matures i.months
  have h6:(pers i.issued i.matures i.months).length=N:=hN
  omega
 have hab2:w.heap.size+3≤ad.block:=by have:=HS0.out;omega
 have HOB:=hI hob
 have HN:=hI hN
 have HH:=hI hb
 have HCQ:=hI hq
 have HN0:=hI hn0
 clear hpv h1 h2 h3 hb hrp hab hob hrb hN hn hq hn0
 go_wp2_with fail
 refine (HD.out _).mono ?_
 rintro e w2 ⟨rfl,rfl⟩
 by_cases hd:okDay d
 case neg =>
  have HCC:Hid (dyC i d fn fd=13∧dyQ i d fn fd=0):=by
   have hc:dyC i d fn fd=13:=by unfold dyC;rw[if_neg (fun x=>x HCQ.out),if_neg (fun x=>x HN0.out),if_pos hd]
   exact⟨hc,by unfold dyQ;rw[if_neg (by rw[hc];decide)]⟩
  rw[Au3 hd]
  clear hd
  go_wp2_with fail
  refine bodyPost_ret (As6 rfl _ _ (w.heap.size+2) _ _ (0,0) _ rfl (Go.Proofs.YtcnmoobojdopgaaGreatDoor.set2 HK2.out _ _) Tryz.underlying25 rfl (by kernel_rfl)) rfl ?_
  exact⟨by rw[HCC.out.1,HCC.out.2,HZ.out];rfl,Ah0 (by omega) HG1.out.1 _ _⟩
 rw[propB_iff.2 hd]
 have HDD:=hI hd
 have c4:=Aaa (HG1.out.get 0 rfl) 4
 have c5:=Aaa (HG1.out.get 0 rfl) 5
 simp[Inst.cells] at c4 c5
 clear hd
 by_cases hl:i.issued≤d∧d≤i.matures
 case neg =>
  have HCC:Hid (dyC i d fn fd=24∧dyQ i d fn fd=0):=by
   have hc:dyC i d fn fd=24:=by unfold dyC;rw[if_neg (fun x=>x HCQ.out),if_neg (fun x=>x HN0.out),if_neg (fun x=>x HDD.out),if_pos hl]
   exact⟨hc,by unfold dyQ;rw[if_neg (by rw[hc];decide)]⟩
  have hx:decide (d<i.issued)=true∨(decide (d<i.issued)=false∧decide (d > i.matures)=true∧decide (i.matures<d)=true):=by
   rcases Int.lt_or_le d i.issued with h|h
   ·exact .inl (Aax h)
   ·exact .inr ⟨Aay (by omega),Aax (by omega),Aax (by omega)⟩
  clear hl
  rcases hx with t1|⟨t1,t2,t3⟩
  all_goals
   go_wp2_with fail
   refine bodyPost_ret (As6 rfl _ _ (w.heap.size+2) _ _ (0,0) _ rfl (Go.Proofs.YtcnmoobojdopgaaGreatDoor.set2 HK2.out _ _) Tryz.underlying25 rfl (by kernel_rfl)) rfl ?_
   exact⟨by rw[HCC.out.1,HCC.out.2,HZ.out];rfl,Ah0 (by omega) HG1.out.1 _ _⟩
 have hIN:=fun W (hW:RdP W ad (perL i))=>Awj i HH.out ad N cap d HDD.out HN.out (by omega) W hW
 have bIN:=Avy HH.out HDD.out
 have bFF:BdQ (fv fn fd) 60:=(fv_bd fn fd (k:=17) (by have:=HSS.out;omega) (by have:=HSS.out;omega)).mono (by omega)
 have HCC0:Hid (dyC i d fn fd=0∧dyQ i d fn fd=fv fn fd+accQ i d):=by
  have hc:dyC i d fn fd=0:=by unfold dyC;rw[if_neg (fun x=>x HCQ.out),if_neg (fun x=>x HN0.out),if_neg (fun x=>x HDD.out),if_neg (fun x=>x hl)]
  exact⟨hc,by unfold dyQ;rw[if_pos hc]⟩
 have t1:decide (d<i.issued)=false:=Aay (by omega)
 have t2:decide (d > i.matures)=false:=Aay (by omega)
 have t3:decide (i.matures<d)=false:=Aay (by omega)
 obtain⟨iq,hiq⟩:∃iq,accQ i d=iq:=⟨_,rfl⟩
 rw[hiq] at hIN bIN HCC0
 have hAD:=fun W=>Aq2 bFF (bIN.mono (by omega):BdQ iq 60) (by omega) W
 obtain⟨rq,hrq⟩:∃rq,fv fn fd+iq=rq:=⟨_,rfl⟩
 rw[hrq] at hAD HCC0
 have HCC:=hI HCC0.out
 have hcq:=HCQ.out
 unfold CanQ at hcq
 unfold fenc at hIN hAD
 rw[←hcq.1,←hcq.2] at hAD
 have HIN:Hid (∀W,BX w [(w.heap.size,.cells i.cells 27 (0,0)),(w.heap.size+1,.cells #[.string fn,.string fd] 25 (0,0)),(ad.block,ob)] W→Calls Tryz.prog 177 #[.agg #[.string i.id,.int .i64 i.kind,.string i.cur,.int .i64 i.places,.int .i64 i.issued,.int .i64 i.matures,.string i.fn,.string i.fd,.string i.cn,.string i.cd,.int .i64 i.months,.int .i64 i.count,.string i.other,.string i.sn,.string i.sd],.slice (some ad) N cap,.int .i64 d] W fun e w'=>e=.returned (.agg #[.string (I iq.num),.string (dn iq)])∧Below W.heap.size W w'):=fun W hW=>hIN W (HRB.out W (hW.get 2 rfl))
 have HAD:Hid (∀W,BX w [(w.heap.size,.cells i.cells 27 (0,0)),(w.heap.size+1,.cells #[.string fn,.string fd] 25 (0,0)),(ad.block,ob)] W→Calls Tryz.prog 72 #[.agg #[.string fn,.string fd],.agg #[.string (I iq.num),.string (dn iq)]] W fun e w'=>e=.returned (.agg #[.string (I rq.num),.string (dn rq)])∧Below W.heap.size W w'):=fun W _=>hAD W
 have hg:BX w [(w.heap.size,.cells i.cells 27 (0,0)),(w.heap.size+1,.cells #[.string fn,.string fd] 25 (0,0)),(ad.block,ob)] w1.drew:=⟨HG1.out.1.drew,fun z hz=>by
  rcases List.mem_cons.1 hz with rfl|hz
  ·exact HG1.out.get 0 rfl
  ·rcases List.mem_cons.1 hz with rfl|hz
   ·exact HG1.out.get 1 rfl
   ·rcases List.mem_cons.1 hz with rfl|hz
    ·exact HOB.out
    ·cases hz⟩
 have hko6:w1.drew.heap[w.heap.size+2]?=some fz:=HK2.out
 clear hIN bIN bFF hiq hAD hrq HCC0 hl hcq m0 m1 f0 f1
 go_wp2_with fail
 clear t1 t2 t3 c4 c5
 have mixed:Tryz.prog.follows .mixedOrders=true:=by kernel_rfl
 refine wp_region_any mixed (Arn (RDTJ w i fn fd ad ob N cap d iq rq _ _ _ _ _ _ _ _ _ _ _ _ _ _ _ _ _ _ _ _ _ _ _ _ _ _ _ _ _) ?stRDT ?dnRDT _ _ _ _ ⟨by simp,⟨_,_,_,_,_,_,_,rfl,fun h=>by simp at h,fun h=>by simp at h,fun h=>by simp at h,fun h=>by simp at h,fun h=>by simp at h,fun h=>by simp at h,fun h=>by simp at h,hg,fun _=>hko6,fun h=>by simp at h⟩⟩ (by decide))
 case dnRDT =>
  intro L a w' hj hr
  have all:=Aqb hr hj.sz (by kernel_rfl)
  obtain⟨s7,s35,s36,s37,s38,s39,s40,rfl,hv⟩:=hj.fr
  have HF:=hI (And.intro (hv.n6 (all 6 (by omega))) (And.intro hv.bx.1 (hv.k7 (all 7 (by omega)))))
  clear all hv hj hr
  obtain⟨_,_,e7⟩:=HF.out
  subst e7
  go_wp2_with fail
  refine bodyPost_ret (As6 rfl _ _ (w.heap.size+2) _ _ (0,0) _ rfl HF.out.1 Tryz.underlying25 rfl (by kernel_rfl)) rfl ?_
  exact⟨by rw[HCC.out.1,HCC.out.2];rfl,HF.out.2.1⟩
 case stRDT =>
  intro L a w' hj i hi
  obtain⟨hun,o,ho,hall⟩:=mem_ready.1 hi
  have hoff:=Ap2 hun
  have hlt:=(Aab.1 ho).1
  simp at hlt
  obtain⟨s7,s35,s36,s37,s38,s39,s40,rfl,hv⟩:=hj.fr
  have HV:=hI hv
  have HJ:=hI hj
  clear hv hj
  rcases (show i=0∨i=1∨i=2∨i=3∨i=4∨i=5∨i=6∨i=7 from by omega) with rfl|rfl|rfl|rfl|rfl|rfl|rfl|rfl
  all_goals simp at ho
  all_goals subst ho
  have hb:=HV.out.bx.get 1 rfl;have c6:=Aaa hb 0;have c7:=Aaa hb 1
  simp at c6 c7
  rotate_left
  have hb:=HV.out.bx.get 0 rfl
  obtain⟨c0,c1,c2,c3,c4,c5,c6,c7,c8,c9,c10,c11,c12,c13,c14⟩:=Acq hb
  try simp[Inst.cells] at c0 c1 c2 c3 c4 c5 c6 c7 c8 c9 c10 c11 c12 c13 c14
  rotate_left
  rotate_left
  rotate_left
  ·cases HV.out.k1 (Hq hall 1).out
   cases HV.out.k2 (Hq hall 2).out
   cases HV.out.k3 (Hq hall 3).out
   clear hall hi
   refine Ap9 rfl fun K' HK=>?_
   go_simp
   refine (HIN.out _ HV.out.bx).mono ?_
   rintro e wn ⟨rfl,hbn⟩
   cases HV.out
   refine HK.out _ _ ⟨by simp[HJ.out.sz],⟨_,_,_,_,_,_,_,rfl,?_,?_,?_,?_,fun _=>rfl,?_,?_,HV.out.bx.below hbn,fun h=>bkeep hbn (HV.out.o6 (Ap5 h)),fun h=>bkeep hbn (HV.out.n6 (Ap4 h))⟩⟩
   all_goals exact Um (by assumption)
  ·cases HV.out.k0 (Hq hall 0).out
   cases HV.out.k4 (Hq hall 4).out
   clear hall hi
   refine Ap9 rfl fun K' HK=>?_
   go_simp
   refine (HAD.out _ HV.out.bx).mono ?_
   rintro e wn ⟨rfl,hbn⟩
   cases HV.out
   refine HK.out _ _ ⟨by simp[HJ.out.sz],⟨_,_,_,_,_,_,_,rfl,?_,?_,?_,?_,?_,fun _=>rfl,?_,HV.out.bx.below hbn,fun h=>bkeep hbn (HV.out.o6 (Ap5 h)),fun h=>bkeep hbn (HV.out.n6 (Ap4 h))⟩⟩
   all_goals exact Um (by assumption)
  ·cases HV.out.k5 (Hq hall 5).out
   clear hall hi
   have hko:=HV.out.o6 hoff
   have m0:=Aaa hko 0;have m1:=Aaa hko 1;have f0:=Aaf hko 0;have f1:=Aaf hko 1
   simp at m0 m1 f0 f1
   refine Ap9 rfl fun K' HK=>?_
   go_simp
   cases HV.out
   refine HK.out _ _ ⟨by simp[HJ.out.sz],⟨_,_,_,_,_,_,_,rfl,?_,?_,?_,?_,?_,?_,?_,HV.out.bx.far (b:=w.heap.size+2) (by omega) (by simp<;>omega) _ _,fun h=>(Ap6 h (Ap0 hun)).elim,fun _=>set2 hko _ _⟩⟩
   all_goals exact Um (by assumption)
  rotate_left
  all_goals
   clear hall hi
   refine Ap9 rfl fun K' HK=>?_
   go_simp
   cases HV.out
   refine HK.out _ _ ⟨by simp[HJ.out.sz],?_⟩
   iterate 7 apply Exists.intro
   refine⟨rfl,?_⟩
   constructor
   all_goals first|exact Um (by assumption)|exact Un (by assumption)|exact Uf (by assumption)|exact fun _=>rfl|assumption
theorem Awy{i:Inst}(hg:GI i)(d:Int)(w:World):Calls Tryz.prog 67 #[i.enc,.int .i64 d] w fun e w'=>e=.returned (.tuple #[fenc (dyQ i d ⟨#[]⟩ ⟨#[]⟩),.int .i64 (dyC i d ⟨#[]⟩ ⟨#[]⟩)])∧Below w.heap.size w w':=by
 have HD:=hI (fun W=>Awx hg d ⟨#[]⟩ ⟨#[]⟩ (Nat.zero_le _) (Nat.zero_le _) W)
 obtain⟨q,hq⟩:∃q,dyQ i d ⟨#[]⟩ ⟨#[]⟩=q:=⟨_,rfl⟩
 obtain⟨n,hn⟩:∃n,dyC i d ⟨#[]⟩ ⟨#[]⟩=n:=⟨_,rfl⟩
 rw[hq,hn] at HD ⊢
 obtain⟨W0,hW0',hB0,hz,k0,k1⟩:=box2 w (.cells i.cells 27) fz
 have hW0:=hW0'.symm
 have hg0:BX w [(w.heap.size,.cells i.cells 27 (0,0)),(w.heap.size+1,fz)] W0:=⟨hB0,fun x hx=>by
  rcases List.mem_cons.1 hx with rfl|hx
  ·exact k0
  ·rcases List.mem_cons.1 hx with rfl|hx
   ·exact k1
   ·cases hx⟩
 obtain⟨c0,c1,c2,c3,c4,c5,c6,c7,c8,c9,c10,c11,c12,c13,c14⟩:=Acq k0
 try simp[Inst.cells] at c0 c1 c2 c3 c4 c5 c6 c7 c8 c9 c10 c11 c12 c13 c14
 clear hB0 hz k0 k1 hW0' hg hq hn
 unfold Inst.enc Inst.cells at *
 go_enter Tryz.func67,Tryz.ntmps67
 go_wp2_with fail
 refine (HD.out _).mono ?_
 rintro e w1 ⟨rfl,x1⟩
 have hg1:=hg0.below x1
 have k2:=hg1.get 1 rfl
 have m0:=Aaa k2 0
 have m1:=Aaa k2 1
 have f0:=Aaf k2 0
 have f1:=Aaf k2 1
 simp at m0 m1 f0 f1
 have HK2:=hI k2
 have HG1:=hI hg1
 clear hg0 hg1 k2 x1 hW0 c0 c1 c2 c3 c4 c5 c6 c7 c8 c9 c10 c11 c12 c13 c14
 unfold fenc
 go_wp2_with fail
 refine bodyPost_ret (As6 rfl _ _ (w.heap.size+1) _ _ (0,0) _ rfl (Go.Proofs.YtcnmoobojdopgaaGreatDoor.set2 HK2.out _ _) Tryz.underlying25 rfl (by kernel_rfl)) rfl ?_
 exact⟨rfl,Ah0 (by omega) HG1.out.1 _ _⟩
end Go.Proofs.YtcnmoobojdopgaaGreatDoor
