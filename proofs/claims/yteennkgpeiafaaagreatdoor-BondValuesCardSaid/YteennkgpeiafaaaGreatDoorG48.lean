/-
  The walks of trancheref11.check,Periods,Coupon,after,Flows,Rest,Dirty,Accrued. (Printed by gen_rb5.py.)
-/
import Derived.Test.YteennkgpeiafaaaGreatDoorG46
import Derived.Test.YteennkgpeiafaaaGreatDoorG47
import Derived.Test.YteennkgpeiafaaaGreatDoorG44
set_option linter.unusedVariables false
set_option linter.unusedSimpArgs false
set_option maxHeartbeats 16000000
set_option maxRecDepth 100000
namespace Go.Proofs.YteennkgpeiafaaaGreatDoor
open Go.RowKit Tr Go.Shelf
attribute [local go_sem] Oper.semAt_some
noncomputable def ckC(i:Inst)(fn fd:ByteArray):Int:=if propB (CanQ fn fd)=true then perC i else 1
noncomputable def ckB(i:Inst)(fn fd:ByteArray):List (Int×Int):=if ckC i fn fd=0 then perL i else []
theorem Auf{i:Inst}{fn fd:ByteArray}(h:CanQ fn fd):ckC i fn fd=perC i:=by unfold ckC;rw[if_pos (propB_iff.2 h)]
theorem Aug{i:Inst}{fn fd:ByteArray}(h:¬CanQ fn fd):ckC i fn fd=1:=by unfold ckC;rw[Ath h];rfl
theorem Auh{i:Inst}{fn fd:ByteArray}(h:ckC i fn fd≠0):ckB i fn fd=[]:=by unfold ckB;rw[if_neg h]
theorem Aui{i:Inst}{fn fd:ByteArray}(h:ckC i fn fd=0):ckB i fn fd=perL i:=by unfold ckB;rw[if_pos h]
theorem PerV.none{c:Int}{w W:World}(hb:Below w.heap.size w W)(hs:w.heap.size≤W.heap.size)(t:TypeId):PerV [] c w (.returned (.tuple #[.slice (some ⟨W.heap.size,0,none⟩) 0 0,.int .i64 c])) (W.alloc (.cells #[] t)) :=
 ⟨⟨_,0,rfl,Atq _ _ _,fun ad ha=>by injection ha with ha;rw[←ha];exact hs⟩,hb.alloc hs _⟩
theorem FlwV.none{c:Int}{w W:World}(hb:Below w.heap.size w W)(hs:w.heap.size≤W.heap.size)(t:TypeId):FlwV [] c w (.returned (.tuple #[.slice (some ⟨W.heap.size,0,none⟩) 0 0,.int .i64 c])) (W.alloc (.cells #[] t)) :=
 ⟨⟨_,0,rfl,Atr _ _ _⟩,hb.alloc hs _⟩
theorem Auj{i:Inst}(hg:GI i)(fn fd:ByteArray)(s1:fn.size≤16)(s2:fd.size≤16)(w:World):Calls Tryz.prog 66 #[i.enc,.agg #[.string fn,.string fd]] w (PerV (ckB i fn fd) (ckC i fn fd) w):=by
 have HCK:=hI (fun W=>Ak1 i hg.ti W)
 have HFY:=hI (fun (h:CanQ fn fd) W=>Aib fn fd s1 s2 h W)
 have HFN:=hI (fun (h:¬CanQ fn fd) W=>Aic fn fd s1 s2 h W)
 have HGI:=hI hg
 obtain⟨Q,hQ⟩:∃Q,PerV (ckB i fn fd) (ckC i fn fd) w=Q:=⟨_,rfl⟩
 rw[hQ]
 have HQ:=hI hQ
 obtain⟨W0,hW0',hB0,hz,k0,k1⟩:=box2 w (.cells i.cells 27) (.cells #[.string fn,.string fd] 25)
 have hW0:=hW0'.symm
 have hg0:BX w [(w.heap.size,.cells i.cells 27 (0,0)),(w.heap.size+1,.cells #[.string fn,.string fd] 25 (0,0))] W0:=⟨hB0,fun x hx=>by
  rcases List.mem_cons.1 hx with rfl|hx
  ·exact k0
  ·rcases List.mem_cons.1 hx with rfl|hx
   ·exact k1
   ·cases hx⟩
 obtain⟨c0,c1,c2,c3,c4,c5,c6,c7,c8,c9,c10,c11,c12,c13,c14⟩:=Acs k0
 try simp[Inst.cells] at c0 c1 c2 c3 c4 c5 c6 c7 c8 c9 c10 c11 c12 c13 c14
 clear hB0 hz k0 k1 hW0' hg s1 s2 hQ
 unfold Inst.enc Inst.cells at *
 go_enter Tryz.func66,Tryz.ntmps66
 go_wp2_with fail
 refine (HCK.out _).mono ?_
 rintro e w1 ⟨n,rfl,hn,x1⟩
 have HNK:=hI hn
 have HG1:=hI (hg0.below x1)
 clear hg0 x1 hW0 hn c0 c1 c2 c3 c4 c5 c6 c7 c8 c9 c10 c11 c12 c13 c14
 by_cases h1:n=0
 case neg =>
  have t1:(n==0)=false:=Aaj.2 h1
  have t2:(n != 0)=true:=by rw[bne,t1];rfl
  have hck:ckC i fn fd=1:=by
   by_cases hq:CanQ fn fd
   ·rw[Auf hq];exact perC_1 (fun h=>h1 (HNK.out.2 h))
   ·exact Aug hq
  have HCC:=hI hck
  clear h1 hck
  go_wp2_with fail
  rw[←HQ.out,HCC.out,Auh (by rw[HCC.out];decide)]
  exact PerV.none HG1.out.1 HG1.out.1.size _
 have HOK:=hI (HNK.out.1 h1)
 subst h1
 obtain⟨q0,q1⟩:=An6 (HG1.out.get 1 rfl)
 clear HNK HCK
 by_cases hq:CanQ fn fd
 case neg =>
  have HF:=hI (fun W=>HFN.out hq W)
  have HCC:=hI (Aug (i:=i) hq)
  clear hq
  go_wp2_with fail
  refine (HF.out _).mono ?_
  rintro e w2 ⟨rfl,x2⟩
  have HG2:=hI (HG1.out.below x2)
  clear x2 q0 q1
  go_wp2_with fail
  rw[←HQ.out,HCC.out,Auh (by rw[HCC.out];decide)]
  exact PerV.none HG2.out.1 HG2.out.1.size _
 have HF:=hI (fun W=>HFY.out hq W)
 have HCY:=hI (Auf (i:=i) hq)
 clear hq HFN HFY
 go_wp2_with fail
 refine (HF.out _).mono ?_
 rintro e w2 ⟨rfl,x2⟩
 have HG2:=hI (HG1.out.below x2)
 clear x2 q0 q1 HF
 have c1:=Aaa (HG2.out.get 0 rfl) 1
 simp at c1
 by_cases hk:i.kind=2
 case neg =>
  have t1:(i.kind==2)=false:=Aaj.2 hk
  have t2:(i.kind != 2)=true:=by rw[bne,t1];rfl
  have HCC:Hid (ckC i fn fd=7):=by show _=_;rw[HCY.out];exact perC_7 HOK.out hk
  clear hk
  go_wp2_with fail
  rw[←HQ.out,HCC.out,Auh (by rw[HCC.out];decide)]
  exact PerV.none HG2.out.1 HG2.out.1.size _
 have hb:=HGI.out.bd HOK.out hk
 have HBU:=hI (fun W=>Aue i.issued i.matures i.months hb.ok.issued hb.mat.1 hb.mat.2 hb.mo.1 hb.mo.2 W)
 have HKK:=hI hk
 have c4:=Aaa (HG2.out.get 0 rfl) 4
 have c5:=Aaa (HG2.out.get 0 rfl) 5
 have c10:=Aaa (HG2.out.get 0 rfl) 10
 simp at c4 c5 c10
 rw[hk] at c1
 clear hk hb
 go_wp2_with fail
 refine (HBU.out _).mono ?_
 rintro e w3 ⟨x3,hr⟩
 have hsz:=HG2.out.1.size
 have hB3:=HG2.out.1.trans (x3.mono hsz)
 rcases hr with⟨hl,rfl⟩|⟨hl,v,rfl,hrow⟩
 ·have HCC:Hid (ckC i fn fd=4):=by show _=_;rw[HCY.out];exact perC_4 HOK.out HKK.out hl
  have HB3:=hI hB3
  clear hl hB3 x3 hsz
  go_wp2_with fail
  rw[←HQ.out,HCC.out,Auh (by rw[HCC.out];decide)]
  exact PerV.none HB3.out HB3.out.size _
 ·have HCC:Hid (ckC i fn fd=0):=by show _=_;rw[HCY.out];exact perC_0 HOK.out HKK.out hl
  obtain⟨ad,cap,cur,rfl,_,hbk,hob,hrd⟩:=RdP.own_box hrow (Apm _ _ _)
  have HF:Hid (PerV (perL i) 0 w (.returned (.tuple #[.slice (some ad) (pers i.issued i.matures i.months).length cap,.int .i64 0])) w3):=⟨⟨some ad,cap,rfl,(hrd w3 hob).pw,fun a ha=>by injection ha with ha;rw[←ha];omega⟩,hB3⟩
  clear hl hB3 x3 hsz hrow hbk hob hrd
  go_wp2_with fail
  rw[←HQ.out,HCC.out,Aui HCC.out]
  exact HF.out
theorem Auk{i:Inst}(hg:GI i)(w:World):Calls Tryz.prog 30 #[i.enc] w (PerV (perB i) (perC i) w):=by
 have hc:=fun W=>Auj hg ⟨#[]⟩ ⟨#[]⟩ (Nat.zero_le _) (Nat.zero_le _) W
 rw[show ckB i ⟨#[]⟩ ⟨#[]⟩=perB i from by unfold ckB perB;rw[Auf canQ_nil],Auf canQ_nil] at hc
 have HC:=hI hc
 obtain⟨Q,hQ⟩:∃Q,PerV (perB i) (perC i) w=Q:=⟨_,rfl⟩
 rw[hQ]
 have HQ:=hI hQ
 obtain⟨W0,hW0,hB0,hz,k0⟩:=ibox i w
 have HB0:=hI hB0
 obtain⟨c0,c1,c2,c3,c4,c5,c6,c7,c8,c9,c10,c11,c12,c13,c14⟩:=Acs k0
 try simp[Inst.cells] at c0 c1 c2 c3 c4 c5 c6 c7 c8 c9 c10 c11 c12 c13 c14
 clear hB0 hz k0 hg hc hQ
 unfold Inst.enc Inst.cells at *
 go_enter Tryz.func30,Tryz.ntmps30
 go_wp2_with fail
 refine (HC.out _).mono ?_
 rintro e w1 ⟨⟨A,k,rfl,h1,h2⟩,x1⟩
 have HF:Hid (PerV (perB i) (perC i) w (.returned (.tuple #[.slice A (perB i).length k,.int .i64 (perC i)])) w1):=⟨⟨A,k,rfl,h1,fun ad ha=>Aap HB0.out.size (h2 ad ha)⟩,HB0.out.trans (x1.mono HB0.out.size)⟩
 clear h1 h2 x1 hW0 c0 c1 c2 c3 c4 c5 c6 c7 c8 c9 c10 c11 c12 c13 c14
 go_wp2_with fail
 rw[←HQ.out]
 exact HF.out
structure RCPV(w:World)(i:Inst)(ad:Addr)(ob:Obj)(N cap k:Nat)(px py:Int)(iq:Rat)  (L:Array Bool) (W:World) (s5 s26 s27 s28 s29 s30 s31 s32 s33 s34 s35 s36 s37:Value):Prop where
 k0:L.getD 0 false=true→s26=.agg #[.string i.id,.int .i64 i.kind,.string i.cur,.int .i64 i.places,.int .i64 i.issued,.int .i64 i.matures,.string i.fn,.string i.fd,.string i.cn,.string i.cd,.int .i64 i.months,.int .i64 i.count,.string i.other,.string i.sn,.string i.sd]
 k1:L.getD 1 false=true→s27=.slice (some ad) N cap
 k2:L.getD 2 false=true→s28=.int .i64 (k:Int)
 k3:L.getD 3 false=true→s29=.pointer (some (ad.add (k*2)))
 k4:L.getD 4 false=true→s30=.pointer (some (ad.add (k*2)))
 k5:L.getD 5 false=true→s31=.int .i64 px
 k6:L.getD 6 false=true→s32=.slice (some ad) N cap
 k7:L.getD 7 false=true→s33=.int .i64 (k:Int)
 k8:L.getD 8 false=true→s34=.pointer (some (ad.add (k*2)))
 k9:L.getD 9 false=true→s35=.pointer (some ⟨(ad.add (k*2)).block,(ad.add (k*2)).off+1,none⟩)
 k10:L.getD 10 false=true→s36=.int .i64 py
 k11:L.getD 11 false=true→s37=.agg #[.string (I iq.num),.string (dn iq)]
 k13:L.getD 13 false=true→s5=.int .i64 0
 bx:BX w [(w.heap.size,.cells i.cells 27 (0,0)),(ad.block,ob)] W
 o12:L.getD 12 false=false→W.heap[w.heap.size+1]?=some (fz)
 n12:L.getD 12 false=true→W.heap[w.heap.size+1]?=some (fobj iq)
structure RCPJ(w:World)(i:Inst)(ad:Addr)(ob:Obj)(N cap k:Nat)(px py:Int)(iq:Rat)(x0 x3 x7 x8 x9 x10 x11 x12 x13 x14 x15 x16 x17 x18 x19 x20 x21 x22 x23 x24 x25:Value)(L:Array Bool)(a:Act)(W:World):Prop where
 sz:L.size=14
 fr:∃s5 s26 s27 s28 s29 s30 s31 s32 s33 s34 s35 s36 s37:Value,a={tmps:=#[x0,.int .i64 (k:Int),.pointer (some ⟨w.heap.size,0,none⟩),x3,.pointer (some ⟨w.heap.size+1,0,none⟩),s5,.slice (some ad) N cap,x7,x8,x9,x10,x11,x12,x13,x14,x15,x16,x17,x18,x19,x20,x21,x22,x23,x24,x25,s26,s27,s28,s29,s30,s31,s32,s33,s34,s35,s36,s37],defers:=[]}∧RCPV w i ad ob N cap k px py iq  L W s5 s26 s27 s28 s29 s30 s31 s32 s33 s34 s35 s36 s37
theorem Aum{i:Inst}(hg:GI i)(z:Int)(w:World):Calls Tryz.prog 31 #[i.enc,.int .i64 z] w fun e w'=>e=.returned (.tuple #[fenc (cpQ i z),.int .i64 (cpC i z)])∧Below w.heap.size w w':=by
 have HP:=hI (fun W=>Auk hg W)
 have HZ:=hI fenc_zero
 have HGI:=hI hg
 obtain⟨W0,hW0',hB0,hz,k0,k1⟩:=box2 w (.cells i.cells 27) fz
 have hW0:=hW0'.symm
 have hg0:BX w [(w.heap.size,.cells i.cells 27 (0,0)),(w.heap.size+1,fz)] W0:=⟨hB0,fun x hx=>by
  rcases List.mem_cons.1 hx with rfl|hx
  ·exact k0
  ·rcases List.mem_cons.1 hx with rfl|hx
   ·exact k1
   ·cases hx⟩
 obtain⟨c0,c1,c2,c3,c4,c5,c6,c7,c8,c9,c10,c11,c12,c13,c14⟩:=Acs k0
 try simp[Inst.cells] at c0 c1 c2 c3 c4 c5 c6 c7 c8 c9 c10 c11 c12 c13 c14
 have hs0:w.heap.size+2≤W0.heap.size:=by omega
 have HS0:=hI hs0
 clear hB0 hz k0 k1 hW0' hg hs0
 unfold Inst.enc Inst.cells at *
 go_enter Tryz.func31,Tryz.ntmps31
 go_wp2_with fail
 refine (HP.out _).mono ?_
 rintro e w1 hpv
 have x1:=hpv.2
 have hg1:=hg0.below x1
 have k2:=hg1.get 1 rfl
 have m0:=Aaa k2 0
 have m1:=Aaa k2 1
 have f0:=Aaf k2 0
 have f1:=Aaf k2 1
 simp at m0 m1 f0 f1
 have HK2:=hI k2
 have HG1:=hI hg1
 clear hg0 hg1 k2 x1 hW0 c0 c1 c2 c3 c4 c5 c6 c7 c8 c9 c10 c11 c12 c13 c14
 by_cases hn:perC i=0
 case neg =>
  obtain⟨⟨A,k,rfl,_,_⟩,_⟩:=hpv
  have HCC:Hid (cpC i z=perC i∧cpQ i z=0):=by
   have hc:cpC i z=perC i:=by unfold cpC;rw[if_pos hn]
   exact⟨hc,by unfold cpQ;rw[if_neg (by rw[hc];exact hn)]⟩
  obtain⟨n,hnn⟩:∃n,perC i=n:=⟨_,rfl⟩
  rw[hnn] at HCC hn ⊢
  have t1:(n==0)=false:=Aaj.2 hn
  have t2:(n != 0)=true:=by rw[bne,t1];rfl
  clear hn hnn
  go_wp2_with fail
  refine bodyPost_ret (An1 rfl _ _ (w.heap.size+1) _ _ (0,0) _ rfl (Go.Proofs.YteennkgpeiafaaaGreatDoor.set2 HK2.out _ _) Tryz.underlying25 rfl (by kernel_rfl)) rfl ?_
  exact⟨by rw[HCC.out.1,HCC.out.2,HZ.out];rfl,set2_below (by omega) HG1.out.1 _ _⟩
 obtain⟨h1,h2,h3⟩:=perC_zero hn
 have hb:=HGI.out.bd h1 h2
 rw[show perB i=perL i from by unfold perB;rw[if_pos hn],hn] at hpv
 obtain⟨ad,cap,rfl,hrp,hab⟩:=hpv.have (Apm _ _ _)
 obtain⟨ob,hob,hrb⟩:=hrp.box
 have HRB:Hid (∀W':World,W'.heap[ad.block]?=some ob→RdP W' ad (perL i)):=hrb
 obtain⟨N,hN⟩:∃N,(perL i).length=N:=⟨_,rfl⟩
 rw[hN]
 have HN:=hI hN
 have HN0:=hI hn
 have HH:=hI hb
 have hab2:w.heap.size+2≤ad.block:=by have:=HS0.out;omega
 have hN4:N≤400:=by
  have h5:=Ajd i.issued i.matures i.months
  have h6:(pers i.issued i.matures i.months).length=N:=hN
  omega
 have HOB:=hI hob
 clear hpv h1 h2 h3 hb hrp hab hob hrb hN hn
 by_cases hz:0≤z∧z<(N:Int)
 ·obtain⟨k,rfl⟩:∃k:Nat,z=(k:Int):=⟨z.toNat,by omega⟩
  have hkl:k<N:=by omega
  have t1:decide ((k:Int)<0)=false:=Aaz (by omega)
  have t2:decide ((k:Int)≥(N:Int))=false:=Aaz (by omega)
  have t3:decide ((N:Int)≤(k:Int))=false:=Aaz (by omega)
  have t4:decide (N≤k)=false:=Aaz (by omega)
  obtain⟨⟨px,py⟩,hp⟩:∃p,(perL i)[k]?=some p:=⟨_,Aae (by rw[HN.out];exact hkl)⟩
  have HPK:=hI hp
  have hpx:=HH.out.per (Aar hp)
  simp only at hpx
  have hIN:=fun W=>At6 i HH.out px py hpx.1 hpx.2 (Int.le_of_lt (Aq1 HH.out hp)) W
  obtain⟨iq,hiq⟩:∃iq,intQ i px py=iq:=⟨_,rfl⟩
  have HCC:Hid (cpC i (k:Int)=0∧cpQ i (k:Int)=iq):=by
   have hc:cpC i (k:Int)=0:=by unfold cpC;rw[if_neg (fun x=>x HN0.out),if_pos ⟨by omega,by rw[HN.out];omega⟩]
   exact⟨hc,by unfold cpQ;rw[if_pos hc,Int.toNat_natCast,Aq7 hp];exact hiq⟩
  rw[hiq] at hIN
  unfold fenc at hIN
  have HIN:Hid (∀W,BX w [(w.heap.size,.cells i.cells 27 (0,0)),(ad.block,ob)] W→Calls Tryz.prog 87 #[.agg #[.string i.id,.int .i64 i.kind,.string i.cur,.int .i64 i.places,.int .i64 i.issued,.int .i64 i.matures,.string i.fn,.string i.fd,.string i.cn,.string i.cd,.int .i64 i.months,.int .i64 i.count,.string i.other,.string i.sn,.string i.sd],.int .i64 px,.int .i64 py] W fun e w'=>e=.returned (.agg #[.string (I iq.num),.string (dn iq)])∧Below W.heap.size W w'):=fun W _=>hIN W
  have hg:BX w [(w.heap.size,.cells i.cells 27 (0,0)),(ad.block,ob)] w1.drew:=⟨HG1.out.1.drew,fun z hz=>by
   rcases List.mem_cons.1 hz with rfl|hz
   ·exact HG1.out.get 0 rfl
   ·rcases List.mem_cons.1 hz with rfl|hz
    ·exact HOB.out
    ·cases hz⟩
  have hko12:w1.drew.heap[w.heap.size+1]?=some fz:=HK2.out
  have HKI:Hid ((k:Int)<(N:Int)):=by show (k:Int)<(N:Int);omega
  clear hp hpx hIN hiq hz m0 m1 f0 f1
  go_wp2_with fail
  have mixed:Tryz.prog.follows .mixedOrders=true:=by kernel_rfl
  refine wp_region_any mixed (Am3 (RCPJ w i ad ob N cap k px py iq _ _ _ _ _ _ _ _ _ _ _ _ _ _ _ _ _ _ _ _ _) ?stRCP ?dnRCP _ _ _ _ ⟨by simp,⟨_,_,_,_,_,_,_,_,_,_,_,_,_,rfl,fun h=>by simp at h,fun h=>by simp at h,fun h=>by simp at h,fun h=>by simp at h,fun h=>by simp at h,fun h=>by simp at h,fun h=>by simp at h,fun h=>by simp at h,fun h=>by simp at h,fun h=>by simp at h,fun h=>by simp at h,fun h=>by simp at h,fun h=>by simp at h,hg,fun _=>hko12,fun h=>by simp at h⟩⟩ (by decide))
  case dnRCP =>
   intro L a w' hj hr
   have all:=Am2 hr hj.sz (by kernel_rfl)
   obtain⟨s5,s26,s27,s28,s29,s30,s31,s32,s33,s34,s35,s36,s37,rfl,hv⟩:=hj.fr
   have HF:=hI (And.intro (hv.n12 (all 12 (by omega))) (And.intro hv.bx.1 (hv.k13 (all 13 (by omega)))))
   clear all hv hj hr
   obtain⟨_,_,e7⟩:=HF.out
   subst e7
   go_wp2_with fail
   refine bodyPost_ret (An1 rfl _ _ (w.heap.size+1) _ _ (0,0) _ rfl HF.out.1 Tryz.underlying25 rfl (by kernel_rfl)) rfl ?_
   exact⟨by rw[HCC.out.1,HCC.out.2];rfl,HF.out.2.1⟩
  case stRCP =>
   intro L a w' hj i hi
   obtain⟨hun,o,ho,hall⟩:=mem_ready.1 hi
   have hoff:=Amt hun
   have hlt:=(Aab.1 ho).1
   simp at hlt
   obtain⟨s5,s26,s27,s28,s29,s30,s31,s32,s33,s34,s35,s36,s37,rfl,hv⟩:=hj.fr
   have HV:=hI hv
   have HJ:=hI hj
   clear hv hj
   rcases (show i=0∨i=1∨i=2∨i=3∨i=4∨i=5∨i=6∨i=7∨i=8∨i=9∨i=10∨i=11∨i=12∨i=13 from by omega) with rfl|rfl|rfl|rfl|rfl|rfl|rfl|rfl|rfl|rfl|rfl|rfl|rfl|rfl
   all_goals simp at ho
   all_goals subst ho
   have hb:=HV.out.bx.get 0 rfl
   obtain⟨c0,c1,c2,c3,c4,c5,c6,c7,c8,c9,c10,c11,c12,c13,c14⟩:=Acs hb
   try simp[Inst.cells] at c0 c1 c2 c3 c4 c5 c6 c7 c8 c9 c10 c11 c12 c13 c14
   rotate_left
   rotate_left
   rotate_left
   cases HV.out.k1 (Hq hall 1).out
   cases HV.out.k2 (Hq hall 2).out
   have hki:=HKI.out
   rotate_left
   cases HV.out.k3 (Hq hall 3).out
   rotate_left
   cases HV.out.k4 (Hq hall 4).out
   obtain⟨cx,cy⟩:=(HRB.out _ (HV.out.bx.get 1 rfl)).2 k (px,py) HPK.out
   simp only at cx cy
   rotate_left
   rotate_left
   rotate_left
   cases HV.out.k6 (Hq hall 6).out
   cases HV.out.k7 (Hq hall 7).out
   have hki:=HKI.out
   rotate_left
   cases HV.out.k8 (Hq hall 8).out
   rotate_left
   cases HV.out.k9 (Hq hall 9).out
   obtain⟨cx,cy⟩:=(HRB.out _ (HV.out.bx.get 1 rfl)).2 k (px,py) HPK.out
   simp only at cx cy
   rotate_left
   ·cases HV.out.k0 (Hq hall 0).out
    cases HV.out.k5 (Hq hall 5).out
    cases HV.out.k10 (Hq hall 10).out
    clear hall hi
    refine Am0 rfl fun K' HK=>?_
    go_simp
    refine (HIN.out _ HV.out.bx).mono ?_
    rintro e wn ⟨rfl,hbn⟩
    cases HV.out
    refine HK.out _ _ ⟨by simp[HJ.out.sz],⟨_,_,_,_,_,_,_,_,_,_,_,_,_,rfl,?_,?_,?_,?_,?_,?_,?_,?_,?_,?_,?_,fun _=>rfl,?_,HV.out.bx.below hbn,fun h=>bkeep hbn (HV.out.o12 (Amw h)),fun h=>bkeep hbn (HV.out.n12 (Amv h))⟩⟩
    all_goals exact Um (by assumption)
   ·cases HV.out.k11 (Hq hall 11).out
    clear hall hi
    have hko:=HV.out.o12 hoff
    have m0:=Aaa hko 0;have m1:=Aaa hko 1;have f0:=Aaf hko 0;have f1:=Aaf hko 1
    simp at m0 m1 f0 f1
    refine Am0 rfl fun K' HK=>?_
    go_simp
    cases HV.out
    refine HK.out _ _ ⟨by simp[HJ.out.sz],⟨_,_,_,_,_,_,_,_,_,_,_,_,_,rfl,?_,?_,?_,?_,?_,?_,?_,?_,?_,?_,?_,?_,?_,HV.out.bx.far (b:=w.heap.size+1) (by omega) (by simp<;>omega) _ _,fun h=>(Amx h (Amr hun)).elim,fun _=>set2 hko _ _⟩⟩
    all_goals exact Um (by assumption)
   rotate_left
   all_goals
    clear hall hi
    refine Am0 rfl fun K' HK=>?_
    go_simp
    cases HV.out
    refine HK.out _ _ ⟨by simp[HJ.out.sz],?_⟩
    iterate 13 apply Exists.intro
    refine⟨rfl,?_⟩
    constructor
    all_goals first|exact Um (by assumption)|exact Un (by assumption)|exact Uf (by assumption)|exact fun _=>rfl|assumption
 ·have HCC:Hid (cpC i z=2∧cpQ i z=0):=by
   have hc:cpC i z=2:=by unfold cpC;rw[if_neg (fun x=>x HN0.out),if_neg (by rw[HN.out];exact hz)]
   exact⟨hc,by unfold cpQ;rw[if_neg (by rw[hc];decide)]⟩
  have hx:decide (z<0)=true∨(decide (z<0)=false∧decide (z≥(N:Int))=true∧decide ((N:Int)≤z)=true):=by
   rcases Int.lt_or_le z 0 with h|h
   ·exact .inl (Aay h)
   ·exact .inr ⟨Aaz (by omega),Aay (by omega),Aay (by omega)⟩
  clear hz
  rcases hx with t1|⟨t1,t2,t3⟩
  all_goals
   go_wp2_with fail
   refine bodyPost_ret (An1 rfl _ _ (w.heap.size+1) _ _ (0,0) _ rfl (Go.Proofs.YteennkgpeiafaaaGreatDoor.set2 HK2.out _ _) Tryz.underlying25 rfl (by kernel_rfl)) rfl ?_
   exact⟨by rw[HCC.out.1,HCC.out.2,HZ.out];rfl,set2_below (by omega) HG1.out.1 _ _⟩
def FwV(base:Nat)(W:World)(pre:List (Int×Rat))(x:Int×Rat)(m:Nat)(v:Value):Prop :=
 ∃g2 c2,v=.slice (some ⟨g2,0,none⟩) (m+1) c2∧W.ownsRow base 44 3 (.slice (some ⟨g2,0,none⟩) (m+1) c2) (m+1) (flV (pre++[x]))
theorem Aun{P:Program}{ops:Array Oper}{o:Oper}{a:Act}{K:Act→World→Prop}{Q:Exit→Act→World→Prop}{E:Prop}{t ty:TypeId}{sv xv v':Value}{w w':World}(hr:(Builtin.append_ #[t,t] ty #[sv,xv]).run P w=.ok v' w')(hgd:o.guard=none)(s x:Operand)
 (ho:o.op=.call {callee:=.builtin .append,args:=#[s,x],argTypes:=#[t,t]}) (hty:o.type=ty) (hs:a.eval s=sv) (hx:a.eval x=xv) (h:K (a.put o.dst v') w') :
 if Region.wanted o (yielded ops a.tmps)=true then Oper.wp P o a w K Q else E:=by
 subst hty
 have hw:Region.wanted o (yielded ops a.tmps)=true:=by simp[Region.wanted,hgd]
 rw[if_pos hw]
 unfold Oper.wp execOp
 simp only[ho,resolve,invoke,builtin,Sem.run_bind,Sem.run_pure,Result.andThen_ok,List.map_toArray,List.map_cons,List.map_nil,hs,hx,hr]
 exact h
theorem fapp{w W:World}{bl:List (Nat×Obj)}{g m c Bn:Nat}{pre:List (Int×Rat)}{x:Int×Rat}(hbx:BX w bl W)(hk:∀y,y∈bl→y.1<w.heap.size+1∨∀cs k,y.2≠.cells cs 44 k)
 (hrow:W.ownsRow (w.heap.size+1) 44 3 (.slice (some ⟨g,0,none⟩) m c) m (flV pre)) (hs:W.heap[Bn]?=some (.cells #[.int .i64 x.1,.string (I x.2.num),.string (dn x.2)] 44 (0,0))) (hm:m≤1000) :
 ∃v1 w1,(Builtin.append_ #[40,40] 40 #[.slice (some ⟨g,0,none⟩) m c,.slice (some ⟨Bn,0,none⟩) 1 1]).run Tryz.prog W=.ok v1 w1∧FwV (w.heap.size+1) w1 pre x m v1∧BX w bl w1:=by
 obtain⟨i0,hi0,hz0,hz1,hz2⟩:=info_parts Tryz.infoFlow
 have hsz:=hbx.1.size
 have hlt:=hrow.lt g rfl
 have hsrc:∀j u,[Value.int .i64 x.1,.string (I x.2.num),.string (dn x.2)][j]?=some u→W.cell? ((⟨Bn,0,none⟩:Addr).add j)=some u:=by
  intro j u hu
  rw[Ak6,Aaa hs j]
  simpa using hu
 obtain⟨v',w',r1,r2,r3,_⟩:=run_append_own (P:=Tryz.prog) W (w.heap.size+1) 40 40 44 i0 _ 3 40 Tryz.underlying40 hi0 hz0 hz1 hz2 rfl (by decide) _ m _ hrow ⟨Bn,0,none⟩ 1 1 _ rfl hsrc (Asr x) (by unfold maxLen;omega) (by omega) (by omega)
 obtain⟨g2,c2,rfl⟩:=ownsRow_succ r2
 refine⟨_,w',r1,⟨g2,c2,rfl,?_⟩,hbx.1.grown r3 hsz (fun k e=>by simp[Value.ownBlock] at e;omega),fun y hy=>?_⟩
 ·rw[Asn,show flV [x]=[Value.int .i64 x.1,.string (I x.2.num),.string (dn x.2)] from rfl]
  exact r2
 ·have h1:=hbx.2 y hy
  have hn:Value.ownBlock (.slice (some ⟨g,0,none⟩) m c)≠some y.1:=(hk y hy).elim (fun h=>not_row_lt h hrow) (fun h=>Apc h1 h hrow)
  exact (r3.block y.1 (Aab.1 h1).1 (fun e=>hn e.symm)).trans h1
structure RAFV(w:World)(i:Inst)(ad:Addr)(ob:Obj)(N cap k n9 g m c:Nat)(py:Int)(q:Rat)(pre:List (Int×Rat))(Bn:Nat)(L:Array Bool)(W:World)(s7 s33 s34 s35 s36 s37 s38 s39 s40 s41 s42:Value):Prop where
 k0:L.getD 0 false=true→s33=.slice (some ⟨g,0,none⟩) m c
 k1:L.getD 1 false=true→s34=.slice (some ad) N cap
 k2:L.getD 2 false=true→s35=.int .i64 (k:Int)
 k3:L.getD 3 false=true→s36=.pointer (some (ad.add (k*2)))
 k4:L.getD 4 false=true→s37=.pointer (some ⟨(ad.add (k*2)).block,(ad.add (k*2)).off+1,none⟩)
 k5:L.getD 5 false=true→s38=.int .i64 py
 k6:L.getD 6 false=true→s39=.agg #[.string (I q.num),.string (dn q)]
 k7:L.getD 7 false=true→s40=.agg #[.int .i64 py,.string (I q.num),.string (dn q)]
 k8:L.getD 8 false=true→s41=.slice (some ⟨Bn,0,none⟩) 1 1
 bx:BX w [(w.heap.size,.cells i.cells 27 (0,0)),(ad.block,ob),(n9,fobj q)] W
 n7:L.getD 10 false=false→s7=.slice (some ⟨g,0,none⟩) m c
 q0:L.getD 10 false=true→L.getD 0 false=true
 row:L.getD 9 false=false→W.ownsRow (w.heap.size+1) 44 3 (.slice (some ⟨g,0,none⟩) m c) m (flV pre)
 sl:L.getD 8 false=true→L.getD 9 false=false→W.heap[Bn]?=some (.cells #[.int .i64 py,.string (I q.num),.string (dn q)] 44 (0,0))
 r9:L.getD 9 false=true→FwV (w.heap.size+1) W pre (py,q) m s42
 r10:L.getD 10 false=true→FwV (w.heap.size+1) W pre (py,q) m s7
 q9:L.getD 9 false=true→L.getD 8 false=true
 q10:L.getD 10 false=true→L.getD 9 false=true
structure RAFJ(w:World)(i:Inst)(ad:Addr)(ob:Obj)(N cap k n9 g m c:Nat)(py:Int)(q:Rat)(pre:List (Int×Rat))(x0 x2 x4 x5 x6 x10 x11 x12 x13 x14 x15 x16 x17 x18 x19 x20 x21 x22 x23 x24 x25 x26 x27 x28 x29 x30 x31 x32 x43:Value)(L:Array Bool)(a:Act)(W:World):Prop where
 sz:L.size=11
 fr:∃Bn:Nat,∃s7 s33 s34 s35 s36 s37 s38 s39 s40 s41 s42:Value,a={tmps:=#[x0,.slice (some ad) N cap,x2,.pointer (some ⟨w.heap.size,0,none⟩),x4,x5,x6,s7,.int .i64 (k:Int),.pointer (some ⟨n9,0,none⟩),x10,x11,x12,x13,x14,x15,x16,x17,x18,x19,x20,x21,x22,x23,x24,x25,x26,x27,x28,x29,x30,x31,x32,s33,s34,s35,s36,s37,s38,s39,s40,s41,s42,x43],defers:=[]}∧RAFV w i ad ob N cap k n9 g m c py q pre Bn L W s7 s33 s34 s35 s36 s37 s38 s39 s40 s41 s42
theorem Aup(i:Inst)(h:BdI i)(ad:Addr)(N cap:Nat)(d:Int)(hN:(perL i).length=N)(hN4:N≤1000)(w:World)(hR:RdP w ad (perL i)):
 Calls Tryz.prog 88 #[i.enc,.slice (some ad) N cap,.int .i64 d] w fun e w'=>(∃A k,e=.returned (.slice A (Ar2 i d N).length k)∧RdFw w'.heap.size w' A (Ar2 i d N))∧Below w.heap.size w w':=by
 obtain⟨ob,hob2,hrb⟩:=hR.box
 have HRB:Hid (∀W':World,W'.heap[ad.block]?=some ob→RdP W' ad (perL i)):=hrb
 have hflow:=fun (k:Nat) (hk:k<N) W (hW:W.heap[ad.block]?=some ob)=>At7 i h ad N cap k hN hN4 hk W (hrb W hW)
 have HFW:=hI hflow
 have HH:=hI h
 have HNN:=hI hN
 have hlt:ad.block<w.heap.size:=hR.1
 obtain⟨W0,hW0,hB0,hz,k0⟩:=ibox i w
 have hg0:BX w [(w.heap.size,.cells i.cells 27 (0,0)),(ad.block,ob)] W0:=⟨hB0,fun x hx=>by
  rcases List.mem_cons.1 hx with rfl|hx
  ·exact k0
  ·rcases List.mem_cons.1 hx with rfl|hx
   ·exact bkeep hB0 hob2
   ·cases hx⟩
 have ho0:(W0.alloc (.cells #[] 44)).ownsRow (w.heap.size+1) 44 3 (.slice (some ⟨W0.heap.size,0,none⟩) 0 0) 0 []:=World.ownsRow_made W0 #[] 0 (by omega) (by unfold maxLen;omega) rfl
 have hg1:BX w [(w.heap.size,.cells i.cells 27 (0,0)),(ad.block,ob)] (W0.alloc (.cells #[] 44)):=hg0.below ((Below.refl _ W0).alloc (Aad _) _)
 have H0:=hI (And.intro ho0 hg1)
 have HOK:=hI hlt
 clear hB0 hz k0 h hN hR hob2 hrb hlt hflow hg0 ho0 hg1
 unfold Inst.enc Inst.cells at *
 go_enter Tryz.func88,Tryz.ntmps88
 go_wp2_with fail
 try rw[hW0]
 go_loopw [7,8] (fun v7 v8 wr=>∃k:Nat,v8=.int .i64 (k:Int)∧k≤N∧(∃g c,v7=.slice (some ⟨g,0,none⟩) (Ar2 i d k).length c)∧wr.ownsRow (w.heap.size+1) 44 3 v7 (Ar2 i d k).length (flV (Ar2 i d k))∧BX w [(w.heap.size,.cells i.cells 27 (0,0)),(ad.block,ob)] wr) (fun _ v8 _=>N-(intOf v8).toNat)
 case atStart=>exact⟨0,rfl,by omega,⟨_,_,rfl⟩,H0.out.1,H0.out.2⟩
 case round =>
  obtain⟨k,rfl,hk,⟨g,c,rfl⟩,hrow,hg⟩:=hrel
  have HROW:=hI hrow
  have HG:=hI hg
  clear hrow hg H0
  rcases Aam k N with hlt2|hge
  ·obtain⟨⟨px,py⟩,hp⟩:∃p,(perL i)[k]?=some p:=⟨_,Aae (by rw[HNN.out];exact hlt2)⟩
   have hcx:decide ((k:Int)<(N:Int))=true:=by simp;omega
   have HPK:=hI hp
   have hfw:=HFW.out k hlt2 wr (HG.out.get 1 rfl)
   have hsu:=Ar3 i d hp
   have bq:BdQ (payAt i (perL i) k).2.2 80:=Aqt HH.out (by
    have:=Aqs i (k:=k) (by rw[HNN.out];exact hlt2)
    exact Aar this)
   obtain⟨q,hq⟩:∃q,(payAt i (perL i) k).2.2=q:=⟨_,rfl⟩
   rw[hq] at hfw hsu bq
   simp only at hsu
   have HSUC:=hI hsu
   have HSG:=hI (fun W=>Aig (I q.num) (dn q) (Aap bq.num (by omega)) (Aap bq.dn (by omega)) (by unfold CanQ;rw[Agx];exact⟨rfl,rfl⟩) W)
   unfold fenc at hfw
   have HF1:=hI hfw
   have HAL:=hI (Ar4 i d k)
   have hki:(k:Int)<(N:Int):=by omega
   have HKI:=hI hki
   obtain⟨c0,c1,c2,c3,c4,c5,c6,c7,c8,c9,c10,c11,c12,c13,c14⟩:=Acs (HG.out.get 0 rfl)
   try simp[Inst.cells] at c0 c1 c2 c3 c4 c5 c6 c7 c8 c9 c10 c11 c12 c13 c14
   clear hp hfw hsu bq hq
   go_wp2_with fail
   refine HF1.out.mono ?_
   rintro e w2 ⟨rfl,x2⟩
   have hg2:=HG.out.below x2
   have hr2:=ownsRow_below HROW.out x2
   have HG2:Hid (BX w [(w2.heap.size,fobj q),(w.heap.size,.cells i.cells 27 (0,0)),(ad.block,ob)] (w2.alloc (fobj q))):=hg2.push (fobj q)
   have HR2:=hI (hr2.alloc (fobj q))
   clear x2 hg2 hr2 HF1 HG HROW c0 c1 c2 c3 c4 c5 c6 c7 c8 c9 c10 c11 c12 c13 c14
   obtain⟨n9,hn9⟩:∃n9,w2.heap.size=n9:=⟨_,rfl⟩
   obtain⟨W2,hW2⟩:∃W2,w2.alloc (.cells #[.string (I q.num),.string (dn q)] 25)=W2:=⟨_,rfl⟩
   rw[hn9] at HG2
   have HG3:Hid (BX w [(n9,fobj q),(w.heap.size,.cells i.cells 27 (0,0)),(ad.block,ob)] W2):=by rw[←hW2];exact HG2.out
   have HR3:Hid (W2.ownsRow (w.heap.size+1) 44 3 (.slice (some ⟨g,0,none⟩) (Ar2 i d k).length c) (Ar2 i d k).length (flV (Ar2 i d k))):=by rw[←hW2];exact HR2.out
   clear HG2 HR2
   obtain⟨cx,cy⟩:=(HRB.out _ (HG3.out.get 2 rfl)).2 k (px,py) HPK.out
   simp only at cx cy
   obtain⟨u0,u1⟩:=An6 (HG3.out.get 0 rfl)
   by_cases hd:d<py
   case neg =>
    have t1:decide (py > d)=false:=Aaz (by omega)
    have t1':decide (d<py)=false:=Aaz hd
    have HSU:Hid (Ar2 i d (k+1)=Ar2 i d k):=by show _=_;rw[HSUC.out,if_neg (fun x=>hd x.1),List.append_nil]
    clear hd
    go_upto_region 6 with fail
    try rw[hW2]
    try simp only[hn9]
    clear hW2 hn9
    go_wp2_with fail
    go_roundw
    case rel =>
     refine⟨k+1,by go_num,by omega,⟨g,c,by rw[HSU.out]⟩,by rw[HSU.out];exact HR3.out,HG3.out.1,fun x hx=>?_⟩
     rcases List.mem_cons.1 hx with rfl|hx
     ·exact HG3.out.get 1 rfl
     ·rcases List.mem_cons.1 hx with rfl|hx
      ·exact HG3.out.get 2 rfl
      ·cases hx
    case measure=>simp[intOf];omega
   have t1:decide (py > d)=true:=Aay hd
   have t1':decide (d<py)=true:=Aay hd
   go_upto_region 6 with fail
   try rw[hW2]
   try simp only[hn9]
   clear hW2 hn9
   go_wp2_with fail
   refine (HSG.out _).mono ?_
   rintro e w3 ⟨rfl,x3⟩
   have HG4:=hI (HG3.out.below x3)
   have HR4:=hI (ownsRow_below HR3.out x3)
   clear x3 HG3 HR3 HSG cx cy u0 u1 t1 t1'
   have hcz:=(cmpz q).1
   rw[vl_I]
   obtain⟨sg,hsg⟩:∃sg,cmpI q.num 0=sg:=⟨_,rfl⟩
   rw[hsg] at hcz ⊢
   by_cases hq0:q=0
   ·have t2:sg=0:=hcz.2 hq0
    have HSU:Hid (Ar2 i d (k+1)=Ar2 i d k):=by show _=_;rw[HSUC.out,if_neg (fun x=>x.2 hq0),List.append_nil]
    subst t2
    clear hcz hsg hd hq0
    go_wp2_with fail
    go_roundw
    case rel =>
     refine⟨k+1,by go_num,by omega,⟨g,c,by rw[HSU.out]⟩,by rw[HSU.out];exact HR4.out,HG4.out.1,fun x hx=>?_⟩
     rcases List.mem_cons.1 hx with rfl|hx
     ·exact HG4.out.get 1 rfl
     ·rcases List.mem_cons.1 hx with rfl|hx
      ·exact HG4.out.get 2 rfl
      ·cases hx
    case measure=>simp[intOf];omega
   ·have t2:(sg==0)=false:=Aaj.2 (fun e=>hq0 (hcz.1 e))
    have t3:(sg != 0)=true:=by rw[bne,t2];rfl
    have HSV:Hid (Ar2 i d (k+1)=Ar2 i d k++[(py,q)]):=by show _=_;rw[HSUC.out,if_pos ⟨hd,hq0⟩]
    obtain⟨m,hm⟩:∃m,(Ar2 i d k).length=m:=⟨_,rfl⟩
    have HSU:Hid ((Ar2 i d (k+1)).length=m+1):=by show _=_;rw[HSV.out,Aan,hm];rfl
    have HM4:Hid (m≤1000):=by have:=HAL.out;show m≤1000;omega
    obtain⟨pre,hpre⟩:∃pre,Ar2 i d k=pre:=⟨_,rfl⟩
    have hrow:=HR4.out
    rw[hm,hpre] at hrow
    rw[hpre] at HSV
    rw[hm]
    have hrow:w3.drew.ownsRow (w.heap.size+1) 44 3 (.slice (some ⟨g,0,none⟩) m c) m (flV pre):=hrow
    have hg:BX w [(w.heap.size,.cells i.cells 27 (0,0)),(ad.block,ob),(n9,fobj q)] w3.drew:=⟨HG4.out.1.drew,fun z hz=>by
     rcases List.mem_cons.1 hz with rfl|hz
     ·exact HG4.out.get 1 rfl
     ·rcases List.mem_cons.1 hz with rfl|hz
      ·exact HG4.out.get 2 rfl
      ·rcases List.mem_cons.1 hz with rfl|hz
       ·exact HG4.out.get 0 rfl
       ·cases hz⟩
    have HKB:Hid (∀y,y∈[(w.heap.size,.cells i.cells 27 (0,0)),(ad.block,ob),(n9,fobj q)]→y.1<w.heap.size+1∨∀cs k,y.2≠.cells cs 44 k):=fun y hy=>by
     rcases List.mem_cons.1 hy with rfl|hy
     ·exact .inl (Nat.lt_succ_self _)
     ·rcases List.mem_cons.1 hy with rfl|hy
      ·exact .inl (Nat.lt_succ_of_lt HOK.out)
      ·rcases List.mem_cons.1 hy with rfl|hy
       ·exact .inr (fun cs k e=>by unfold fobj at e;cases e)
       ·cases hy
    clear hcz hsg hd hq0 hm hpre HR4 HG4
    go_wp2_with fail
    have mixed:Tryz.prog.follows .mixedOrders=true:=by kernel_rfl
    refine wp_region_any mixed (Am3 (RAFJ w i ad ob N cap k n9 g m c py q pre _ _ _ _ _ _ _ _ _ _ _ _ _ _ _ _ _ _ _ _ _ _ _ _ _ _ _ _ _) ?stRAF ?dnRAF _ _ _ _ ⟨by simp,⟨0,_,_,_,_,_,_,_,_,_,_,_,rfl,fun h=>by simp at h,fun h=>by simp at h,fun h=>by simp at h,fun h=>by simp at h,fun h=>by simp at h,fun h=>by simp at h,fun h=>by simp at h,fun h=>by simp at h,fun h=>by simp at h,hg,fun _=>rfl,fun h=>by simp at h,fun _=>hrow,fun h=>by simp at h,fun h=>by simp at h,fun h=>by simp at h,fun h=>by simp at h,fun h=>by simp at h⟩⟩ (by decide))
    case dnRAF =>
     intro L a w' hj hr
     have all:=Am2 hr hj.sz (by kernel_rfl)
     obtain⟨Bn,s7,s33,s34,s35,s36,s37,s38,s39,s40,s41,s42,rfl,hv⟩:=hj.fr
     have HF:=hI (And.intro (hv.r10 (all 10 (by omega))) hv.bx)
     clear all hv hj hr
     obtain⟨g2,c2,e2,hrow2⟩:=HF.out.1
     subst e2
     dsimp only
     go_wp2_with fail
     go_roundw
     case rel =>
      refine⟨k+1,by go_num,by omega,⟨g2,c2,by rw[HSU.out]⟩,?_,HF.out.2.1,fun x hx=>?_⟩
      ·rw[HSU.out,HSV.out];exact hrow2
      ·rcases List.mem_cons.1 hx with rfl|hx
       ·exact HF.out.2.get 0 rfl
       ·rcases List.mem_cons.1 hx with rfl|hx
        ·exact HF.out.2.get 1 rfl
        ·cases hx
     case measure=>simp[intOf];omega
    case stRAF =>
     intro L a w' hj i hi
     obtain⟨hun,o,ho,hall⟩:=mem_ready.1 hi
     have hoff:=Amt hun
     have hlt:=(Aab.1 ho).1
     simp at hlt
     obtain⟨Bn,s7,s33,s34,s35,s36,s37,s38,s39,s40,s41,s42,rfl,hv⟩:=hj.fr
     have HV:=hI hv
     have HJ:=hI hj
     clear hv hj
     rcases (show i=0∨i=1∨i=2∨i=3∨i=4∨i=5∨i=6∨i=7∨i=8∨i=9∨i=10 from by omega) with rfl|rfl|rfl|rfl|rfl|rfl|rfl|rfl|rfl|rfl|rfl
     ·simp at ho
      subst ho
      clear hall hi
      have h10:L.getD 10 false=false:=(Amy L 10).resolve_right (fun h=>Amx hoff (HV.out.q0 h))
      have e7:=HV.out.n7 h10
      subst e7
      refine Am0 rfl fun K' HK=>?_
      go_simp
      cases HV.out
      refine HK.out _ _ ⟨by simp[HJ.out.sz],?_⟩
      iterate 12 apply Exists.intro
      refine⟨rfl,?_⟩
      constructor
      case k0=>exact fun _=>rfl
      case bx=>exact HV.out.bx
      case n7=>exact fun _=>rfl
      case q0=>exact Uq hun HV.out.q0
      case row=>exact fun h0=>HV.out.row (Amw h0)
      case sl=>exact Un HV.out.sl
      case r10=>exact fun h=>(Amx h10 (Amv h)).elim
      case q9=>exact Uq hun HV.out.q9
      case q10=>exact Uq hun HV.out.q10
      all_goals exact Um (by assumption)
     ·simp at ho
      subst ho
      clear hall hi
      refine Am0 rfl fun K' HK=>?_
      go_simp
      cases HV.out
      refine HK.out _ _ ⟨by simp[HJ.out.sz],?_⟩
      iterate 12 apply Exists.intro
      refine⟨rfl,?_⟩
      constructor
      case k1=>exact fun _=>rfl
      case bx=>exact HV.out.bx
      case n7=>exact fun h0=>HV.out.n7 (Amw h0)
      case q0=>exact Uq hun HV.out.q0
      case row=>exact fun h0=>HV.out.row (Amw h0)
      case sl=>exact Un HV.out.sl
      case q9=>exact Uq hun HV.out.q9
      case q10=>exact Uq hun HV.out.q10
      all_goals exact Um (by assumption)
     ·simp at ho
      subst ho
      clear hall hi
      refine Am0 rfl fun K' HK=>?_
      go_simp
      cases HV.out
      refine HK.out _ _ ⟨by simp[HJ.out.sz],?_⟩
      iterate 12 apply Exists.intro
      refine⟨rfl,?_⟩
      constructor
      case k2=>exact fun _=>rfl
      case bx=>exact HV.out.bx
      case n7=>exact fun h0=>HV.out.n7 (Amw h0)
      case q0=>exact Uq hun HV.out.q0
      case row=>exact fun h0=>HV.out.row (Amw h0)
      case sl=>exact Un HV.out.sl
      case q9=>exact Uq hun HV.out.q9
      case q10=>exact Uq hun HV.out.q10
      all_goals exact Um (by assumption)
     ·simp at ho
      subst ho
      have h1x:L.getD 1 false=true:=hall {on:=1,ground:=Ground.data} (by simp) (by decide)
      have h2x:L.getD 2 false=true:=hall {on:=2,ground:=Ground.data} (by simp) (by decide)
      have H1:=hI h1x
      have H2:=hI h2x
      clear hall hi h1x h2x
      have e0:=HV.out.k1 H1.out
      subst e0
      have e1:=HV.out.k2 H2.out
      subst e1
      have hki:=HKI.out
      refine Am0 rfl fun K' HK=>?_
      go_simp
      cases HV.out
      refine HK.out _ _ ⟨by simp[HJ.out.sz],?_⟩
      iterate 12 apply Exists.intro
      refine⟨rfl,?_⟩
      constructor
      case k3=>exact fun _=>rfl
      case bx=>exact HV.out.bx
      case n7=>exact fun h0=>HV.out.n7 (Amw h0)
      case q0=>exact Uq hun HV.out.q0
      case row=>exact fun h0=>HV.out.row (Amw h0)
      case sl=>exact Un HV.out.sl
      case q9=>exact Uq hun HV.out.q9
      case q10=>exact Uq hun HV.out.q10
      all_goals exact Um (by assumption)
     ·simp at ho
      subst ho
      have h3x:L.getD 3 false=true:=hall {on:=3,ground:=Ground.data} (by simp) (by decide)
      have H3:=hI h3x
      clear hall hi h3x
      have e0:=HV.out.k3 H3.out
      subst e0
      refine Am0 rfl fun K' HK=>?_
      go_simp
      cases HV.out
      refine HK.out _ _ ⟨by simp[HJ.out.sz],?_⟩
      iterate 12 apply Exists.intro
      refine⟨rfl,?_⟩
      constructor
      case k4=>exact fun _=>rfl
      case bx=>exact HV.out.bx
      case n7=>exact fun h0=>HV.out.n7 (Amw h0)
      case q0=>exact Uq hun HV.out.q0
      case row=>exact fun h0=>HV.out.row (Amw h0)
      case sl=>exact Un HV.out.sl
      case q9=>exact Uq hun HV.out.q9
      case q10=>exact Uq hun HV.out.q10
      all_goals exact Um (by assumption)
     ·simp at ho
      subst ho
      have h4x:L.getD 4 false=true:=hall {on:=4,ground:=Ground.data} (by simp) (by decide)
      have H4:=hI h4x
      clear hall hi h4x
      have e0:=HV.out.k4 H4.out
      subst e0
      obtain⟨cx,cy⟩:=(HRB.out _ (HV.out.bx.get 1 rfl)).2 k (px,py) HPK.out
      simp only at cx cy
      refine Am0 rfl fun K' HK=>?_
      go_simp
      cases HV.out
      refine HK.out _ _ ⟨by simp[HJ.out.sz],?_⟩
      iterate 12 apply Exists.intro
      refine⟨rfl,?_⟩
      constructor
      case k5=>exact fun _=>rfl
      case bx=>exact HV.out.bx
      case n7=>exact fun h0=>HV.out.n7 (Amw h0)
      case q0=>exact Uq hun HV.out.q0
      case row=>exact fun h0=>HV.out.row (Amw h0)
      case sl=>exact Un HV.out.sl
      case q9=>exact Uq hun HV.out.q9
      case q10=>exact Uq hun HV.out.q10
      all_goals exact Um (by assumption)
     ·simp at ho
      subst ho
      clear hall hi
      obtain⟨u0,u1⟩:=An6 (HV.out.bx.get 2 rfl)
      refine Am0 rfl fun K' HK=>?_
      go_simp
      cases HV.out
      refine HK.out _ _ ⟨by simp[HJ.out.sz],?_⟩
      iterate 12 apply Exists.intro
      refine⟨rfl,?_⟩
      constructor
      case k6=>exact fun _=>rfl
      case bx=>exact HV.out.bx
      case n7=>exact fun h0=>HV.out.n7 (Amw h0)
      case q0=>exact Uq hun HV.out.q0
      case row=>exact fun h0=>HV.out.row (Amw h0)
      case sl=>exact Un HV.out.sl
      case q9=>exact Uq hun HV.out.q9
      case q10=>exact Uq hun HV.out.q10
      all_goals exact Um (by assumption)
     ·simp at ho
      subst ho
      have h5x:L.getD 5 false=true:=hall {on:=5,ground:=Ground.data} (by simp) (by decide)
      have h6x:L.getD 6 false=true:=hall {on:=6,ground:=Ground.data} (by simp) (by decide)
      have H5:=hI h5x
      have H6:=hI h6x
      clear hall hi h5x h6x
      have e0:=HV.out.k5 H5.out
      subst e0
      have e1:=HV.out.k6 H6.out
      subst e1
      refine Am0 rfl fun K' HK=>?_
      go_simp
      cases HV.out
      refine HK.out _ _ ⟨by simp[HJ.out.sz],?_⟩
      iterate 12 apply Exists.intro
      refine⟨rfl,?_⟩
      constructor
      case k7=>exact fun _=>rfl
      case bx=>exact HV.out.bx
      case n7=>exact fun h0=>HV.out.n7 (Amw h0)
      case q0=>exact Uq hun HV.out.q0
      case row=>exact fun h0=>HV.out.row (Amw h0)
      case sl=>exact Un HV.out.sl
      case q9=>exact Uq hun HV.out.q9
      case q10=>exact Uq hun HV.out.q10
      all_goals exact Um (by assumption)
     ·simp at ho
      subst ho
      have h7x:L.getD 7 false=true:=hall {on:=7,ground:=Ground.data} (by simp) (by decide)
      have H7:=hI h7x
      clear hall hi h7x
      have e0:=HV.out.k7 H7.out
      subst e0
      have hbb:Below w'.heap.size w' (w'.alloc (.cells #[.int .i64 py,.string (I q.num),.string (dn q)] 44)):=(Below.refl _ w').alloc (Aad _) _
      refine Am0 rfl fun K' HK=>?_
      go_simp
      cases HV.out
      refine HK.out _ _ ⟨by simp[HJ.out.sz],w'.heap.size,?_⟩
      iterate 11 apply Exists.intro
      refine⟨rfl,?_⟩
      constructor
      case k8=>exact fun _=>rfl
      case bx=>exact HV.out.bx.below hbb
      case n7=>exact fun h0=>HV.out.n7 (Amw h0)
      case q0=>exact Uq hun HV.out.q0
      case row=>exact fun h=>(HV.out.row (Amw h)).alloc _
      case sl=>exact fun _ _=>Aa0 _ _
      case r9=>exact fun h=>(Amx hoff (HV.out.q9 (Amv h))).elim
      case r10=>exact fun h=>(Amx hoff (HV.out.q9 (HV.out.q10 (Amv h)))).elim
      case q9=>exact Uq hun HV.out.q9
      case q10=>exact Uq hun HV.out.q10
      all_goals exact Um (by assumption)
     ·simp at ho
      subst ho
      have h0x:L.getD 0 false=true:=hall {on:=0,ground:=Ground.data} (by simp) (by decide)
      have h8x:L.getD 8 false=true:=hall {on:=8,ground:=Ground.data} (by simp) (by decide)
      have H0:=hI h0x
      have H8:=hI h8x
      clear hall hi h0x h8x
      have e0:=HV.out.k0 H0.out
      subst e0
      have e1:=HV.out.k8 H8.out
      subst e1
      obtain⟨v1,w1,hrun,hv1,hb1⟩:=fapp (x:=(py,q)) HV.out.bx HKB.out (HV.out.row hoff) (HV.out.sl H8.out hoff) HM4.out
      refine Am0 rfl fun K' HK=>?_
      refine Aun hrun rfl _ _ rfl rfl rfl rfl ?_
      go_simp
      cases HV.out
      refine HK.out _ _ ⟨by simp[HJ.out.sz],?_⟩
      iterate 12 apply Exists.intro
      refine⟨rfl,?_⟩
      constructor
      case bx=>exact hb1
      case n7=>exact fun h0=>HV.out.n7 (Amw h0)
      case q0=>exact Uq hun HV.out.q0
      case row=>exact fun h=>(Amx h (Amr hun)).elim
      case sl=>exact fun _ h=>(Amx h (Amr hun)).elim
      case r9=>exact fun _=>hv1
      case r10=>exact fun h=>(Amx hoff (HV.out.q10 (Amv h))).elim
      case q9=>exact fun _=>Amu hun H8.out
      case q10=>exact Uq hun HV.out.q10
      all_goals exact Um (by assumption)
     ·simp at ho
      subst ho
      have h9x:L.getD 9 false=true:=hall {on:=9,ground:=Ground.data} (by simp) (by decide)
      have h0x:L.getD 0 false=true:=hall {on:=0,ground:=Ground.phase} (by simp) (by decide)
      have H9:=hI h9x
      have H0:=hI h0x
      clear hall hi h9x h0x
      refine Am0 rfl fun K' HK=>?_
      go_simp
      cases HV.out
      refine HK.out _ _ ⟨by simp[HJ.out.sz],?_⟩
      iterate 12 apply Exists.intro
      refine⟨rfl,?_⟩
      constructor
      case bx=>exact HV.out.bx
      case n7=>exact fun h=>(Amx h (Amr hun)).elim
      case q0=>exact fun _=>Amu hun H0.out
      case row=>exact fun h0=>HV.out.row (Amw h0)
      case sl=>exact Un HV.out.sl
      case r10=>exact fun _=>HV.out.r9 H9.out
      case q9=>exact Uq hun HV.out.q9
      case q10=>exact fun _=>Amu hun H9.out
      all_goals exact Um (by assumption)
  ·have hcx:decide ((k:Int)<(N:Int))=false:=by simp;omega
   obtain rfl:k=N:=by omega
   have hrow:=HROW.out
   have HF:Hid ((∃A k',Ending.returned (.slice (some ⟨g,0,none⟩) (Ar2 i d k).length c)=.returned (.slice A (Ar2 i d k).length k')∧RdFw wr.heap.size wr A (Ar2 i d k))∧Below w.heap.size w wr):=by
    refine⟨⟨_,_,rfl,?_⟩,HG.out.1⟩
    rcases hrow.2 with⟨e1,_⟩|⟨g',cap',cur,e1,hb1,hgb,_,_,_,htk⟩
    ·cases e1
    ·injection e1 with e1 _ e3
     injection e1 with e1
     injection e1 with e1
     subst e1
     refine rdfw_row (sp:=cur.toList.drop ((Ar2 i d k).length*3)) ?_
     rw[←htk,Aat]
     exact hgb
   clear hrow
   go_wp2_with fail
   go_ret
   exact HF.out
end Go.Proofs.YteennkgpeiafaaaGreatDoor
