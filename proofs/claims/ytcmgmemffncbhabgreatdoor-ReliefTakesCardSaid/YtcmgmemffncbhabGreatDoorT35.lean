/-
  slices.Delete of one lot.
-/
import Derived.Test.YtcmgmemffncbhabGreatDoorT32
import Derived.Deep.RegionLaw
import Derived.Deep.Upon
import Derived.Lib.SliceRun
set_option linter.unusedVariables false
set_option linter.unusedSimpArgs false
set_option maxHeartbeats 16000000
set_option maxRecDepth 100000
namespace Go.Proofs.YtcmgmemffncbhabGreatDoor
open Go.RowKit Tr Go.Shelf
theorem heap_setCells_mid:∀(vs:List Value) (W:World) (B o:Nat) (A C R:List Value) (t:TypeId),W.heap[B]?=some (.cells (A++(C++R)).toArray t (0,0))→A.length=o→C.length=vs.length→(W.setCells B o vs).heap[B]?=some (.cells (A++(vs++R)).toArray t (0,0))
 | [],W,B,o,A,C,R,t,h,ho,hc=>by rw[Aag (l:=C) (by simpa using hc)] at h;exact h
 | v :: vs, W, B, o, A, C, R, t, h, ho, hc => by
   match C,hc with
   | [],hc=>simp at hc
   | c::C,hc =>
     have h2:(W.setCell ⟨B,o,none⟩ v).heap[B]?=some (.cells ((A++[v])++(C++R)).toArray t (0,0)):=by
      simp only[World.setCell,Array.getElem?_modify,h,if_true,Option.map_some]
      congr 2
      rw[List.setIfInBounds_toArray,List.set_append_right _ _ (by omega),ho,Nat.sub_self]
      simp
     have h3:=heap_setCells_mid vs (W.setCell ⟨B,o,none⟩ v) B (o+1) (A++[v]) C R t h2 (by simp;omega) (by simpa using hc)
     rw[World.setCells,h3]
     simp
theorem At0{P:Program}{ops:Array Oper}{o:Oper}{a:Act}{K:Act→World→Prop}{Q:Exit→Act→World→Prop}{E:Prop}{t ty:TypeId}{sv xv v':Value}{w w':World}(hr:(Builtin.append_ #[t,t] ty #[sv,xv]).run P w=.ok v' w')(hgd:o.guard=none)(s x:Operand)
 (ho:o.op=.call {callee:=.builtin .append,args:=#[s,x],argTypes:=#[t,t]}) (hty:o.type=ty) (hs:a.eval s=sv) (hx:a.eval x=xv) (h:K (a.put o.dst v') w') :
 if Region.wanted o (yielded ops a.tmps)=true then Oper.wp P o a w K Q else E:=by
 subst hty
 have hw:Region.wanted o (yielded ops a.tmps)=true:=by simp[Region.wanted,hgd]
 rw[if_pos hw]
 unfold Oper.wp execOp
 simp only[ho,resolve,invoke,builtin,Sem.run_bind,Sem.run_pure,Result.andThen_ok,List.map_toArray,List.map_cons,List.map_nil,hs,hx,hr]
 exact h
theorem grown_setCells:∀(vs:List Value) (W:World) (B o:Nat),W.grownBy (W.setCells B o vs) (some B)
 | [],W,B,o=>⟨rfl,rfl,rfl,Aad _,fun _ _ _=>rfl⟩
 | v::vs,W,B,o=>by
   have h:=grown_setCells vs (W.setCell ⟨B,o,none⟩ v) B (o+1)
   have hs:=(KeepsWalks.setCell W ⟨B,o,none⟩ v).size
   exact⟨h.os,h.tape,h.output,Aap hs h.size,fun k hk hne=>(h.block k (Aah hk hs) hne).trans (Below.heap_setCell _ _ _ k (fun e=>hne (by rw[e])))⟩
theorem zeroLot_cells:∃z:Value,z.cells.toList=(⟨⟨#[]⟩,⟨#[]⟩,0,0,⟨#[]⟩,⟨#[]⟩,⟨#[]⟩⟩:Lot).cells.toList∧∀W,(zeroValue 38).run Tryz.prog W=.ok z W:=⟨.agg #[.string ⟨#[]⟩,.string ⟨#[]⟩,.int .i64 0,.int .i64 0,.string ⟨#[]⟩,.string ⟨#[]⟩,.string ⟨#[]⟩],rfl,fun W=>by kernel_rfl⟩
theorem At1(w:World)(ty:TypeId)(b o c:Nat)(hc:∀j,j<7→(w.cell? ⟨b,o+j,none⟩).isSome=true)(hf:∀j,j<7→w.frozen? ⟨b,o+j,none⟩=false):
 (Builtin.clear_ #[22] ty #[.slice (some ⟨b,o,none⟩) 1 c]).run Tryz.prog w=.ok (.tuple #[]) (w.setCells b o (⟨⟨#[]⟩,⟨#[]⟩,0,0,⟨#[]⟩,⟨#[]⟩,⟨#[]⟩⟩:Lot).cells.toList):=by
 obtain⟨z,hz,hv⟩:=zeroLot_cells
 have hzc:(Builtin.zeroCells z.cells 1).toList=(⟨⟨#[]⟩,⟨#[]⟩,0,0,⟨#[]⟩,⟨#[]⟩,⟨#[]⟩⟩:Lot).cells.toList:=by
  have e:z.cells=#[.string ⟨#[]⟩,.string ⟨#[]⟩,.int .i64 0,.int .i64 0,.string ⟨#[]⟩,.string ⟨#[]⟩,.string ⟨#[]⟩]:=by
   apply Array.toList_inj.1
   rw[hz]
  rw[e]
  unfold Builtin.zeroCells
  rw[Array.toList_map,Array.toList_range]
  rfl
 have hst:=run_storeCells_cells (P:=Tryz.prog) b o (⟨⟨#[]⟩,⟨#[]⟩,0,0,⟨#[]⟩,⟨#[]⟩,⟨#[]⟩⟩:Lot).cells.toList 0 w (by simpa using hc) (by simpa using hf) (Apt _)
 simp only[Nat.add_zero] at hst
 have ht:Tryz.prog.underlying 22=some (.slice 38):=Tryz.underlying22
 simp only[Builtin.clear_,run_underlying ht,hv,hzc,hst,Sem.run_bind,Result.andThen_ok,Sem.run_pure]
 simp[Builtin.clear_,run_underlying ht,hv,hzc,hst]
structure DLV(wS W1:World)(ad A:Addr)(N c k j n1 c1 n2:Nat)  (L:Array Bool) (W:World) (s0 s20 s21 s22 s23 s24 s25 s26:Value):Prop where
 k0:L.getD 0 false=true→s20=.slice (some ad) N c
 k1:L.getD 1 false=true→s21=.int .i64 (k:Int)
 k2:L.getD 2 false=true→s22=.slice (some ad) k c
 k3:L.getD 3 false=true→s23=.slice (some ad) N c
 k4:L.getD 4 false=true→s24=.int .i64 (j:Int)
 k5:L.getD 5 false=true→s25=.slice (some A) n1 c1
 k6:L.getD 6 false=true→s26=.slice (some ad) n2 c
 k7:L.getD 7 false=true→s0=.slice (some ad) n2 c
 z0:L.getD 7 false=false→s0=.slice (some ad) N c
 r0:L.getD 6 false=false→W=wS
 r1:L.getD 6 false=true→W=W1
 q20:L.getD 2 false=true→L.getD 0 false=true
 q53:L.getD 5 false=true→L.getD 3 false=true
 q60:L.getD 6 false=true→L.getD 0 false=true∧L.getD 3 false=true
 q70:L.getD 7 false=true→L.getD 0 false=true∧L.getD 3 false=true
structure DLJ(wS W1:World)(ad A:Addr)(N c k j n1 c1 n2:Nat)(x3 x4 x5 x6 x7 x8 x9 x10 x11 x12 x13 x14 x15 x16 x17 x18 x19 x27 x28 x29 x30 x31 x32:Value)(L:Array Bool)(a:Act)(W:World):Prop where
 sz:L.size=8
 fr:∃s0 s20 s21 s22 s23 s24 s25 s26:Value,a={tmps:=#[s0,.int .i64 (k:Int),.int .i64 (j:Int),x3,x4,x5,x6,x7,x8,x9,x10,x11,x12,x13,x14,x15,x16,x17,x18,x19,s20,s21,s22,s23,s24,s25,s26,x27,x28,x29,x30,x31,x32],defers:=[]}∧DLV wS W1 ad A N c k j n1 c1 n2  L W s0 s20 s21 s22 s23 s24 s25 s26
theorem At2(V:Lot→Prop)(w0:World)(g N c k j:Nat)(hj:j=k+1)(sp:List Value)(D0:List Lot)(hN:D0.length=N)(hc:N≤c)(hcm:c≤9223372036854775807)(hk:k<N)(w:World)(hrow:SRow V w0 g sp D0 w):
 Calls Tryz.prog 23 #[.slice (some ⟨g,0,none⟩) N c,.int .i64 (k:Int),.int .i64 (j:Int)] w fun e w'=>e=.returned (.slice (some ⟨g,0,none⟩) (N-1) c)∧∃sp',SRow V w0 g sp' (D0.take k++D0.drop (k+1)) w':=by
 obtain⟨i0,hi0,hz0,hz1,hz2⟩:=info_parts Tryz.infoLot
 obtain⟨news,hnews⟩:∃news,flatV (D0.drop j)=news:=⟨_,rfl⟩
 have hnl:news.length=(N-j)*7:=by rw[←hnews,Asa,List.length_drop,hN]
 obtain⟨x,hx⟩:∃x,D0[k]?=some x:=⟨_,Aae (by omega)⟩
 obtain⟨Pr,Q,hD,hP⟩:=Asd hx
 have hQ:D0.drop j=Q:=by rw[hj,hD,←hP,show Pr++x::Q=(Pr++[x])++Q from by simp,show Pr.length+1=(Pr++[x]).length from by simp,List.drop_left]
 have hPt:D0.take k=Pr:=by rw[hD,←hP,List.take_left]
 have hpl:(flatV Pr).length=k*7:=by rw[Asa,hP]
 have hQl:Q.length=N-j:=by rw[←hQ,List.length_drop,hN]
 rw[hQ] at hnews
 -- the cells behind
 obtain⟨C1,R1,hC1,hC1l⟩:∃C1 R1:List Value,x.cells.toList++flatV Q=C1++R1∧C1.length=news.length:=by
  refine⟨(x.cells.toList++flatV Q).take news.length,(x.cells.toList++flatV Q).drop news.length,(Aav _ _).symm,?_⟩
  rw[Aat,Aan,←hnews]
  omega
 have hR1:R1.length=7:=by
  have h:=congrArg List.length hC1
  rw[Aan,Aan,hC1l,←hnews] at h
  simp at h
  omega
 have hrow0:w.drew.heap[g]?=some (.cells (flatV Pr++(C1++(R1++sp))).toArray 38 (0,0)):=by
  have h:=hrow.row
  rw[hD,Ar8,Ar9,List.append_assoc,hC1,List.append_assoc] at h
  exact h
 have hrow1:=heap_setCells_mid news w.drew g (k*7) (flatV Pr) C1 (R1++sp) _ hrow0 hpl hC1l
 obtain⟨W1,hW1⟩:∃W1,w.drew.setCells g (0+k*7) news=W1:=⟨_,rfl⟩
 rw[Nat.zero_add] at hW1
 rw[hW1] at hrow1
 have hg1:w.drew.grownBy W1 (some g):=by rw[←hW1];exact grown_setCells _ _ _ _
 have e1:(flatV Pr++news).length=(N-1)*7:=by rw[Aan,hpl,hnl];omega
 have hrow1':W1.heap[g]?=some (.cells ((flatV Pr++news)++(R1++sp)).toArray 38 (0,0)):=by rw[List.append_assoc];exact hrow1
 have hrow2:=heap_setCells_mid (⟨⟨#[]⟩,⟨#[]⟩,0,0,⟨#[]⟩,⟨#[]⟩,⟨#[]⟩⟩:Lot).cells.toList W1 g ((N-1)*7) (flatV Pr++news) R1 sp _ hrow1' e1 (by rw[hR1];rfl)
 have hcl:∀ty,(Builtin.clear_ #[22] ty #[.slice (some ⟨g,(N-1)*7,none⟩) 1 (c-(N-1))]).run Tryz.prog W1=.ok (.tuple #[]) (W1.setCells g ((N-1)*7) (⟨⟨#[]⟩,⟨#[]⟩,0,0,⟨#[]⟩,⟨#[]⟩,⟨#[]⟩⟩:Lot).cells.toList):=fun ty=>At1 W1 ty g _ _
  (fun t ht=>by rw[Aaa hrow1' ((N-1)*7+t),List.getElem?_toArray,Aa1 (by omega),List.getElem?_append_left (by omega),Aae (by omega)];rfl)
  (fun t ht=>Aaf hrow1' _)
 obtain⟨W2,hW2⟩:∃W2,W1.setCells g ((N-1)*7) (⟨⟨#[]⟩,⟨#[]⟩,0,0,⟨#[]⟩,⟨#[]⟩,⟨#[]⟩⟩:Lot).cells.toList=W2:=⟨_,rfl⟩
 rw[hW2] at hrow2 hcl
 have hg2:W1.grownBy W2 (some g):=by rw[←hW2];exact grown_setCells _ _ _ _
 have hfin:∃sp',SRow V w0 g sp' (D0.take k++D0.drop (k+1)) W2:=by
  refine⟨(⟨⟨#[]⟩,⟨#[]⟩,0,0,⟨#[]⟩,⟨#[]⟩,⟨#[]⟩⟩:Lot).cells.toList++sp,?_,fun y hy=>hrow.ok y ?_,?_,hrow.lt⟩
  ·rw[←hj,hQ,hPt,Ar8,hnews];exact hrow2
  ·rcases List.mem_append.1 hy with h|h
   ·exact List.mem_of_mem_take h
   ·exact List.mem_of_mem_drop h
  ·have hgr:=hrow.gr
   exact⟨hg2.os.trans (hg1.os.trans hgr.os),hg2.tape.trans (hg1.tape.trans hgr.tape),hg2.output.trans (hg1.output.trans hgr.output),Aap hgr.size (Aap hg1.size hg2.size),fun i hi hne=>(hg2.block i (Aah hi (Aap hgr.size hg1.size)) hne).trans ((hg1.block i (Aah hi hgr.size) hne).trans (hgr.block i hi hne))⟩
 have HFIN:=hI hfin
 have s1:Hid (news.length=(N-j)*7):=hnl
 have s2:Hid (∀u∈news,u.oneCell'=true):=by intro u hu;rw[←hnews] at hu;exact Asb _ u hu
 have s3:Hid (∀t,t<news.length→(w.drew.cell? ⟨g,0+k*7+t,none⟩).isSome=true∧w.drew.frozen? ⟨g,0+k*7+t,none⟩=false):=by
  intro t ht
  rw[Nat.zero_add]
  refine⟨?_,Aaf hrow0 _⟩
  rw[Aaa hrow0 (k*7+t),List.getElem?_toArray,Aa1 (by omega),hpl,Nat.add_sub_cancel_left,List.getElem?_append_left (by omega),Aae (by omega)];rfl
 obtain⟨A,hA,hsrc⟩:∃A:Addr,(if c=j then (⟨g,0,none⟩:Addr) else (⟨g,0,none⟩:Addr).add (j*7))=A∧Hid (∀t u,news[t]?=some u→w.drew.cell? (A.add t)=some u):=by
  refine⟨_,rfl,fun t u hu=>?_⟩
  have ht:=(Aak.1 hu).1
  have hlt:j<N:=by omega
  rw[if_neg (by omega),Ake]
  rw[show (⟨g,j*7,none⟩:Addr).add t=⟨g,j*7+t,none⟩ from Anq _ rfl t]
  rw[Aaa hrow0 (j*7+t),List.getElem?_toArray]
  have e3:flatV Pr++(C1++(R1++sp))=(flatV Pr++x.cells.toList)++(news++sp):=by
   rw[←hnews,←List.append_assoc C1,←hC1];simp
  rw[e3,Aa1 (by rw[Aan,hpl];simp;omega),Aan,hpl,show j*7+t-(k*7+x.cells.toList.length)=t from by simp;omega,List.getElem?_append_left ht]
  exact hu
 have hrun:∀ty,(Builtin.append_ #[22,22] ty #[.slice (some ⟨g,0,none⟩) k c,.slice (some A) (N-j) (c-j)]).run Tryz.prog w.drew=.ok (.slice (some ⟨g,0,none⟩) (N-1) c) W1:=fun ty=>by
  have h:=run_append_room_cells (P:=Tryz.prog) w.drew 22 ty 38 i0 Tryz.underlying22 hi0 g 0 k c A (N-j) (c-j) news (by rw[hz1];exact s1.out) hsrc.out s2.out (by omega) (fun t ht=>by rw[hz1];exact (s3.out t ht).1) (fun t ht=>by rw[hz1];exact (s3.out t ht).2)
  rw[hz1,Nat.zero_add,hW1,show k+(N-j)=N-1 from by omega] at h
  exact h
 have h1:∀W,(Instr.sliceAt 22 (.slice (some ⟨g,0,none⟩) N c) none (some (.int .i64 (k:Int))) none).run Tryz.prog W=.ok (.slice (some ⟨g,0,none⟩) k c) W:=fun W=>An1 W _ N c k (by omega)
 have h2:∀W,(Instr.sliceAt 22 (.slice (some ⟨g,0,none⟩) N c) (some (.int .i64 (j:Int))) none none).run Tryz.prog W=.ok (.slice (some A) (N-j) (c-j)) W:=fun W=>by rw[←hA];exact An0 W _ N c j (by omega)
 have HW1:Hid (w.drew.setCells g (0+k*7) news=W1):=by rw[Hid,Nat.zero_add];exact hW1
 have hkj:k+(N-j)=N-1:=by omega
 have hkc:k≤c:=by omega
 have hne:((k:Int)==(j:Int))=false:=Aaj.2 (by omega)
 have hroom:k+(N-j)≤c:=by omega
 have hk1:k≤j:=by omega
 have hk2:j≤N:=by omega
 have HCN:Hid (c=N-1→False):=by intro h;omega
 have hN1:1≤N:=by omega
 have hNk:¬N=k:=by omega
 clear hnews hnl hx hD hP hQ hPt hpl hQl hC1 hC1l hR1 hrow0 hrow1 hW1 hg1 e1 hrow1' hrow2 hW2 hg2 hfin hA hrow hN hj hk HW1 hkj hroom hi0 hz0 hz1 hz2 s1 s2 s3 hsrc
 obtain⟨ad,had⟩:∃ad:Addr,ad=⟨g,0,none⟩:=⟨_,rfl⟩
 obtain⟨n1,hn1⟩:∃n1,N-j=n1:=⟨_,rfl⟩
 obtain⟨n2,hn2⟩:∃n2,N-1=n2:=⟨_,rfl⟩
 obtain⟨c1,hc1⟩:∃c1,c-j=c1:=⟨_,rfl⟩
 have hclr:=hcl
 rw[hn2] at hclr
 rw[hn1,hn2,hc1,←had] at hrun
 rw[hn1,hc1,←had] at h2
 rw[←had] at h1 ⊢
 rw[hn2]
 have HRUN:=hI hrun
 have HSL1:=hI h1
 have HSL2:=hI h2
 have hn2N:n2≤N:=by omega
 have hn2c:¬c=n2:=by omega
 have hlast:N-n2=1:=by omega
 have HADD:Hid (ad.add (n2*7)=⟨g,n2*7,none⟩):=adk had _
 clear hrun h1 h2 hcl had hn1 hn2 hc1
 go_enter Tryz.func23,Tryz.ntmps23
 go_wp2_with fail
 have mixed:Tryz.prog.follows .mixedOrders=true:=by kernel_rfl
 refine wp_region_any mixed (Akw (DLJ w.drew W1 ad A N c k j n1 c1 n2 _ _ _ _ _ _ _ _ _ _ _ _ _ _ _ _ _ _ _ _ _ _ _) ?stDL ?dnDL _ _ _ _ ⟨by simp,⟨_,_,_,_,_,_,_,_,rfl,fun h=>by simp at h,fun h=>by simp at h,fun h=>by simp at h,fun h=>by simp at h,fun h=>by simp at h,fun h=>by simp at h,fun h=>by simp at h,fun h=>by simp at h,fun _=>rfl,fun _=>rfl,fun h=>by simp at h,fun h=>by simp at h,fun h=>by simp at h,fun h=>by simp at h,fun h=>by simp at h⟩⟩ (by decide))
 case dnDL =>
  intro L a w' hj hr
  have all:=Akv hr hj.sz (by kernel_rfl)
  obtain⟨s0,s20,s21,s22,s23,s24,s25,s26,rfl,hv⟩:=hj.fr
  have e0:=hv.k7 (all 7 (by omega))
  have ew:=hv.r1 (all 6 (by omega))
  subst e0
  subst ew
  clear all hv hj hr
  dsimp only
  have had2:=HADD.out
  go_wp2_with fail
  go_ret
  exact⟨rfl,HFIN.out⟩
 case stDL =>
  intro L a w' hj i hi
  obtain⟨hun,o,ho,hall⟩:=mem_ready.1 hi
  have hoff:=Akk hun
  have hlt:=(Aab.1 ho).1
  simp at hlt
  obtain⟨s0,s20,s21,s22,s23,s24,s25,s26,rfl,hv⟩:=hj.fr
  have HV:=hI hv
  have HJ:=hI hj
  clear hv hj
  rcases (show i=0∨i=1∨i=2∨i=3∨i=4∨i=5∨i=6∨i=7 from by omega) with rfl|rfl|rfl|rfl|rfl|rfl|rfl|rfl
  all_goals simp at ho
  all_goals subst ho
  have ho:L.getD 7 false=false:=by rcases Akr L 7 with h|h;exact h;exact (Akq hoff (HV.out.q70 h).1).elim
  have ez:=HV.out.z0 ho
  subst ez
  rotate_left
  rotate_left
  ·have H0:=Hq hall 0
   cases HV.out.k0 (Hq hall 0).out
   cases HV.out.k1 (Hq hall 1).out
   clear hall hi
   have hsl:=HSL1.out
   refine Akt rfl fun K' HK=>?_
   go_simp
   cases HV.out
   refine HK.out _ _ ⟨by simp[HJ.out.sz],⟨_,_,_,_,_,_,_,_,rfl,?_,?_,fun _=>rfl,?_,?_,?_,?_,?_,fun h=>HV.out.z0 (Dz h),fun h=>HV.out.r0 (Dz h),?_,fun _=>Akm hun H0.out,fun h=>Akm hun (HV.out.q53 (Uz h)),fun h=>⟨Akm hun (HV.out.q60 (Uz h)).1,Akm hun (HV.out.q60 (Uz h)).2⟩,fun h=>⟨Akm hun (HV.out.q70 (Uz h)).1,Akm hun (HV.out.q70 (Uz h)).2⟩⟩⟩
   all_goals exact Um (by assumption)
  have ho:L.getD 7 false=false:=by rcases Akr L 7 with h|h;exact h;exact (Akq hoff (HV.out.q70 h).2).elim
  have ez:=HV.out.z0 ho
  subst ez
  rotate_left
  rotate_left
  ·have H3:=Hq hall 3
   cases HV.out.k3 (Hq hall 3).out
   cases HV.out.k4 (Hq hall 4).out
   clear hall hi
   have hsl:=HSL2.out
   refine Akt rfl fun K' HK=>?_
   go_simp
   cases HV.out
   refine HK.out _ _ ⟨by simp[HJ.out.sz],⟨_,_,_,_,_,_,_,_,rfl,?_,?_,?_,?_,?_,fun _=>rfl,?_,?_,fun h=>HV.out.z0 (Dz h),fun h=>HV.out.r0 (Dz h),?_,fun h=>Akm hun (HV.out.q20 (Uz h)),fun _=>Akm hun H3.out,fun h=>⟨Akm hun (HV.out.q60 (Uz h)).1,Akm hun (HV.out.q60 (Uz h)).2⟩,fun h=>⟨Akm hun (HV.out.q70 (Uz h)).1,Akm hun (HV.out.q70 (Uz h)).2⟩⟩⟩
   all_goals exact Um (by assumption)
  ·have H2:=Hq hall 2
   have H5:=Hq hall 5
   cases HV.out.k2 (Hq hall 2).out
   cases HV.out.k5 (Hq hall 5).out
   clear hall hi
   have ew:=HV.out.r0 hoff
   subst ew
   refine Akt rfl fun K' HK=>?_
   refine At0 (HRUN.out _) rfl _ _ rfl rfl rfl rfl ?_
   go_simp
   cases HV.out
   refine HK.out _ _ ⟨by simp[HJ.out.sz],⟨_,_,_,_,_,_,_,_,rfl,?_,?_,?_,?_,?_,?_,fun _=>rfl,?_,fun h=>HV.out.z0 (Dz h),fun h=>(Akq h (Aki hun)).elim,fun _=>rfl,fun h=>Akm hun (HV.out.q20 (Uz h)),fun h=>Akm hun (HV.out.q53 (Uz h)),fun _=>⟨Akm hun (HV.out.q20 H2.out),Akm hun (HV.out.q53 H5.out)⟩,fun h=>⟨Akm hun (HV.out.q70 (Uz h)).1,Akm hun (HV.out.q70 (Uz h)).2⟩⟩⟩
   all_goals exact Um (by assumption)
  ·have H6:=Hq hall 6
   cases HV.out.k6 (Hq hall 6).out
   clear hall hi
   refine Akt rfl fun K' HK=>?_
   go_simp
   cases HV.out
   refine HK.out _ _ ⟨by simp[HJ.out.sz],⟨_,_,_,_,_,_,_,_,rfl,?_,?_,?_,?_,?_,?_,?_,fun _=>rfl,fun h=>(Akq h (Aki hun)).elim,fun h=>HV.out.r0 (Dz h),?_,fun h=>Akm hun (HV.out.q20 (Uz h)),fun h=>Akm hun (HV.out.q53 (Uz h)),fun h=>⟨Akm hun (HV.out.q60 (Uz h)).1,Akm hun (HV.out.q60 (Uz h)).2⟩,fun _=>⟨Akm hun (HV.out.q60 H6.out).1,Akm hun (HV.out.q60 H6.out).2⟩⟩⟩
   all_goals exact Um (by assumption)
  all_goals
   clear hall hi
   refine Akt rfl fun K' HK=>?_
   go_simp
   cases HV.out
   refine HK.out _ _ ⟨by simp[HJ.out.sz],?_⟩
   iterate 8 apply Exists.intro
   refine⟨rfl,?_⟩
   constructor
   all_goals first|exact Um (by assumption)|exact Un (by assumption)|exact Uf (by assumption)|exact fun _=>rfl|assumption|exact Uq hun (by assumption)|exact Uq2 hun (by assumption)|exact Uq3 hun (by assumption)
end Go.Proofs.YtcmgmemffncbhabGreatDoor
