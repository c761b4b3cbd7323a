/-
  Lots and positions compared as the machine does it;slices.Equal,lot.Same,trancheref19.Same,SamePositions. (Printed by gen_eq1.py.)
-/
import Derived.Test.YtcmgmemffncbhabGreatDoorT25
import Derived.Laws.StructEq
import Derived.BigQuiet
set_option linter.unusedVariables false
set_option linter.unusedSimpArgs false
set_option maxHeartbeats 16000000
set_option maxRecDepth 100000
namespace Go.Proofs.YtcmgmemffncbhabGreatDoor
open Go.RowKit Tr Go.Shelf
open Classical in
noncomputable def sameB{α:Type}(a b:α):Bool:=decide (a=b)
theorem Apb{α:Type}{a b:α}(h:a=b):sameB a b=true:=by unfold sameB;simp[h]
theorem Apc{α:Type}{a b:α}(h:a≠b):sameB a b=false:=by unfold sameB;simp[h]
theorem Apd(a b:ByteArray):(a.toList=b.toList)↔(a=b):=by
 have h:=Aj8 a b
 constructor
 ·intro e
  rw[e] at h
  simpa using h
 ·intro e;rw[e]
theorem Ape{α:Type}{l m:List α}{k:Nat}{x y:α}(h:l.take k=m.take k)(hx:l[k]?=some x)(hy:m[k]?=some y)(e:x=y):l.take (k+1)=m.take (k+1):=by
 rw[Amq hx,Amq hy,h,e]
theorem ne_at{α:Type}{l m:List α}{k:Nat}{x y:α}(hx:l[k]?=some x)(hy:m[k]?=some y)(e:x≠y):l≠m:=by
 intro h
 rw[h,hy] at hx
 exact e (Option.some.inj hx).symm
theorem lot_iff(x y:Lot):x=y↔x.id=y.id∧x.inst=y.inst∧x.acq=y.acq∧x.opn=y.opn∧x.qty=y.qty∧x.cost=y.cost∧x.used=y.used:=by cases x;cases y;simp
theorem Apf(op:BinOp)(x y:Operand)(xs ys:Array Value)(w:World):(eqGuard op 38 x y (.agg xs) (.agg ys)).run Tryz.prog w=.ok () w:=run_eqGuard_agg w op _ x y xs ys (by kernel_rfl)
attribute [local go_sem] Apf
theorem Apg(x y:Lot)(w:World):(binOp .neq 38 (.agg #[.string x.id,.string x.inst,.int .i64 x.acq,.int .i64 x.opn,.string x.qty,.string x.cost,.string x.used]) (.agg #[.string y.id,.string y.inst,.int .i64 y.acq,.int .i64 y.opn,.string y.qty,.string y.cost,.string y.used])).run Tryz.prog w=.ok (.bool (!sameB x y)) w:=by
 have hS:Tryz.prog.underlying 38=some (.struct (Tryz.prog.fieldsOf 38)):=by kernel_rfl
 have hp:Tryz.prog.stoodInHeld 38=false:=by kernel_rfl
 have u0:=Tryz.underlying9
 have a0:=Tryz.isAgg9
 have z0:=Tryz.sizeOf9
 have u1:=Tryz.underlying36
 have a1:=Tryz.isAgg36
 have z1:=Tryz.sizeOf36
 have u2:=Tryz.underlying23
 have a2:=Tryz.isAgg23
 have z2:=Tryz.sizeOf23
 rw[run_neq_struct,show (10000:Nat)=9999+1 from rfl,run_equalIn_agg w 9999 _ _ _ hS hp]
 simp only[Program.fieldsOf,Tryz.underlying38]
 go_simp
 by_cases h0:x.id=y.id
 case neg=>rw[Apc (fun e=>h0 (by rw[e]))];simp[Apd,h0]
 by_cases h1:x.inst=y.inst
 case neg=>rw[Apc (fun e=>h1 (by rw[e]))];simp[Apd,h0,h1]
 by_cases h2:x.acq=y.acq
 case neg=>rw[Apc (fun e=>h2 (by rw[e]))];simp[Apd,h0,h1,h2]
 by_cases h3:x.opn=y.opn
 case neg=>rw[Apc (fun e=>h3 (by rw[e]))];simp[Apd,h0,h1,h2,h3]
 by_cases h4:x.qty=y.qty
 case neg=>rw[Apc (fun e=>h4 (by rw[e]))];simp[Apd,h0,h1,h2,h3,h4]
 by_cases h5:x.cost=y.cost
 case neg=>rw[Apc (fun e=>h5 (by rw[e]))];simp[Apd,h0,h1,h2,h3,h4,h5]
 by_cases h6:x.used=y.used
 case neg=>rw[Apc (fun e=>h6 (by rw[e]))];simp[Apd,h0,h1,h2,h3,h4,h5,h6]
 rw[Apb ((lot_iff x y).2 ⟨h0,h1,h2,h3,h4,h5,h6⟩)];simp[Apd,h0,h1,h2,h3,h4,h5,h6]
def RdB'(n₀:Nat)(w:World)(A:Option Addr)(ls:List Lot):Prop :=
 ls≠[]→∃ad:Addr,A=some ad∧ad.block<n₀∧∀(j:Nat) (l:Lot),ls[j]?=some l→LotAt w (ad.add (j*7)) l
theorem RdB.rdb'{n₀:Nat}{w:World}{A:Option Addr}{ls:List SLot}(h:RdB n₀ w A ls):RdB' n₀ w A (ls.map Subtype.val):=by
 intro hl
 obtain⟨ad,h1,h2,h3⟩:=h (by intro e;rw[e] at hl;exact hl rfl)
 refine⟨ad,h1,h2,fun j l hj=>?_⟩
 rw[List.getElem?_map] at hj
 obtain⟨x,hx,rfl⟩:=Option.map_eq_some_iff.1 hj
 exact h3 j x hx
theorem Aph(A1 A2:Option Addr)(l1 l2:List Lot)(c1 c2:Nat)(h1:l1.length≤1000000)(h2:l2.length≤1000000)(n1 n2:Nat)(w:World)(r1:RdB' n1 w A1 l1)(r2:RdB' n2 w A2 l2):
 Calls Tryz.prog 14 #[.slice A1 l1.length c1,.slice A2 l2.length c2] w fun e w'=>e=.returned (.bool (sameB l1 l2))∧∃m,w'=w.drewN m:=by
 have R1:=hI r1
 have R2:=hI r2
 clear r1 r2
 by_cases hl:l1.length=l2.length
 case neg =>
  have tn:((l1.length:Int) != (l2.length:Int))=true:=by rw[bne,Aaj.2 (by omega)];rfl
  have tn':(l1.length != l2.length)=true:=by rw[bne,Aaj.2 hl];rfl
  have te:((l1.length:Int)==(l2.length:Int))=false:=Aaj.2 (by omega)
  have te':(l1.length==l2.length)=false:=Aaj.2 hl
  have HS:=hI (Apc (fun e=>hl (by rw[e])):sameB l1 l2=false)
  clear hl
  go_enter Tryz.func14,Tryz.ntmps14
  go_wp2_with fail
  go_ret
  exact⟨by rw[HS.out];rfl,0,rfl⟩
 obtain⟨n,hn⟩:∃n,l1.length=n:=⟨_,rfl⟩
 rw[←hl,hn]
 have tn:((n:Int) != (n:Int))=false:=by simp
 have HL:Hid (l1.length=n∧l2.length=n):=⟨hn,hl▸hn⟩
 have hnn:n≤1000000:=by omega
 clear hl hn h1 h2
 go_enter Tryz.func14,Tryz.ntmps14
 go_wp2_with fail
 go_loopw [5,13] (fun _ v wr=>∃k m:Nat,v=.int .i64 (k:Int)∧k≤n∧wr=w.drewN m∧l1.take k=l2.take k) (fun _ v _=>n-(intOf v).toNat)
 case atStart=>exact⟨0,0,rfl,by omega,rfl,rfl⟩
 case round =>
  obtain⟨k,m,rfl,hk,rfl,htk⟩:=hrel
  have HTK:=hI htk
  clear tn htk
  rcases Aam k n with hlt|hge
  ·obtain⟨x,hx⟩:∃x,l1[k]?=some x:=⟨_,Aae (by rw[HL.out.1];exact hlt)⟩
   obtain⟨y,hy⟩:∃y,l2[k]?=some y:=⟨_,Aae (by rw[HL.out.2];exact hlt)⟩
   obtain⟨a1,rfl,_,hc1⟩:=R1.out (by intro e;rw[e] at hx;cases hx)
   obtain⟨a2,rfl,_,hc2⟩:=R2.out (by intro e;rw[e] at hy;cases hy)
   have p:=hc1 k x hx
   have q:=hc2 k y hy
   obtain⟨p0,p1,p2,p3,p4,p5,p6⟩:=p
   obtain⟨q0,q1,q2,q3,q4,q5,q6⟩:=q
   have hcx:decide ((k:Int)<(n:Int))=true:=by simp;omega
   have hb:(k:Int)<(n:Int):=by omega
   have hne:=Apg x y
   by_cases he:x=y
   ·rw[Apb he] at hne
    have HST:=hI (Ape HTK.out hx hy he)
    clear hc1 hc2 hx hy he
    go_wp2_with fail
    go_quiet (fail)
    go_wp2_with fail
    go_roundw
    case rel=>exact⟨k+1,m+nq,by go_num,by omega,by first|rfl|rw[World.drewN_drewN],HST.out⟩
    case measure=>simp[intOf];omega
   ·rw[Apc he] at hne
    have HST:=hI (Apc (ne_at hx hy he))
    clear hc1 hc2 hx hy he
    go_wp2_with fail
    go_quiet (fail)
    go_wp2_with fail
    go_ret
    exact⟨by rw[HST.out];rfl,_,by first|rfl|rw[World.drewN_drewN]⟩
  ·have hcx:decide ((k:Int)<(n:Int))=false:=by simp;omega
   have HST:Hid (sameB l1 l2=true):=Apb (by have:=HTK.out;rwa [Aai (by rw[HL.out.1];exact hge),Aai (by rw[HL.out.2];exact hge)] at this)
   go_wp2_with fail
   go_ret
   exact⟨by rw[HST.out];rfl,_,rfl⟩
end Go.Proofs.YtcmgmemffncbhabGreatDoor
namespace Go.Proofs.YtcmgmemffncbhabGreatDoor
open Go.RowKit Tr Go.Shelf
structure RTV(n₀:Nat)(w:World)(ad:Addr)(N c k:Nat)(l:Lot)(q cc:ByteArray)  (L:Array Bool) (W:World) (s6 s7 s22 s23 s24 s25 s26 s27 s28 s29 s30 s31 s32 s33 s34 s35:Value):Prop where
 k0:L.getD 0 false=true→s22=.string q
 k1:L.getD 1 false=true→s23=.slice (some ad) N c
 k2:L.getD 2 false=true→s24=.int .i64 (k:Int)
 k3:L.getD 3 false=true→s25=.pointer (some (ad.add (k*7)))
 k4:L.getD 4 false=true→s26=.pointer (some ⟨(ad.add (k*7)).block,(ad.add (k*7)).off+4,none⟩)
 k5:L.getD 5 false=true→s27=.string l.qty
 k6:L.getD 6 false=true→s28=.string (I (vl q+vl l.qty))
 k7:L.getD 7 false=true→s29=.string cc
 k8:L.getD 8 false=true→s30=.slice (some ad) N c
 k9:L.getD 9 false=true→s31=.int .i64 (k:Int)
 k10:L.getD 10 false=true→s32=.pointer (some (ad.add (k*7)))
 k11:L.getD 11 false=true→s33=.pointer (some ⟨(ad.add (k*7)).block,(ad.add (k*7)).off+5,none⟩)
 k12:L.getD 12 false=true→s34=.string l.cost
 k13:L.getD 13 false=true→s35=.string (I (vl cc+vl l.cost))
 k14:L.getD 14 false=true→s6=.string (I (vl q+vl l.qty))
 k15:L.getD 15 false=true→s7=.string (I (vl cc+vl l.cost))
 n14:L.getD 14 false=false→s6=.string q
 n15:L.getD 15 false=false→s7=.string cc
 be:Below n₀ w W
 q14:L.getD 14 false=true→L.getD 6 false=true
 q15:L.getD 15 false=true→L.getD 13 false=true
 q6:L.getD 6 false=true→L.getD 0 false=true
 q13:L.getD 13 false=true→L.getD 7 false=true
structure RTJ(n₀:Nat)(w:World)(ad:Addr)(N c k:Nat)(l:Lot)(q cc:ByteArray)(x1 x2 x3 x4 x5 x9 x10 x11 x12 x13 x14 x15 x16 x17 x18 x19 x20 x21 x36 x37:Value)(L:Array Bool)(a:Act)(W:World):Prop where
 sz:L.size=16
 fr:∃s6 s7 s22 s23 s24 s25 s26 s27 s28 s29 s30 s31 s32 s33 s34 s35:Value,a={tmps:=#[.slice (some ad) N c,x1,x2,x3,x4,x5,s6,s7,.int .i64 (k:Int),x9,x10,x11,x12,x13,x14,x15,x16,x17,x18,x19,x20,x21,s22,s23,s24,s25,s26,s27,s28,s29,s30,s31,s32,s33,s34,s35,x36,x37],defers:=[]}∧RTV n₀ w ad N c k l q cc  L W s6 s7 s22 s23 s24 s25 s26 s27 s28 s29 s30 s31 s32 s33 s34 s35
theorem Api(n₀:Nat)(A:Option Addr)(ls:List SLot)(c:Nat)(s:ByteArray)(w:World)(hlen:ls.length≤1000000)(hR:RdB n₀ w A ls)(hnw:n₀≤w.heap.size):
 Calls Tryz.prog 69 #[.slice A ls.length c,.string s] w fun e w'=>e=.returned (.tuple #[.string (I (sumBy qtyOf (ownL ls s))),.string (I (sumBy costOf (ownL ls s)))])∧Below n₀ w w':=by
 have HR:=hI hR
 have HN0:=hI hnw
 clear hR hnw
 obtain⟨K,hK⟩:∃K,K=1000:=⟨_,rfl⟩
 have HKK:=hI hK
 clear hK
 go_enter Tryz.func69,Tryz.ntmps69
 go_wp2_with fail
 go_loopw [6,7,8] (fun v6 v7 v8 wr=>∃(k:Nat) (q cc:ByteArray),v6=.string q∧v7=.string cc∧v8=.int .i64 (k:Int)∧k≤ls.length∧q=I (sumBy qtyOf (ownL (ls.take k) s))∧cc=I (sumBy costOf (ownL (ls.take k) s))∧Below n₀ w wr) (fun _ _ v _=>ls.length-(intOf v).toNat)
 case atStart=>exact⟨0,_,_,rfl,rfl,rfl,by omega,zero_eq,zero_eq,Below.refl _ _⟩
 case round =>
  obtain⟨k,q,cc,rfl,rfl,rfl,hk,hq,hcc,hb⟩:=hrel
  have HQ:=hI hq
  have HCC:=hI hcc
  have HB:=hI hb
  clear hq hcc hb
  rcases Aam k ls.length with hlt|hge
  ·obtain⟨x,hl⟩:∃x,ls[k]?=some x:=⟨_,Aae hlt⟩
   obtain⟨ad,rfl,had,hcell⟩:=HR.out (by intro e;rw[e] at hlt;cases hlt)
   have hcx:decide ((k:Int)<(ls.length:Int))=true:=by simp;omega
   have HKN:Hid ((k:Int)<(ls.length:Int)):=by show (k:Int)<_;omega
   have HC:Hid (∀W,Below n₀ w W→LotAt W (ad.add (k*7)) x.1):=fun W hW=>(hcell k x hl).below hW (by rw[Acv];exact had)
   obtain⟨c0,c1,c2,c3,c4,c5,c6⟩:=HC.out wr HB.out
   have HOS:=hI (Aj6 (s:=s) hl)
   have hse:=Aj8 x.1.inst s
   clear hcell hl
   by_cases he:x.1.inst=s
   ·rw[Aa3 he] at hse
    have hos:=HOS.out
    rw[if_pos he] at hos
    have HSQ:Hid (I (vl q+vl x.1.qty)=I (sumBy qtyOf (ownL (ls.take (k+1)) s))):=by rw[Hid,HQ.out,vl_I,hos,sumBy_snoc];rfl
    have HSC:Hid (I (vl cc+vl x.1.cost)=I (sumBy costOf (ownL (ls.take (k+1)) s))):=by rw[Hid,HCC.out,vl_I,hos,sumBy_snoc];rfl
    have hlen':=Nat.lt_of_le_of_lt (List.length_take_le k ls) (by omega:k<10^7)
    have zq:=sumBy_size (qty_lt HKK.out) (ownL (ls.take k) s) (Nat.lt_of_le_of_lt (List.length_filter_le _ _) hlen')
    have zc:=sumBy_size (cost_lt HKK.out) (ownL (ls.take k) s) (Nat.lt_of_le_of_lt (List.length_filter_le _ _) hlen')
    rw[←HQ.out] at zq
    rw[←HCC.out] at zc
    have hkk:=HKK.out
    have zxq:x.1.qty.size≤1000:=x.2.2.2.1
    have zxc:x.1.cost.size≤1000:=x.2.2.2.2.1
    have HA1:=hI (fun W=>Aiy q x.1.qty (by omega) (by omega) W)
    have HA2:=hI (fun W=>Aiy cc x.1.cost (by omega) (by omega) W)
    clear he hos hlen' zq zc zxq zxc hkk
    go_upto_region 6 with fail
    clear c0 c1 c2 c3 c4 c5 c6
    have mixed:Tryz.prog.follows .mixedOrders=true:=by kernel_rfl
    refine wp_region_any mixed (Akw (RTJ n₀ w ad _ c k x.1 q cc _ _ _ _ _ _ _ _ _ _ _ _ _ _ _ _ _ _ _ _) ?stRT ?dnRT _ _ _ _ ⟨by simp,⟨_,_,_,_,_,_,_,_,_,_,_,_,_,_,_,_,rfl,fun h=>by simp at h,fun h=>by simp at h,fun h=>by simp at h,fun h=>by simp at h,fun h=>by simp at h,fun h=>by simp at h,fun h=>by simp at h,fun h=>by simp at h,fun h=>by simp at h,fun h=>by simp at h,fun h=>by simp at h,fun h=>by simp at h,fun h=>by simp at h,fun h=>by simp at h,fun h=>by simp at h,fun h=>by simp at h,fun _=>rfl,fun _=>rfl,HB.out.trans ((Below.refl _ _).drew.mono (Aap HN0.out HB.out.size)),fun h=>by simp at h,fun h=>by simp at h,fun h=>by simp at h,fun h=>by simp at h⟩⟩ (by decide))
    case dnRT =>
     intro L a w' hj hr
     have all:=Akv hr hj.sz (by kernel_rfl)
     obtain⟨s6,s7,s22,s23,s24,s25,s26,s27,s28,s29,s30,s31,s32,s33,s34,s35,rfl,hv⟩:=hj.fr
     have e6:=hv.k14 (all 14 (by omega));have e7:=hv.k15 (all 15 (by omega))
     subst e6 e7
     have HF:=hI hv.be
     clear all hv hj hr
     dsimp only
     go_wp2_with fail
     go_roundw
     case rel=>exact⟨k+1,_,_,rfl,rfl,(by go_num),(by omega),HSQ.out,HSC.out,HF.out⟩
     case measure=>simp[intOf];omega
    case stRT =>
     intro L a w' hj i hi
     obtain⟨hun,o,ho,hall⟩:=mem_ready.1 hi
     have hoff:=Akk hun
     have hlt:=(Aab.1 ho).1
     simp at hlt
     obtain⟨s6,s7,s22,s23,s24,s25,s26,s27,s28,s29,s30,s31,s32,s33,s34,s35,rfl,hv⟩:=hj.fr
     have HV:=hI hv
     have HJ:=hI hj
     clear hv hj
     rcases (show i=0∨i=1∨i=2∨i=3∨i=4∨i=5∨i=6∨i=7∨i=8∨i=9∨i=10∨i=11∨i=12∨i=13∨i=14∨i=15 from by omega) with rfl|rfl|rfl|rfl|rfl|rfl|rfl|rfl|rfl|rfl|rfl|rfl|rfl|rfl|rfl|rfl
     ·simp at ho
      subst ho
      clear hall hi
      have h14:L.getD 14 false=false:=(Akr L 14).resolve_right (fun h=>Akq hoff (HV.out.q6 (HV.out.q14 h)))
      have e0:=HV.out.n14 h14
      subst e0
      refine Akt rfl fun K' HK=>?_
      go_simp
      cases HV.out
      refine HK.out _ _ ⟨by simp[HJ.out.sz],⟨_,_,_,_,_,_,_,_,_,_,_,_,_,_,_,_,rfl,fun _=>rfl,?_,?_,?_,?_,?_,?_,?_,?_,?_,?_,?_,?_,?_,fun h=>(Akq h14 (Akn h)).elim,?_,fun _=>rfl,fun h0=>HV.out.n15 (Akp h0),HV.out.be,fun h=>Akm hun (HV.out.q14 (Akn h)),fun h=>Akm hun (HV.out.q15 (Akn h)),fun h=>Akm hun (HV.out.q6 (Akn h)),fun h=>Akm hun (HV.out.q13 (Akn h))⟩⟩
      all_goals exact Um (by assumption)
     ·simp at ho
      subst ho
      clear hall hi
      refine Akt rfl fun K' HK=>?_
      go_simp
      cases HV.out
      refine HK.out _ _ ⟨by simp[HJ.out.sz],⟨_,_,_,_,_,_,_,_,_,_,_,_,_,_,_,_,rfl,?_,fun _=>rfl,?_,?_,?_,?_,?_,?_,?_,?_,?_,?_,?_,?_,?_,?_,fun h0=>HV.out.n14 (Akp h0),fun h0=>HV.out.n15 (Akp h0),HV.out.be,fun h=>Akm hun (HV.out.q14 (Akn h)),fun h=>Akm hun (HV.out.q15 (Akn h)),fun h=>Akm hun (HV.out.q6 (Akn h)),fun h=>Akm hun (HV.out.q13 (Akn h))⟩⟩
      all_goals exact Um (by assumption)
     ·simp at ho
      subst ho
      clear hall hi
      refine Akt rfl fun K' HK=>?_
      go_simp
      cases HV.out
      refine HK.out _ _ ⟨by simp[HJ.out.sz],⟨_,_,_,_,_,_,_,_,_,_,_,_,_,_,_,_,rfl,?_,?_,fun _=>rfl,?_,?_,?_,?_,?_,?_,?_,?_,?_,?_,?_,?_,?_,fun h0=>HV.out.n14 (Akp h0),fun h0=>HV.out.n15 (Akp h0),HV.out.be,fun h=>Akm hun (HV.out.q14 (Akn h)),fun h=>Akm hun (HV.out.q15 (Akn h)),fun h=>Akm hun (HV.out.q6 (Akn h)),fun h=>Akm hun (HV.out.q13 (Akn h))⟩⟩
      all_goals exact Um (by assumption)
     ·simp at ho
      subst ho
      have h1x:L.getD 1 false=true:=hall {on:=1,ground:=Ground.data} (by simp) (by decide)
      have h2x:L.getD 2 false=true:=hall {on:=2,ground:=Ground.data} (by simp) (by decide)
      have H1:=hI h1x
      have H2:=hI h2x
      clear hall hi h1x h2x
      have e0:=HV.out.k1 H1.out
      subst e0
      have e1:=HV.out.k2 H2.out
      subst e1
      have hb:=HKN.out
      refine Akt rfl fun K' HK=>?_
      go_simp
      cases HV.out
      refine HK.out _ _ ⟨by simp[HJ.out.sz],⟨_,_,_,_,_,_,_,_,_,_,_,_,_,_,_,_,rfl,?_,?_,?_,fun _=>rfl,?_,?_,?_,?_,?_,?_,?_,?_,?_,?_,?_,?_,fun h0=>HV.out.n14 (Akp h0),fun h0=>HV.out.n15 (Akp h0),HV.out.be,fun h=>Akm hun (HV.out.q14 (Akn h)),fun h=>Akm hun (HV.out.q15 (Akn h)),fun h=>Akm hun (HV.out.q6 (Akn h)),fun h=>Akm hun (HV.out.q13 (Akn h))⟩⟩
      all_goals exact Um (by assumption)
     ·simp at ho
      subst ho
      have h3x:L.getD 3 false=true:=hall {on:=3,ground:=Ground.data} (by simp) (by decide)
      have H3:=hI h3x
      clear hall hi h3x
      have e0:=HV.out.k3 H3.out
      subst e0
      refine Akt rfl fun K' HK=>?_
      go_simp
      cases HV.out
      refine HK.out _ _ ⟨by simp[HJ.out.sz],⟨_,_,_,_,_,_,_,_,_,_,_,_,_,_,_,_,rfl,?_,?_,?_,?_,fun _=>rfl,?_,?_,?_,?_,?_,?_,?_,?_,?_,?_,?_,fun h0=>HV.out.n14 (Akp h0),fun h0=>HV.out.n15 (Akp h0),HV.out.be,fun h=>Akm hun (HV.out.q14 (Akn h)),fun h=>Akm hun (HV.out.q15 (Akn h)),fun h=>Akm hun (HV.out.q6 (Akn h)),fun h=>Akm hun (HV.out.q13 (Akn h))⟩⟩
      all_goals exact Um (by assumption)
     ·simp at ho
      subst ho
      have h4x:L.getD 4 false=true:=hall {on:=4,ground:=Ground.data} (by simp) (by decide)
      have H4:=hI h4x
      clear hall hi h4x
      have e0:=HV.out.k4 H4.out
      subst e0
      obtain⟨p0,p1,p2,p3,p4,p5,p6⟩:=HC.out _ HV.out.be
      refine Akt rfl fun K' HK=>?_
      go_simp
      cases HV.out
      refine HK.out _ _ ⟨by simp[HJ.out.sz],⟨_,_,_,_,_,_,_,_,_,_,_,_,_,_,_,_,rfl,?_,?_,?_,?_,?_,fun _=>rfl,?_,?_,?_,?_,?_,?_,?_,?_,?_,?_,fun h0=>HV.out.n14 (Akp h0),fun h0=>HV.out.n15 (Akp h0),HV.out.be,fun h=>Akm hun (HV.out.q14 (Akn h)),fun h=>Akm hun (HV.out.q15 (Akn h)),fun h=>Akm hun (HV.out.q6 (Akn h)),fun h=>Akm hun (HV.out.q13 (Akn h))⟩⟩
      all_goals exact Um (by assumption)
     ·simp at ho
      subst ho
      have h0x:L.getD 0 false=true:=hall {on:=0,ground:=Ground.data} (by simp) (by decide)
      have h5x:L.getD 5 false=true:=hall {on:=5,ground:=Ground.data} (by simp) (by decide)
      have H0:=hI h0x
      have H5:=hI h5x
      clear hall hi h0x h5x
      have e0:=HV.out.k0 H0.out
      subst e0
      have e1:=HV.out.k5 H5.out
      subst e1
      refine Akt rfl fun K' HK=>?_
      go_simp
      refine (HA1.out _).mono ?_
      rintro e wn ⟨rfl,bn⟩
      cases HV.out
      refine HK.out _ _ ⟨by simp[HJ.out.sz],⟨_,_,_,_,_,_,_,_,_,_,_,_,_,_,_,_,rfl,?_,?_,?_,?_,?_,?_,fun _=>rfl,?_,?_,?_,?_,?_,?_,?_,?_,?_,fun h0=>HV.out.n14 (Akp h0),fun h0=>HV.out.n15 (Akp h0),HV.out.be.trans (bn.mono (Aap HN0.out HV.out.be.size)),fun h=>Akm hun (HV.out.q14 (Akn h)),fun h=>Akm hun (HV.out.q15 (Akn h)),fun _=>Akm hun H0.out,fun h=>Akm hun (HV.out.q13 (Akn h))⟩⟩
      all_goals exact Um (by assumption)
     ·simp at ho
      subst ho
      clear hall hi
      have h15:L.getD 15 false=false:=(Akr L 15).resolve_right (fun h=>Akq hoff (HV.out.q13 (HV.out.q15 h)))
      have e0:=HV.out.n15 h15
      subst e0
      refine Akt rfl fun K' HK=>?_
      go_simp
      cases HV.out
      refine HK.out _ _ ⟨by simp[HJ.out.sz],⟨_,_,_,_,_,_,_,_,_,_,_,_,_,_,_,_,rfl,?_,?_,?_,?_,?_,?_,?_,fun _=>rfl,?_,?_,?_,?_,?_,?_,?_,fun h=>(Akq h15 (Akn h)).elim,fun h0=>HV.out.n14 (Akp h0),fun _=>rfl,HV.out.be,fun h=>Akm hun (HV.out.q14 (Akn h)),fun h=>Akm hun (HV.out.q15 (Akn h)),fun h=>Akm hun (HV.out.q6 (Akn h)),fun h=>Akm hun (HV.out.q13 (Akn h))⟩⟩
      all_goals exact Um (by assumption)
     ·simp at ho
      subst ho
      clear hall hi
      refine Akt rfl fun K' HK=>?_
      go_simp
      cases HV.out
      refine HK.out _ _ ⟨by simp[HJ.out.sz],⟨_,_,_,_,_,_,_,_,_,_,_,_,_,_,_,_,rfl,?_,?_,?_,?_,?_,?_,?_,?_,fun _=>rfl,?_,?_,?_,?_,?_,?_,?_,fun h0=>HV.out.n14 (Akp h0),fun h0=>HV.out.n15 (Akp h0),HV.out.be,fun h=>Akm hun (HV.out.q14 (Akn h)),fun h=>Akm hun (HV.out.q15 (Akn h)),fun h=>Akm hun (HV.out.q6 (Akn h)),fun h=>Akm hun (HV.out.q13 (Akn h))⟩⟩
      all_goals exact Um (by assumption)
     ·simp at ho
      subst ho
      clear hall hi
      refine Akt rfl fun K' HK=>?_
      go_simp
      cases HV.out
      refine HK.out _ _ ⟨by simp[HJ.out.sz],⟨_,_,_,_,_,_,_,_,_,_,_,_,_,_,_,_,rfl,?_,?_,?_,?_,?_,?_,?_,?_,?_,fun _=>rfl,?_,?_,?_,?_,?_,?_,fun h0=>HV.out.n14 (Akp h0),fun h0=>HV.out.n15 (Akp h0),HV.out.be,fun h=>Akm hun (HV.out.q14 (Akn h)),fun h=>Akm hun (HV.out.q15 (Akn h)),fun h=>Akm hun (HV.out.q6 (Akn h)),fun h=>Akm hun (HV.out.q13 (Akn h))⟩⟩
      all_goals exact Um (by assumption)
     ·simp at ho
      subst ho
      have h8x:L.getD 8 false=true:=hall {on:=8,ground:=Ground.data} (by simp) (by decide)
      have h9x:L.getD 9 false=true:=hall {on:=9,ground:=Ground.data} (by simp) (by decide)
      have H8:=hI h8x
      have H9:=hI h9x
      clear hall hi h8x h9x
      have e0:=HV.out.k8 H8.out
      subst e0
      have e1:=HV.out.k9 H9.out
      subst e1
      have hb:=HKN.out
      refine Akt rfl fun K' HK=>?_
      go_simp
      cases HV.out
      refine HK.out _ _ ⟨by simp[HJ.out.sz],⟨_,_,_,_,_,_,_,_,_,_,_,_,_,_,_,_,rfl,?_,?_,?_,?_,?_,?_,?_,?_,?_,?_,fun _=>rfl,?_,?_,?_,?_,?_,fun h0=>HV.out.n14 (Akp h0),fun h0=>HV.out.n15 (Akp h0),HV.out.be,fun h=>Akm hun (HV.out.q14 (Akn h)),fun h=>Akm hun (HV.out.q15 (Akn h)),fun h=>Akm hun (HV.out.q6 (Akn h)),fun h=>Akm hun (HV.out.q13 (Akn h))⟩⟩
      all_goals exact Um (by assumption)
     ·simp at ho
      subst ho
      have h10x:L.getD 10 false=true:=hall {on:=10,ground:=Ground.data} (by simp) (by decide)
      have H10:=hI h10x
      clear hall hi h10x
      have e0:=HV.out.k10 H10.out
      subst e0
      refine Akt rfl fun K' HK=>?_
      go_simp
      cases HV.out
      refine HK.out _ _ ⟨by simp[HJ.out.sz],⟨_,_,_,_,_,_,_,_,_,_,_,_,_,_,_,_,rfl,?_,?_,?_,?_,?_,?_,?_,?_,?_,?_,?_,fun _=>rfl,?_,?_,?_,?_,fun h0=>HV.out.n14 (Akp h0),fun h0=>HV.out.n15 (Akp h0),HV.out.be,fun h=>Akm hun (HV.out.q14 (Akn h)),fun h=>Akm hun (HV.out.q15 (Akn h)),fun h=>Akm hun (HV.out.q6 (Akn h)),fun h=>Akm hun (HV.out.q13 (Akn h))⟩⟩
      all_goals exact Um (by assumption)
     ·simp at ho
      subst ho
      have h11x:L.getD 11 false=true:=hall {on:=11,ground:=Ground.data} (by simp) (by decide)
      have H11:=hI h11x
      clear hall hi h11x
      have e0:=HV.out.k11 H11.out
      subst e0
      obtain⟨p0,p1,p2,p3,p4,p5,p6⟩:=HC.out _ HV.out.be
      refine Akt rfl fun K' HK=>?_
      go_simp
      cases HV.out
      refine HK.out _ _ ⟨by simp[HJ.out.sz],⟨_,_,_,_,_,_,_,_,_,_,_,_,_,_,_,_,rfl,?_,?_,?_,?_,?_,?_,?_,?_,?_,?_,?_,?_,fun _=>rfl,?_,?_,?_,fun h0=>HV.out.n14 (Akp h0),fun h0=>HV.out.n15 (Akp h0),HV.out.be,fun h=>Akm hun (HV.out.q14 (Akn h)),fun h=>Akm hun (HV.out.q15 (Akn h)),fun h=>Akm hun (HV.out.q6 (Akn h)),fun h=>Akm hun (HV.out.q13 (Akn h))⟩⟩
      all_goals exact Um (by assumption)
     ·simp at ho
      subst ho
      have h7x:L.getD 7 false=true:=hall {on:=7,ground:=Ground.data} (by simp) (by decide)
      have h12x:L.getD 12 false=true:=hall {on:=12,ground:=Ground.data} (by simp) (by decide)
      have H7:=hI h7x
      have H12:=hI h12x
      clear hall hi h7x h12x
      have e0:=HV.out.k7 H7.out
      subst e0
      have e1:=HV.out.k12 H12.out
      subst e1
      refine Akt rfl fun K' HK=>?_
      go_simp
      refine (HA2.out _).mono ?_
      rintro e wn ⟨rfl,bn⟩
      cases HV.out
      refine HK.out _ _ ⟨by simp[HJ.out.sz],⟨_,_,_,_,_,_,_,_,_,_,_,_,_,_,_,_,rfl,?_,?_,?_,?_,?_,?_,?_,?_,?_,?_,?_,?_,?_,fun _=>rfl,?_,?_,fun h0=>HV.out.n14 (Akp h0),fun h0=>HV.out.n15 (Akp h0),HV.out.be.trans (bn.mono (Aap HN0.out HV.out.be.size)),fun h=>Akm hun (HV.out.q14 (Akn h)),fun h=>Akm hun (HV.out.q15 (Akn h)),fun h=>Akm hun (HV.out.q6 (Akn h)),fun _=>Akm hun H7.out⟩⟩
      all_goals exact Um (by assumption)
     ·simp at ho
      subst ho
      have h6x:L.getD 6 false=true:=hall {on:=6,ground:=Ground.data} (by simp) (by decide)
      have H6:=hI h6x
      clear hall hi h6x
      have e0:=HV.out.k6 H6.out
      subst e0
      refine Akt rfl fun K' HK=>?_
      go_simp
      cases HV.out
      refine HK.out _ _ ⟨by simp[HJ.out.sz],⟨_,_,_,_,_,_,_,_,_,_,_,_,_,_,_,_,rfl,?_,?_,?_,?_,?_,?_,?_,?_,?_,?_,?_,?_,?_,?_,fun _=>rfl,?_,fun h=>(Akq h (Aki hun)).elim,fun h0=>HV.out.n15 (Akp h0),HV.out.be,fun _=>Akm hun H6.out,fun h=>Akm hun (HV.out.q15 (Akn h)),fun h=>Akm hun (HV.out.q6 (Akn h)),fun h=>Akm hun (HV.out.q13 (Akn h))⟩⟩
      all_goals exact Um (by assumption)
     ·simp at ho
      subst ho
      have h13x:L.getD 13 false=true:=hall {on:=13,ground:=Ground.data} (by simp) (by decide)
      have H13:=hI h13x
      clear hall hi h13x
      have e0:=HV.out.k13 H13.out
      subst e0
      refine Akt rfl fun K' HK=>?_
      go_simp
      cases HV.out
      refine HK.out _ _ ⟨by simp[HJ.out.sz],⟨_,_,_,_,_,_,_,_,_,_,_,_,_,_,_,_,rfl,?_,?_,?_,?_,?_,?_,?_,?_,?_,?_,?_,?_,?_,?_,?_,fun _=>rfl,fun h0=>HV.out.n14 (Akp h0),fun h=>(Akq h (Aki hun)).elim,HV.out.be,fun h=>Akm hun (HV.out.q14 (Akn h)),fun _=>Akm hun H13.out,fun h=>Akm hun (HV.out.q6 (Akn h)),fun h=>Akm hun (HV.out.q13 (Akn h))⟩⟩
      all_goals exact Um (by assumption)
   ·rw[Aa4 he] at hse
    have hos:=HOS.out
    rw[if_neg he,List.append_nil] at hos
    have HO:=hI hos
    clear hos he
    go_wp2_with fail
    go_roundw
    case rel=>exact⟨k+1,q,cc,rfl,rfl,by go_num,by omega,by rw[HO.out];exact HQ.out,by rw[HO.out];exact HCC.out,HB.out⟩
    case measure=>simp[intOf];omega
  ·have hcx:decide ((k:Int)<(ls.length:Int))=false:=by simp;omega
   have hq:=HQ.out
   have hcc:=HCC.out
   rw[Aai hge] at hq hcc
   have HF:=hI (And.intro hq hcc)
   clear hq hcc
   go_wp2_with fail
   go_ret2
   exact⟨by rw[HF.out.1,HF.out.2];rfl,HB.out⟩
theorem Apj(n₀:Nat)(A:Option Addr)(ls:List SLot)(c:Nat)(s:ByteArray)(w:World)(hlen:ls.length≤1000000)(hR:RdB n₀ w A ls)(hnw:n₀≤w.heap.size):
 Calls Tryz.prog 71 #[.slice A ls.length c,.string s] w (Akf w (ownL ls s)):=by
 have HR:=hI hR
 have HN0:=hI hnw
 clear hR hnw
 go_enter Tryz.func71,Tryz.ntmps71
 have hb0:Below w.heap.size w (w.alloc (.cells #[] 38)):=(Below.refl _ w).alloc (Aad _) _
 have ho0:(w.alloc (.cells #[] 38)).ownsRow w.heap.size 38 7 (.slice (some ⟨w.heap.size,0,none⟩) 0 0) 0 []:=World.ownsRow_made w #[] 0 (Aad _) (by unfold maxLen;omega) rfl
 have H0:=hI (And.intro hb0 ho0)
 clear hb0 ho0
 go_wp2_with fail
 go_loopw [5,6] (fun v5 v wr=>∃k:Nat,v=.int .i64 (k:Int)∧k≤ls.length∧(∃A' n' c',v5=.slice A' n' c')∧wr.ownsRow w.heap.size 38 7 v5 (ownL (ls.take k) s).length (flatL (ownL (ls.take k) s))∧Below w.heap.size w wr) (fun _ v _=>ls.length-(intOf v).toNat)
 case atStart=>exact⟨0,rfl,by omega,⟨_,_,_,rfl⟩,H0.out.2,H0.out.1⟩
 case round =>
  obtain⟨k,rfl,hk,⟨A',n',c',rfl⟩,hrow,hb⟩:=hrel
  have HROW:=hI hrow
  have HB:=hI hb
  clear hrow hb
  rcases Aam k ls.length with hlt|hge
  ·obtain⟨x,hl⟩:∃x,ls[k]?=some x:=⟨_,Aae hlt⟩
   obtain⟨ad,rfl,had,hcell⟩:=HR.out (by intro e;rw[e] at hlt;cases hlt)
   have hcx:decide ((k:Int)<(ls.length:Int))=true:=by simp;omega
   obtain⟨c0,c1,c2,c3,c4,c5,c6⟩:=(hcell k x hl).below (HB.out.mono HN0.out) (by rw[Acv];exact had)
   have HOS:=hI (Aj6 (s:=s) hl)
   have hse:=Aj8 x.1.inst s
   clear hcell hl
   by_cases he:x.1.inst=s
   ·rw[Aa3 he] at hse
    have hos:=HOS.out
    rw[if_pos he] at hos
    have HO:=hI hos
    have hkl:=Aj7 ls s k
    have hbs:=HB.out.size
    obtain⟨m,hm⟩:∃m,(ownL (ls.take k) s).length=m:=⟨_,rfl⟩
    have hrow:=HROW.out
    rw[hm] at hrow hkl
    have HRW:=hI hrow
    have HM:=hI hm
    have HSS:Hid (∀j u,x.1.cells.toList[j]?=some u→(wr.alloc (.cells x.1.cells 38)).cell? ((⟨wr.heap.size,0,none⟩:Addr).add j)=some u):=Akc wr x.1.cells 38
    obtain⟨i0,hi0,hz0,hz1,hz2⟩:=info_parts Tryz.infoLot
    clear he hos hrow hm
    unfold Lot.cells at HSS
    go_wp2_with (at_builtin;refine wpList_append_own _ rfl _ _ 22 rfl w.heap.size 38 i0 (.agg #[.string ⟨#[]⟩,.string ⟨#[]⟩,.int .i64 0,.int .i64 0,.string ⟨#[]⟩,.string ⟨#[]⟩,.string ⟨#[]⟩]) 7 96 Tryz.underlying22 hi0 hz0 hz1 hz2 rfl (by decide) _ _ _ rfl (HRW.out.alloc _) ⟨wr.heap.size,0,none⟩ 1 1 [.string x.1.id,.string x.1.inst,.int .i64 x.1.acq,.int .i64 x.1.opn,.string x.1.qty,.string x.1.cost,.string x.1.used] rfl rfl HSS.out (by simp[Value.oneCell']) (by unfold maxLen;omega) (by omega) (by simp;omega) ?_;intro v4 w4 hown4 hgrow4 _;obtain⟨g4,c4,rfl⟩:=ownsRow_succ hown4;have HO4:=hI hown4;have HG4:=hI hgrow4;clear hown4 hgrow4)
    go_roundw
    case rel =>
     have hlo:=HRW.out.lt
     refine⟨k+1,by go_num,by omega,⟨_,_,_,rfl⟩,?_,(HB.out.alloc HB.out.size _).grown HG4.out (by simp;omega) (fun k hk=>by have:=hlo k hk;omega)⟩
     rw[HO.out,Aan,HM.out,Akb]
     exact HO4.out
    case measure=>simp[intOf];omega
   ·rw[Aa4 he] at hse
    have hos:=HOS.out
    rw[if_neg he,List.append_nil] at hos
    have HO:=hI hos
    clear hos he
    go_wp2_with fail
    go_roundw
    case rel=>exact⟨k+1,by go_num,by omega,⟨_,_,_,rfl⟩,by rw[HO.out];exact HROW.out,HB.out⟩
    case measure=>simp[intOf];omega
  ·have hcx:decide ((k:Int)<(ls.length:Int))=false:=by simp;omega
   have hrow:=HROW.out
   rw[Aai hge] at hrow
   obtain⟨A2,c2,e2,q1,q2,q3⟩:=RdB.of_own hrow
   have HF:Hid (Akf w (ownL ls s) (.returned (.slice A' n' c')) wr):=by rw[e2];exact⟨A2,c2,rfl,q1,q2,q3,HB.out⟩
   clear hrow e2 q1 q2 q3
   go_wp2_with fail
   go_ret
   exact HF.out
end Go.Proofs.YtcmgmemffncbhabGreatDoor
