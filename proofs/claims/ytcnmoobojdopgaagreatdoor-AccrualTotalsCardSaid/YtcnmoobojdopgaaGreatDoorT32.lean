/-
  The walks of trancheref19.Of and Total. (Printed by gen_ref42.py.)
-/
import Derived.Test.YtcnmoobojdopgaaGreatDoorT31
import Derived.Laws.StructEq
import Derived.BigQuiet
set_option linter.unusedVariables false
set_option linter.unusedSimpArgs false
set_option maxHeartbeats 16000000
set_option maxRecDepth 100000
namespace Go.Proofs.YtcnmoobojdopgaaGreatDoor
open Go.RowKit Tr Go.Shelf
structure RTV(n₀:Nat)(w:World)(ad:Addr)(N c k:Nat)(l:Lot)(q cc:ByteArray)  (L:Array Bool) (W:World) (s6 s7 s22 s23 s24 s25 s26 s27 s28 s29 s30 s31 s32 s33 s34 s35:Value):Prop where
 k0:L.getD 0 false=true→s22=.string q
 k1:L.getD 1 false=true→s23=.slice (some ad) N c
 k2:L.getD 2 false=true→s24=.int .i64 (k:Int)
 k3:L.getD 3 false=true→s25=.pointer (some (ad.add (k*7)))
 k4:L.getD 4 false=true→s26=.pointer (some ⟨(ad.add (k*7)).block,(ad.add (k*7)).off+4,none⟩)
 k5:L.getD 5 false=true→s27=.string l.qty
 k6:L.getD 6 false=true→s28=.string (I (vl q+vl l.qty))
 k7:L.getD 7 false=true→s29=.string cc
 k8:L.getD 8 false=true→s30=.slice (some ad) N c
 k9:L.getD 9 false=true→s31=.int .i64 (k:Int)
 k10:L.getD 10 false=true→s32=.pointer (some (ad.add (k*7)))
 k11:L.getD 11 false=true→s33=.pointer (some ⟨(ad.add (k*7)).block,(ad.add (k*7)).off+5,none⟩)
 k12:L.getD 12 false=true→s34=.string l.cost
 k13:L.getD 13 false=true→s35=.string (I (vl cc+vl l.cost))
 k14:L.getD 14 false=true→s6=.string (I (vl q+vl l.qty))
 k15:L.getD 15 false=true→s7=.string (I (vl cc+vl l.cost))
 n14:L.getD 14 false=false→s6=.string q
 n15:L.getD 15 false=false→s7=.string cc
 be:Below n₀ w W
 q14:L.getD 14 false=true→L.getD 6 false=true
 q15:L.getD 15 false=true→L.getD 13 false=true
 q6:L.getD 6 false=true→L.getD 0 false=true
 q13:L.getD 13 false=true→L.getD 7 false=true
structure RTJ(n₀:Nat)(w:World)(ad:Addr)(N c k:Nat)(l:Lot)(q cc:ByteArray)(x1 x2 x3 x4 x5 x9 x10 x11 x12 x13 x14 x15 x16 x17 x18 x19 x20 x21 x36 x37:Value)(L:Array Bool)(a:Act)(W:World):Prop where
 sz:L.size=16
 fr:∃s6 s7 s22 s23 s24 s25 s26 s27 s28 s29 s30 s31 s32 s33 s34 s35:Value,a={tmps:=#[.slice (some ad) N c,x1,x2,x3,x4,x5,s6,s7,.int .i64 (k:Int),x9,x10,x11,x12,x13,x14,x15,x16,x17,x18,x19,x20,x21,s22,s23,s24,s25,s26,s27,s28,s29,s30,s31,s32,s33,s34,s35,x36,x37],defers:=[]}∧RTV n₀ w ad N c k l q cc  L W s6 s7 s22 s23 s24 s25 s26 s27 s28 s29 s30 s31 s32 s33 s34 s35
theorem Av2(n₀:Nat)(A:Option Addr)(ls:List SLot)(c:Nat)(s:ByteArray)(w:World)(hlen:ls.length≤1000000)(hR:RdB n₀ w A ls)(hnw:n₀≤w.heap.size):
 Calls Tryz.prog 66 #[.slice A ls.length c,.string s] w fun e w'=>e=.returned (.tuple #[.string (I (sumBy qtyOf (ownL ls s))),.string (I (sumBy costOf (ownL ls s)))])∧Below n₀ w w':=by
 have HR:=hI hR
 have HN0:=hI hnw
 clear hR hnw
 obtain⟨K,hK⟩:∃K,K=1000:=⟨_,rfl⟩
 have HKK:=hI hK
 clear hK
 go_enter Tryz.func66,Tryz.ntmps66
 go_wp2_with fail
 go_loopw [6,7,8] (fun v6 v7 v8 wr=>∃(k:Nat) (q cc:ByteArray),v6=.string q∧v7=.string cc∧v8=.int .i64 (k:Int)∧k≤ls.length∧q=I (sumBy qtyOf (ownL (ls.take k) s))∧cc=I (sumBy costOf (ownL (ls.take k) s))∧Below n₀ w wr) (fun _ _ v _=>ls.length-(intOf v).toNat)
 case atStart=>exact⟨0,_,_,rfl,rfl,rfl,by omega,zero_eq,zero_eq,Below.refl _ _⟩
 case round =>
  obtain⟨k,q,cc,rfl,rfl,rfl,hk,hq,hcc,hb⟩:=hrel
  have HQ:=hI hq
  have HCC:=hI hcc
  have HB:=hI hb
  clear hq hcc hb
  rcases Aam k ls.length with hlt|hge
  ·obtain⟨x,hl⟩:∃x,ls[k]?=some x:=⟨_,Aae hlt⟩
   obtain⟨ad,rfl,had,hcell⟩:=HR.out (by intro e;rw[e] at hlt;cases hlt)
   have hcx:decide ((k:Int)<(ls.length:Int))=true:=by simp;omega
   have HKN:Hid ((k:Int)<(ls.length:Int)):=by show (k:Int)<_;omega
   have HC:Hid (∀W,Below n₀ w W→LotAt W (ad.add (k*7)) x.1):=fun W hW=>(hcell k x hl).below hW (by rw[Acj];exact had)
   obtain⟨c0,c1,c2,c3,c4,c5,c6⟩:=HC.out wr HB.out
   have HOS:=hI (Apf (s:=s) hl)
   have hse:=Aph x.1.inst s
   clear hcell hl
   by_cases he:x.1.inst=s
   ·rw[Aax he] at hse
    have hos:=HOS.out
    rw[if_pos he] at hos
    have HSQ:Hid (I (vl q+vl x.1.qty)=I (sumBy qtyOf (ownL (ls.take (k+1)) s))):=by rw[Hid,HQ.out,vl_I,hos,sumBy_snoc];rfl
    have HSC:Hid (I (vl cc+vl x.1.cost)=I (sumBy costOf (ownL (ls.take (k+1)) s))):=by rw[Hid,HCC.out,vl_I,hos,sumBy_snoc];rfl
    have hlen':=Nat.lt_of_le_of_lt (List.length_take_le k ls) (by omega:k<10^7)
    have zq:=sumBy_size (qty_lt HKK.out) (ownL (ls.take k) s) (Nat.lt_of_le_of_lt (List.length_filter_le _ _) hlen')
    have zc:=sumBy_size (cost_lt HKK.out) (ownL (ls.take k) s) (Nat.lt_of_le_of_lt (List.length_filter_le _ _) hlen')
    rw[←HQ.out] at zq
    rw[←HCC.out] at zc
    have hkk:=HKK.out
    have zxq:x.1.qty.size≤1000:=x.2.2.2.1
    have zxc:x.1.cost.size≤1000:=x.2.2.2.2.1
    have HA1:=hI (fun W=>Ahs q x.1.qty (by omega) (by omega) W)
    have HA2:=hI (fun W=>Ahs cc x.1.cost (by omega) (by omega) W)
    clear he hos hlen' zq zc zxq zxc hkk
    go_upto_region 6 with fail
    clear c0 c1 c2 c3 c4 c5 c6
    have mixed:Tryz.prog.follows .mixedOrders=true:=by kernel_rfl
    refine wp_region_any mixed (Arn (RTJ n₀ w ad _ c k x.1 q cc _ _ _ _ _ _ _ _ _ _ _ _ _ _ _ _ _ _ _ _) ?stRT ?dnRT _ _ _ _ ⟨by simp,⟨_,_,_,_,_,_,_,_,_,_,_,_,_,_,_,_,rfl,fun h=>by simp at h,fun h=>by simp at h,fun h=>by simp at h,fun h=>by simp at h,fun h=>by simp at h,fun h=>by simp at h,fun h=>by simp at h,fun h=>by simp at h,fun h=>by simp at h,fun h=>by simp at h,fun h=>by simp at h,fun h=>by simp at h,fun h=>by simp at h,fun h=>by simp at h,fun h=>by simp at h,fun h=>by simp at h,fun _=>rfl,fun _=>rfl,HB.out.trans ((Below.refl _ _).drew.mono (Aap HN0.out HB.out.size)),fun h=>by simp at h,fun h=>by simp at h,fun h=>by simp at h,fun h=>by simp at h⟩⟩ (by decide))
    case dnRT =>
     intro L a w' hj hr
     have all:=Aqb hr hj.sz (by kernel_rfl)
     obtain⟨s6,s7,s22,s23,s24,s25,s26,s27,s28,s29,s30,s31,s32,s33,s34,s35,rfl,hv⟩:=hj.fr
     have e6:=hv.k14 (all 14 (by omega));have e7:=hv.k15 (all 15 (by omega))
     subst e6 e7
     have HF:=hI hv.be
     clear all hv hj hr
     dsimp only
     go_wp2_with fail
     go_roundw
     case rel=>exact⟨k+1,_,_,rfl,rfl,(by go_num),(by omega),HSQ.out,HSC.out,HF.out⟩
     case measure=>simp[intOf];omega
    case stRT =>
     intro L a w' hj i hi
     obtain⟨hun,o,ho,hall⟩:=mem_ready.1 hi
     have hoff:=Ap2 hun
     have hlt:=(Aab.1 ho).1
     simp at hlt
     obtain⟨s6,s7,s22,s23,s24,s25,s26,s27,s28,s29,s30,s31,s32,s33,s34,s35,rfl,hv⟩:=hj.fr
     have HV:=hI hv
     have HJ:=hI hj
     clear hv hj
     rcases (show i=0∨i=1∨i=2∨i=3∨i=4∨i=5∨i=6∨i=7∨i=8∨i=9∨i=10∨i=11∨i=12∨i=13∨i=14∨i=15 from by omega) with rfl|rfl|rfl|rfl|rfl|rfl|rfl|rfl|rfl|rfl|rfl|rfl|rfl|rfl|rfl|rfl
     ·simp at ho
      subst ho
      clear hall hi
      have h14:L.getD 14 false=false:=(Ap7 L 14).resolve_right (fun h=>Ap6 hoff (HV.out.q6 (HV.out.q14 h)))
      have e0:=HV.out.n14 h14
      subst e0
      refine Ap9 rfl fun K' HK=>?_
      go_simp
      cases HV.out
      refine HK.out _ _ ⟨by simp[HJ.out.sz],⟨_,_,_,_,_,_,_,_,_,_,_,_,_,_,_,_,rfl,fun _=>rfl,?_,?_,?_,?_,?_,?_,?_,?_,?_,?_,?_,?_,?_,fun h=>(Ap6 h14 (Ap4 h)).elim,?_,fun _=>rfl,fun h0=>HV.out.n15 (Ap5 h0),HV.out.be,fun h=>Ap3 hun (HV.out.q14 (Ap4 h)),fun h=>Ap3 hun (HV.out.q15 (Ap4 h)),fun h=>Ap3 hun (HV.out.q6 (Ap4 h)),fun h=>Ap3 hun (HV.out.q13 (Ap4 h))⟩⟩
      all_goals exact Um (by assumption)
     ·simp at ho
      subst ho
      clear hall hi
      refine Ap9 rfl fun K' HK=>?_
      go_simp
      cases HV.out
      refine HK.out _ _ ⟨by simp[HJ.out.sz],⟨_,_,_,_,_,_,_,_,_,_,_,_,_,_,_,_,rfl,?_,fun _=>rfl,?_,?_,?_,?_,?_,?_,?_,?_,?_,?_,?_,?_,?_,?_,fun h0=>HV.out.n14 (Ap5 h0),fun h0=>HV.out.n15 (Ap5 h0),HV.out.be,fun h=>Ap3 hun (HV.out.q14 (Ap4 h)),fun h=>Ap3 hun (HV.out.q15 (Ap4 h)),fun h=>Ap3 hun (HV.out.q6 (Ap4 h)),fun h=>Ap3 hun (HV.out.q13 (Ap4 h))⟩⟩
      all_goals exact Um (by assumption)
     ·simp at ho
      subst ho
      clear hall hi
      refine Ap9 rfl fun K' HK=>?_
      go_simp
      cases HV.out
      refine HK.out _ _ ⟨by simp[HJ.out.sz],⟨_,_,_,_,_,_,_,_,_,_,_,_,_,_,_,_,rfl,?_,?_,fun _=>rfl,?_,?_,?_,?_,?_,?_,?_,?_,?_,?_,?_,?_,?_,fun h0=>HV.out.n14 (Ap5 h0),fun h0=>HV.out.n15 (Ap5 h0),HV.out.be,fun h=>Ap3 hun (HV.out.q14 (Ap4 h)),fun h=>Ap3 hun (HV.out.q15 (Ap4 h)),fun h=>Ap3 hun (HV.out.q6 (Ap4 h)),fun h=>Ap3 hun (HV.out.q13 (Ap4 h))⟩⟩
      all_goals exact Um (by assumption)
     ·simp at ho
      subst ho
      have h1x:L.getD 1 false=true:=hall {on:=1,ground:=Ground.data} (by simp) (by decide)
      have h2x:L.getD 2 false=true:=hall {on:=2,ground:=Ground.data} (by simp) (by decide)
      have H1:=hI h1x
      have H2:=hI h2x
      clear hall hi h1x h2x
      have e0:=HV.out.k1 H1.out
      subst e0
      have e1:=HV.out.k2 H2.out
      subst e1
      have hb:=HKN.out
      refine Ap9 rfl fun K' HK=>?_
      go_simp
      cases HV.out
      refine HK.out _ _ ⟨by simp[HJ.out.sz],⟨_,_,_,_,_,_,_,_,_,_,_,_,_,_,_,_,rfl,?_,?_,?_,fun _=>rfl,?_,?_,?_,?_,?_,?_,?_,?_,?_,?_,?_,?_,fun h0=>HV.out.n14 (Ap5 h0),fun h0=>HV.out.n15 (Ap5 h0),HV.out.be,fun h=>Ap3 hun (HV.out.q14 (Ap4 h)),fun h=>Ap3 hun (HV.out.q15 (Ap4 h)),fun h=>Ap3 hun (HV.out.q6 (Ap4 h)),fun h=>Ap3 hun (HV.out.q13 (Ap4 h))⟩⟩
      all_goals exact Um (by assumption)
     ·simp at ho
      subst ho
      have h3x:L.getD 3 false=true:=hall {on:=3,ground:=Ground.data} (by simp) (by decide)
      have H3:=hI h3x
      clear hall hi h3x
      have e0:=HV.out.k3 H3.out
      subst e0
      refine Ap9 rfl fun K' HK=>?_
      go_simp
      cases HV.out
      refine HK.out _ _ ⟨by simp[HJ.out.sz],⟨_,_,_,_,_,_,_,_,_,_,_,_,_,_,_,_,rfl,?_,?_,?_,?_,fun _=>rfl,?_,?_,?_,?_,?_,?_,?_,?_,?_,?_,?_,fun h0=>HV.out.n14 (Ap5 h0),fun h0=>HV.out.n15 (Ap5 h0),HV.out.be,fun h=>Ap3 hun (HV.out.q14 (Ap4 h)),fun h=>Ap3 hun (HV.out.q15 (Ap4 h)),fun h=>Ap3 hun (HV.out.q6 (Ap4 h)),fun h=>Ap3 hun (HV.out.q13 (Ap4 h))⟩⟩
      all_goals exact Um (by assumption)
     ·simp at ho
      subst ho
      have h4x:L.getD 4 false=true:=hall {on:=4,ground:=Ground.data} (by simp) (by decide)
      have H4:=hI h4x
      clear hall hi h4x
      have e0:=HV.out.k4 H4.out
      subst e0
      obtain⟨p0,p1,p2,p3,p4,p5,p6⟩:=HC.out _ HV.out.be
      refine Ap9 rfl fun K' HK=>?_
      go_simp
      cases HV.out
      refine HK.out _ _ ⟨by simp[HJ.out.sz],⟨_,_,_,_,_,_,_,_,_,_,_,_,_,_,_,_,rfl,?_,?_,?_,?_,?_,fun _=>rfl,?_,?_,?_,?_,?_,?_,?_,?_,?_,?_,fun h0=>HV.out.n14 (Ap5 h0),fun h0=>HV.out.n15 (Ap5 h0),HV.out.be,fun h=>Ap3 hun (HV.out.q14 (Ap4 h)),fun h=>Ap3 hun (HV.out.q15 (Ap4 h)),fun h=>Ap3 hun (HV.out.q6 (Ap4 h)),fun h=>Ap3 hun (HV.out.q13 (Ap4 h))⟩⟩
      all_goals exact Um (by assumption)
     ·simp at ho
      subst ho
      have h0x:L.getD 0 false=true:=hall {on:=0,ground:=Ground.data} (by simp) (by decide)
      have h5x:L.getD 5 false=true:=hall {on:=5,ground:=Ground.data} (by simp) (by decide)
      have H0:=hI h0x
      have H5:=hI h5x
      clear hall hi h0x h5x
      have e0:=HV.out.k0 H0.out
      subst e0
      have e1:=HV.out.k5 H5.out
      subst e1
      refine Ap9 rfl fun K' HK=>?_
      go_simp
      refine (HA1.out _).mono ?_
      rintro e wn ⟨rfl,bn⟩
      cases HV.out
      refine HK.out _ _ ⟨by simp[HJ.out.sz],⟨_,_,_,_,_,_,_,_,_,_,_,_,_,_,_,_,rfl,?_,?_,?_,?_,?_,?_,fun _=>rfl,?_,?_,?_,?_,?_,?_,?_,?_,?_,fun h0=>HV.out.n14 (Ap5 h0),fun h0=>HV.out.n15 (Ap5 h0),HV.out.be.trans (bn.mono (Aap HN0.out HV.out.be.size)),fun h=>Ap3 hun (HV.out.q14 (Ap4 h)),fun h=>Ap3 hun (HV.out.q15 (Ap4 h)),fun _=>Ap3 hun H0.out,fun h=>Ap3 hun (HV.out.q13 (Ap4 h))⟩⟩
      all_goals exact Um (by assumption)
     ·simp at ho
      subst ho
      clear hall hi
      have h15:L.getD 15 false=false:=(Ap7 L 15).resolve_right (fun h=>Ap6 hoff (HV.out.q13 (HV.out.q15 h)))
      have e0:=HV.out.n15 h15
      subst e0
      refine Ap9 rfl fun K' HK=>?_
      go_simp
      cases HV.out
      refine HK.out _ _ ⟨by simp[HJ.out.sz],⟨_,_,_,_,_,_,_,_,_,_,_,_,_,_,_,_,rfl,?_,?_,?_,?_,?_,?_,?_,fun _=>rfl,?_,?_,?_,?_,?_,?_,?_,fun h=>(Ap6 h15 (Ap4 h)).elim,fun h0=>HV.out.n14 (Ap5 h0),fun _=>rfl,HV.out.be,fun h=>Ap3 hun (HV.out.q14 (Ap4 h)),fun h=>Ap3 hun (HV.out.q15 (Ap4 h)),fun h=>Ap3 hun (HV.out.q6 (Ap4 h)),fun h=>Ap3 hun (HV.out.q13 (Ap4 h))⟩⟩
      all_goals exact Um (by assumption)
     ·simp at ho
      subst ho
      clear hall hi
      refine Ap9 rfl fun K' HK=>?_
      go_simp
      cases HV.out
      refine HK.out _ _ ⟨by simp[HJ.out.sz],⟨_,_,_,_,_,_,_,_,_,_,_,_,_,_,_,_,rfl,?_,?_,?_,?_,?_,?_,?_,?_,fun _=>rfl,?_,?_,?_,?_,?_,?_,?_,fun h0=>HV.out.n14 (Ap5 h0),fun h0=>HV.out.n15 (Ap5 h0),HV.out.be,fun h=>Ap3 hun (HV.out.q14 (Ap4 h)),fun h=>Ap3 hun (HV.out.q15 (Ap4 h)),fun h=>Ap3 hun (HV.out.q6 (Ap4 h)),fun h=>Ap3 hun (HV.out.q13 (Ap4 h))⟩⟩
      all_goals exact Um (by assumption)
     ·simp at ho
      subst ho
      clear hall hi
      refine Ap9 rfl fun K' HK=>?_
      go_simp
      cases HV.out
      refine HK.out _ _ ⟨by simp[HJ.out.sz],⟨_,_,_,_,_,_,_,_,_,_,_,_,_,_,_,_,rfl,?_,?_,?_,?_,?_,?_,?_,?_,?_,fun _=>rfl,?_,?_,?_,?_,?_,?_,fun h0=>HV.out.n14 (Ap5 h0),fun h0=>HV.out.n15 (Ap5 h0),HV.out.be,fun h=>Ap3 hun (HV.out.q14 (Ap4 h)),fun h=>Ap3 hun (HV.out.q15 (Ap4 h)),fun h=>Ap3 hun (HV.out.q6 (Ap4 h)),fun h=>Ap3 hun (HV.out.q13 (Ap4 h))⟩⟩
      all_goals exact Um (by assumption)
     ·simp at ho
      subst ho
      have h8x:L.getD 8 false=true:=hall {on:=8,ground:=Ground.data} (by simp) (by decide)
      have h9x:L.getD 9 false=true:=hall {on:=9,ground:=Ground.data} (by simp) (by decide)
      have H8:=hI h8x
      have H9:=hI h9x
      clear hall hi h8x h9x
      have e0:=HV.out.k8 H8.out
      subst e0
      have e1:=HV.out.k9 H9.out
      subst e1
      have hb:=HKN.out
      refine Ap9 rfl fun K' HK=>?_
      go_simp
      cases HV.out
      refine HK.out _ _ ⟨by simp[HJ.out.sz],⟨_,_,_,_,_,_,_,_,_,_,_,_,_,_,_,_,rfl,?_,?_,?_,?_,?_,?_,?_,?_,?_,?_,fun _=>rfl,?_,?_,?_,?_,?_,fun h0=>HV.out.n14 (Ap5 h0),fun h0=>HV.out.n15 (Ap5 h0),HV.out.be,fun h=>Ap3 hun (HV.out.q14 (Ap4 h)),fun h=>Ap3 hun (HV.out.q15 (Ap4 h)),fun h=>Ap3 hun (HV.out.q6 (Ap4 h)),fun h=>Ap3 hun (HV.out.q13 (Ap4 h))⟩⟩
      all_goals exact Um (by assumption)
     ·simp at ho
      subst ho
      have h10x:L.getD 10 false=true:=hall {on:=10,ground:=Ground.data} (by simp) (by decide)
      have H10:=hI h10x
      clear hall hi h10x
      have e0:=HV.out.k10 H10.out
      subst e0
      refine Ap9 rfl fun K' HK=>?_
      go_simp
      cases HV.out
      refine HK.out _ _ ⟨by simp[HJ.out.sz],⟨_,_,_,_,_,_,_,_,_,_,_,_,_,_,_,_,rfl,?_,?_,?_,?_,?_,?_,?_,?_,?_,?_,?_,fun _=>rfl,?_,?_,?_,?_,fun h0=>HV.out.n14 (Ap5 h0),fun h0=>HV.out.n15 (Ap5 h0),HV.out.be,fun h=>Ap3 hun (HV.out.q14 (Ap4 h)),fun h=>Ap3 hun (HV.out.q15 (Ap4 h)),fun h=>Ap3 hun (HV.out.q6 (Ap4 h)),fun h=>Ap3 hun (HV.out.q13 (Ap4 h))⟩⟩
      all_goals exact Um (by assumption)
     ·simp at ho
      subst ho
      have h11x:L.getD 11 false=true:=hall {on:=11,ground:=Ground.data} (by simp) (by decide)
      have H11:=hI h11x
      clear hall hi h11x
      have e0:=HV.out.k11 H11.out
      subst e0
      obtain⟨p0,p1,p2,p3,p4,p5,p6⟩:=HC.out _ HV.out.be
      refine Ap9 rfl fun K' HK=>?_
      go_simp
      cases HV.out
      refine HK.out _ _ ⟨by simp[HJ.out.sz],⟨_,_,_,_,_,_,_,_,_,_,_,_,_,_,_,_,rfl,?_,?_,?_,?_,?_,?_,?_,?_,?_,?_,?_,?_,fun _=>rfl,?_,?_,?_,fun h0=>HV.out.n14 (Ap5 h0),fun h0=>HV.out.n15 (Ap5 h0),HV.out.be,fun h=>Ap3 hun (HV.out.q14 (Ap4 h)),fun h=>Ap3 hun (HV.out.q15 (Ap4 h)),fun h=>Ap3 hun (HV.out.q6 (Ap4 h)),fun h=>Ap3 hun (HV.out.q13 (Ap4 h))⟩⟩
      all_goals exact Um (by assumption)
     ·simp at ho
      subst ho
      have h7x:L.getD 7 false=true:=hall {on:=7,ground:=Ground.data} (by simp) (by decide)
      have h12x:L.getD 12 false=true:=hall {on:=12,ground:=Ground.data} (by simp) (by decide)
      have H7:=hI h7x
      have H12:=hI h12x
      clear hall hi h7x h12x
      have e0:=HV.out.k7 H7.out
      subst e0
      have e1:=HV.out.k12 H12.out
      subst e1
      refine Ap9 rfl fun K' HK=>?_
      go_simp
      refine (HA2.out _).mono ?_
      rintro e wn ⟨rfl,bn⟩
      cases HV.out
      refine HK.out _ _ ⟨by simp[HJ.out.sz],⟨_,_,_,_,_,_,_,_,_,_,_,_,_,_,_,_,rfl,?_,?_,?_,?_,?_,?_,?_,?_,?_,?_,?_,?_,?_,fun _=>rfl,?_,?_,fun h0=>HV.out.n14 (Ap5 h0),fun h0=>HV.out.n15 (Ap5 h0),HV.out.be.trans (bn.mono (Aap HN0.out HV.out.be.size)),fun h=>Ap3 hun (HV.out.q14 (Ap4 h)),fun h=>Ap3 hun (HV.out.q15 (Ap4 h)),fun h=>Ap3 hun (HV.out.q6 (Ap4 h)),fun _=>Ap3 hun H7.out⟩⟩
      all_goals exact Um (by assumption)
     ·simp at ho
      subst ho
      have h6x:L.getD 6 false=true:=hall {on:=6,ground:=Ground.data} (by simp) (by decide)
      have H6:=hI h6x
      clear hall hi h6x
      have e0:=HV.out.k6 H6.out
      subst e0
      refine Ap9 rfl fun K' HK=>?_
      go_simp
      cases HV.out
      refine HK.out _ _ ⟨by simp[HJ.out.sz],⟨_,_,_,_,_,_,_,_,_,_,_,_,_,_,_,_,rfl,?_,?_,?_,?_,?_,?_,?_,?_,?_,?_,?_,?_,?_,?_,fun _=>rfl,?_,fun h=>(Ap6 h (Ap0 hun)).elim,fun h0=>HV.out.n15 (Ap5 h0),HV.out.be,fun _=>Ap3 hun H6.out,fun h=>Ap3 hun (HV.out.q15 (Ap4 h)),fun h=>Ap3 hun (HV.out.q6 (Ap4 h)),fun h=>Ap3 hun (HV.out.q13 (Ap4 h))⟩⟩
      all_goals exact Um (by assumption)
     ·simp at ho
      subst ho
      have h13x:L.getD 13 false=true:=hall {on:=13,ground:=Ground.data} (by simp) (by decide)
      have H13:=hI h13x
      clear hall hi h13x
      have e0:=HV.out.k13 H13.out
      subst e0
      refine Ap9 rfl fun K' HK=>?_
      go_simp
      cases HV.out
      refine HK.out _ _ ⟨by simp[HJ.out.sz],⟨_,_,_,_,_,_,_,_,_,_,_,_,_,_,_,_,rfl,?_,?_,?_,?_,?_,?_,?_,?_,?_,?_,?_,?_,?_,?_,?_,fun _=>rfl,fun h0=>HV.out.n14 (Ap5 h0),fun h=>(Ap6 h (Ap0 hun)).elim,HV.out.be,fun h=>Ap3 hun (HV.out.q14 (Ap4 h)),fun _=>Ap3 hun H13.out,fun h=>Ap3 hun (HV.out.q6 (Ap4 h)),fun h=>Ap3 hun (HV.out.q13 (Ap4 h))⟩⟩
      all_goals exact Um (by assumption)
   ·rw[Aay he] at hse
    have hos:=HOS.out
    rw[if_neg he,List.append_nil] at hos
    have HO:=hI hos
    clear hos he
    go_wp2_with fail
    go_roundw
    case rel=>exact⟨k+1,q,cc,rfl,rfl,by go_num,by omega,by rw[HO.out];exact HQ.out,by rw[HO.out];exact HCC.out,HB.out⟩
    case measure=>simp[intOf];omega
  ·have hcx:decide ((k:Int)<(ls.length:Int))=false:=by simp;omega
   have hq:=HQ.out
   have hcc:=HCC.out
   rw[Aai hge] at hq hcc
   have HF:=hI (And.intro hq hcc)
   clear hq hcc
   go_wp2_with fail
   go_ret2
   exact⟨by rw[HF.out.1,HF.out.2];rfl,HB.out⟩
end Go.Proofs.YtcnmoobojdopgaaGreatDoor
