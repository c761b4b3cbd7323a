/-
  tranchelaw39.AccrualTotals returns true. (Printed by gen_law37.py.)
-/
import Derived.Test.YtcnmoobojdopgaaGreatDoorI36
import Derived.Laws.StructEq
import Derived.BigQuiet
import Derived.Test.YtcnmoobojdopgaaGreatDoorI40
import Derived.Test.YtcnmoobojdopgaaGreatDoorI41
import Derived.Test.YtcnmoobojdopgaaGreatDoorI23
set_option linter.unusedVariables false
set_option linter.unusedSimpArgs false
set_option maxHeartbeats 16000000
set_option maxRecDepth 100000
namespace Go.Proofs.YtcnmoobojdopgaaGreatDoor
open Go.RowKit Tr Go.Shelf
theorem Aus(i:Inst)(A:Option Addr)(ls:List Lot)(c:Nat)(hlm:ls.length≤9223372036854775807)(w:World)(hR:RdL w A ls):Calls Tryz.prog 18 #[i.enc,.slice A ls.length c] w (Amm w (GI i∧ls.length≤12∧∀l∈ls,l.tiny)):=by
 have HR:=hI hR
 obtain⟨W0,hW0,hB0,hz,hk⟩:=ibox i w
 obtain⟨c0,c1,c2,c3,c4,c5,c6,c7,c8,c9,c10,c11,c12,c13,c14⟩:=At7 (hk)
 have HB:=hI hB0
 have HGI:Hid (Atp i=false→GI i):=GI.of
 have HGR:=hI (fun W=>Atr i W)
 generalize Atp i=g at HGI HGR
 clear hB0 hz hk hR
 go_enter Tryz.func18,Tryz.ntmps18
 go_wp2_with fail
 refine (HGR.out _).mono ?_
 rintro e w1 ⟨rfl,b1⟩
 have HB1:=hI (HB.out.trans (b1.mono HB.out.size))
 clear b1 HB hW0 HGR c0 c1 c2 c3 c4 c5 c6 c7 c8 c9 c10 c11 c12 c13 c14
 cases g
 ·go_wp2_with fail
  refine (Ap4 A ls c hlm _ (HR.out.below HB1.out)).mono ?_
  rintro e w2 ⟨g2,rfl,hg2,b2⟩
  have HG2:=hI hg2
  have HB2:=hI (HB1.out.trans (b2.mono HB1.out.size))
  clear hg2 b2 HB1
  cases g2
  ·by_cases h12:12<ls.length
   ·have t1:decide ((12:Int)<(ls.length:Int))=true:=Aav (by omega)
    clear h12
    go_wp2_with fail
    go_ret
    exact⟨true,rfl,fun h=>(by cases h),HB2.out⟩
   ·have t1:decide ((12:Int)<(ls.length:Int))=false:=Aaw (by omega)
    have H12:=hI (show ls.length≤12 by omega)
    clear h12
    go_wp2_with fail
    go_ret
    exact⟨false,rfl,fun _=>⟨HGI.out trivial,H12.out,(HG2.out trivial).2⟩,HB2.out⟩
  ·go_wp2_with fail
   go_ret
   exact⟨true,rfl,fun h=>(by cases h),HB2.out⟩
 ·go_wp2_with fail
  go_ret
  exact⟨true,rfl,fun h=>(by cases h),HB1.out⟩
theorem slots_of:∀(ls:List Lot),(∀l∈ls,l.sized)→∃zs:List SLot,zs.map Subtype.val=ls
 | [],_=>⟨[],rfl⟩
 | l::r,h=>by
   obtain⟨zs,hz⟩:=slots_of r (fun x hx=>h x (List.mem_cons_of_mem _ hx))
   exact⟨⟨l,h l (List.mem_cons_self ..)⟩::zs,by rw[List.map_cons,hz]⟩
theorem Aut{w:World}{A:Option Addr}{zs:List SLot}(h:RdL w A (zs.map Subtype.val)):RdB w.heap.size w A zs:=by
 intro hl
 obtain⟨ad,rfl,h1,h2⟩:=h (fun e=>hl (List.map_eq_nil_iff.1 e))
 exact⟨ad,rfl,h1,fun j l hj=>h2 j l.1 (by rw[List.getElem?_map,hj];rfl)⟩
theorem Auu(i:Inst)(A:Option Addr)(ls:List Lot)(c:Nat)(hcap:ls.length≤c)(hlm:ls.length≤9223372036854775807)(d:Int)(w:World)(hR:RdL w A ls):
 Calls Tryz.prog 26 #[i.enc,.slice A ls.length c,.int .i64 d] w (Ap2 w (GI i∧i.ok∧okDay d∧ls.length≤12∧(∀l∈ls,l.tiny)∧lall ls=0)):=by
 have HR:=hI hR
 obtain⟨W0,hW0,hB0,hz,hk⟩:=ibox i w
 have HK:=hI hk
 obtain⟨c0,c1,c2,c3,c4,c5,c6,c7,c8,c9,c10,c11,c12,c13,c14⟩:=Acn hk
 have HB:=hI hB0
 clear hB0 hz hk hR
 go_enter Tryz.func26,Tryz.ntmps26
 go_wp2_with fail
 refine (Aus i A ls c hlm _ (HR.out.below HB.out)).mono ?_
 rintro e w1 ⟨g,rfl,hg,b1⟩
 have HG:=hI hg
 have HB1:=hI (HB.out.trans (b1.mono HB.out.size))
 have hk:=(b1.block _ (Aab.1 HK.out).1).trans HK.out
 clear hg b1 HB hW0 c0 c1 c2 c3 c4 c5 c6 c7 c8 c9 c10 c11 c12 c13 c14 HK
 obtain⟨c0,c1,c2,c3,c4,c5,c6,c7,c8,c9,c10,c11,c12,c13,c14⟩:=Acn hk
 clear hk
 cases g
 ·have HT:=hI (HG.out rfl)
  go_wp2_with fail
  refine (Amk i HT.out.1.ti _).mono ?_
  rintro e w2 ⟨n,rfl,hn,b2⟩
  have HN:=hI hn
  have HB2:=hI (HB1.out.trans (b2.mono HB1.out.size))
  clear hn b2 HB1 c0 c1 c2 c3 c4 c5 c6 c7 c8 c9 c10 c11 c12 c13 c14
  by_cases h0:n=0
  ·have HO:=hI (HN.out.1 h0)
   subst h0
   go_wp2_with fail
   refine (Ara A ls c hcap hlm HT.out.2.2 _ (HR.out.below HB2.out)).mono ?_
   rintro e w3 ⟨rfl,b3⟩
   obtain⟨m,hm⟩:∃m,lall ls=m:=⟨_,rfl⟩
   rw[hm]
   have HM:=hI hm
   have HB3:=hI (HB2.out.trans (b3.mono HB2.out.size))
   clear hm b3 HB2
   by_cases hm0:m=0
   case neg =>
    have t0:(m==0)=false:=Aaj.2 hm0
    clear hm0
    go_wp2_with fail
    go_ret
    exact⟨false,rfl,fun h=>(by cases h),HB3.out⟩
   have HLO:=hI (HM.out.trans hm0)
   subst hm0
   by_cases h1:-25567≤d
   ·by_cases h2:d≤84005
    ·have t1:decide (-25567≤d)=true:=Aav h1
     have t2:decide (d≤84005)=true:=Aav h2
     have H1:=hI h1
     have H2:=hI h2
     clear h1 h2
     go_wp2_with fail
     go_ret
     exact⟨true,rfl,fun _=>⟨HT.out.1,HO.out,⟨H1.out,H2.out⟩,HT.out.2.1,HT.out.2.2,HLO.out⟩,HB3.out⟩
    ·have t1:decide (-25567≤d)=true:=Aav h1
     have t2:decide (d≤84005)=false:=Aaw h2
     clear h1 h2
     go_wp2_with fail
     go_ret
     exact⟨false,rfl,fun h=>(by cases h),HB3.out⟩
   ·have t1:decide (-25567≤d)=false:=Aaw h1
    clear h1
    go_wp2_with fail
    go_ret
    exact⟨false,rfl,fun h=>(by cases h),HB3.out⟩
  ·have t0:(n==0)=false:=Aaj.2 h0
   clear h0
   go_wp2_with fail
   go_ret
   exact⟨false,rfl,fun h=>(by cases h),HB2.out⟩
 ·go_wp2_with fail
  go_ret
  exact⟨false,rfl,fun h=>(by cases h),HB1.out⟩
theorem Auv(p:Int×Int)(d:Int)(b:Nat)(w:World)(hb:Boxed w b 22 (.int .i64 d)):Calls Tryz.prog 33 #[.agg #[.int .i64 p.1,.int .i64 p.2],.pointer (some ⟨b,0,none⟩)] w fun e w'=>e=.returned (.bool (p.1==d))∧Below w.heap.size w w':=by
 obtain⟨x,y⟩:=p
 have hc:=hb.cell
 have hlt:=hb.lt
 show Calls _ _ _ _ fun e w'=>e=.returned (.bool (x==d))∧_
 cases h:(x==d)
 all_goals
  clear hb
  go_enter Tryz.func33,Tryz.ntmps33
  go_wp2_with fail
  go_ret
  exact⟨rfl,(Below.refl _ w).alloc (Aad _) _⟩
theorem Auw(ad:Addr)(l:List (Int×Int))(N c:Nat)(d:Int)(b:Nat)(hN:l.length=N)(hm:N≤1000000)(w:World)(hR:RdP w ad l)(hb:Boxed w b 22 (.int .i64 d)):
 Calls Tryz.prog 85 #[.slice (some ad) N c,.func (.func 33) #[] #[.pointer (some ⟨b,0,none⟩)]] w fun e w'=>(∃n:Int,e=.returned (.int .i64 n)∧(0≤n→∃x∈l,x.1=d))∧Below w.heap.size w w':=by
 have HR:=hI hR
 have HNN:=hI hN
 have HBX:=hI hb
 clear hR hN hb
 go_enter Tryz.func85,Tryz.ntmps85
 go_wp2_with fail
 go_loopw [5,8] (fun _ v wr=>∃k:Nat,v=.int .i64 (k:Int)∧k≤N∧Hid (Below w.heap.size w wr)) (fun _ v _=>N-(intOf v).toNat)
 case atStart=>exact⟨0,rfl,by omega,Below.refl _ _⟩
 case round =>
  obtain⟨k,rfl,hk,HB⟩:=hrel
  rcases Aam k N with hlt|hge
  ·obtain⟨p,hp⟩:∃p,l[k]?=some p:=⟨_,Aae (by rw[HNN.out];exact hlt)⟩
   have hcx:decide ((k:Int)<(N:Int))=true:=by simp;omega
   obtain⟨c0,c1⟩:=(HR.out.below HB.out).2 k p hp
   have HP:=hI hp
   have HCL:=hI (Auv p d b wr ((HB.out.block _ HBX.out.lt).trans HBX.out))
   clear hp
   cases hpp:(p.1==d)
   case true =>
    have HF:Hid (∃x∈l,x.1=d):=⟨p,Aar HP.out,beq_iff_eq.1 hpp⟩
    rw[hpp] at HCL
    clear hpp
    go_wp2_with fail
    refine HCL.out.mono ?_
    rintro e w1 ⟨rfl,b1⟩
    have HB1:=hI (HB.out.trans (b1.mono HB.out.size))
    clear b1 HCL c0 c1
    go_wp2_with fail
    go_ret
    exact⟨⟨_,rfl,fun _=>HF.out⟩,HB1.out⟩
   case false =>
    rw[hpp] at HCL
    clear hpp
    go_wp2_with fail
    refine HCL.out.mono ?_
    rintro e w1 ⟨rfl,b1⟩
    have HB1:=hI (HB.out.trans (b1.mono HB.out.size))
    clear b1 HCL c0 c1
    go_wp2_with fail
    go_roundw
    case rel=>exact⟨k+1,by go_num,by omega,HB1.out⟩
    case measure=>simp[intOf];omega
  ·have hcx:decide ((k:Int)<(N:Int))=false:=by simp;omega
   go_wp2_with fail
   go_ret
   exact⟨⟨_,rfl,fun h=>absurd h (by decide)⟩,HB.out⟩
theorem Aux(ad:Addr)(l:List (Int×Int))(N c:Nat)(d:Int)(b:Nat)(hN:l.length=N)(hm:N≤1000000)(w:World)(hR:RdP w ad l)(hb:Boxed w b 22 (.int .i64 d)):
 Calls Tryz.prog 32 #[.slice (some ad) N c,.func (.func 33) #[] #[.pointer (some ⟨b,0,none⟩)]] w fun e w'=>(∃g:Bool,e=.returned (.bool g)∧(g=true→∃x∈l,x.1=d))∧Below w.heap.size w w':=by
 have HI:=hI (Auw ad l N c d b hN hm w hR hb)
 clear hR hb
 go_enter Tryz.func32,Tryz.ntmps32
 go_wp2_with fail
 refine HI.out.mono ?_
 rintro e w1 ⟨⟨n,rfl,hn⟩,b1⟩
 have HN:=hI hn
 have HB:=hI b1
 clear hn b1 HI
 by_cases h:0≤n
 ·have t:decide (0≤n)=true:=Aav h
  have HF:=hI (HN.out h)
  clear h
  go_wp2_with fail
  go_ret
  exact⟨⟨true,rfl,fun _=>HF.out⟩,HB.out⟩
 ·have t:decide (0≤n)=false:=Aaw h
  clear h
  go_wp2_with fail
  go_ret
  exact⟨⟨false,rfl,fun h=>(by cases h)⟩,HB.out⟩
end Go.Proofs.YtcnmoobojdopgaaGreatDoor
