/-
  What tranchelaw11.fine answers,as a function of the instrument. (Printed by gen_fx.py.)
-/
import Derived.Test.YteennkgpeiafaaaGreatDoorG41
set_option linter.unusedVariables false
set_option linter.unusedSimpArgs false
set_option maxHeartbeats 16000000
set_option maxRecDepth 100000
namespace Go.Proofs.YteennkgpeiafaaaGreatDoor
open Go.RowKit Tr Go.Shelf
abbrev nums3(i:Inst):List (ByteArray×ByteArray):=[(i.fn,i.fd),(i.cn,i.cd),(i.sn,i.sd)]
noncomputable def greatB(i:Inst):Bool:=!propB (Ati (nums3 i))||decide (40<i.id.size)||decide (40<i.cur.size)||decide (40<i.other.size)||(propB i.ok&&decide (i.kind=2)&&decide (372*i.months<i.matures-i.issued)&&decide (i.matures-i.issued<12462*i.months))
theorem greatB_no{i:Inst}(h:greatB i=false):i.tiny:=by
 unfold greatB at h
 simp at h
 obtain⟨⟨⟨⟨h1,h2⟩,h3⟩,h4⟩,_⟩:=h
 have hs:=propB_iff.1 h1
 have a0:=hs (i.fn,i.fd) (by simp)
 have a1:=hs (i.cn,i.cd) (by simp)
 have a2:=hs (i.sn,i.sd) (by simp)
 exact⟨by omega,by omega,by omega,a0.1,a0.2,a1.1,a1.2,a2.1,a2.2⟩
theorem rGreat11_ex(i:Inst)(w:World):Calls Tryz.prog 10 #[i.enc] w fun e w'=>e=.returned (.bool (greatB i))∧Below w.heap.size w w':=by
 obtain⟨W0,hW0,hB0,hz,hk⟩:=ibox i w
 obtain⟨c0,c1,c2,c3,c4,c5,c6,c7,c8,c9,c10,c11,c12,c13,c14⟩:=Acs (hk)
 try simp[Inst.cells] at c0 c1 c2 c3 c4 c5 c6 c7 c8 c9 c10 c11 c12 c13 c14
 have HB:=hI hB0
 have HK:=hI hk
 clear hB0 hz hk
 obtain⟨x,hx⟩:∃x,IntKind.i64.wrap (i.matures-i.issued)=x:=⟨_,rfl⟩
 have HX:=hI hx
 unfold Inst.enc Inst.cells at *
 go_enter Tryz.func10,Tryz.ntmps10
 go_wp2_with fail
 have hRC:RC w i W0.heap.size (W0.alloc (.cells (Aky i) 25)):=⟨(Below.heap_alloc W0 _ _ (Afb c0)).trans HK.out,Aa0 W0 _,HB.out.alloc HB.out.size _⟩
 generalize hW1:W0.alloc (.cells (Aky i) 25)=W1 at hRC ⊢
 generalize W0.heap.size=b at hRC ⊢
 refine (Atj (nums3 i) 3 b rfl (by omega) W1 hRC.k1).mono ?_
 rintro e w1 ⟨rfl,rfl⟩
 have HRC:=hI hRC
 clear hW1 HB HK hW0 c0 c1 c2 c3 c4 c5 c6 c7 c8 c9 c10 c11 c12 c13 c14
 obtain⟨c0,c1,c2,c3,c4,c5,c6,c7,c8,c9,c10,c11,c12,c13,c14⟩:=Acs (hRC.k0)
 try simp[Inst.cells] at c0 c1 c2 c3 c4 c5 c6 c7 c8 c9 c10 c11 c12 c13 c14
 clear hRC
 by_cases hs:Ati (nums3 i)
 case neg =>
  have hp:propB (Ati (nums3 i))=false:=Ath hs
  rw[hp]
  go_wp2_with fail
  go_ret
  exact⟨by rw[show greatB i=true from by unfold greatB;rw[hp];rfl];rfl,HRC.out.bel⟩
 have hp:propB (Ati (nums3 i))=true:=propB_iff.2 hs
 have HP:=hI hp
 rw[hp]
 clear hp
 by_cases h1:40<i.id.size
 ·have t1:decide ((40:Int)<(i.id.size:Int))=true:=Aay (by omega)
  have H1:=hI h1
  clear h1 hs
  go_wp2_with fail
  go_ret
  exact⟨by rw[show greatB i=true from by unfold greatB;rw[Aay H1.out];simp];rfl,HRC.out.bel⟩
 have t1:decide ((40:Int)<(i.id.size:Int))=false:=Aaz (by omega)
 by_cases h2:40<i.cur.size
 ·have t2:decide ((40:Int)<(i.cur.size:Int))=true:=Aay (by omega)
  have H2:=hI h2
  clear h1 h2 hs
  go_wp2_with fail
  go_ret
  exact⟨by rw[show greatB i=true from by unfold greatB;rw[Aay H2.out];simp];rfl,HRC.out.bel⟩
 have t2:decide ((40:Int)<(i.cur.size:Int))=false:=Aaz (by omega)
 by_cases h3:40<i.other.size
 ·have t3:decide ((40:Int)<(i.other.size:Int))=true:=Aay (by omega)
  have H3:=hI h3
  clear h1 h2 h3 hs
  go_wp2_with fail
  go_ret
  exact⟨by rw[show greatB i=true from by unfold greatB;rw[Aay H3.out];simp];rfl,HRC.out.bel⟩
 have t3:decide ((40:Int)<(i.other.size:Int))=false:=Aaz (by omega)
 have HT:Hid i.tiny:=by
  have a0:=hs (i.fn,i.fd) (by simp)
  have a1:=hs (i.cn,i.cd) (by simp)
  have a2:=hs (i.sn,i.sd) (by simp)
  exact⟨by omega,by omega,by omega,a0.1,a0.2,a1.1,a1.2,a2.1,a2.2⟩
 have HG:Hid (greatB i=(propB i.ok&&decide (i.kind=2)&&decide (372*i.months<i.matures-i.issued)&&decide (i.matures-i.issued<12462*i.months))):=by
  show greatB i=_
  unfold greatB
  rw[HP.out,Aaz h1,Aaz h2,Aaz h3]
  simp
 clear h1 h2 h3 hs
 go_wp2_with fail
 refine (Ak1 i HT.out _).mono ?_
 rintro e w2 ⟨n,rfl,hn,b2⟩
 have HN:=hI hn
 have HB2:=hI (HRC.out.bel.trans (b2.mono HRC.out.bel.size))
 have hRC:=HRC.out.below b2
 clear hn b2 HRC t1 t2 t3 c0 c1 c2 c3 c4 c5 c6 c7 c8 c9 c10 c11 c12 c13 c14
 obtain⟨c0,c1,c2,c3,c4,c5,c6,c7,c8,c9,c10,c11,c12,c13,c14⟩:=Acs (hRC.k0)
 try simp[Inst.cells] at c0 c1 c2 c3 c4 c5 c6 c7 c8 c9 c10 c11 c12 c13 c14
 clear hRC
 by_cases h0:n=0
 case neg =>
  have t0:(n==0)=false:=Aaj.2 h0
  have hno:propB i.ok=false:=Ath (fun h=>h0 (HN.out.2 h))
  have HNO:=hI hno
  clear h0 hno
  go_wp2_with fail
  go_ret
  exact⟨by rw[HG.out,HNO.out];rfl,HB2.out⟩
 have hok:=HN.out.1 h0
 have hyes:propB i.ok=true:=propB_iff.2 hok
 have HYES:=hI hyes
 have HOK:=hI hok
 subst h0
 clear hok hyes
 by_cases hk:i.kind=2
 case neg =>
  have t0:(i.kind==2)=false:=Aaj.2 hk
  have HK2:=hI hk
  clear hk
  go_wp2_with fail
  go_ret
  exact⟨by rw[HG.out,Aaz HK2.out];simp,HB2.out⟩
 have t0:(i.kind==2)=true:=beq_iff_eq.2 hk
 have hbd:BdI i:=by
  obtain⟨a1,a2,a3,a4,a5,a6,a7,a8,a9⟩:=HT.out
  exact⟨⟨by omega,by omega,by omega,by omega,by omega,by omega,by omega,by omega,by omega⟩,by omega,by omega,by omega,by omega,HOK.out,hk⟩
 obtain⟨⟨m0,m1⟩,m2⟩:=hbd.mat
 obtain⟨o0,o1⟩:=hbd.mo
 obtain⟨i0,i1⟩:=hbd.ok.issued
 have hxx:x=i.matures-i.issued:=by rw[←HX.out,Aav];omega
 have hw2:IntKind.i64.wrap (372*i.months)=372*i.months:=by rw[Aav];omega
 have hw3:IntKind.i64.wrap (12462*i.months)=12462*i.months:=by rw[Aav];omega
 have HGG:Hid (greatB i=(decide (372*i.months<x)&&decide (x<12462*i.months))):=by
  show greatB i=_
  rw[HG.out,HYES.out,Aay hk,hxx]
  simp
 clear hbd m0 m1 m2 o0 o1 i0 i1 hk hxx
 cases hc1:decide (372*i.months<x)
 ·rw[hc1] at HGG
  go_wp2_with fail
  go_ret
  exact⟨by rw[HGG.out];rfl,HB2.out⟩
 ·cases hc2:decide (x<12462*i.months)
  all_goals
   rw[hc1,hc2] at HGG
   go_wp2_with fail
   go_ret
   exact⟨by rw[HGG.out];rfl,HB2.out⟩
end Go.Proofs.YteennkgpeiafaaaGreatDoor
