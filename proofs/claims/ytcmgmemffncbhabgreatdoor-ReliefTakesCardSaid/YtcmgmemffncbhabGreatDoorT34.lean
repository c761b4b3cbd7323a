/-
  The boxes that the function that takes shares with relief.Choose.
-/
import Derived.Deep.AppendLies
import Derived.Maps.AppendAt
import Derived.BigQuiet
import Derived.Test.YtcmgmemffncbhabGreatDoorT33
set_option linter.unusedVariables false
set_option linter.unusedSimpArgs false
set_option maxHeartbeats 16000000
set_option maxRecDepth 100000
namespace Go.Proofs.YtcmgmemffncbhabGreatDoor
open Go.RowKit Tr Go.Shelf
theorem As2(ps:List Pk)(j:Nat)(p:Pk)(h:ps[j]?=some p):(flatK ps)[j*2]?=some (.string p.lot)∧(flatK ps)[j*2+1]?=some (.string p.qty):=by
 obtain⟨hj,he⟩:=Aak.1 h
 have e:ps=ps.take j++p::ps.drop (j+1):=by rw[←he,←Aa2 hj,Aav]
 have hl:(flatK (ps.take j)).length=j*2:=by rw[Arx,Aat];omega
 rw[e,Arv,Arw]
 constructor
 ·rw[Aa1 (by omega),hl,Nat.sub_self];rfl
 ·rw[Aa1 (by omega),hl,show j*2+1-j*2=1 from by omega];rfl
theorem As3(ps:List Pk)(j:Nat)(p:Pk)(q:ByteArray)(h:ps[j]?=some p):(flatK ps).set (j*2+1) (.string q)=flatK (ps.set j ⟨p.lot,q⟩):=by
 obtain⟨hj,he⟩:=Aak.1 h
 have e:ps=ps.take j++p::ps.drop (j+1):=by rw[←he,←Aa2 hj,Aav]
 have hl:(flatK (ps.take j)).length=j*2:=by rw[Arx,Aat];omega
 have hl2:(ps.take j).length=j:=by rw[Aat];omega
 have e2:ps.set j ⟨p.lot,q⟩=ps.take j++(⟨p.lot,q⟩:Pk)::ps.drop (j+1):=by
  conv=>lhs;rw[e]
  rw[List.set_append_right _ _ (by omega),hl2,Nat.sub_self];rfl
 rw[e2,Arv,Arw]
 conv=>lhs;rw[e,Arv,Arw]
 rw[List.set_append_right _ _ (by omega),hl,show j*2+1-j*2=1 from by omega];rfl
theorem RdK.of_own{w:World}{base:Nat}{v:Value}{ps:List Pk}(h:w.ownsRow base 43 2 v ps.length (flatK ps)):
 ∃A c,v=.slice A ps.length c∧ps.length≤c∧(∀ad,A=some ad→base≤ad.block)∧RdK w.heap.size w A ps:=by
 rcases h.2 with⟨rfl,h0⟩|⟨g,cap,cur,rfl,hb,hg,hnc,hcm,_⟩
 ·have:ps=[]:=Aag h0
  subst this
  exact⟨none,0,rfl,Aad _,(fun _ e=>by cases e),fun e=>absurd rfl e⟩
 ·refine⟨_,_,rfl,hnc,fun ad e=>by cases e;exact hb,fun _=>⟨_,rfl,(Aab.1 hg).1,fun j l hj=>?_⟩⟩
  have hc:=h.cells (g:=g) rfl
  obtain⟨g1,g2⟩:=As2 ps j l hj
  have h1:=hc _ _ g1
  have h2:=hc _ _ g2
  rw[Ake] at h1 h2
  rw[Ake]
  exact⟨h1,h2⟩
structure ChS(wT w0:World)(Bo Bq:Nat)(g0:Option Nat)(st:Am×Int)(v:Value)(W:World):Prop where
 tw:Below wT.heap.size wT w0
 bs:wT.heap.size≤Bo∧wT.heap.size≤Bq∧∀g,g0=some g→wT.heap.size≤g
 bo:Boxed W Bo 24 v
 bq:Boxed W Bq 23 (.string (I st.2))
 row:W.ownsRow wT.heap.size 43 2 v (pksOf st.1).length (flatK (pksOf st.1))
 lies:v.ownBlock=g0∨∀g,v.ownBlock=some g→w0.heap.size≤g
 os:W.os=w0.os
 tape:W.tape=w0.tape
 output:W.output=w0.output
 size:w0.heap.size≤W.heap.size
 keep:∀k,k<w0.heap.size→k≠Bo→k≠Bq→some k≠g0→W.heap[k]?=w0.heap[k]?
section
variable {wT w0 W W':World} {Bo Bq:Nat} {g0:Option Nat} {st:Am×Int} {v:Value}
theorem ChS.outer(h:ChS wT w0 Bo Bq g0 st v W):Below wT.heap.size wT W :=
 h.tw.trans ⟨h.os,h.tape,h.output,h.size,fun k hk=>h.keep k (Aah hk h.tw.size) (by have:=h.bs.1;omega) (by have:=h.bs.2.1;omega) (fun e=>by have:=h.bs.2.2 k e.symm;omega)⟩
theorem ChS.below(h:ChS wT w0 Bo Bq g0 st v W)(hb:Below W.heap.size W W'):ChS wT w0 Bo Bq g0 st v W' where
 tw:=h.tw
 bs:=h.bs
 bo:=(hb.block Bo h.bo.lt).trans h.bo
 bq:=(hb.block Bq h.bq.lt).trans h.bq
 row:=h.row.kept ⟨hb.os,hb.tape,hb.output,hb.size,fun k hk _=>hb.block k hk⟩ (row:=none) (by cases h2:v.ownBlock;exact .inl rfl;exact .inr (by simp))
 lies:=h.lies
 os:=hb.os.trans h.os
 tape:=hb.tape.trans h.tape
 output:=hb.output.trans h.output
 size:=Aap h.size hb.size
 keep:=fun k hk h1 h2 h3=>(hb.block k (Aah hk h.size)).trans (h.keep k hk h1 h2 h3)
theorem ChS.drew(h:ChS wT w0 Bo Bq g0 st v W):ChS wT w0 Bo Bq g0 st v W.drew:=h.below (Below.refl _ _).drew
theorem ChS.setQ(h:ChS wT w0 Bo Bq g0 st v W)(hne:Bo≠Bq)(z:Int):ChS wT w0 Bo Bq g0 (st.1,z) v (W.setCell ⟨Bq,0,none⟩ (.string (I z))) where
 tw:=h.tw
 bs:=h.bs
 bo:=h.bo.kept (grownBy_setCell' W Bq _) (by simpa using hne)
 bq:=h.bq.set _
 row:=h.row.kept (grownBy_setCell' W Bq _) (.inr (h.bq.not_row (by decide) h.row).symm)
 lies:=h.lies
 os:=h.os
 tape:=h.tape
 output:=h.output
 size:=Aap h.size (grownBy_setCell' W Bq _).size
 keep:=fun k hk h1 h2 h3=>(Below.heap_setCell _ _ _ k h2).trans (h.keep k hk h1 h2 h3)
theorem ChS.app(h:ChS wT w0 Bo Bq g0 st v W){out':Am}{v':Value}(hb:W.grownBy W' v.ownBlock)(hr:W'.ownsRow wT.heap.size 43 2 v' (pksOf out').length (flatK (pksOf out')))(hl:v'.ownBlock=v.ownBlock∨∀g,v'.ownBlock=some g→W.heap.size≤g):
 ChS wT w0 Bo Bq g0 (out',st.2) v' (W'.setCell ⟨Bo,0,none⟩ v'):=by
 have hbo:Boxed W' Bo 24 v:=h.bo.kept hb (h.bo.not_row (by decide) h.row)
 have hbq:Boxed W' Bq 23 (.string (I st.2)):=h.bq.kept hb (h.bq.not_row (by decide) h.row)
 have hne:Bq≠Bo:=fun e=>by
  have h1:=hbo
  have h2:=hbq
  rw[e] at h2
  have:=(show W'.heap[Bo]?=_ from h1).symm.trans h2
  simp at this
 refine⟨h.tw,h.bs,hbo.set _,hbq.kept (grownBy_setCell' W' Bo _) (by simpa using hne),hr.kept (grownBy_setCell' W' Bo _) (.inr (hbo.not_row (by decide) hr).symm),?_,hb.os.trans h.os,hb.tape.trans h.tape,hb.output.trans h.output,Aap h.size (Aap hb.size (grownBy_setCell' W' Bo _).size),fun k hk h1 h2 h3=>?_⟩
 ·rcases hl with hl|hl
  ·rw[hl];exact h.lies
  ·exact .inr fun g e=>Aap h.size (hl g e)
 ·rw[Below.heap_setCell _ _ _ k h1,hb.block k (Aah hk h.size) (fun e=>?_)]
  ·exact h.keep k hk h1 h2 h3
  ·rcases h.lies with h4|h4
   ·exact h3 (by rw[e,h4])
   ·have:=h4 k e.symm;omega
theorem ChS.sto{g N c k:Nat}{a:ByteArray×Int}{ad:Addr}(h:ChS wT w0 Bo Bq g0 st (.slice (some ad) N c) W)(had:ad=⟨g,0,none⟩)(ha:st.1[k]?=some a)(z:Int):
 ChS wT w0 Bo Bq g0 (st.1.set k (a.1,z),st.2) (.slice (some ad) N c) (W.setCell ⟨(ad.add (k*2)).block,(ad.add (k*2)).off+1,none⟩ (.string (I z))):=by
 subst had
 rw[Ake]
 have hp:(pksOf st.1)[k]?=some ⟨a.1,I a.2⟩:=by unfold pksOf;rw[List.getElem?_map,ha];rfl
 have hN:(pksOf st.1).length=N:=by
  rcases h.row.2 with⟨h1,_⟩|⟨_,_,_,h1,_⟩
  ·simp at h1
  ·simp at h1;exact h1.2.1.symm
 have hrow:=h.row
 rw[hN] at hrow
 obtain⟨h1,h2⟩:=hrow.stored (k*2+1) (.string (I z))
 rw[As3 _ _ _ _ hp] at h1
 have e1:(pksOf st.1).set k ⟨a.1,I z⟩=pksOf (st.1.set k (a.1,z)):=by unfold pksOf;rw[List.map_set]
 rw[show ((⟨a.1,I a.2⟩:Pk).lot)=a.1 from rfl,e1] at h1
 have hN2:(pksOf (st.1.set k (a.1,z))).length=N:=by rw[←e1,List.length_set,hN]
 refine⟨h.tw,h.bs,h.bo.kept h2 (h.bo.not_row (by decide) h.row),h.bq.kept h2 (h.bq.not_row (by decide) h.row),by rw[hN2];exact h1,h.lies,h2.os.trans h.os,h2.tape.trans h.tape,h2.output.trans h.output,Aap h.size h2.size,fun j hj n1 n2 n3=>?_⟩
 rw[h2.block j (Aah hj h.size) (fun e=>?_)]
 ·exact h.keep j hj n1 n2 n3
 ·rcases h.lies with h4|h4
  ·exact n3 (by rw[←h4];exact e)
  ·have:=h4 g rfl
   injection e with e
   omega
theorem ChS.form(h:ChS wT w0 Bo Bq g0 st v W):∃A c,v=.slice A (pksOf st.1).length c∧(pksOf st.1).length≤c∧RdK W.heap.size W A (pksOf st.1):=by
 obtain⟨A,c,h1,h2,_,h3⟩:=RdK.of_own h.row
 exact⟨A,c,h1,h2,h3⟩
theorem ChS.spot{A:Option Addr}{N c:Nat}(h:ChS wT w0 Bo Bq g0 st (.slice A N c) W)(hN:0<(pksOf st.1).length):∃ad,A=some ad∧∃g,ad=⟨g,0,none⟩:=by
 obtain⟨g,cap,e,_⟩:=h.row.form hN
 simp at e
 exact⟨_,e.1,g,rfl⟩
theorem ChS.again(h:ChS wT w0 Bo Bq g0 st v W):ChS wT W Bo Bq v.ownBlock st v W :=
 ⟨h.outer,⟨h.bs.1,h.bs.2.1,fun g e=>(h.row.lt g e).1⟩,h.bo,h.bq,h.row,.inl rfl,rfl,rfl,rfl,Aad _,fun _ _ _ _ _=>rfl⟩
end
theorem ChS.cells{wT w0 W:World}{Bo Bq:Nat}{g0:Option Nat}{st:Am×Int}{ad:Addr}{N c k:Nat}{a:ByteArray×Int}(h:ChS wT w0 Bo Bq g0 st (.slice (some ad) N c) W)(ha:st.1[k]?=some a):
 W.cell? ⟨(ad.add (k*2)).block,(ad.add (k*2)).off+1,none⟩=some (.string (I a.2))∧W.frozen? ⟨(ad.add (k*2)).block,(ad.add (k*2)).off+1,none⟩=false:=by
 have hp:(pksOf st.1)[k]?=some ⟨a.1,I a.2⟩:=by unfold pksOf;rw[List.getElem?_map,ha];rfl
 have hpos:0<(pksOf st.1).length:=by
  have:=(Aak.1 hp).1
  omega
 obtain⟨ad',e,g,rfl⟩:=h.spot hpos
 injection e with e
 subst e
 have hN:(pksOf st.1).length=N:=by
  rcases h.row.2 with⟨h1,_⟩|⟨_,_,_,h1,_⟩
  ·simp at h1
  ·simp at h1;exact h1.2.1.symm
 have hrow:=h.row
 rw[hN] at hrow
 rw[Ake]
 refine⟨?_,hrow.frozenAt (k*2+1)⟩
 have hk:k<N:=by rw[←hN];exact (Aak.1 hp).1
 rw[hrow.cellAt (k*2+1) (by omega)]
 exact (As2 _ _ _ hp).2
theorem Tryz.infoPick:(Tryz.prog.info? 43).map (fun i=>(i.zero,i.size,i.bytes))=some (some (.agg #[.string ⟨#[]⟩,.string ⟨#[]⟩]),2,32):=by kernel_rfl
theorem As4(w:World)(base:Nat)(v:Value)(n:Nat)(xs:List Value)(p:Pk)(B cB:Nat)(hown:w.ownsRow base 43 2 v n xs)(hp:PkBox w B p)(hn:n≤1000000)(hb:base≤w.heap.size):
 ∃g cap w',(Builtin.append_ #[24,24] 24 #[v,.slice (some ⟨B,0,none⟩) 1 cB]).run Tryz.prog w=.ok (.slice (some ⟨g,0,none⟩) (n+1) cap) w' ∧
  w'.ownsRow base 43 2 (.slice (some ⟨g,0,none⟩) (n+1) cap) (n+1) (xs++p.cells.toList)∧w.grownBy w' v.ownBlock∧(v.ownBlock=some g∨g=w.heap.size):=by
 obtain⟨i0,hi0,hz0,hz1,hz2⟩:=info_parts Tryz.infoPick
 obtain⟨g,cap,w',h1,h2,h3,h4,_⟩:=run_append_lies (P:=Tryz.prog) w 24 24 base 43 i0 _ 2 32 Tryz.underlying24 hi0 hz0 hz1 hz2 rfl (by decide) v n xs hown ⟨B,0,none⟩ 1 cB p.cells.toList rfl
  (fun j u hu=>by rw[Ake,Aaa hp j,←Array.getElem?_toList];exact hu) (Ary p) (by decide) (by unfold maxLen;omega) (by omega) hb w.heap.size rfl
 exact⟨g,cap,w',h1,h2,h3,h4⟩
end Go.Proofs.YtcmgmemffncbhabGreatDoor
namespace Go.Proofs.YtcmgmemffncbhabGreatDoor
open Go.RowKit Tr Go.Shelf
theorem As5(a:ByteArray)(ha:a.size≤1000000)(w:World):Calls Tryz.prog 54 #[.string a] w fun e w'=>e=.returned (.bool (decide (0<vl a)))∧w=w':=by
 have HC:=hI (Ahh a ⟨#[]⟩ ha (by decide) w)
 have HZ:Hid (vl ⟨#[]⟩=0):=by show vl ⟨#[]⟩=0;kernel_rfl
 go_enter Tryz.func54,Tryz.ntmps54
 go_wp2_with fail
 refine HC.out.mono ?_
 rintro e w1 ⟨rfl,rfl⟩
 rw[HZ.out]
 by_cases h:0<vl a
 ·have t1:decide (cmpI (vl a) 0 > 0)=true:=Aa3 (cmpI_gt.2 h)
  have t2:decide (0<cmpI (vl a) 0)=true:=t1
  have HD:=hI (Aa3 h)
  clear h
  go_wp2_with fail
  go_ret
  exact⟨by rw[HD.out];rfl,rfl⟩
 ·have t1:decide (cmpI (vl a) 0 > 0)=false:=Aa4 (fun x=>h (cmpI_gt.1 x))
  have t2:decide (0<cmpI (vl a) 0)=false:=t1
  have HD:=hI (Aa4 h)
  clear h
  go_wp2_with fail
  go_ret
  exact⟨by rw[HD.out];rfl,rfl⟩
theorem As6(a b:ByteArray)(ha:a.size≤1000000)(hb:b.size≤1000000)(w:World):Calls Tryz.prog 72 #[.string a,.string b] w fun e w'=>e=.returned (.string (if vl a<vl b then a else b))∧w=w':=by
 have HC:=hI (Ahh a b ha hb w)
 obtain⟨r,hr⟩:∃r,(if vl a<vl b then a else b)=r:=⟨_,rfl⟩
 rw[hr]
 have HR:=hI hr
 clear hr
 go_enter Tryz.func72,Tryz.ntmps72
 go_wp2_with fail
 refine HC.out.mono ?_
 rintro e w1 ⟨rfl,rfl⟩
 by_cases h:vl a<vl b
 ·have t1:decide (cmpI (vl a) (vl b)<0)=true:=Aa3 (cmpI_lt.2 h)
  have HD:Hid (a=r):=(if_pos h).symm.trans HR.out
  clear h
  go_wp2_with fail
  go_ret
  exact⟨by rw[HD.out];rfl,rfl⟩
 ·have t1:decide (cmpI (vl a) (vl b)<0)=false:=Aa4 (fun x=>h (cmpI_lt.1 x))
  have HD:Hid (b=r):=(if_neg h).symm.trans HR.out
  clear h
  go_wp2_with fail
  go_ret
  exact⟨by rw[HD.out];rfl,rfl⟩
theorem As7(m:Int)(w:World):Calls Tryz.prog 68 #[.int .i64 m] w fun e w'=>e=.returned (.bool (decide (1≤m∧m≤6)))∧w=w':=by
 by_cases h1:1≤m
 ·have t1:decide (m≥1)=true:=Aa3 h1
  have t2:decide (1≤m)=true:=t1
  by_cases h2:m≤6
  ·have t3:decide (m≤6)=true:=Aa3 h2
   have HD:=hI (Aa3 (And.intro h1 h2))
   clear h1 h2
   go_enter Tryz.func68,Tryz.ntmps68
   go_wp2_with fail
   go_ret
   exact⟨by rw[HD.out];rfl,rfl⟩
  ·have t3:decide (m≤6)=false:=Aa4 h2
   have HD:Hid (decide (1≤m∧m≤6)=false):=Aa4 (fun h=>h2 h.2)
   clear h1 h2
   go_enter Tryz.func68,Tryz.ntmps68
   go_wp2_with fail
   go_ret
   exact⟨by rw[HD.out];rfl,rfl⟩
 ·have t1:decide (m≥1)=false:=Aa4 h1
  have t2:decide (1≤m)=false:=t1
  have HD:Hid (decide (1≤m∧m≤6)=false):=Aa4 (fun h=>h1 h.1)
  clear h1
  go_enter Tryz.func68,Tryz.ntmps68
  go_wp2_with fail
  go_ret
  exact⟨by rw[HD.out];rfl,rfl⟩
def rtk(ps:List Pk)(id:ByteArray):ByteArray:=match pkOf ps id with|some p=>p.qty|none=>⟨#[]⟩
theorem As8{ps:List Pk}{id:ByteArray}(h:pkOf ps id=none):rtk ps id=⟨#[]⟩:=by unfold rtk;rw[h]
theorem As9{ps:List Pk}{id:ByteArray}{p:Pk}(h:pkOf ps id=some p):rtk ps id=p.qty:=by unfold rtk;rw[h]
theorem rtk_pks:∀(out:Am) (id:ByteArray),rtk (pksOf out) id=I (amt out id)
 | [],_=>rfl
 | a::r,id=>by
   have ih:=rtk_pks r id
   unfold rtk pkOf pksOf at ih ⊢
   rw[List.map_cons]
   by_cases h:a.1=id
   ·rw[amt,if_pos h,List.find?_cons_of_pos (by simp[h])]
   ·rw[amt,if_neg h,List.find?_cons_of_neg (by simp[h])];exact ih
theorem Ata{ps:List Pk}{k:Nat}{p:Pk}(h:ps[k]?=some p)(hn:∀x∈ps.take k,x.lot≠p.lot):pkOf ps p.lot=some p:=by
 obtain⟨A,B,rfl,hA⟩:=Asd h
 rw[←hA,List.take_left] at hn
 unfold pkOf
 rw[List.find?_append,show A.find? (fun x=>decide (x.lot=p.lot))=none from List.find?_eq_none.2 (fun x hx=>by simp;exact hn x hx),List.find?_cons_of_pos (by simp)]
 rfl
theorem Atb(n₀:Nat)(A:Option Addr)(ps:List Pk)(c:Nat)(hl:ps.length≤1000000)(id:ByteArray)(w:World)(hR:RdK n₀ w A ps):
 Calls Tryz.prog 26 #[.slice A ps.length c,.string id] w fun e w'=>e=.returned (.string (rtk ps id))∧w=w':=by
 have HR:=hI hR
 obtain⟨N,hN⟩:∃N,ps.length=N:=⟨_,rfl⟩
 rw[hN] at hl ⊢
 have HN:=hI hN
 obtain⟨r,hr⟩:∃r,rtk ps id=r:=⟨_,rfl⟩
 rw[hr]
 have HRT:=hI hr
 clear hR hN hr
 go_enter Tryz.func26,Tryz.ntmps26
 go_wp2_with fail
 go_loop [5] (fun v=>∃k:Nat,v=.int .i64 (k:Int)∧k≤N∧∀x∈ps.take k,x.lot≠id) (fun v=>N-(intOf v).toNat)
 case atStart=>exact⟨0,rfl,by omega,fun x hx=>by simp at hx⟩
 case round =>
  obtain⟨k,rfl,hk,hx⟩:=hrel
  have HX:=hI hx
  clear hx
  rcases Aam k N with hlt|hge
  ·obtain⟨p,hp⟩:∃p,ps[k]?=some p:=⟨_,Aae (by rw[HN.out];exact hlt)⟩
   obtain⟨ad,rfl,had,hcell⟩:=HR.out (by intro e;rw[e] at hp;cases hp)
   have hcx:decide ((k:Int)<(N:Int))=true:=by simp;omega
   obtain⟨c0,c1⟩:=hcell k p hp
   have HTK:=hI (Amq hp)
   have HP:=hI hp
   have e2:=Aj8 p.lot id
   clear hcell hp
   by_cases h1:p.lot=id
   ·rw[Aa3 h1] at e2
    have HQ:Hid (p.qty=r):=by rw[Hid,←HRT.out,←h1];exact (As9 (Ata HP.out (fun x hx=>by rw[h1];exact HX.out x hx))).symm
    clear h1
    go_wp2_with fail
    go_ret
    exact⟨by rw[HQ.out];rfl,rfl⟩
   ·rw[Aa4 h1] at e2
    have H1:=hI h1
    clear h1
    go_wp2_with fail
    go_round
    case rel =>
     refine⟨k+1,by go_num,by omega,fun x hx=>?_⟩
     rw[HTK.out,List.mem_append] at hx
     rcases hx with hx|hx
     ·exact HX.out x hx
     ·rw[List.mem_singleton] at hx;subst hx;exact H1.out
    case measure=>simp[intOf];omega
  ·have hcx:decide ((k:Int)<(N:Int))=false:=by simp;omega
   have HQ:Hid ((⟨#[]⟩:ByteArray)=r):=by
    rw[Hid,←HRT.out]
    exact (As8 (pkOf_none.2 (fun q hq=>HX.out q (by rw[Aai (by rw[HN.out];exact hge)];exact hq)))).symm
   go_wp2_with fail
   go_ret
   exact⟨by rw[←HQ.out];rfl,rfl⟩
structure TKAV(x:Lot)(wT w0:World)(Bo Bq Bx:Nat)(g0:Option Nat)(out:Am)(v:Value)(mo lf q l1 n:Int)(k:Nat)  (L:Array Bool) (W:World) (s8 s23 s24 s25 s26 s27:Value):Prop where
 k0:L.getD 0 false=true→s23=.string (I mo)
 k1:L.getD 1 false=true→s24=.string (I lf)
 k2:L.getD 2 false=true→s25=.string (I l1)
 k3:L.getD 3 false=true→s26=.string (I q)
 k4:L.getD 4 false=true→s27=.string (I n)
 k5:L.getD 5 false=true→s8=.string (I n)
 g:ChS wT w0 Bo Bq g0 (out,q) v W
 x:LotBox W Bx x
structure TKAJ(x:Lot)(wT w0:World)(Bo Bq Bx:Nat)(g0:Option Nat)(out:Am)(v:Value)(mo lf q l1 n:Int)(k:Nat)(x0 x5 x9 x10 x11 x12 x13 x14 x15 x16 x17 x18 x19 x20 x21 x22 x28 x29 x30 x31 x32 x33 x34 x35 x36 x37 x38 x39 x40 x41 x42 x43 x44 x45 x46 x47 x48 x49 x50 x51 x52 x53 x54:Value)(L:Array Bool)(a:Act)(W:World):Prop where
 sz:L.size=6
 fr:∃s8 s23 s24 s25 s26 s27:Value,a={tmps:=#[x0,.string (I mo),.pointer (some ⟨Bo,0,none⟩),.pointer (some ⟨Bq,0,none⟩),.pointer (some ⟨Bx,0,none⟩),x5,.int .i64 (k:Int),.string (I lf),s8,x9,x10,x11,x12,x13,x14,x15,x16,x17,x18,x19,x20,x21,x22,s23,s24,s25,s26,s27,x28,x29,x30,x31,x32,x33,x34,x35,x36,x37,x38,x39,x40,x41,x42,x43,x44,x45,x46,x47,x48,x49,x50,x51,x52,x53,x54],defers:=[]}∧TKAV x wT w0 Bo Bq Bx g0 out v mo lf q l1 n k  L W s8 s23 s24 s25 s26 s27
structure TKBV(x:Lot)(wT w0:World)(Bo Bq Bx:Nat)(g0:Option Nat)(out:Am)(v:Value)(mo lf q l1 n:Int)  (L:Array Bool) (W:World) (s8 s23 s24 s25 s26 s27:Value):Prop where
 k0:L.getD 0 false=true→s23=.string (I mo)
 k1:L.getD 1 false=true→s24=.string (I lf)
 k2:L.getD 2 false=true→s25=.string (I l1)
 k3:L.getD 3 false=true→s26=.string (I q)
 k4:L.getD 4 false=true→s27=.string (I n)
 k5:L.getD 5 false=true→s8=.string (I n)
 g:ChS wT w0 Bo Bq g0 (out,q) v W
 x:LotBox W Bx x
structure TKBJ(x:Lot)(wT w0:World)(Bo Bq Bx:Nat)(g0:Option Nat)(out:Am)(v:Value)(mo lf q l1 n:Int)(x0 x5 x9 x10 x11 x12 x13 x14 x15 x16 x17 x18 x19 x20 x21 x22 x28 x29 x30 x31 x32 x33 x34 x35 x36 x37 x38 x39 x40 x41 x42 x43 x44 x45 x46 x47 x48 x49 x50 x51 x52 x53 x54:Value)(L:Array Bool)(a:Act)(W:World):Prop where
 sz:L.size=6
 fr:∃s8 s23 s24 s25 s26 s27:Value,a={tmps:=#[x0,.string (I mo),.pointer (some ⟨Bo,0,none⟩),.pointer (some ⟨Bq,0,none⟩),.pointer (some ⟨Bx,0,none⟩),x5,.int .i64 (-1),.string (I lf),s8,x9,x10,x11,x12,x13,x14,x15,x16,x17,x18,x19,x20,x21,x22,s23,s24,s25,s26,s27,x28,x29,x30,x31,x32,x33,x34,x35,x36,x37,x38,x39,x40,x41,x42,x43,x44,x45,x46,x47,x48,x49,x50,x51,x52,x53,x54],defers:=[]}∧TKBV x wT w0 Bo Bq Bx g0 out v mo lf q l1 n  L W s8 s23 s24 s25 s26 s27
structure TKCV(x:Lot)(wT w0:World)(Bo Bq Bx:Nat)(g0:Option Nat)(out out2:Am)(ad:Addr)(N c k:Nat)(m n r q:Int)  (L:Array Bool) (W:World) (s41 s42 s43 s44 s45 s46 s47 s48 s49 s50 s51:Value):Prop where
 k0:L.getD 0 false=true→s41=.slice (some ad) N c
 k1:L.getD 1 false=true→s42=.int .i64 (k:Int)
 k2:L.getD 2 false=true→s43=.slice (some ad) N c
 k3:L.getD 3 false=true→s44=.int .i64 (k:Int)
 k4:L.getD 4 false=true→s45=.pointer (some (ad.add (k*2)))
 k5:L.getD 5 false=true→s46=.pointer (some ⟨(ad.add (k*2)).block,(ad.add (k*2)).off+1,none⟩)
 k6:L.getD 6 false=true→s47=.string (I m)
 k7:L.getD 7 false=true→s48=.string (I n)
 k8:L.getD 8 false=true→s49=.string (I r)
 k9:L.getD 9 false=true→s50=.pointer (some (ad.add (k*2)))
 k10:L.getD 10 false=true→s51=.pointer (some ⟨(ad.add (k*2)).block,(ad.add (k*2)).off+1,none⟩)
 r0:L.getD 11 false=false→ChS wT w0 Bo Bq g0 (out,q) (.slice (some ad) N c) W
 r1:L.getD 11 false=true→ChS wT w0 Bo Bq g0 (out2,q) (.slice (some ad) N c) W
 q1:L.getD 11 false=true→L.getD 6 false=true
 q8:L.getD 11 false=true→L.getD 8 false=true
 q68:L.getD 8 false=true→L.getD 6 false=true
structure TKCJ(x:Lot)(wT w0:World)(Bo Bq Bx:Nat)(g0:Option Nat)(out out2:Am)(ad:Addr)(N c k:Nat)(m n r q:Int)(x0 x1 x5 x7 x9 x10 x11 x12 x13 x14 x15 x16 x17 x18 x19 x20 x21 x22 x23 x24 x25 x26 x27 x28 x29 x30 x31 x32 x33 x34 x35 x36 x37 x38 x39 x40 x52 x53 x54:Value)(L:Array Bool)(a:Act)(W:World):Prop where
 sz:L.size=12
 fr:∃s41 s42 s43 s44 s45 s46 s47 s48 s49 s50 s51:Value,a={tmps:=#[x0,x1,.pointer (some ⟨Bo,0,none⟩),.pointer (some ⟨Bq,0,none⟩),.pointer (some ⟨Bx,0,none⟩),x5,.int .i64 (k:Int),x7,.string (I n),x9,x10,x11,x12,x13,x14,x15,x16,x17,x18,x19,x20,x21,x22,x23,x24,x25,x26,x27,x28,x29,x30,x31,x32,x33,x34,x35,x36,x37,x38,x39,x40,s41,s42,s43,s44,s45,s46,s47,s48,s49,s50,s51,x52,x53,x54],defers:=[]}∧TKCV x wT w0 Bo Bq Bx g0 out out2 ad N c k m n r q  L W s41 s42 s43 s44 s45 s46 s47 s48 s49 s50 s51
theorem Atc{x y:Int}{k:Nat}(hx:(I x).size≤k)(hy:(I y).size≤k):(I (min x y)).size≤k:=by
 rcases Int.le_total x y with h|h
 ·rw[Int.min_eq_left h];exact hx
 ·rw[Int.min_eq_right h];exact hy
theorem splitA{out:Am}{k:Nat}{x:ByteArray×Int}(h:out[k]?=some x):∃P Q,out=P++x::Q∧P.length=k:=by
 obtain⟨hk,he⟩:=Aak.1 h
 refine⟨out.take k,out.drop (k+1),?_,by rw[Aat];omega⟩
 rw[←he,←Aa2 hk,Aav]
theorem Atd{out:Am}{k:Nat}{id:ByteArray}{m:Int}(h:out[k]?=some (id,m))(hn:∀a∈out.take k,a.1≠id)(n:Int):amt out id=m∧addA out id n=out.set k (id,m+n):=by
 obtain⟨P,Q,rfl,hP⟩:=splitA h
 have e:(P++(id,m)::Q).take k=P:=by rw[←hP,List.take_left]
 rw[e] at hn
 refine⟨amt_hit P Q id m hn,?_⟩
 rw[addA_hit P Q id m n hn,List.set_append_right _ _ (by omega),←hP,Nat.sub_self];rfl
theorem Ate(wT w0:World)(Bo Bq:Nat)(g0:Option Nat)(out:Am)(q:Int)(v:Value)(x:Lot)(hx:x.sized)(hcq:Can x.qty)(mo:Int)(hne:Bo≠Bq)(hlen:out.length≤100000)
 (b1:(I q).size≤2000) (b2:∀a∈out,(I a.2).size≤2000) (b3:(I (vl x.qty-amt out x.id)).size≤2000) (b4:(I mo).size≤2000) (ht:Tabs wT) (w:World) (hS:ChS wT w0 Bo Bq g0 (out,q) v w) :
 Calls Tryz.prog 42 #[x.enc,.string (I mo),.pointer (some ⟨Bo,0,none⟩),.pointer (some ⟨Bq,0,none⟩)] w fun e w'=>e=.returned (.tuple #[])∧∃v',ChS wT w0 Bo Bq g0 (tk (out,q) x mo) v' w':=by
 obtain⟨W0,hW0⟩:∃W0,w.alloc (.cells x.cells 38)=W0:=⟨_,rfl⟩
 have hb0:Below w.heap.size w W0:=by rw[←hW0];exact (Below.refl _ w).alloc (Aad _) _
 have hx0:LotBox W0 w.heap.size x:=by rw[←hW0];exact Aa5 w _
 have hS0:=hS.below hb0
 obtain⟨A,c,hv,hc,hK⟩:=hS0.form
 have hpl:(pksOf (out,q).1).length=out.length:=by unfold pksOf;rw[Aar]
 have HI:=hI (Ar3 (fun p=>decide (p.lot=x.id)) 43 #[.pointer (some ⟨w.heap.size,0,none⟩)] W0.heap.size A (pksOf out) c (by rw[hpl];omega) W0 hK (Aad _) (Ar6 x w.heap.size W0 _ hx0))
 rw[hpl] at HI hv
 subst hv
 obtain⟨N,hN⟩:∃N,out.length=N:=⟨_,rfl⟩
 rw[hN] at HI hS0 hlen
 have HN:=hI hN
 have HS0:=hI hS0
 have HX0:=hI hx0
 have HSZ:=hI hx
 have HCQ:Hid (x.qty=I (vl x.qty)):=hcq.symm
 have HT:=hI ht
 have HB1:=hI b1
 have HB2:=hI b2
 have HB3:=hI b3
 have HB4:=hI b4
 have HNE:=hI hne
 have cb:=hS0.bo.cell
 have HADDA:=hI (fun (m n:Int) (hm:(I m).size≤2000) (hn:(I n).size≤2000) (W:World) (hW:Below wT.heap.size wT W)=>Agj (I m) (I n) W (by omega) (by omega) (ht.below hW))
 have HSUBB:=hI (fun (m n:Int) (hm:(I m).size≤2000) (hn:(I n).size≤2000) (W:World) (hW:Below wT.heap.size wT W)=>Agm (I m) (I n) W (by omega) (by omega) (ht.below hW))
 simp only[vl_I] at HADDA HSUBB
 have HQS:Hid ((I (vl x.qty)).size≤2000):=by have h1:=hx.2.2.1;rw[hcq.symm] at h1;exact Aap h1 (by decide)
 clear hS hS0 hb0 hx0 hx hcq ht b1 b2 b3 b4 hne hK hc hpl hN
 unfold Lot.enc Lot.cells at *
 go_enter Tryz.func42,Tryz.ntmps42
 go_wp2_with fail
 refine HI.out.mono ?_
 rintro e w1 ⟨⟨z,rfl,hz⟩,bz⟩
 have HS1:=hI (HS0.out.below bz)
 have HX1:=hI (HX0.out.below bz)
 clear bz cb HI HS0 HX0
 have c4:=Aaa HX1.out 4
 simp at c4
 rw[HCQ.out] at c4
 rcases hz with⟨k,p,rfl,hk,hp,hno⟩|⟨rfl,hno⟩
 ·have t1:decide ((k:Int)≥0)=true:=Aa3 (by omega)
  have t2:decide ((0:Int)≤(k:Int))=true:=t1
  obtain⟨a,ha,rfl⟩:∃a,out[k]?=some a∧p=⟨a.1,I a.2⟩:=by
   unfold pksOf at hk
   rw[List.getElem?_map] at hk
   obtain⟨a,ha,e⟩:=Option.map_eq_some_iff.1 hk
   exact⟨a,ha,e.symm⟩
  obtain⟨i,m⟩:=a
  obtain rfl:i=x.id:=by simpa using hp
  have hno2:∀a∈out.take k,a.1≠x.id:=by
   intro a ha e
   have:=hno ⟨a.1,I a.2⟩ (by unfold pksOf;rw[←List.map_take];exact List.mem_map.2 ⟨a,ha,rfl⟩)
   simp[e] at this
  have HSP:=fun n=>Atd ha hno2 n
  obtain⟨ad,rfl,g,had⟩:=HS1.out.spot (by unfold pksOf;rw[Aar];have:=(Aak.1 ha).1;show 0<out.length;omega)
  have HAD:=hI had
  have hk0:k<N:=by rw[←HN.out];exact (Aak.1 ha).1
  have HK0:=hI hk0
  have HAT:=hI ha
  have HAM:Hid (amt out x.id=m):=(HSP 0).1
  have HAA:=hI (fun n=>(HSP n).2)
  have HMS:Hid ((I m).size≤2000):=HB2.out _ (Aas ha)
  clear hno hno2 hp hk ha had HSP
  have cb:=HS1.out.bo.cell
  have cm:=(HS1.out.cells HAT.out).1
  have HSB:=hI (HSUBB.out (vl x.qty) m HQS.out HMS.out w1 HS1.out.outer)
  go_wp2_with fail
  refine HSB.out.mono ?_
  rintro e w2 ⟨rfl,bs⟩
  have HS2:=hI (HS1.out.below bs)
  have HX2:=hI (HX1.out.below bs)
  clear bs cb cm c4 HSB HS1 HX1
  have HLS:Hid ((I (vl x.qty-m)).size≤2000):=by have h:=HB3.out;rwa [HAM.out] at h
  obtain⟨l1,hl1⟩:∃l1,l1=min mo (vl x.qty-m):=⟨_,rfl⟩
  obtain⟨n,hn⟩:∃n,n=min l1 q:=⟨_,rfl⟩
  have HL1:=hI (fun W=>Ar2 mo (vl x.qty-m) (by have:=HB4.out;omega) (by have:=HLS.out;omega) W)
  have HNS:Hid ((I n).size≤2000):=by rw[hn,hl1];exact Atc (Atc HB4.out HLS.out) HB1.out
  have HL2:=hI (fun W=>Ar2 l1 q (by rw[hl1];have:=Atc HB4.out HLS.out;omega) (by have:=HB1.out;omega) W)
  rw[←hl1] at HL1
  rw[←hn] at HL2
  have HN0:Hid (n=min (min mo (vl x.qty-m)) q):=by rw[←hl1];exact hn
  clear hl1 hn
  have hgS:=HS2.out.drew
  have hxS:LotBox w2.drew w.heap.size x:=HX2.out
  go_wp2_with fail
  have mixed:Tryz.prog.follows .mixedOrders=true:=by kernel_rfl
  refine wp_region_any mixed (Akw (TKAJ x wT w0 Bo Bq w.heap.size g0 out (.slice (some ad) N c) mo (vl x.qty-m) q l1 n k _ _ _ _ _ _ _ _ _ _ _ _ _ _ _ _ _ _ _ _ _ _ _ _ _ _ _ _ _ _ _ _ _ _ _ _ _ _ _ _ _ _ _) ?stTKA ?dnTKA _ _ _ _ ⟨by simp,⟨_,_,_,_,_,_,rfl,fun h=>by simp at h,fun h=>by simp at h,fun h=>by simp at h,fun h=>by simp at h,fun h=>by simp at h,fun h=>by simp at h,hgS,hxS⟩⟩ (by decide))
  case dnTKA =>
   intro L a w' hj hr
   have all:=Akv hr hj.sz (by kernel_rfl)
   obtain⟨s8,s23,s24,s25,s26,s27,rfl,hv⟩:=hj.fr
   have e5:=hv.k5 (all 5 (by omega))
   subst e5
   have HS5:=hI hv.g
   have HX5:=hI hv.x
   clear all hv hj hr
   dsimp only
   have HTN:Hid (tkN (out,q) x mo=n):=by unfold tkN;show min (min mo (vl x.qty-amt out x.id)) q=n;rw[HAM.out,HN0.out]
   clear HL1 HL2
   have HPO:=hI (Ar0 (I n) (by have:=HNS.out;omega) w')
   rw[vl_I] at HPO
   go_wp2_with fail
   refine HPO.out.mono ?_
   rintro e w6 ⟨rfl,b6⟩
   have HS6:=hI (HS5.out.below b6)
   have HX6:=hI (HX5.out.below b6)
   clear b6 HPO HS5 HX5
   by_cases h0:0<n
   case neg =>
    rw[Aa4 h0]
    have HR:=hI (tk_no (st:=(out,q)) (x:=x) (most:=mo) (by rw[HTN.out];exact h0))
    clear h0
    go_wp2_with fail
    first|go_end0|(refine bodyPost_ret (results_none rfl _ _ _) rfl ?_)
    exact⟨rfl,_,by rw[HR.out];exact HS6.out⟩
   rw[Aa3 h0]
   have HR:=hI (Aqi (st:=(out,q)) (x:=x) (most:=mo) (by rw[HTN.out];exact h0))
   have HSUBA:=hI (fun W hW=>HSUBB.out q n HB1.out HNS.out W hW)
   clear h0
   obtain⟨r,hr⟩:∃r,m+n=r:=⟨_,rfl⟩
   have hadd:=HADDA.out m n HMS.out HNS.out
   rw[hr] at hadd
   have HADD:=hI hadd
   obtain⟨out2,ho2⟩:∃o,out.set k (x.id,r)=o:=⟨_,rfl⟩
   have HO2:=hI ho2
   have HRR:=hI hr
   clear ho2 hadd hr
   have t3:decide ((k:Int)<0)=false:=Aa4 (by omega)
   have hgS:=HS6.out.drew
   go_wp2_with fail
   have mixed:Tryz.prog.follows .mixedOrders=true:=by kernel_rfl
   refine wp_region_any mixed (Akw (TKCJ x wT w0 Bo Bq w.heap.size g0 out out2 ad N c k m n r q _ _ _ _ _ _ _ _ _ _ _ _ _ _ _ _ _ _ _ _ _ _ _ _ _ _ _ _ _ _ _ _ _ _ _ _ _ _ _) ?stTKC ?dnTKC _ _ _ _ ⟨by simp,⟨_,_,_,_,_,_,_,_,_,_,_,rfl,fun h=>by simp at h,fun h=>by simp at h,fun h=>by simp at h,fun h=>by simp at h,fun h=>by simp at h,fun h=>by simp at h,fun h=>by simp at h,fun h=>by simp at h,fun h=>by simp at h,fun h=>by simp at h,fun h=>by simp at h,fun _=>hgS,fun h=>by simp at h,fun h=>by simp at h,fun h=>by simp at h,fun h=>by simp at h⟩⟩ (by decide))
   case dnTKC =>
    intro L a w' hj hr
    have all:=Akv hr hj.sz (by kernel_rfl)
    obtain⟨s41,s42,s43,s44,s45,s46,s47,s48,s49,s50,s51,rfl,hv⟩:=hj.fr
    have HS10:=hI (hv.r1 (all 11 (by omega)))
    clear all hv hj hr
    dsimp only
    have hq:=HS10.out.bq.cell
    have hqf:=HS10.out.bq.frozen
    have HSUB:=hI (HSUBA.out w' HS10.out.outer)
    go_wp2_with fail
    refine HSUB.out.mono ?_
    rintro e w9 ⟨rfl,b9⟩
    have HS9:=hI (HS10.out.below b9)
    have hq9:=HS9.out.bq.cell
    have hqf9:=HS9.out.bq.frozen
    clear b9 HSUB hq hqf
    go_wp2_with fail
    go_end0
    exact⟨rfl,_,by rw[HR.out,HTN.out];show ChS _ _ _ _ _ (addA out x.id n,q-n) _ _;rw[HAA.out,HRR.out,HO2.out];exact HS9.out.setQ HNE.out (q-n)⟩
   case stTKC =>
    intro L a w' hj i hi
    obtain⟨hun,o,ho,hall⟩:=mem_ready.1 hi
    have hoff:=Akk hun
    have hlt:=(Aab.1 ho).1
    simp at hlt
    obtain⟨s41,s42,s43,s44,s45,s46,s47,s48,s49,s50,s51,rfl,hv⟩:=hj.fr
    have HV:=hI hv
    have HJ:=hI hj
    clear hv hj
    rcases (show i=0∨i=1∨i=2∨i=3∨i=4∨i=5∨i=6∨i=7∨i=8∨i=9∨i=10∨i=11 from by omega) with rfl|rfl|rfl|rfl|rfl|rfl|rfl|rfl|rfl|rfl|rfl|rfl
    all_goals simp at ho
    all_goals subst ho
    have hbo:w'.cell? ⟨Bo,0,none⟩=some (.slice (some ad) N c):=by rcases Akr L 11 with h|h;exact (HV.out.r0 h).bo.cell;exact (HV.out.r1 h).bo.cell
    rotate_left
    rotate_left
    have hbo:w'.cell? ⟨Bo,0,none⟩=some (.slice (some ad) N c):=by rcases Akr L 11 with h|h;exact (HV.out.r0 h).bo.cell;exact (HV.out.r1 h).bo.cell
    rotate_left
    rotate_left
    cases HV.out.k2 (Hq hall 2).out
    cases HV.out.k3 (Hq hall 3).out
    have hk:=HK0.out
    rotate_left
    cases HV.out.k4 (Hq hall 4).out
    rotate_left
    cases HV.out.k5 (Hq hall 5).out
    have ho:L.getD 11 false=false:=by rcases Akr L 11 with h|h;exact h;exact (Akq hoff (HV.out.q1 h)).elim
    have hc:=((HV.out.r0 ho).cells HAT.out).1
    rotate_left
    rotate_left
    ·have H6:=Hq hall 6
     cases HV.out.k6 (Hq hall 6).out
     cases HV.out.k7 (Hq hall 7).out
     clear hall hi
     refine Akt rfl fun K' HK=>?_
     go_simp
     refine (HADD.out w' (HV.out.r0 (by rcases Akr L 11 with h|h;exact h;exact (Akq hoff (HV.out.q8 h)).elim)).outer).mono ?_
     rintro e wn ⟨rfl,bn⟩
     cases HV.out
     refine HK.out _ _ ⟨by simp[HJ.out.sz],⟨_,_,_,_,_,_,_,_,_,_,_,rfl,?_,?_,?_,?_,?_,?_,?_,?_,fun _=>rfl,?_,?_,fun h=>(HV.out.r0 (Dz h)).below bn,fun h=>(HV.out.r1 (Uz h)).below bn,fun h=>Akm hun (HV.out.q1 (Uz h)),fun h=>Akm hun (HV.out.q8 (Uz h)),fun _=>Akm hun H6.out⟩⟩
     all_goals exact Um (by assumption)
    cases HV.out.k0 (Hq hall 0).out
    cases HV.out.k1 (Hq hall 1).out
    have hk:=HK0.out
    rotate_left
    cases HV.out.k9 (Hq hall 9).out
    rotate_left
    ·have H8:=Hq hall 8
     cases HV.out.k10 (Hq hall 10).out
     cases HV.out.k8 (Hq hall 8).out
     clear hall hi
     have hc:=((HV.out.r0 hoff).cells HAT.out).1
     have hf:=((HV.out.r0 hoff).cells HAT.out).2
     have hg2:=(HV.out.r0 hoff).sto HAD.out HAT.out r
     rw[HO2.out] at hg2
     refine Akt rfl fun K' HK=>?_
     go_simp
     cases HV.out
     refine HK.out _ _ ⟨by simp[HJ.out.sz],⟨_,_,_,_,_,_,_,_,_,_,_,rfl,?_,?_,?_,?_,?_,?_,?_,?_,?_,?_,?_,fun h=>(Akq h (Aki hun)).elim,fun _=>hg2,fun _=>Akm hun (HV.out.q68 H8.out),fun _=>Akm hun H8.out,fun h=>Akm hun (HV.out.q68 (Uz h))⟩⟩
     all_goals exact Um (by assumption)
    all_goals
     clear hall hi
     refine Akt rfl fun K' HK=>?_
     go_simp
     cases HV.out
     refine HK.out _ _ ⟨by simp[HJ.out.sz],?_⟩
     iterate 11 apply Exists.intro
     refine⟨rfl,?_⟩
     constructor
     all_goals first|exact Um (by assumption)|exact Un (by assumption)|exact Uf (by assumption)|exact fun _=>rfl|assumption|exact Uq hun (by assumption)|exact Uq2 hun (by assumption)|exact Uq3 hun (by assumption)
  case stTKA =>
   intro L a w' hj i hi
   obtain⟨hun,o,ho,hall⟩:=mem_ready.1 hi
   have hoff:=Akk hun
   have hlt:=(Aab.1 ho).1
   simp at hlt
   obtain⟨s8,s23,s24,s25,s26,s27,rfl,hv⟩:=hj.fr
   have HV:=hI hv
   have HJ:=hI hj
   clear hv hj
   rcases (show i=0∨i=1∨i=2∨i=3∨i=4∨i=5 from by omega) with rfl|rfl|rfl|rfl|rfl|rfl
   all_goals simp at ho
   all_goals subst ho
   rotate_left
   rotate_left
   ·cases HV.out.k0 (Hq hall 0).out
    cases HV.out.k1 (Hq hall 1).out
    clear hall hi
    refine Akt rfl fun K' HK=>?_
    go_simp
    refine (HL1.out w').mono ?_
    rintro e wn ⟨rfl,bn⟩
    cases HV.out
    refine HK.out _ _ ⟨by simp[HJ.out.sz],⟨_,_,_,_,_,_,rfl,?_,?_,fun _=>rfl,?_,?_,?_,HV.out.g.below bn,HV.out.x.below bn⟩⟩
    all_goals exact Um (by assumption)
   have hq:=HV.out.g.bq.cell
   rotate_left
   ·cases HV.out.k2 (Hq hall 2).out
    cases HV.out.k3 (Hq hall 3).out
    clear hall hi
    refine Akt rfl fun K' HK=>?_
    go_simp
    refine (HL2.out w').mono ?_
    rintro e wn ⟨rfl,bn⟩
    cases HV.out
    refine HK.out _ _ ⟨by simp[HJ.out.sz],⟨_,_,_,_,_,_,rfl,?_,?_,?_,?_,fun _=>rfl,?_,HV.out.g.below bn,HV.out.x.below bn⟩⟩
    all_goals exact Um (by assumption)
   cases HV.out.k4 (Hq hall 4).out
   rotate_left
   all_goals
    clear hall hi
    refine Akt rfl fun K' HK=>?_
    go_simp
    cases HV.out
    refine HK.out _ _ ⟨by simp[HJ.out.sz],?_⟩
    iterate 6 apply Exists.intro
    refine⟨rfl,?_⟩
    constructor
    all_goals first|exact Um (by assumption)|exact Un (by assumption)|exact Uf (by assumption)|exact fun _=>rfl|assumption
 ·have hno2:∀a∈out,a.1≠x.id:=by
   intro a ha e
   have:=hno ⟨a.1,I a.2⟩ (by unfold pksOf;exact List.mem_map.2 ⟨a,ha,rfl⟩)
   simp[e] at this
  have HAM:Hid (amt out x.id=0):=amt_none out x.id hno2
  have HAA:=hI (fun n=>addA_none out x.id n hno2)
  clear hno hno2
  obtain⟨v,hv⟩:∃v,Value.slice A N c=v:=⟨_,rfl⟩
  rw[hv] at HS1
  have HVV:=hI hv
  clear hv
  obtain⟨l1,hl1⟩:∃l1,l1=min mo (vl x.qty):=⟨_,rfl⟩
  obtain⟨n,hn⟩:∃n,n=min l1 q:=⟨_,rfl⟩
  have HL1:=hI (fun W=>Ar2 mo (vl x.qty) (by have:=HB4.out;omega) (by have:=HQS.out;omega) W)
  have HNS:Hid ((I n).size≤2000):=by rw[hn,hl1];exact Atc (Atc HB4.out HQS.out) HB1.out
  have HL2:=hI (fun W=>Ar2 l1 q (by rw[hl1];have:=Atc HB4.out HQS.out;omega) (by have:=HB1.out;omega) W)
  rw[←hl1] at HL1
  rw[←hn] at HL2
  have HN0:Hid (n=min (min mo (vl x.qty)) q):=by rw[←hl1];exact hn
  clear hl1 hn
  have hgS:=HS1.out.drew
  have hxS:LotBox w1.drew w.heap.size x:=HX1.out
  go_wp2_with fail
  have mixed:Tryz.prog.follows .mixedOrders=true:=by kernel_rfl
  refine wp_region_any mixed (Akw (TKBJ x wT w0 Bo Bq w.heap.size g0 out v mo (vl x.qty) q l1 n _ _ _ _ _ _ _ _ _ _ _ _ _ _ _ _ _ _ _ _ _ _ _ _ _ _ _ _ _ _ _ _ _ _ _ _ _ _ _ _ _ _ _) ?stTKB ?dnTKB _ _ _ _ ⟨by simp,⟨_,_,_,_,_,_,rfl,fun h=>by simp at h,fun h=>by simp at h,fun h=>by simp at h,fun h=>by simp at h,fun h=>by simp at h,fun h=>by simp at h,hgS,hxS⟩⟩ (by decide))
  case dnTKB =>
   intro L a w' hj hr
   have all:=Akv hr hj.sz (by kernel_rfl)
   obtain⟨s8,s23,s24,s25,s26,s27,rfl,hv⟩:=hj.fr
   have e5:=hv.k5 (all 5 (by omega))
   subst e5
   have HS5:=hI hv.g
   have HX5:=hI hv.x
   clear all hv hj hr
   dsimp only
   have HTN:Hid (tkN (out,q) x mo=n):=by unfold tkN;show min (min mo (vl x.qty-amt out x.id)) q=n;rw[HAM.out,HN0.out];congr 1;congr 1;omega
   clear HL1 HL2
   have HPO:=hI (Ar0 (I n) (by have:=HNS.out;omega) w')
   rw[vl_I] at HPO
   go_wp2_with fail
   refine HPO.out.mono ?_
   rintro e w6 ⟨rfl,b6⟩
   have HS6:=hI (HS5.out.below b6)
   have HX6:=hI (HX5.out.below b6)
   clear b6 HPO HS5 HX5
   by_cases h0:0<n
   case neg =>
    rw[Aa4 h0]
    have HR:=hI (tk_no (st:=(out,q)) (x:=x) (most:=mo) (by rw[HTN.out];exact h0))
    clear h0
    go_wp2_with fail
    first|go_end0|(refine bodyPost_ret (results_none rfl _ _ _) rfl ?_)
    exact⟨rfl,_,by rw[HR.out];exact HS6.out⟩
   rw[Aa3 h0]
   have HR:=hI (Aqi (st:=(out,q)) (x:=x) (most:=mo) (by rw[HTN.out];exact h0))
   have HSUBA:=hI (fun W hW=>HSUBB.out q n HB1.out HNS.out W hW)
   clear h0
   have cb:=HS6.out.bo.cell
   have fb:=HS6.out.bo.frozen
   rw[←HVV.out] at cb
   have c0:=Aaa HX6.out 0
   simp at c0
   obtain⟨W7,hW7⟩:∃W7,w6.alloc (.cells (⟨x.id,⟨#[]⟩⟩:Pk).cells 43)=W7:=⟨_,rfl⟩
   have b7:Below w6.heap.size w6 W7:=by rw[←hW7];exact (Below.refl _ w6).alloc (Aad _) _
   have k7:PkBox W7 w6.heap.size ⟨x.id,⟨#[]⟩⟩:=by rw[←hW7];exact Aa5 w6 _
   have hS7:=HS6.out.below b7
   obtain⟨g,cap,w8,r8,o8,g8,l8⟩:=As4 W7 wT.heap.size v _ _ ⟨x.id,⟨#[]⟩⟩ w6.heap.size 1 hS7.row k7 (by show (pksOf out).length≤_;unfold pksOf;rw[Aar,HN.out];omega) hS7.outer.size
   have hpl:(pksOf out).length=N:=by unfold pksOf;rw[Aar,HN.out]
   rw[show (pksOf (out,q).1).length=N from hpl] at r8 o8
   have e8:pksOf out++[(⟨x.id,⟨#[]⟩⟩:Pk)]=pksOf (out++[(x.id,0)]):=by unfold pksOf;rw[List.map_append];rfl
   have hS8:=hS7.app (out':=out++[(x.id,0)]) g8 (by
    have h:=o8
    rw[show flatK (pksOf (out,q).1)++(⟨x.id,⟨#[]⟩⟩:Pk).cells.toList=flatK (pksOf (out++[(x.id,0)])) from by rw[←e8,Arv];rfl] at h
    rw[show (pksOf (out++[(x.id,(0:Int))])).length=N+1 from by rw[←e8,Aan,hpl];rfl];exact h) (by
    rcases l8 with l8|l8
    ·exact .inl l8.symm
    ·right;intro g' e';injection e' with e';rw[←e',l8];exact Aad _)
   have HS8:=hI hS8
   have cb8:=((hS7.bo.kept g8 (hS7.bo.not_row (by decide) hS7.row))).cell
   have fb8:=((hS7.bo.kept g8 (hS7.bo.not_row (by decide) hS7.row))).frozen
   rw[←HVV.out] at r8
   have t3:decide ((-1:Int)<0)=true:=rfl
   clear hS7 hS8 k7 b7 o8 g8 l8 e8 hpl
   unfold Pk.cells at hW7
   go_upto_region 10 with (at_builtin;refine Lib.wpList_append_run _ rfl _ _ _ _ rfl _ _ rfl rfl _ _ r8 ?_)
   obtain⟨ad,had⟩:∃ad:Addr,ad=⟨g,0,none⟩:=⟨_,rfl⟩
   obtain⟨M,hM⟩:∃M,N+1=M:=⟨_,rfl⟩
   rw[←had,hM] at HS8 ⊢
   have HAD:=hI had
   have HAT:Hid ((out++[(x.id,(0:Int))])[N]?=some (x.id,0)):=by rw[Hid,Aa1 (by rw[HN.out];omega),HN.out,Nat.sub_self];rfl
   have HK0:Hid (N<M):=by show N<M;omega
   obtain⟨r,hr⟩:∃r,0+n=r:=⟨_,rfl⟩
   have hadd:=HADDA.out 0 n (by decide) HNS.out
   rw[hr] at hadd
   have HADD:=hI hadd
   have HO2:Hid ((out++[(x.id,(0:Int))]).set N (x.id,r)=out++[(x.id,n)]):=by rw[Hid,←hr,List.set_append_right _ _ (by rw[HN.out];omega),HN.out,Nat.sub_self,Int.zero_add];rfl
   clear hadd hr
   have hgS:=HS8.out.drew
   clear had hM r8 cb fb c0 cb8 fb8
   have mixed:Tryz.prog.follows .mixedOrders=true:=by kernel_rfl
   refine wp_region_any mixed (Akw (TKCJ x wT w0 Bo Bq w.heap.size g0 (out++[(x.id,0)]) (out++[(x.id,n)]) ad M cap N 0 n r q _ _ _ _ _ _ _ _ _ _ _ _ _ _ _ _ _ _ _ _ _ _ _ _ _ _ _ _ _ _ _ _ _ _ _ _ _ _ _) ?stTKC ?dnTKC _ _ _ _ ⟨by simp,⟨_,_,_,_,_,_,_,_,_,_,_,rfl,fun h=>by simp at h,fun h=>by simp at h,fun h=>by simp at h,fun h=>by simp at h,fun h=>by simp at h,fun h=>by simp at h,fun h=>by simp at h,fun h=>by simp at h,fun h=>by simp at h,fun h=>by simp at h,fun h=>by simp at h,fun _=>hgS,fun h=>by simp at h,fun h=>by simp at h,fun h=>by simp at h,fun h=>by simp at h⟩⟩ (by decide))
   case dnTKC =>
    intro L a w' hj hr
    have all:=Akv hr hj.sz (by kernel_rfl)
    obtain⟨s41,s42,s43,s44,s45,s46,s47,s48,s49,s50,s51,rfl,hv⟩:=hj.fr
    have HS10:=hI (hv.r1 (all 11 (by omega)))
    clear all hv hj hr
    dsimp only
    have hq:=HS10.out.bq.cell
    have hqf:=HS10.out.bq.frozen
    have HSUB:=hI (HSUBA.out w' HS10.out.outer)
    go_wp2_with fail
    refine HSUB.out.mono ?_
    rintro e w9 ⟨rfl,b9⟩
    have HS9:=hI (HS10.out.below b9)
    have hq9:=HS9.out.bq.cell
    have hqf9:=HS9.out.bq.frozen
    clear b9 HSUB hq hqf
    go_wp2_with fail
    go_end0
    exact⟨rfl,_,by rw[HR.out,HTN.out];show ChS _ _ _ _ _ (addA out x.id n,q-n) _ _;rw[HAA.out];exact HS9.out.setQ HNE.out (q-n)⟩
   case stTKC =>
    intro L a w' hj i hi
    obtain⟨hun,o,ho,hall⟩:=mem_ready.1 hi
    have hoff:=Akk hun
    have hlt:=(Aab.1 ho).1
    simp at hlt
    obtain⟨s41,s42,s43,s44,s45,s46,s47,s48,s49,s50,s51,rfl,hv⟩:=hj.fr
    have HV:=hI hv
    have HJ:=hI hj
    clear hv hj
    rcases (show i=0∨i=1∨i=2∨i=3∨i=4∨i=5∨i=6∨i=7∨i=8∨i=9∨i=10∨i=11 from by omega) with rfl|rfl|rfl|rfl|rfl|rfl|rfl|rfl|rfl|rfl|rfl|rfl
    all_goals simp at ho
    all_goals subst ho
    have hbo:w'.cell? ⟨Bo,0,none⟩=some (.slice (some ad) M cap):=by rcases Akr L 11 with h|h;exact (HV.out.r0 h).bo.cell;exact (HV.out.r1 h).bo.cell
    rotate_left
    rotate_left
    have hbo:w'.cell? ⟨Bo,0,none⟩=some (.slice (some ad) M cap):=by rcases Akr L 11 with h|h;exact (HV.out.r0 h).bo.cell;exact (HV.out.r1 h).bo.cell
    rotate_left
    rotate_left
    cases HV.out.k2 (Hq hall 2).out
    cases HV.out.k3 (Hq hall 3).out
    have hk:=HK0.out
    rotate_left
    cases HV.out.k4 (Hq hall 4).out
    rotate_left
    cases HV.out.k5 (Hq hall 5).out
    have ho:L.getD 11 false=false:=by rcases Akr L 11 with h|h;exact h;exact (Akq hoff (HV.out.q1 h)).elim
    have hc:=((HV.out.r0 ho).cells HAT.out).1
    rotate_left
    rotate_left
    ·have H6:=Hq hall 6
     cases HV.out.k6 (Hq hall 6).out
     cases HV.out.k7 (Hq hall 7).out
     clear hall hi
     refine Akt rfl fun K' HK=>?_
     go_simp
     refine (HADD.out w' (HV.out.r0 (by rcases Akr L 11 with h|h;exact h;exact (Akq hoff (HV.out.q8 h)).elim)).outer).mono ?_
     rintro e wn ⟨rfl,bn⟩
     cases HV.out
     refine HK.out _ _ ⟨by simp[HJ.out.sz],⟨_,_,_,_,_,_,_,_,_,_,_,rfl,?_,?_,?_,?_,?_,?_,?_,?_,fun _=>rfl,?_,?_,fun h=>(HV.out.r0 (Dz h)).below bn,fun h=>(HV.out.r1 (Uz h)).below bn,fun h=>Akm hun (HV.out.q1 (Uz h)),fun h=>Akm hun (HV.out.q8 (Uz h)),fun _=>Akm hun H6.out⟩⟩
     all_goals exact Um (by assumption)
    cases HV.out.k0 (Hq hall 0).out
    cases HV.out.k1 (Hq hall 1).out
    have hk:=HK0.out
    rotate_left
    cases HV.out.k9 (Hq hall 9).out
    rotate_left
    ·have H8:=Hq hall 8
     cases HV.out.k10 (Hq hall 10).out
     cases HV.out.k8 (Hq hall 8).out
     clear hall hi
     have hc:=((HV.out.r0 hoff).cells HAT.out).1
     have hf:=((HV.out.r0 hoff).cells HAT.out).2
     have hg2:=(HV.out.r0 hoff).sto HAD.out HAT.out r
     rw[HO2.out] at hg2
     refine Akt rfl fun K' HK=>?_
     go_simp
     cases HV.out
     refine HK.out _ _ ⟨by simp[HJ.out.sz],⟨_,_,_,_,_,_,_,_,_,_,_,rfl,?_,?_,?_,?_,?_,?_,?_,?_,?_,?_,?_,fun h=>(Akq h (Aki hun)).elim,fun _=>hg2,fun _=>Akm hun (HV.out.q68 H8.out),fun _=>Akm hun H8.out,fun h=>Akm hun (HV.out.q68 (Uz h))⟩⟩
     all_goals exact Um (by assumption)
    all_goals
     clear hall hi
     refine Akt rfl fun K' HK=>?_
     go_simp
     cases HV.out
     refine HK.out _ _ ⟨by simp[HJ.out.sz],?_⟩
     iterate 11 apply Exists.intro
     refine⟨rfl,?_⟩
     constructor
     all_goals first|exact Um (by assumption)|exact Un (by assumption)|exact Uf (by assumption)|exact fun _=>rfl|assumption|exact Uq hun (by assumption)|exact Uq2 hun (by assumption)|exact Uq3 hun (by assumption)
  case stTKB =>
   intro L a w' hj i hi
   obtain⟨hun,o,ho,hall⟩:=mem_ready.1 hi
   have hoff:=Akk hun
   have hlt:=(Aab.1 ho).1
   simp at hlt
   obtain⟨s8,s23,s24,s25,s26,s27,rfl,hv⟩:=hj.fr
   have HV:=hI hv
   have HJ:=hI hj
   clear hv hj
   rcases (show i=0∨i=1∨i=2∨i=3∨i=4∨i=5 from by omega) with rfl|rfl|rfl|rfl|rfl|rfl
   all_goals simp at ho
   all_goals subst ho
   rotate_left
   rotate_left
   ·cases HV.out.k0 (Hq hall 0).out
    cases HV.out.k1 (Hq hall 1).out
    clear hall hi
    refine Akt rfl fun K' HK=>?_
    go_simp
    refine (HL1.out w').mono ?_
    rintro e wn ⟨rfl,bn⟩
    cases HV.out
    refine HK.out _ _ ⟨by simp[HJ.out.sz],⟨_,_,_,_,_,_,rfl,?_,?_,fun _=>rfl,?_,?_,?_,HV.out.g.below bn,HV.out.x.below bn⟩⟩
    all_goals exact Um (by assumption)
   have hq:=HV.out.g.bq.cell
   rotate_left
   ·cases HV.out.k2 (Hq hall 2).out
    cases HV.out.k3 (Hq hall 3).out
    clear hall hi
    refine Akt rfl fun K' HK=>?_
    go_simp
    refine (HL2.out w').mono ?_
    rintro e wn ⟨rfl,bn⟩
    cases HV.out
    refine HK.out _ _ ⟨by simp[HJ.out.sz],⟨_,_,_,_,_,_,rfl,?_,?_,?_,?_,fun _=>rfl,?_,HV.out.g.below bn,HV.out.x.below bn⟩⟩
    all_goals exact Um (by assumption)
   cases HV.out.k4 (Hq hall 4).out
   rotate_left
   all_goals
    clear hall hi
    refine Akt rfl fun K' HK=>?_
    go_simp
    cases HV.out
    refine HK.out _ _ ⟨by simp[HJ.out.sz],?_⟩
    iterate 6 apply Exists.intro
    refine⟨rfl,?_⟩
    constructor
    all_goals first|exact Um (by assumption)|exact Un (by assumption)|exact Uf (by assumption)|exact fun _=>rfl|assumption
theorem Atf{a b:List Lot}(h:a.Perm b)(hid:(b.map Lot.id).Nodup)(id:ByteArray):lotOf a id=lotOf b id:=by
 have hida:(a.map Lot.id).Nodup:=(h.map Lot.id).nodup_iff.2 hid
 cases hb:lotOf b id with
 | none=>exact lotOf_none.2 (fun x hx=>lotOf_none.1 hb x (h.mem_iff.1 hx))
 | some x =>
   obtain⟨h1,rfl⟩:=Aqn hb
   exact Aqp hida (h.mem_iff.2 h1)
theorem tk_ref{own:List Lot}{q0:Int}{st:Am×Int}(h:InvA own q0 st){x:Lot}(hx:x∈own){mo:Int}(hm:0≤mo):tk st x mo=((if tkN st x mo=0 then st.1 else addA st.1 x.id (tkN st x mo)),st.2-tkN st x mo):=by
 have h0:=Aqk h hx hm
 by_cases h1:tkN st x mo=0
 ·rw[tk_no (by omega),if_pos h1,h1,Int.sub_zero]
 ·rw[Aqi (by omega),if_neg h1]
theorem tkN_all{own:List Lot}{q0:Int}{st:Am×Int}(h:InvA own q0 st)(x:Lot):tkN st x (vl x.qty)=min (vl x.qty-amt st.1 x.id) st.2:=by
 have:=h.nn x.id
 unfold tkN;omega
theorem rtk_in{ps:List Pk}(hp:∀p∈ps,p.qty≠⟨#[]⟩)(id:ByteArray):rtk ps id=⟨#[]⟩↔id ∉ ps.map Pk.lot:=by
 cases h:pkOf ps id with
 | none =>
   rw[As8 h]
   refine⟨fun _ hm=>?_,fun _=>rfl⟩
   obtain⟨p,h1,h2⟩:=List.mem_map.1 hm
   exact pkOf_none.1 h p h1 h2
 | some p =>
   rw[As9 h]
   obtain⟨h1,h2⟩:=Aqu h
   exact⟨fun e=>absurd e (hp p h1),fun hm=>absurd (List.mem_map.2 ⟨p,h1,h2⟩) hm⟩
theorem Atg{a:ByteArray}(h:0<vl a):a≠⟨#[]⟩:=fun e=>by
 rw[e] at h
 exact absurd h (by decide)
theorem Ath(ls:List Lot)(x:Lot)(ps:List Pk):restR (ls++[x]) ps=restR ls ps++(leftO ps x).toList:=by
 unfold restR
 rw[List.filterMap_append]
 cases h:leftO ps x<;>simp[h]
theorem RdB.wid{n₀ n₁:Nat}{w:World}{A:Option Addr}{ls:List SLot}(h:RdB n₀ w A ls)(hn:n₀≤n₁):RdB n₁ w A ls:=by
 intro hl
 obtain⟨ad,rfl,h1,h2⟩:=h hl
 exact⟨ad,rfl,Aah h1 hn,h2⟩
theorem Ati{P:Program}{ops:Array Oper}{o:Oper}{a:Act}{K:Act→World→Prop}{Q:Exit→Act→World→Prop}{E:Prop}{t ty:TypeId}{sv xv v':Value}{w w':World}(hr:(Builtin.append_ #[t,t] ty #[sv,xv]).run P w=.ok v' w')(hgd:o.guard=none)(s x:Operand)
 (ho:o.op=.call {callee:=.builtin .append,args:=#[s,x],argTypes:=#[t,t]}) (hty:o.type=ty) (hs:a.eval s=sv) (hx:a.eval x=xv) (h:K (a.put o.dst v') w') :
 if Region.wanted o (yielded ops a.tmps)=true then Oper.wp P o a w K Q else E:=by
 subst hty
 have hw:Region.wanted o (yielded ops a.tmps)=true:=by simp[Region.wanted,hgd]
 rw[if_pos hw]
 unfold Oper.wp execOp
 simp only[ho,resolve,invoke,builtin,Sem.run_bind,Sem.run_pure,Result.andThen_ok,List.map_toArray,List.map_cons,List.map_nil,hs,hx,hr]
 exact h
theorem insW_at{p:Lot→Bool}{x:Lot}{l:List Lot}{k:Nat}(hk:k≤l.length)(h1:∀y∈l.take k,p y=true)(h2:∀y,l[k]?=some y→p y=false):insW p x l=l.take k++x::l.drop k:=by
 have e:l=l.take k++l.drop k:=(Aav k l).symm
 have hd:∀y r,l.drop k=y::r→p y=false:=fun y r hr=>h2 y (by
  have h:=congrArg List.head? hr
  rw[List.head?_drop] at h
  exact h)
 unfold insW
 conv=>lhs;rw[e]
 rw[List.takeWhile_append_of_pos h1,List.dropWhile_append_of_pos h1]
 cases hc:l.drop k with
 | nil=>simp
 | cons y r =>
   have hy:=hd y r hc
   rw[List.takeWhile_cons_of_neg (by rw[hy];exact Aaz),List.dropWhile_cons_of_neg (by rw[hy];exact Aaz)]
   simp
theorem Atj(m:Int)(l:List Lot)(x:Lot):Aqd m (l++[x])=insW (fun y=>bfr m y x) x (Aqd m l):=by unfold Aqd;rw[List.foldl_append];rfl
theorem Atk(m:Int):∀l:List Lot,(Aqd m l).length=l.length:=fun l=>by
 obtain⟨n,hn⟩:∃n,l.length=n:=⟨_,rfl⟩
 induction n generalizing l with
 | zero=>rw[Aag hn];rfl
 | succ n ih =>
   have hne:l≠[]:=by intro e;rw[e] at hn;cases hn
   obtain⟨l',x,rfl⟩:∃l' x,l=l'++[x]:=⟨_,_,(List.dropLast_concat_getLast hne).symm⟩
   rw[Atj,(Ap4 _ _ _).length_eq,Aa0,ih l' (by simpa using hn)]
   simp
structure BFV(wS:World)(x y:Lot)(B0 B1:Nat)(m z:Int)  (L:Array Bool) (W:World) (s7 s8 s9 s10 s11 s12 s13 s14 s15 s16 s17 s18:Value):Prop where
 k0:L.getD 0 false=true→s8=.pointer (some ⟨B0,5,none⟩)
 k1:L.getD 1 false=true→s9=.string x.cost
 k2:L.getD 2 false=true→s10=.pointer (some ⟨B1,4,none⟩)
 k3:L.getD 3 false=true→s11=.string y.qty
 k4:L.getD 4 false=true→s12=.string (I (vl x.cost*vl y.qty))
 k5:L.getD 5 false=true→s13=.pointer (some ⟨B1,5,none⟩)
 k6:L.getD 6 false=true→s14=.string y.cost
 k7:L.getD 7 false=true→s15=.pointer (some ⟨B0,4,none⟩)
 k8:L.getD 8 false=true→s16=.string x.qty
 k9:L.getD 9 false=true→s17=.string (I (vl y.cost*vl x.qty))
 k10:L.getD 10 false=true→s18=.int .i64 z
 k11:L.getD 11 false=true→s7=.int .i64 z
 g:Below wS.heap.size wS W
structure BFJ(wS:World)(x y:Lot)(B0 B1:Nat)(m z:Int)(x0 x1 x5 x6 x19 x20 x21 x22 x23 x24 x25 x26 x27 x28 x29 x30 x31 x32 x33 x34 x35 x36 x37 x38 x39 x40 x41 x42 x43 x44 x45 x46:Value)(L:Array Bool)(a:Act)(W:World):Prop where
 sz:L.size=12
 fr:∃s7 s8 s9 s10 s11 s12 s13 s14 s15 s16 s17 s18:Value,a={tmps:=#[x0,x1,.int .i64 m,.pointer (some ⟨B0,0,none⟩),.pointer (some ⟨B1,0,none⟩),x5,x6,s7,s8,s9,s10,s11,s12,s13,s14,s15,s16,s17,s18,x19,x20,x21,x22,x23,x24,x25,x26,x27,x28,x29,x30,x31,x32,x33,x34,x35,x36,x37,x38,x39,x40,x41,x42,x43,x44,x45,x46],defers:=[]}∧BFV wS x y B0 B1 m z  L W s7 s8 s9 s10 s11 s12 s13 s14 s15 s16 s17 s18
theorem Atm(a b:Lot)(ha:a.sized)(hb:b.sized)(m:Int)(w:World):Calls Tryz.prog 111 #[a.enc,b.enc,.int .i64 m] w fun e w'=>e=.returned (.bool (bfr m a b))∧Below w.heap.size w w':=by
 obtain⟨W0,W1,hW0,hW1,hB,hsz,k0,k1⟩:=lbox2 a b w
 obtain⟨_,_,a3,a4,_⟩:=id ha
 obtain⟨_,_,b3,b4,_⟩:=id hb
 have HK0:=hI k0
 have HK1:=hI k1
 have HB:=hI hB
 have HM1:=hI (fun W=>rMul_any a.cost b.qty (by omega) (by omega) W)
 have HM2:=hI (fun W=>rMul_any b.cost a.qty (by omega) (by omega) W)
 obtain⟨z,hz⟩:∃z,cmpI (vl a.cost*vl b.qty) (vl b.cost*vl a.qty)=z:=⟨_,rfl⟩
 have s1:(I (vl a.cost*vl b.qty)).size≤1000000:=Aap (Aen (Aer (vl_lt a.cost) (vl_lt b.qty))) (by omega)
 have s2:(I (vl b.cost*vl a.qty)).size≤1000000:=Aap (Aen (Aer (vl_lt b.cost) (vl_lt a.qty))) (by omega)
 have hcm:=fun W=>Ahh (I (vl a.cost*vl b.qty)) (I (vl b.cost*vl a.qty)) s1 s2 W
 rw[vl_I,vl_I,hz] at hcm
 have HCM:=hI hcm
 obtain⟨r,hr⟩:∃r,bfr m a b=r:=⟨_,rfl⟩
 have HR:Hid ((if m=3∧z≠0 then decide (0<z) else if m=4∧z≠0 then decide (z<0) else if m=2 then decide (b.acq<a.acq) else decide (a.acq≤b.acq))=r):=by rw[Hid,←hr];unfold bfr;rw[hz]
 have hgS:Below W1.heap.size W1 W1.drew:=(Below.refl _ _).drew
 rw[hr]
 clear k0 k1 hB a3 a4 b3 b4 s1 s2 hcm hz hr ha hb
 unfold Lot.enc Lot.cells at *
 go_enter Tryz.func111,Tryz.ntmps111
 go_upto_region 1 with fail
 have mixed:Tryz.prog.follows .mixedOrders=true:=by kernel_rfl
 refine wp_region_any mixed (Akw (BFJ W1 a b w.heap.size (w.heap.size+1) m z _ _ _ _ _ _ _ _ _ _ _ _ _ _ _ _ _ _ _ _ _ _ _ _ _ _ _ _ _ _ _ _) ?stBF ?dnBF _ _ _ _ ⟨by simp,⟨_,_,_,_,_,_,_,_,_,_,_,_,rfl,fun h=>by simp at h,fun h=>by simp at h,fun h=>by simp at h,fun h=>by simp at h,fun h=>by simp at h,fun h=>by simp at h,fun h=>by simp at h,fun h=>by simp at h,fun h=>by simp at h,fun h=>by simp at h,fun h=>by simp at h,fun h=>by simp at h,hgS⟩⟩ (by decide))
 case dnBF =>
  intro L a w' hj hr
  have all:=Akv hr hj.sz (by kernel_rfl)
  obtain⟨s7,s8,s9,s10,s11,s12,s13,s14,s15,s16,s17,s18,rfl,hv⟩:=hj.fr
  have e11:=hv.k11 (all 11 (by omega))
  subst e11
  have HF:=hI (HB.out.trans (hv.g.mono HB.out.size))
  have hk0:=HK0.out.below hv.g
  have hk1:=HK1.out.below hv.g
  have c0:=Aaa hk0 2
  have d0:=Aaa hk1 2
  simp[Lot.cells] at c0 d0
  clear all hv hj hr hk0 hk1 HM1 HM2 HCM HK0 HK1
  dsimp only
  by_cases h3:m=3
  ·have t3:(m==3)=true:=beq_iff_eq.2 h3
   by_cases h0:z=0
   ·have t0:(z==0)=true:=beq_iff_eq.2 h0
    have t0':(z != 0)=false:=by rw[bne,t0];rfl
    have t4:(m==4)=false:=Aaj.2 (by omega)
    have t2:(m==2)=false:=Aaj.2 (by omega)
    have HRR:Hid (decide (a.acq≤b.acq)=r):=by rw[Hid,←HR.out,if_neg (fun x=>x.2 h0),if_neg (by omega),if_neg (by omega)]
    clear h3 h0
    go_wp2_with fail
    go_ret
    exact⟨by rw[←HRR.out];rfl,HF.out⟩
   ·have t0:(z==0)=false:=Aaj.2 h0
    have t0':(z != 0)=true:=by rw[bne,t0];rfl
    have HRR:Hid (decide (0<z)=r):=by rw[Hid,←HR.out,if_pos ⟨h3,h0⟩]
    clear h3 h0
    go_wp2_with fail
    go_ret
    exact⟨by rw[←HRR.out];rfl,HF.out⟩
  have t3:(m==3)=false:=Aaj.2 h3
  by_cases h4:m=4
  ·have t4:(m==4)=true:=beq_iff_eq.2 h4
   by_cases h0:z=0
   ·have t0:(z==0)=true:=beq_iff_eq.2 h0
    have t0':(z != 0)=false:=by rw[bne,t0];rfl
    have t2:(m==2)=false:=Aaj.2 (by omega)
    have HRR:Hid (decide (a.acq≤b.acq)=r):=by rw[Hid,←HR.out,if_neg (fun x=>h3 x.1),if_neg (fun x=>x.2 h0),if_neg (by omega)]
    clear h3 h4 h0
    go_wp2_with fail
    go_ret
    exact⟨by rw[←HRR.out];rfl,HF.out⟩
   ·have t0:(z==0)=false:=Aaj.2 h0
    have t0':(z != 0)=true:=by rw[bne,t0];rfl
    have HRR:Hid (decide (z<0)=r):=by rw[Hid,←HR.out,if_neg (fun x=>h3 x.1),if_pos ⟨h4,h0⟩]
    clear h3 h4 h0
    go_wp2_with fail
    go_ret
    exact⟨by rw[←HRR.out];rfl,HF.out⟩
  have t4:(m==4)=false:=Aaj.2 h4
  by_cases h2:m=2
  ·have t2:(m==2)=true:=beq_iff_eq.2 h2
   have HRR:Hid (decide (b.acq<a.acq)=r):=by rw[Hid,←HR.out,if_neg (fun x=>h3 x.1),if_neg (fun x=>h4 x.1),if_pos h2]
   clear h2 h3 h4
   go_wp2_with fail
   go_ret
   exact⟨by rw[←HRR.out];rfl,HF.out⟩
  have t2:(m==2)=false:=Aaj.2 h2
  have HRR:Hid (decide (a.acq≤b.acq)=r):=by rw[Hid,←HR.out,if_neg (fun x=>h3 x.1),if_neg (fun x=>h4 x.1),if_neg h2]
  clear h2 h3 h4
  go_wp2_with fail
  go_ret
  exact⟨by rw[←HRR.out];rfl,HF.out⟩
 case stBF =>
  intro L a w' hj i hi
  obtain⟨hun,o,ho,hall⟩:=mem_ready.1 hi
  have hoff:=Akk hun
  have hlt:=(Aab.1 ho).1
  simp at hlt
  obtain⟨s7,s8,s9,s10,s11,s12,s13,s14,s15,s16,s17,s18,rfl,hv⟩:=hj.fr
  have HV:=hI hv
  have HJ:=hI hj
  clear hv hj
  rcases (show i=0∨i=1∨i=2∨i=3∨i=4∨i=5∨i=6∨i=7∨i=8∨i=9∨i=10∨i=11 from by omega) with rfl|rfl|rfl|rfl|rfl|rfl|rfl|rfl|rfl|rfl|rfl|rfl
  all_goals simp at ho
  all_goals subst ho
  rotate_left
  cases HV.out.k0 (Hq hall 0).out
  have hk:=HK0.out.below HV.out.g
  obtain⟨c0,c1,c2,c3,c4,c5,c6⟩:=lbc hk
  rotate_left
  rotate_left
  cases HV.out.k2 (Hq hall 2).out
  have hk:=HK1.out.below HV.out.g
  obtain⟨c0,c1,c2,c3,c4,c5,c6⟩:=lbc hk
  rotate_left
  ·cases HV.out.k1 (Hq hall 1).out
   cases HV.out.k3 (Hq hall 3).out
   clear hall hi
   refine Akt rfl fun K' HK=>?_
   go_simp
   refine (HM1.out w').mono ?_
   rintro e wn ⟨rfl,bn⟩
   cases HV.out
   refine HK.out _ _ ⟨by simp[HJ.out.sz],⟨_,_,_,_,_,_,_,_,_,_,_,_,rfl,?_,?_,?_,?_,fun _=>rfl,?_,?_,?_,?_,?_,?_,?_,HV.out.g.trans (bn.mono HV.out.g.size)⟩⟩
   all_goals exact Um (by assumption)
  rotate_left
  cases HV.out.k5 (Hq hall 5).out
  have hk:=HK1.out.below HV.out.g
  obtain⟨c0,c1,c2,c3,c4,c5,c6⟩:=lbc hk
  rotate_left
  rotate_left
  cases HV.out.k7 (Hq hall 7).out
  have hk:=HK0.out.below HV.out.g
  obtain⟨c0,c1,c2,c3,c4,c5,c6⟩:=lbc hk
  rotate_left
  ·cases HV.out.k6 (Hq hall 6).out
   cases HV.out.k8 (Hq hall 8).out
   clear hall hi
   refine Akt rfl fun K' HK=>?_
   go_simp
   refine (HM2.out w').mono ?_
   rintro e wn ⟨rfl,bn⟩
   cases HV.out
   refine HK.out _ _ ⟨by simp[HJ.out.sz],⟨_,_,_,_,_,_,_,_,_,_,_,_,rfl,?_,?_,?_,?_,?_,?_,?_,?_,?_,fun _=>rfl,?_,?_,HV.out.g.trans (bn.mono HV.out.g.size)⟩⟩
   all_goals exact Um (by assumption)
  ·cases HV.out.k4 (Hq hall 4).out
   cases HV.out.k9 (Hq hall 9).out
   clear hall hi
   refine Akt rfl fun K' HK=>?_
   go_simp
   refine (HCM.out w').mono ?_
   rintro e wn ⟨rfl,rfl⟩
   cases HV.out
   refine HK.out _ _ ⟨by simp[HJ.out.sz],⟨_,_,_,_,_,_,_,_,_,_,_,_,rfl,?_,?_,?_,?_,?_,?_,?_,?_,?_,?_,fun _=>rfl,?_,HV.out.g⟩⟩
   all_goals exact Um (by assumption)
  cases HV.out.k10 (Hq hall 10).out
  rotate_left
  all_goals
   clear hall hi
   refine Akt rfl fun K' HK=>?_
   go_simp
   cases HV.out
   refine HK.out _ _ ⟨by simp[HJ.out.sz],?_⟩
   iterate 12 apply Exists.intro
   refine⟨rfl,?_⟩
   constructor
   all_goals first|exact Um (by assumption)|exact Un (by assumption)|exact Uf (by assumption)|exact fun _=>rfl|assumption
theorem Atn(w:World)(base:Nat)(v:Value)(n:Nat)(xs:List Value)(hown:w.ownsRow base 38 7 v n xs)(A:Option Addr)(m c:Nat)(ls:List SLot)(n₁:Nat)(hR:RdB n₁ w A ls)(hl:ls.length=m)(hA:A=none→m=0∧c=0)(hnm:n+m≤200000)(hb:base≤w.heap.size):
 ∃v' w',(Builtin.append_ #[22,22] 22 #[v,.slice A m c]).run Tryz.prog w=.ok v' w'∧w'.ownsRow base 38 7 v' (n+m) (xs++flatL ls)∧w.grownBy w' v.ownBlock∧(v'.ownBlock=v.ownBlock∨v'.ownBlock=some w.heap.size):=by
 obtain⟨i0,hi0,hz0,hz1,hz2⟩:=info_parts Tryz.infoLot
 cases A with
 | some ad =>
   obtain⟨v',w',h1,h2,h3,_,h5⟩:=run_append_own_at (P:=Tryz.prog) w base 22 22 38 i0 _ 7 96 Tryz.underlying22 hi0 hz0 hz1 hz2 rfl (by decide) v n xs hown ad m c (flatL ls) (by rw[Ans,hl]) hR.flat (Ant _) (by unfold maxLen;omega) (by omega) hb
   exact⟨v',w',h1,h2,h3,h5⟩
 | none =>
   obtain⟨rfl,rfl⟩:=hA rfl
   obtain rfl:ls=[]:=Aag hl
   refine⟨v,w,?_,by simpa[flatL] using hown,⟨rfl,rfl,rfl,Aad _,fun _ _ _=>rfl⟩,.inl rfl⟩
   rcases hown.2 with⟨rfl,rfl⟩|⟨g,cap,cur,rfl,hbg,hg,hnc,_,_,_⟩
   ·simp[Builtin.append_,run_underlying Tryz.underlying22,sizeOf,typeInfo,hi0,Builtin.lenOf,Builtin.firstCells,loadCells,loadCellsFrom]
   ·simp[Builtin.append_,run_underlying Tryz.underlying22,sizeOf,typeInfo,hi0,Builtin.lenOf,Builtin.firstCells,loadCells,loadCellsFrom,hnc,storeCells]
theorem Atp{α:Type}(r:List α)(j:Nat)(x:α):insAt r j x≠[]:=by unfold insAt;simp
theorem Atq{m:Int}{r pre:List SLot}{x:SLot}{j:Nat}(he:r.map Subtype.val=Aqd m (pre.map Subtype.val))(hj:j≤r.length)(h1:∀y∈r.take j,bfr m y.1 x.1=true)(h2:∀y,r[j]?=some y→bfr m y.1 x.1=false):
 (insAt r j x).map Subtype.val=Aqd m ((pre++[x]).map Subtype.val):=by
 rw[List.map_append,List.map_cons,List.map_nil,Atj,←he,insW_at (k:=j) (by rw[Aar];exact hj) (fun y hy=>?_) (fun y hy=>?_)]
 ·unfold insAt
  rw[List.map_append,List.map_cons,List.map_take,List.map_drop]
 ·rw[←List.map_take] at hy
  obtain⟨z,hz,rfl⟩:=List.mem_map.1 hy
  exact h1 z hz
 ·rw[List.getElem?_map] at hy
  obtain⟨z,hz,rfl⟩:=Option.map_eq_some_iff.1 hy
  exact h2 z hz
structure SoP(w W:World)(m:Int)(pre:List SLot)(Ar:Option Addr)(cr:Nat)(r:List SLot):Prop where
 eq:r.map Subtype.val=Aqd m (pre.map Subtype.val)
 rd:RdB W.heap.size W Ar r
 cap:r.length≤cr
 nil:Ar=none→r.length=0∧cr=0
 be:Below w.heap.size w W
structure SAV(wS:World)(x y:Lot)(ad ad2:Addr)(M cr N c k j:Nat)(m:Int)(t:Bool)  (L:Array Bool) (W:World) (s14 s15 s16 s17 s18 s19 s20 s21 s22 s23 s24 s25 s26 s27 s28 s29:Value):Prop where
 k0:L.getD 0 false=true→s14=.int .i64 (j:Int)
 k1:L.getD 1 false=true→s15=.slice (some ad2) M cr
 k2:L.getD 2 false=true→s16=.int .i64 (M:Int)
 k3:L.getD 3 false=true→s17=.bool true
 k4:L.getD 4 false=true→s18=.bool true
 k5:L.getD 5 false=true→s19=.slice (some ad2) M cr
 k6:L.getD 6 false=true→s20=.int .i64 (j:Int)
 k7:L.getD 7 false=true→s21=.pointer (some (ad2.add (j*7)))
 k8:L.getD 8 false=true→s22=.agg #[.string y.id,.string y.inst,.int .i64 y.acq,.int .i64 y.opn,.string y.qty,.string y.cost,.string y.used]
 k9:L.getD 9 false=true→s23=.slice (some ad) N c
 k10:L.getD 10 false=true→s24=.int .i64 (k:Int)
 k11:L.getD 11 false=true→s25=.pointer (some (ad.add (k*7)))
 k12:L.getD 12 false=true→s26=.agg #[.string x.id,.string x.inst,.int .i64 x.acq,.int .i64 x.opn,.string x.qty,.string x.cost,.string x.used]
 k13:L.getD 13 false=true→s27=.int .i64 m
 k14:L.getD 14 false=true→s28=.bool t
 k15:L.getD 15 false=true→s29=.bool t
 g:Below wS.heap.size wS W
structure SAJ(wS:World)(x y:Lot)(ad ad2:Addr)(M cr N c k j:Nat)(m:Int)(t:Bool)(x2 x3 x4 x8 x9 x10 x11 x12 x13 x30 x31 x32 x33 x34 x35 x36 x37 x38 x39 x40 x41 x42 x43 x44 x45 x46 x47:Value)(L:Array Bool)(a:Act)(W:World):Prop where
 sz:L.size=16
 fr:∃s14 s15 s16 s17 s18 s19 s20 s21 s22 s23 s24 s25 s26 s27 s28 s29:Value,a={tmps:=#[.slice (some ad) N c,.int .i64 m,x2,x3,x4,.slice (some ad2) M cr,.int .i64 (k:Int),.int .i64 (j:Int),x8,x9,x10,x11,x12,x13,s14,s15,s16,s17,s18,s19,s20,s21,s22,s23,s24,s25,s26,s27,s28,s29,x30,x31,x32,x33,x34,x35,x36,x37,x38,x39,x40,x41,x42,x43,x44,x45,x46,x47],defers:=[]}∧SAV wS x y ad ad2 M cr N c k j m t  L W s14 s15 s16 s17 s18 s19 s20 s21 s22 s23 s24 s25 s26 s27 s28 s29
structure SBV(wS:World)(x:Lot)(Ar A2:Option Addr)(ad:Addr)(M cr N c k j:Nat)(m:Int)(r:List SLot)(Bn:Nat)(L:Array Bool)(W:World)(s5 s32 s33 s34 s35 s36 s37 s38 s39 s40 s41 s42 s43 s44 s45 s46:Value):Prop where
 k1:L.getD 1 false=true→s33=.slice Ar M cr
 k2:L.getD 2 false=true→s34=.int .i64 (j:Int)
 k3:L.getD 3 false=true→s35=.slice Ar j cr
 k5:L.getD 5 false=true→s37=.slice (some ad) N c
 k6:L.getD 6 false=true→s38=.int .i64 (k:Int)
 k7:L.getD 7 false=true→s39=.pointer (some (ad.add (k*7)))
 k8:L.getD 8 false=true→s40=.agg #[.string x.id,.string x.inst,.int .i64 x.acq,.int .i64 x.opn,.string x.qty,.string x.cost,.string x.used]
 k9:L.getD 9 false=true→s41=.slice (some ⟨Bn,0,none⟩) 1 1
 k11:L.getD 11 false=true→s43=.slice Ar M cr
 k12:L.getD 12 false=true→s44=.int .i64 (j:Int)
 k13:L.getD 13 false=true→s45=.slice A2 (M-j) (cr-j)
 g:Below wS.heap.size wS W
 o0:L.getD 0 false=true→L.getD 4 false=false→W.ownsRow wS.heap.size 38 7 s32 0 []
 o4:L.getD 4 false=true→L.getD 10 false=false→W.ownsRow wS.heap.size 38 7 s36 j (flatL (r.take j))
 o10:L.getD 10 false=true→L.getD 14 false=false→W.ownsRow wS.heap.size 38 7 s42 (j+1) (flatL (r.take j)++x.cells.toList)
 o14:L.getD 14 false=true→L.getD 15 false=false→W.ownsRow wS.heap.size 38 7 s46 (j+1+(M-j)) (flatL (r.take j)++x.cells.toList++flatL (r.drop j))
 o15:L.getD 15 false=true→W.ownsRow wS.heap.size 38 7 s5 (j+1+(M-j)) (flatL (r.take j)++x.cells.toList++flatL (r.drop j))
 b9:L.getD 9 false=true→L.getD 10 false=false→LotBox W Bn x
 n0:L.getD 0 false=true→L.getD 4 false=false→L.getD 9 false=true→s32.ownBlock≠some Bn
 n4:L.getD 4 false=true→L.getD 10 false=false→L.getD 9 false=true→s36.ownBlock≠some Bn
 z5:L.getD 15 false=false→s5=.slice Ar M cr
 q4:L.getD 4 false=true→L.getD 0 false=true
 q10:L.getD 10 false=true→L.getD 4 false=true∧L.getD 9 false=true
 q14:L.getD 14 false=true→L.getD 10 false=true
 q15:L.getD 15 false=true→L.getD 14 false=true∧L.getD 1 false=true∧L.getD 11 false=true
structure SBJ(wS:World)(x:Lot)(Ar A2:Option Addr)(ad:Addr)(M cr N c k j:Nat)(m:Int)(r:List SLot)(x2 x3 x4 x8 x9 x10 x11 x12 x13 x14 x15 x16 x17 x18 x19 x20 x21 x22 x23 x24 x25 x26 x27 x28 x29 x30 x31 x47:Value)(L:Array Bool)(a:Act)(W:World):Prop where
 sz:L.size=16
 fr:∃Bn:Nat,∃s5 s32 s33 s34 s35 s36 s37 s38 s39 s40 s41 s42 s43 s44 s45 s46:Value,a={tmps:=#[.slice (some ad) N c,.int .i64 m,x2,x3,x4,s5,.int .i64 (k:Int),.int .i64 (j:Int),x8,x9,x10,x11,x12,x13,x14,x15,x16,x17,x18,x19,x20,x21,x22,x23,x24,x25,x26,x27,x28,x29,x30,x31,s32,s33,s34,s35,s36,s37,s38,s39,s40,s41,s42,s43,s44,s45,s46,x47],defers:=[]}∧SBV wS x Ar A2 ad M cr N c k j m r Bn L W s5 s32 s33 s34 s35 s36 s37 s38 s39 s40 s41 s42 s43 s44 s45 s46
theorem Atr(n₀:Nat)(A:Option Addr)(sl:List SLot)(c:Nat)(hlen:sl.length≤10000)(m:Int)(w:World)(hR:RdB n₀ w A sl)(hn:n₀≤w.heap.size):
 Calls Tryz.prog 70 #[.slice A sl.length c,.int .i64 m] w fun e w'=>∃Ar cr r,e=.returned (.slice Ar r.length cr)∧SoP w w' m sl Ar cr r:=by
 obtain⟨N,hN⟩:∃N,sl.length=N:=⟨_,rfl⟩
 rw[hN] at hlen ⊢
 have HR:=hI (hR.wid hn)
 have HN:=hI hN
 have HL:=hI hlen
 clear hR hn hN
 go_enter Tryz.func70,Tryz.ntmps70
 go_wp2_with fail
 go_loopw [5,6] (fun u v wr=>∃(k:Nat) (Ar:Option Addr) (cr:Nat) (r:List SLot),v=.int .i64 (k:Int)∧u=.slice Ar r.length cr∧k≤N∧SoP w wr m (sl.take k) Ar cr r) (fun _ v _=>N-(intOf v).toNat)
 case atStart=>exact⟨0,none,0,[],rfl,rfl,Nat.zero_le _,⟨rfl,fun h=>absurd rfl h,Aad _,fun _=>⟨rfl,rfl⟩,Below.refl _ _⟩⟩
 case round =>
  obtain⟨k,Ar,cr,r,rfl,rfl,hk,hso⟩:=hrel
  have HSO:=hI hso
  have HBE:=hI hso.be
  obtain⟨M,hM⟩:∃M,r.length=M:=⟨_,rfl⟩
  rw[hM]
  have HM:=hI hM
  have hMk:M=k:=by have h:=congrArg List.length hso.eq;rw[Aar,Atk,Aar,Aat,HN.out] at h;rw[←hM,h];exact Nat.min_eq_left hk
  have hMl:M≤10000:=by omega
  have HML:=hI hMl
  have HSL:=hI (fun j (hj:j≤M)=>sl_lo Ar M cr j (by rw[←hM];exact hso.nil) hj (by rw[←hM];exact hso.cap))
  have HSH:=hI (fun j (hj:j≤M)=>sl_hi Ar M cr j (by rw[←hM];exact hso.nil) hj (by rw[←hM];exact hso.cap))
  clear hso hM hMk
  rcases Aam k N with hlt|hge
  ·obtain⟨x,hx⟩:∃x,sl[k]?=some x:=⟨_,Aae (by rw[HN.out];exact hlt)⟩
   obtain⟨x,hxs⟩:=x
   obtain⟨ad,rfl,had,hcell⟩:=HR.out (by intro e;rw[e] at hx;cases hx)
   have hcx:decide ((k:Int)<(N:Int))=true:=by simp;omega
   have HXS:=hI hxs
   have HXK:=hI hx
   have HXA:Hid (LotAt wr (ad.add (k*7)) x∧(ad.add (k*7)).block<wr.heap.size):=⟨(hcell k _ hx).below HBE.out (by rw[Acv];exact had),by rw[Acv];exact Aah had HBE.out.size⟩
   have HKI:Hid ((k:Int)<(N:Int)):=by show (k:Int)<_;omega
   clear hx hcell
   go_wp2_with fail
   clear hcx
   generalize hwo:wr=wo at *
   clear hwo
   go_loopw [7] (fun v wr=>∃j:Nat,v=.int .i64 (j:Int)∧j≤M∧(∀y∈r.take j,bfr m y.1 x=true)∧Below wo.heap.size wo wr) (fun v _=>M-(intOf v).toNat)
   case atStart=>exact⟨0,rfl,Nat.zero_le _,(fun y hy=>by simp at hy),Below.refl _ _⟩
   case round =>
    obtain⟨j,rfl,hj,hpre,hb2⟩:=hrel
    have HPRE:=hI hpre
    have HBR:=hI hb2
    have HJL:=hI hj
    clear hpre hb2
    rcases Aam j M with hlt2|hge2
    ·obtain⟨y,hy⟩:∃y,r[j]?=some y:=⟨_,Aae (by rw[HM.out];exact hlt2)⟩
     obtain⟨ad2,rfl,had2,hcell2⟩:=HSO.out.rd (by intro e;rw[e] at hy;cases hy)
     have HYK:=hI hy
     have HJM:Hid (decide ((j:Int)<(M:Int))=true∧(j:Int)<(M:Int)):=⟨Aa3 (by omega),by omega⟩
     obtain⟨t,ht⟩:∃t,bfr m y.1 x=t:=⟨_,rfl⟩
     have hbf:=fun W=>Atm y.1 x y.2 HXS.out m W
     rw[ht] at hbf
     unfold Lot.enc Lot.cells at hbf
     have HBF:=hI hbf
     have HTB:=hI ht
     have hbd:Below wo.heap.size wo wr.drew:=HBR.out.trans ((Below.refl _ _).drew.mono HBR.out.size)
     have HYC:Hid (LotAt wr.drew (ad2.add (j*7)) y.1∧(ad2.add (j*7)).block<wr.drew.heap.size):=⟨(hcell2 j _ hy).below hbd (by rw[Acv];exact had2),by rw[Acv];exact Aah had2 hbd.size⟩
     have HXC:Hid (LotAt wr.drew (ad.add (k*7)) x∧(ad.add (k*7)).block<wr.drew.heap.size):=⟨HXA.out.1.below hbd HXA.out.2,Aah HXA.out.2 hbd.size⟩
     clear hy hcell2 ht hbf had2 hbd
     go_upto_region 6 with fail
     have hgS:Below wr.drew.heap.size wr.drew wr.drew:=Below.refl _ _
     have mixed:Tryz.prog.follows .mixedOrders=true:=by kernel_rfl
     refine wp_region_any mixed (Akw (SAJ wr.drew x y.1 ad ad2 M cr N c k j m t _ _ _ _ _ _ _ _ _ _ _ _ _ _ _ _ _ _ _ _ _ _ _ _ _ _ _) ?stSA ?dnSA _ _ _ _ ⟨by simp,⟨_,_,_,_,_,_,_,_,_,_,_,_,_,_,_,_,rfl,fun h=>by simp at h,fun h=>by simp at h,fun h=>by simp at h,fun h=>by simp at h,fun h=>by simp at h,fun h=>by simp at h,fun h=>by simp at h,fun h=>by simp at h,fun h=>by simp at h,fun h=>by simp at h,fun h=>by simp at h,fun h=>by simp at h,fun h=>by simp at h,fun h=>by simp at h,fun h=>by simp at h,fun h=>by simp at h,hgS⟩⟩ (by decide))
     case dnSA =>
      intro L a w' hj hr
      have all:=Akv hr hj.sz (by kernel_rfl)
      obtain⟨s14,s15,s16,s17,s18,s19,s20,s21,s22,s23,s24,s25,s26,s27,s28,s29,rfl,hv⟩:=hj.fr
      have e15:=hv.k15 (all 15 (by omega))
      subst e15
      have HB7:=hI (HBR.out.trans ((show Below wr.heap.size wr w' from (Below.refl _ _).drew.trans hv.g).mono HBR.out.size))
      clear all hv hj hr HBF
      dsimp only
      cases ht:t
      case true =>
       have HT1:Hid (bfr m y.1 x=true):=HTB.out.trans ht
       subst ht
       go_wp2_with fail
       go_roundw
       case rel =>
        refine⟨j+1,by go_num,by omega,fun z hz=>?_,HB7.out⟩
        rw[Amq HYK.out,List.mem_append] at hz
        rcases hz with hz|hz
        ·exact HPRE.out z hz
        ·rw[List.mem_singleton] at hz;subst hz;exact HT1.out
       case measure=>simp[intOf];omega
      have HNX:Hid (∀z,r[j]?=some z→bfr m z.1 x=false):=fun z hz=>by rw[HYK.out] at hz;injection hz with hz;rw[←hz];exact HTB.out.trans ht
      subst ht
      generalize hwz:w'=wz at *
      clear hwz
      go_upto_region 8 with fail
      obtain⟨A2,hs2,hA2,hR2⟩:=HSH.out j HJL.out
      have HS1:=hI (HSL.out j HJL.out)
      have HS2:=hI hs2
      have HAD:=hI hA2
      have HRD:=hI (fun n W (h:RdB n W (some ad2) r)=>hR2 n W r h HM.out)
      have HTJ:Hid ((r.take j).length=j):=by rw[Hid,Aat,HM.out];exact Nat.min_eq_left HJL.out
      have HDJ:Hid ((r.drop j).length=M-j):=by rw[Hid,List.length_drop,HM.out]
      have HAJ:Hid ((some ad2)=none→j=0∧cr=0):=fun e=>by have h:=HSO.out.nil e;rw[HM.out] at h;have:=HJL.out;omega
      have HBJ:Hid (0+j≤200000):=by have:=HJL.out;have:=HML.out;show _≤_;omega
      have HBJ2:Hid (j≤200000):=by have:=HJL.out;have:=HML.out;show _≤_;omega
      have HBJ3:Hid (j+1+(M-j)≤200000):=by have:=HJL.out;have:=HML.out;show _≤_;omega
      have HBQ:Hid (Below w.heap.size w (wz.drew)):=HBE.out.trans ((HB7.out.trans ((Below.refl _ _).drew.mono HB7.out.size)).mono HBE.out.size)
      have HRR:Hid (RdB (wz.drew).heap.size (wz.drew) (some ad2) r):=(HSO.out.rd.below (HB7.out.trans ((Below.refl _ _).drew.mono HB7.out.size))).wid (HB7.out.trans ((Below.refl _ _).drew.mono HB7.out.size)).size
      have HXC:Hid (LotAt (wz.drew) (ad.add (k*7)) x∧(ad.add (k*7)).block<(wz.drew).heap.size):=⟨HXA.out.1.below (HB7.out.trans ((Below.refl _ _).drew.mono HB7.out.size)) HXA.out.2,Aah HXA.out.2 (HB7.out.trans ((Below.refl _ _).drew.mono HB7.out.size)).size⟩
      have hgS:Below (wz.drew).heap.size (wz.drew) (wz.drew):=Below.refl _ _
      clear hs2 hA2 hR2
      have mixed:Tryz.prog.follows .mixedOrders=true:=by kernel_rfl
      refine wp_region_any mixed (Akw (SBJ (wz.drew) x (some ad2) A2 ad M cr N c k j m r _ _ _ _ _ _ _ _ _ _ _ _ _ _ _ _ _ _ _ _ _ _ _ _ _ _ _ _) ?stSB ?dnSB _ _ _ _ ⟨by simp,⟨0,_,_,_,_,_,_,_,_,_,_,_,_,_,_,_,_,rfl,fun h=>by simp at h,fun h=>by simp at h,fun h=>by simp at h,fun h=>by simp at h,fun h=>by simp at h,fun h=>by simp at h,fun h=>by simp at h,fun h=>by simp at h,fun h=>by simp at h,fun h=>by simp at h,fun h=>by simp at h,hgS,fun h=>by simp at h,fun h=>by simp at h,fun h=>by simp at h,fun h=>by simp at h,fun h=>by simp at h,fun h=>by simp at h,fun h=>by simp at h,fun h=>by simp at h,fun _=>rfl,fun h=>by simp at h,fun h=>by simp at h,fun h=>by simp at h,fun h=>by simp at h⟩⟩ (by decide))
      case dnSB =>
       intro L a w' hj hr
       have all:=Akv hr hj.sz (by kernel_rfl)
       obtain⟨Bn,s5,s32,s33,s34,s35,s36,s37,s38,s39,s40,s41,s42,s43,s44,s45,s46,rfl,hv⟩:=hj.fr
       have ho:=hv.o15 (all 15 (by omega))
       have hg:=hv.g
       have HB9:=hI (HBQ.out.trans (hg.mono HBQ.out.size))
       have hins:w'.ownsRow (wz.drew).heap.size 38 7 s5 (insAt r j ⟨x,HXS.out⟩).length (flatL (insAt r j ⟨x,HXS.out⟩)):=by
        have h:=ho
        rw[List.append_assoc,←Apw r j (by rw[HM.out];exact HJL.out),←Apx r j (by rw[HM.out];exact HJL.out),Apy r j ⟨x,HXS.out⟩ (by rw[HM.out];exact HJL.out)] at h
        rw[Apv _ (by rw[HM.out];exact HJL.out),HM.out,show M+1=j+1+(M-j) from by have h2:=HJL.out;omega]
        exact h
       obtain⟨A3,c3,rfl,hc3,_,hr3⟩:=RdB.of_own hins
       have HF:Hid (SoP w w' m (sl.take (k+1)) A3 c3 (insAt r j ⟨x,HXS.out⟩)):=⟨by rw[Amq HXK.out];exact Atq HSO.out.eq (by rw[HM.out];exact HJL.out) HPRE.out HNX.out,hr3,hc3,(fun e=>by obtain⟨ad,h,_⟩:=hr3 (Atp _ _ _);rw[e] at h;cases h),HB9.out⟩
       clear all hv hj hr ho hg hins hc3 hr3
       dsimp only
       go_wp2_with fail
       go_roundw
       case rel=>exact⟨k+1,A3,c3,_,by go_num,rfl,by omega,HF.out⟩
       case measure=>simp[intOf];omega
      case stSB =>
       intro L a w' hj i hi
       obtain⟨hun,o,ho,hall⟩:=mem_ready.1 hi
       have hoff:=Akk hun
       have hlt:=(Aab.1 ho).1
       simp at hlt
       obtain⟨Bn,s5,s32,s33,s34,s35,s36,s37,s38,s39,s40,s41,s42,s43,s44,s45,s46,rfl,hv⟩:=hj.fr
       have HV:=hI hv
       have HJ:=hI hj
       clear hv hj
       rcases (show i=0∨i=1∨i=2∨i=3∨i=4∨i=5∨i=6∨i=7∨i=8∨i=9∨i=10∨i=11∨i=12∨i=13∨i=14∨i=15 from by omega) with rfl|rfl|rfl|rfl|rfl|rfl|rfl|rfl|rfl|rfl|rfl|rfl|rfl|rfl|rfl|rfl
       all_goals simp at ho
       all_goals subst ho
       ·clear hall hi
        have h4:L.getD 4 false=false:=(Akr L 4).resolve_right (fun h=>Akq hoff (HV.out.q4 h))
        have h10:L.getD 10 false=false:=(Akr L 10).resolve_right (fun h=>Akq h4 (HV.out.q10 h).1)
        refine Akt rfl fun K' HK=>?_
        go_simp
        exact HK.out _ _ ⟨by simp[HJ.out.sz],⟨_,_,_,_,_,_,_,_,_,_,_,_,_,_,_,_,_,rfl,Um HV.out.k1,Um HV.out.k2,Um HV.out.k3,Um HV.out.k5,Um HV.out.k6,Um HV.out.k7,Um HV.out.k8,Um HV.out.k9,Um HV.out.k11,Um HV.out.k12,Um HV.out.k13,HV.out.g.alloc HV.out.g.size _,fun _ _=>World.ownsRow_made _ #[] 0 HV.out.g.size (Nat.zero_le _) rfl,fun h _=>(Akq h4 (Uz h)).elim,fun h _=>(Akq h10 (Uz h)).elim,fun h _=>(Akq h10 (HV.out.q14 (Uz h))).elim,fun h=>(Akq h10 (HV.out.q14 (HV.out.q15 (Uz h)).1)).elim,fun h i=>(HV.out.b9 (Uz h) (Dz i)).below ((Below.refl _ _).alloc (Aad _) _),fun _ _ h9 e=>by have h:=(HV.out.b9 (Uz h9) h10).lt;simp[Value.ownBlock] at e;omega,fun h=>(Akq h4 (Uz h)).elim,fun h=>HV.out.z5 (Dz h),fun h=>(Akq h4 (Uz h)).elim,fun h=>⟨Akm hun (HV.out.q10 (Uz h)).1,Akm hun (HV.out.q10 (Uz h)).2⟩,fun h=>Akm hun (HV.out.q14 (Uz h)),fun h=>⟨Akm hun (HV.out.q15 (Uz h)).1,Akm hun (HV.out.q15 (Uz h)).2.1,Akm hun (HV.out.q15 (Uz h)).2.2⟩⟩⟩
       have ho:L.getD 15 false=false:=by rcases Akr L 15 with h|h;exact h;exact (Akq hoff (HV.out.q15 h).2.1).elim
       have ez:=HV.out.z5 ho
       subst ez
       rotate_left
       rotate_left
       cases HV.out.k1 (Hq hall 1).out
       cases HV.out.k2 (Hq hall 2).out
       have hsl:=HS1.out
       rotate_left
       ·have H0:=Hq hall 0
        cases HV.out.k3 (Hq hall 3).out
        clear hall hi
        have h10:L.getD 10 false=false:=(Akr L 10).resolve_right (fun h=>Akq hoff (HV.out.q10 h).1)
        have HO:=hI (HV.out.o0 H0.out hoff)
        obtain⟨v5,w5,hrun,ho5,hg5,hl5⟩:=Atn w' _ s32 0 [] HO.out (some ad2) j cr (r.take j) _ ((HRR.out.below HV.out.g).take j) HTJ.out HAJ.out HBJ.out HV.out.g.size
        rw[Nat.zero_add,List.nil_append] at ho5
        have HL5:=hI hl5
        have HG:=hI (HV.out.g.grown hg5 HV.out.g.size (fun k hk=>(HO.out.lt k hk).1))
        have HRN:=hI hrun
        have HO5:=hI ho5
        have HG5:=hI hg5
        clear hrun ho5 hg5 hl5
        refine Akt rfl fun K' HK=>?_
        refine Ati HRN.out rfl _ _ rfl rfl rfl rfl ?_
        go_simp
        exact HK.out _ _ ⟨by simp[HJ.out.sz],⟨_,_,_,_,_,_,_,_,_,_,_,_,_,_,_,_,_,rfl,Um HV.out.k1,Um HV.out.k2,Um HV.out.k3,Um HV.out.k5,Um HV.out.k6,Um HV.out.k7,Um HV.out.k8,Um HV.out.k9,Um HV.out.k11,Um HV.out.k12,Um HV.out.k13,HG.out,fun _ h=>(Akq h (Aki hun)).elim,fun _ _=>HO5.out,fun h _=>(Akq h10 (Uz h)).elim,fun h _=>(Akq h10 (HV.out.q14 (Uz h))).elim,fun h=>(Akq h10 (HV.out.q14 (HV.out.q15 (Uz h)).1)).elim,fun h9 _=>(HG5.out.block _ (HV.out.b9 (Uz h9) h10).lt (fun e=>HV.out.n0 H0.out hoff (Uz h9) e.symm)).trans (HV.out.b9 (Uz h9) h10),fun _ h=>(Akq h (Aki hun)).elim,fun _ _ h9 e=>by
         rcases HL5.out with h|h
         ·exact HV.out.n0 H0.out hoff (Uz h9) (h.symm.trans e)
         ·rw[h] at e;injection e with e;have:=(HV.out.b9 (Uz h9) h10).lt;omega,fun h=>HV.out.z5 (Dz h),fun _=>Akm hun H0.out,fun h=>⟨Akm hun (HV.out.q10 (Uz h)).1,Akm hun (HV.out.q10 (Uz h)).2⟩,fun h=>Akm hun (HV.out.q14 (Uz h)),fun h=>⟨Akm hun (HV.out.q15 (Uz h)).1,Akm hun (HV.out.q15 (Uz h)).2.1,Akm hun (HV.out.q15 (Uz h)).2.2⟩⟩⟩
       rotate_left
       rotate_left
       cases HV.out.k5 (Hq hall 5).out
       cases HV.out.k6 (Hq hall 6).out
       have hki:=HKI.out
       rotate_left
       cases HV.out.k7 (Hq hall 7).out
       obtain⟨c0,c1,c2,c3,c4,c5,c6⟩:=HXC.out.1.below HV.out.g HXC.out.2
       rotate_left
       ·cases HV.out.k8 (Hq hall 8).out
        clear hall hi
        have ba:Below w'.heap.size w' (w'.alloc (.cells #[.string x.id,.string x.inst,.int .i64 x.acq,.int .i64 x.opn,.string x.qty,.string x.cost,.string x.used] 38)):=(Below.refl _ _).alloc (Aad _) _
        have h10:L.getD 10 false=false:=(Akr L 10).resolve_right (fun h=>Akq hoff (HV.out.q10 h).2)
        refine Akt rfl fun K' HK=>?_
        go_simp
        exact HK.out _ _ ⟨by simp[HJ.out.sz],⟨w'.heap.size,_,_,_,_,_,_,_,_,_,_,_,_,_,_,_,_,rfl,Um HV.out.k1,Um HV.out.k2,Um HV.out.k3,Um HV.out.k5,Um HV.out.k6,Um HV.out.k7,Um HV.out.k8,fun _=>rfl,Um HV.out.k11,Um HV.out.k12,Um HV.out.k13,HV.out.g.trans (ba.mono HV.out.g.size),fun h i=>(HV.out.o0 (Uz h) (Dz i)).alloc _,fun h i=>(HV.out.o4 (Uz h) (Dz i)).alloc _,fun h _=>(Akq h10 (Uz h)).elim,fun h _=>(Akq h10 (HV.out.q14 (Uz h))).elim,fun h=>(Akq h10 (HV.out.q14 (HV.out.q15 (Uz h)).1)).elim,fun _ _=>Aa5 _ _,fun h i _ e=>by have:=((HV.out.o0 (Uz h) (Dz i)).lt _ e).2;omega,fun h i _ e=>by have:=((HV.out.o4 (Uz h) (Dz i)).lt _ e).2;omega,fun h=>HV.out.z5 (Dz h),fun h=>Akm hun (HV.out.q4 (Uz h)),fun h=>⟨Akm hun (HV.out.q10 (Uz h)).1,Akm hun (HV.out.q10 (Uz h)).2⟩,fun h=>Akm hun (HV.out.q14 (Uz h)),fun h=>⟨Akm hun (HV.out.q15 (Uz h)).1,Akm hun (HV.out.q15 (Uz h)).2.1,Akm hun (HV.out.q15 (Uz h)).2.2⟩⟩⟩
       ·have H4:=Hq hall 4
        have H9:=Hq hall 9
        cases HV.out.k9 (Hq hall 9).out
        clear hall hi
        have HO:=hI (HV.out.o4 H4.out hoff)
        obtain⟨v5,w5,hrun,ho5,hg5⟩:=Asr w' _ s36 j _ HO.out Bn 1 x (HV.out.b9 H9.out hoff) HBJ2.out HV.out.g.size
        have HG:=hI (HV.out.g.grown hg5 HV.out.g.size (fun k hk=>(HO.out.lt k hk).1))
        have HRN:=hI hrun
        have HO5:=hI ho5
        have HG5:=hI hg5
        clear hrun ho5 hg5
        refine Akt rfl fun K' HK=>?_
        refine Ati HRN.out rfl _ _ rfl rfl rfl rfl ?_
        go_simp
        exact HK.out _ _ ⟨by simp[HJ.out.sz],⟨_,_,_,_,_,_,_,_,_,_,_,_,_,_,_,_,_,rfl,Um HV.out.k1,Um HV.out.k2,Um HV.out.k3,Um HV.out.k5,Um HV.out.k6,Um HV.out.k7,Um HV.out.k8,Um HV.out.k9,Um HV.out.k11,Um HV.out.k12,Um HV.out.k13,HG.out,fun _ i=>(Akq (Dz i) H4.out).elim,fun _ h=>(Akq h (Aki hun)).elim,fun _ _=>HO5.out,fun h _=>(Akq hoff (HV.out.q14 (Uz h))).elim,fun h=>(Akq hoff (HV.out.q14 (HV.out.q15 (Uz h)).1)).elim,fun _ h=>(Akq h (Aki hun)).elim,fun _ i=>(Akq (Dz i) H4.out).elim,fun _ h=>(Akq h (Aki hun)).elim,fun h=>HV.out.z5 (Dz h),fun h=>Akm hun (HV.out.q4 (Uz h)),fun _=>⟨Akm hun H4.out,Akm hun H9.out⟩,fun h=>Akm hun (HV.out.q14 (Uz h)),fun h=>⟨Akm hun (HV.out.q15 (Uz h)).1,Akm hun (HV.out.q15 (Uz h)).2.1,Akm hun (HV.out.q15 (Uz h)).2.2⟩⟩⟩
       have ho:L.getD 15 false=false:=by rcases Akr L 15 with h|h;exact h;exact (Akq hoff (HV.out.q15 h).2.2).elim
       have ez:=HV.out.z5 ho
       subst ez
       rotate_left
       rotate_left
       cases HV.out.k11 (Hq hall 11).out
       cases HV.out.k12 (Hq hall 12).out
       have hsl:=HS2.out
       rotate_left
       ·have H10:=Hq hall 10
        cases HV.out.k13 (Hq hall 13).out
        clear hall hi
        have HO:=hI (HV.out.o10 H10.out hoff)
        obtain⟨v5,w5,hrun,ho5,hg5⟩:=Asq w' _ s42 (j+1) _ HO.out A2 (M-j) (cr-j) (r.drop j) _ (HRD.out _ _ (HRR.out.below HV.out.g)) HDJ.out HAD.out HBJ3.out HV.out.g.size
        have HG:=hI (HV.out.g.grown hg5 HV.out.g.size (fun k hk=>(HO.out.lt k hk).1))
        have HRN:=hI hrun
        have HO5:=hI ho5
        have HG5:=hI hg5
        clear hrun ho5 hg5
        refine Akt rfl fun K' HK=>?_
        refine Ati HRN.out rfl _ _ rfl rfl rfl rfl ?_
        go_simp
        exact HK.out _ _ ⟨by simp[HJ.out.sz],⟨_,_,_,_,_,_,_,_,_,_,_,_,_,_,_,_,_,rfl,Um HV.out.k1,Um HV.out.k2,Um HV.out.k3,Um HV.out.k5,Um HV.out.k6,Um HV.out.k7,Um HV.out.k8,Um HV.out.k9,Um HV.out.k11,Um HV.out.k12,Um HV.out.k13,HG.out,fun h i=>(Akq (Dz i) (HV.out.q10 H10.out).1).elim,fun h i=>(Akq (Dz i) H10.out).elim,fun _ h=>(Akq h (Aki hun)).elim,fun _ _=>HO5.out,fun h=>(Akq hoff (HV.out.q15 (Uz h)).1).elim,fun _ i=>(Akq (Dz i) H10.out).elim,fun _ i=>(Akq (Dz i) (HV.out.q10 H10.out).1).elim,fun _ i=>(Akq (Dz i) H10.out).elim,fun h=>HV.out.z5 (Dz h),fun h=>Akm hun (HV.out.q4 (Uz h)),fun h=>⟨Akm hun (HV.out.q10 (Uz h)).1,Akm hun (HV.out.q10 (Uz h)).2⟩,fun _=>Akm hun H10.out,fun h=>⟨Akm hun (HV.out.q15 (Uz h)).1,Akm hun (HV.out.q15 (Uz h)).2.1,Akm hun (HV.out.q15 (Uz h)).2.2⟩⟩⟩
       ·have H14:=Hq hall 14
        have H1:=Hq hall 1
        have H11:=Hq hall 11
        clear hall hi
        refine Akt rfl fun K' HK=>?_
        go_simp
        exact HK.out _ _ ⟨by simp[HJ.out.sz],⟨_,_,_,_,_,_,_,_,_,_,_,_,_,_,_,_,_,rfl,Um HV.out.k1,Um HV.out.k2,Um HV.out.k3,Um HV.out.k5,Um HV.out.k6,Um HV.out.k7,Um HV.out.k8,Um HV.out.k9,Um HV.out.k11,Um HV.out.k12,Um HV.out.k13,HV.out.g,fun h i=>HV.out.o0 (Uz h) (Dz i),fun h i=>HV.out.o4 (Uz h) (Dz i),fun h i=>HV.out.o10 (Uz h) (Dz i),fun _ h=>(Akq h (Aki hun)).elim,fun _=>HV.out.o14 H14.out hoff,fun h i=>HV.out.b9 (Uz h) (Dz i),fun h i j=>HV.out.n0 (Uz h) (Dz i) (Uz j),fun h i j=>HV.out.n4 (Uz h) (Dz i) (Uz j),fun h=>(Akq h (Aki hun)).elim,fun h=>Akm hun (HV.out.q4 (Uz h)),fun h=>⟨Akm hun (HV.out.q10 (Uz h)).1,Akm hun (HV.out.q10 (Uz h)).2⟩,fun h=>Akm hun (HV.out.q14 (Uz h)),fun _=>⟨Akm hun H14.out,Akm hun H1.out,Akm hun H11.out⟩⟩⟩
       all_goals
        clear hall hi
        refine Akt rfl fun K' HK=>?_
        go_simp
        cases HV.out
        refine HK.out _ _ ⟨by simp[HJ.out.sz],?_⟩
        iterate 17 apply Exists.intro
        refine⟨rfl,?_⟩
        constructor
        all_goals first|exact Um (by assumption)|exact Un (by assumption)|exact Uf (by assumption)|exact fun _=>rfl|assumption|exact Uq hun (by assumption)|exact Uq2 hun (by assumption)|exact Uq3 hun (by assumption)|exact U3 (by assumption)
     case stSA =>
      intro L a w' hj i hi
      obtain⟨hun,o,ho,hall⟩:=mem_ready.1 hi
      have hoff:=Akk hun
      have hlt:=(Aab.1 ho).1
      simp at hlt
      obtain⟨s14,s15,s16,s17,s18,s19,s20,s21,s22,s23,s24,s25,s26,s27,s28,s29,rfl,hv⟩:=hj.fr
      have HV:=hI hv
      have HJ:=hI hj
      clear hv hj
      rcases (show i=0∨i=1∨i=2∨i=3∨i=4∨i=5∨i=6∨i=7∨i=8∨i=9∨i=10∨i=11∨i=12∨i=13∨i=14∨i=15 from by omega) with rfl|rfl|rfl|rfl|rfl|rfl|rfl|rfl|rfl|rfl|rfl|rfl|rfl|rfl|rfl|rfl
      all_goals simp at ho
      all_goals subst ho
      rotate_left
      rotate_left
      cases HV.out.k1 (Hq hall 1).out
      rotate_left
      cases HV.out.k0 (Hq hall 0).out
      cases HV.out.k2 (Hq hall 2).out
      have hjm:=HJM.out.1
      rotate_left
      cases HV.out.k3 (Hq hall 3).out
      rotate_left
      cases HV.out.k4 (Hq hall 4).out
      rotate_left
      cases HV.out.k4 (Hq hall 4).out
      rotate_left
      cases HV.out.k5 (Hq hall 5).out
      cases HV.out.k6 (Hq hall 6).out
      cases HV.out.k4 (Hq hall 4).out
      have hji:=HJM.out.2
      rotate_left
      cases HV.out.k7 (Hq hall 7).out
      cases HV.out.k4 (Hq hall 4).out
      obtain⟨c0,c1,c2,c3,c4,c5,c6⟩:=HYC.out.1.below HV.out.g HYC.out.2
      rotate_left
      cases HV.out.k4 (Hq hall 4).out
      rotate_left
      cases HV.out.k4 (Hq hall 4).out
      rotate_left
      cases HV.out.k9 (Hq hall 9).out
      cases HV.out.k10 (Hq hall 10).out
      cases HV.out.k4 (Hq hall 4).out
      have hki:=HKI.out
      rotate_left
      cases HV.out.k11 (Hq hall 11).out
      cases HV.out.k4 (Hq hall 4).out
      obtain⟨c0,c1,c2,c3,c4,c5,c6⟩:=HXC.out.1.below HV.out.g HXC.out.2
      rotate_left
      cases HV.out.k4 (Hq hall 4).out
      rotate_left
      ·cases HV.out.k8 (Hq hall 8).out
       cases HV.out.k12 (Hq hall 12).out
       cases HV.out.k13 (Hq hall 13).out
       cases HV.out.k4 (Hq hall 4).out
       clear hall hi
       refine Akt rfl fun K' HK=>?_
       go_simp
       refine (HBF.out w').mono ?_
       rintro e wn ⟨rfl,bn⟩
       cases HV.out
       refine HK.out _ _ ⟨by simp[HJ.out.sz],?_⟩
       iterate 16 apply Exists.intro
       refine⟨rfl,?_⟩
       constructor
       case k14=>exact fun _=>rfl
       case g=>exact HV.out.g.trans (bn.mono HV.out.g.size)
       all_goals exact Um (by assumption)
      cases HV.out.k4 (Hq hall 4).out
      cases HV.out.k14 (Hq hall 14).out
      rotate_left
      all_goals
       clear hall hi
       refine Akt rfl fun K' HK=>?_
       go_simp
       cases HV.out
       refine HK.out _ _ ⟨by simp[HJ.out.sz],?_⟩
       iterate 16 apply Exists.intro
       refine⟨rfl,?_⟩
       constructor
       all_goals first|exact Um (by assumption)|exact Un (by assumption)|exact Uf (by assumption)|exact fun _=>rfl|assumption
    ·have hjM:decide ((j:Int)<(M:Int))=false:=by simp;omega
     have hjM2:decide (j<M)=false:=Aa4 (by omega)
     have HNX:Hid (∀z,r[j]?=some z→bfr m z.1 x=false):=fun z hz=>by have:=(Aak.1 hz).1;rw[HM.out] at this;omega
     clear hge2 hj
     go_wp2_with fail
     go_quiet (fail)
     clear hjM hjM2
     go_upto_region 8 with fail
     obtain⟨A2,hs2,hA2,hR2⟩:=HSH.out j HJL.out
     have HS1:=hI (HSL.out j HJL.out)
     have HS2:=hI hs2
     have HAD:=hI hA2
     have HRD:=hI (fun n W (h:RdB n W Ar r)=>hR2 n W r h HM.out)
     have HTJ:Hid ((r.take j).length=j):=by rw[Hid,Aat,HM.out];exact Nat.min_eq_left HJL.out
     have HDJ:Hid ((r.drop j).length=M-j):=by rw[Hid,List.length_drop,HM.out]
     have HAJ:Hid (Ar=none→j=0∧cr=0):=fun e=>by have h:=HSO.out.nil e;rw[HM.out] at h;have:=HJL.out;omega
     have HBJ:Hid (0+j≤200000):=by have:=HJL.out;have:=HML.out;show _≤_;omega
     have HBJ2:Hid (j≤200000):=by have:=HJL.out;have:=HML.out;show _≤_;omega
     have HBJ3:Hid (j+1+(M-j)≤200000):=by have:=HJL.out;have:=HML.out;show _≤_;omega
     have HBQ:Hid (Below w.heap.size w ((wr.drewN nq).drew)):=HBE.out.trans ((HBR.out.trans ((Acz (Below.refl _ _) nq).drew.mono HBR.out.size)).mono HBE.out.size)
     have HRR:Hid (RdB ((wr.drewN nq).drew).heap.size ((wr.drewN nq).drew) Ar r):=(HSO.out.rd.below (HBR.out.trans ((Acz (Below.refl _ _) nq).drew.mono HBR.out.size))).wid (HBR.out.trans ((Acz (Below.refl _ _) nq).drew.mono HBR.out.size)).size
     have HXC:Hid (LotAt ((wr.drewN nq).drew) (ad.add (k*7)) x∧(ad.add (k*7)).block<((wr.drewN nq).drew).heap.size):=⟨HXA.out.1.below (HBR.out.trans ((Acz (Below.refl _ _) nq).drew.mono HBR.out.size)) HXA.out.2,Aah HXA.out.2 (HBR.out.trans ((Acz (Below.refl _ _) nq).drew.mono HBR.out.size)).size⟩
     have hgS:Below ((wr.drewN nq).drew).heap.size ((wr.drewN nq).drew) ((wr.drewN nq).drew):=Below.refl _ _
     clear hs2 hA2 hR2
     have mixed:Tryz.prog.follows .mixedOrders=true:=by kernel_rfl
     refine wp_region_any mixed (Akw (SBJ ((wr.drewN nq).drew) x Ar A2 ad M cr N c k j m r _ _ _ _ _ _ _ _ _ _ _ _ _ _ _ _ _ _ _ _ _ _ _ _ _ _ _ _) ?stSB ?dnSB _ _ _ _ ⟨by simp,⟨0,_,_,_,_,_,_,_,_,_,_,_,_,_,_,_,_,rfl,fun h=>by simp at h,fun h=>by simp at h,fun h=>by simp at h,fun h=>by simp at h,fun h=>by simp at h,fun h=>by simp at h,fun h=>by simp at h,fun h=>by simp at h,fun h=>by simp at h,fun h=>by simp at h,fun h=>by simp at h,hgS,fun h=>by simp at h,fun h=>by simp at h,fun h=>by simp at h,fun h=>by simp at h,fun h=>by simp at h,fun h=>by simp at h,fun h=>by simp at h,fun h=>by simp at h,fun _=>rfl,fun h=>by simp at h,fun h=>by simp at h,fun h=>by simp at h,fun h=>by simp at h⟩⟩ (by decide))
     case dnSB =>
      intro L a w' hj hr
      have all:=Akv hr hj.sz (by kernel_rfl)
      obtain⟨Bn,s5,s32,s33,s34,s35,s36,s37,s38,s39,s40,s41,s42,s43,s44,s45,s46,rfl,hv⟩:=hj.fr
      have ho:=hv.o15 (all 15 (by omega))
      have hg:=hv.g
      have HB9:=hI (HBQ.out.trans (hg.mono HBQ.out.size))
      have hins:w'.ownsRow ((wr.drewN nq).drew).heap.size 38 7 s5 (insAt r j ⟨x,HXS.out⟩).length (flatL (insAt r j ⟨x,HXS.out⟩)):=by
       have h:=ho
       rw[List.append_assoc,←Apw r j (by rw[HM.out];exact HJL.out),←Apx r j (by rw[HM.out];exact HJL.out),Apy r j ⟨x,HXS.out⟩ (by rw[HM.out];exact HJL.out)] at h
       rw[Apv _ (by rw[HM.out];exact HJL.out),HM.out,show M+1=j+1+(M-j) from by have h2:=HJL.out;omega]
       exact h
      obtain⟨A3,c3,rfl,hc3,_,hr3⟩:=RdB.of_own hins
      have HF:Hid (SoP w w' m (sl.take (k+1)) A3 c3 (insAt r j ⟨x,HXS.out⟩)):=⟨by rw[Amq HXK.out];exact Atq HSO.out.eq (by rw[HM.out];exact HJL.out) HPRE.out HNX.out,hr3,hc3,(fun e=>by obtain⟨ad,h,_⟩:=hr3 (Atp _ _ _);rw[e] at h;cases h),HB9.out⟩
      clear all hv hj hr ho hg hins hc3 hr3
      dsimp only
      go_wp2_with fail
      go_roundw
      case rel=>exact⟨k+1,A3,c3,_,by go_num,rfl,by omega,HF.out⟩
      case measure=>simp[intOf];omega
     case stSB =>
      intro L a w' hj i hi
      obtain⟨hun,o,ho,hall⟩:=mem_ready.1 hi
      have hoff:=Akk hun
      have hlt:=(Aab.1 ho).1
      simp at hlt
      obtain⟨Bn,s5,s32,s33,s34,s35,s36,s37,s38,s39,s40,s41,s42,s43,s44,s45,s46,rfl,hv⟩:=hj.fr
      have HV:=hI hv
      have HJ:=hI hj
      clear hv hj
      rcases (show i=0∨i=1∨i=2∨i=3∨i=4∨i=5∨i=6∨i=7∨i=8∨i=9∨i=10∨i=11∨i=12∨i=13∨i=14∨i=15 from by omega) with rfl|rfl|rfl|rfl|rfl|rfl|rfl|rfl|rfl|rfl|rfl|rfl|rfl|rfl|rfl|rfl
      all_goals simp at ho
      all_goals subst ho
      ·clear hall hi
       have h4:L.getD 4 false=false:=(Akr L 4).resolve_right (fun h=>Akq hoff (HV.out.q4 h))
       have h10:L.getD 10 false=false:=(Akr L 10).resolve_right (fun h=>Akq h4 (HV.out.q10 h).1)
       refine Akt rfl fun K' HK=>?_
       go_simp
       exact HK.out _ _ ⟨by simp[HJ.out.sz],⟨_,_,_,_,_,_,_,_,_,_,_,_,_,_,_,_,_,rfl,Um HV.out.k1,Um HV.out.k2,Um HV.out.k3,Um HV.out.k5,Um HV.out.k6,Um HV.out.k7,Um HV.out.k8,Um HV.out.k9,Um HV.out.k11,Um HV.out.k12,Um HV.out.k13,HV.out.g.alloc HV.out.g.size _,fun _ _=>World.ownsRow_made _ #[] 0 HV.out.g.size (Nat.zero_le _) rfl,fun h _=>(Akq h4 (Uz h)).elim,fun h _=>(Akq h10 (Uz h)).elim,fun h _=>(Akq h10 (HV.out.q14 (Uz h))).elim,fun h=>(Akq h10 (HV.out.q14 (HV.out.q15 (Uz h)).1)).elim,fun h i=>(HV.out.b9 (Uz h) (Dz i)).below ((Below.refl _ _).alloc (Aad _) _),fun _ _ h9 e=>by have h:=(HV.out.b9 (Uz h9) h10).lt;simp[Value.ownBlock] at e;omega,fun h=>(Akq h4 (Uz h)).elim,fun h=>HV.out.z5 (Dz h),fun h=>(Akq h4 (Uz h)).elim,fun h=>⟨Akm hun (HV.out.q10 (Uz h)).1,Akm hun (HV.out.q10 (Uz h)).2⟩,fun h=>Akm hun (HV.out.q14 (Uz h)),fun h=>⟨Akm hun (HV.out.q15 (Uz h)).1,Akm hun (HV.out.q15 (Uz h)).2.1,Akm hun (HV.out.q15 (Uz h)).2.2⟩⟩⟩
      have ho:L.getD 15 false=false:=by rcases Akr L 15 with h|h;exact h;exact (Akq hoff (HV.out.q15 h).2.1).elim
      have ez:=HV.out.z5 ho
      subst ez
      rotate_left
      rotate_left
      cases HV.out.k1 (Hq hall 1).out
      cases HV.out.k2 (Hq hall 2).out
      have hsl:=HS1.out
      rotate_left
      ·have H0:=Hq hall 0
       cases HV.out.k3 (Hq hall 3).out
       clear hall hi
       have h10:L.getD 10 false=false:=(Akr L 10).resolve_right (fun h=>Akq hoff (HV.out.q10 h).1)
       have HO:=hI (HV.out.o0 H0.out hoff)
       obtain⟨v5,w5,hrun,ho5,hg5,hl5⟩:=Atn w' _ s32 0 [] HO.out Ar j cr (r.take j) _ ((HRR.out.below HV.out.g).take j) HTJ.out HAJ.out HBJ.out HV.out.g.size
       rw[Nat.zero_add,List.nil_append] at ho5
       have HL5:=hI hl5
       have HG:=hI (HV.out.g.grown hg5 HV.out.g.size (fun k hk=>(HO.out.lt k hk).1))
       have HRN:=hI hrun
       have HO5:=hI ho5
       have HG5:=hI hg5
       clear hrun ho5 hg5 hl5
       refine Akt rfl fun K' HK=>?_
       refine Ati HRN.out rfl _ _ rfl rfl rfl rfl ?_
       go_simp
       exact HK.out _ _ ⟨by simp[HJ.out.sz],⟨_,_,_,_,_,_,_,_,_,_,_,_,_,_,_,_,_,rfl,Um HV.out.k1,Um HV.out.k2,Um HV.out.k3,Um HV.out.k5,Um HV.out.k6,Um HV.out.k7,Um HV.out.k8,Um HV.out.k9,Um HV.out.k11,Um HV.out.k12,Um HV.out.k13,HG.out,fun _ h=>(Akq h (Aki hun)).elim,fun _ _=>HO5.out,fun h _=>(Akq h10 (Uz h)).elim,fun h _=>(Akq h10 (HV.out.q14 (Uz h))).elim,fun h=>(Akq h10 (HV.out.q14 (HV.out.q15 (Uz h)).1)).elim,fun h9 _=>(HG5.out.block _ (HV.out.b9 (Uz h9) h10).lt (fun e=>HV.out.n0 H0.out hoff (Uz h9) e.symm)).trans (HV.out.b9 (Uz h9) h10),fun _ h=>(Akq h (Aki hun)).elim,fun _ _ h9 e=>by
        rcases HL5.out with h|h
        ·exact HV.out.n0 H0.out hoff (Uz h9) (h.symm.trans e)
        ·rw[h] at e;injection e with e;have:=(HV.out.b9 (Uz h9) h10).lt;omega,fun h=>HV.out.z5 (Dz h),fun _=>Akm hun H0.out,fun h=>⟨Akm hun (HV.out.q10 (Uz h)).1,Akm hun (HV.out.q10 (Uz h)).2⟩,fun h=>Akm hun (HV.out.q14 (Uz h)),fun h=>⟨Akm hun (HV.out.q15 (Uz h)).1,Akm hun (HV.out.q15 (Uz h)).2.1,Akm hun (HV.out.q15 (Uz h)).2.2⟩⟩⟩
      rotate_left
      rotate_left
      cases HV.out.k5 (Hq hall 5).out
      cases HV.out.k6 (Hq hall 6).out
      have hki:=HKI.out
      rotate_left
      cases HV.out.k7 (Hq hall 7).out
      obtain⟨c0,c1,c2,c3,c4,c5,c6⟩:=HXC.out.1.below HV.out.g HXC.out.2
      rotate_left
      ·cases HV.out.k8 (Hq hall 8).out
       clear hall hi
       have ba:Below w'.heap.size w' (w'.alloc (.cells #[.string x.id,.string x.inst,.int .i64 x.acq,.int .i64 x.opn,.string x.qty,.string x.cost,.string x.used] 38)):=(Below.refl _ _).alloc (Aad _) _
       have h10:L.getD 10 false=false:=(Akr L 10).resolve_right (fun h=>Akq hoff (HV.out.q10 h).2)
       refine Akt rfl fun K' HK=>?_
       go_simp
       exact HK.out _ _ ⟨by simp[HJ.out.sz],⟨w'.heap.size,_,_,_,_,_,_,_,_,_,_,_,_,_,_,_,_,rfl,Um HV.out.k1,Um HV.out.k2,Um HV.out.k3,Um HV.out.k5,Um HV.out.k6,Um HV.out.k7,Um HV.out.k8,fun _=>rfl,Um HV.out.k11,Um HV.out.k12,Um HV.out.k13,HV.out.g.trans (ba.mono HV.out.g.size),fun h i=>(HV.out.o0 (Uz h) (Dz i)).alloc _,fun h i=>(HV.out.o4 (Uz h) (Dz i)).alloc _,fun h _=>(Akq h10 (Uz h)).elim,fun h _=>(Akq h10 (HV.out.q14 (Uz h))).elim,fun h=>(Akq h10 (HV.out.q14 (HV.out.q15 (Uz h)).1)).elim,fun _ _=>Aa5 _ _,fun h i _ e=>by have:=((HV.out.o0 (Uz h) (Dz i)).lt _ e).2;omega,fun h i _ e=>by have:=((HV.out.o4 (Uz h) (Dz i)).lt _ e).2;omega,fun h=>HV.out.z5 (Dz h),fun h=>Akm hun (HV.out.q4 (Uz h)),fun h=>⟨Akm hun (HV.out.q10 (Uz h)).1,Akm hun (HV.out.q10 (Uz h)).2⟩,fun h=>Akm hun (HV.out.q14 (Uz h)),fun h=>⟨Akm hun (HV.out.q15 (Uz h)).1,Akm hun (HV.out.q15 (Uz h)).2.1,Akm hun (HV.out.q15 (Uz h)).2.2⟩⟩⟩
      ·have H4:=Hq hall 4
       have H9:=Hq hall 9
       cases HV.out.k9 (Hq hall 9).out
       clear hall hi
       have HO:=hI (HV.out.o4 H4.out hoff)
       obtain⟨v5,w5,hrun,ho5,hg5⟩:=Asr w' _ s36 j _ HO.out Bn 1 x (HV.out.b9 H9.out hoff) HBJ2.out HV.out.g.size
       have HG:=hI (HV.out.g.grown hg5 HV.out.g.size (fun k hk=>(HO.out.lt k hk).1))
       have HRN:=hI hrun
       have HO5:=hI ho5
       have HG5:=hI hg5
       clear hrun ho5 hg5
       refine Akt rfl fun K' HK=>?_
       refine Ati HRN.out rfl _ _ rfl rfl rfl rfl ?_
       go_simp
       exact HK.out _ _ ⟨by simp[HJ.out.sz],⟨_,_,_,_,_,_,_,_,_,_,_,_,_,_,_,_,_,rfl,Um HV.out.k1,Um HV.out.k2,Um HV.out.k3,Um HV.out.k5,Um HV.out.k6,Um HV.out.k7,Um HV.out.k8,Um HV.out.k9,Um HV.out.k11,Um HV.out.k12,Um HV.out.k13,HG.out,fun _ i=>(Akq (Dz i) H4.out).elim,fun _ h=>(Akq h (Aki hun)).elim,fun _ _=>HO5.out,fun h _=>(Akq hoff (HV.out.q14 (Uz h))).elim,fun h=>(Akq hoff (HV.out.q14 (HV.out.q15 (Uz h)).1)).elim,fun _ h=>(Akq h (Aki hun)).elim,fun _ i=>(Akq (Dz i) H4.out).elim,fun _ h=>(Akq h (Aki hun)).elim,fun h=>HV.out.z5 (Dz h),fun h=>Akm hun (HV.out.q4 (Uz h)),fun _=>⟨Akm hun H4.out,Akm hun H9.out⟩,fun h=>Akm hun (HV.out.q14 (Uz h)),fun h=>⟨Akm hun (HV.out.q15 (Uz h)).1,Akm hun (HV.out.q15 (Uz h)).2.1,Akm hun (HV.out.q15 (Uz h)).2.2⟩⟩⟩
      have ho:L.getD 15 false=false:=by rcases Akr L 15 with h|h;exact h;exact (Akq hoff (HV.out.q15 h).2.2).elim
      have ez:=HV.out.z5 ho
      subst ez
      rotate_left
      rotate_left
      cases HV.out.k11 (Hq hall 11).out
      cases HV.out.k12 (Hq hall 12).out
      have hsl:=HS2.out
      rotate_left
      ·have H10:=Hq hall 10
       cases HV.out.k13 (Hq hall 13).out
       clear hall hi
       have HO:=hI (HV.out.o10 H10.out hoff)
       obtain⟨v5,w5,hrun,ho5,hg5⟩:=Asq w' _ s42 (j+1) _ HO.out A2 (M-j) (cr-j) (r.drop j) _ (HRD.out _ _ (HRR.out.below HV.out.g)) HDJ.out HAD.out HBJ3.out HV.out.g.size
       have HG:=hI (HV.out.g.grown hg5 HV.out.g.size (fun k hk=>(HO.out.lt k hk).1))
       have HRN:=hI hrun
       have HO5:=hI ho5
       have HG5:=hI hg5
       clear hrun ho5 hg5
       refine Akt rfl fun K' HK=>?_
       refine Ati HRN.out rfl _ _ rfl rfl rfl rfl ?_
       go_simp
       exact HK.out _ _ ⟨by simp[HJ.out.sz],⟨_,_,_,_,_,_,_,_,_,_,_,_,_,_,_,_,_,rfl,Um HV.out.k1,Um HV.out.k2,Um HV.out.k3,Um HV.out.k5,Um HV.out.k6,Um HV.out.k7,Um HV.out.k8,Um HV.out.k9,Um HV.out.k11,Um HV.out.k12,Um HV.out.k13,HG.out,fun h i=>(Akq (Dz i) (HV.out.q10 H10.out).1).elim,fun h i=>(Akq (Dz i) H10.out).elim,fun _ h=>(Akq h (Aki hun)).elim,fun _ _=>HO5.out,fun h=>(Akq hoff (HV.out.q15 (Uz h)).1).elim,fun _ i=>(Akq (Dz i) H10.out).elim,fun _ i=>(Akq (Dz i) (HV.out.q10 H10.out).1).elim,fun _ i=>(Akq (Dz i) H10.out).elim,fun h=>HV.out.z5 (Dz h),fun h=>Akm hun (HV.out.q4 (Uz h)),fun h=>⟨Akm hun (HV.out.q10 (Uz h)).1,Akm hun (HV.out.q10 (Uz h)).2⟩,fun _=>Akm hun H10.out,fun h=>⟨Akm hun (HV.out.q15 (Uz h)).1,Akm hun (HV.out.q15 (Uz h)).2.1,Akm hun (HV.out.q15 (Uz h)).2.2⟩⟩⟩
      ·have H14:=Hq hall 14
       have H1:=Hq hall 1
       have H11:=Hq hall 11
       clear hall hi
       refine Akt rfl fun K' HK=>?_
       go_simp
       exact HK.out _ _ ⟨by simp[HJ.out.sz],⟨_,_,_,_,_,_,_,_,_,_,_,_,_,_,_,_,_,rfl,Um HV.out.k1,Um HV.out.k2,Um HV.out.k3,Um HV.out.k5,Um HV.out.k6,Um HV.out.k7,Um HV.out.k8,Um HV.out.k9,Um HV.out.k11,Um HV.out.k12,Um HV.out.k13,HV.out.g,fun h i=>HV.out.o0 (Uz h) (Dz i),fun h i=>HV.out.o4 (Uz h) (Dz i),fun h i=>HV.out.o10 (Uz h) (Dz i),fun _ h=>(Akq h (Aki hun)).elim,fun _=>HV.out.o14 H14.out hoff,fun h i=>HV.out.b9 (Uz h) (Dz i),fun h i j=>HV.out.n0 (Uz h) (Dz i) (Uz j),fun h i j=>HV.out.n4 (Uz h) (Dz i) (Uz j),fun h=>(Akq h (Aki hun)).elim,fun h=>Akm hun (HV.out.q4 (Uz h)),fun h=>⟨Akm hun (HV.out.q10 (Uz h)).1,Akm hun (HV.out.q10 (Uz h)).2⟩,fun h=>Akm hun (HV.out.q14 (Uz h)),fun _=>⟨Akm hun H14.out,Akm hun H1.out,Akm hun H11.out⟩⟩⟩
      all_goals
       clear hall hi
       refine Akt rfl fun K' HK=>?_
       go_simp
       cases HV.out
       refine HK.out _ _ ⟨by simp[HJ.out.sz],?_⟩
       iterate 17 apply Exists.intro
       refine⟨rfl,?_⟩
       constructor
       all_goals first|exact Um (by assumption)|exact Un (by assumption)|exact Uf (by assumption)|exact fun _=>rfl|assumption|exact Uq hun (by assumption)|exact Uq2 hun (by assumption)|exact Uq3 hun (by assumption)|exact U3 (by assumption)
  ·have hcx:decide ((k:Int)<(N:Int))=false:=by simp;omega
   have hkN:k=N:=by omega
   have HF:Hid (SoP w wr m sl Ar cr r):=by
    have h:=HSO.out
    rwa [Aai (by rw[HN.out];exact hge)] at h
   go_wp2_with fail
   go_ret
   exact⟨Ar,cr,r,by rw[HM.out];rfl,HF.out⟩
theorem Ats(A:Option Addr)(c:Nat)(w:World):
 Calls Tryz.prog 81 #[.slice A 0 c] w fun e w'=>e=.returned (.tuple #[])∧w'=w:=by
 go_enter Tryz.func81,Tryz.ntmps81
 go_wp2_with fail
 refine wp_loop_rounds 1 ?_
 rw[rounds_succ]
 go_wp2_with fail
 go_end0
 exact⟨rfl,rfl⟩
def Att(w:World)(ls:List SLot)(e:Ending)(w':World):Prop:=∃A c,e=.returned (.slice A ls.length c)∧ls.length≤c∧(∀ad,A=some ad→w.heap.size≤ad.block)∧RdB w'.heap.size w' A ls∧Below w.heap.size w w'∧(A=none→ls.length=0∧c=0)
def ordB(lt:Lot→Lot→Bool)(rev:Bool)(D:List Lot):List Lot:=if rev=true then (ssort lt D).reverse else ssort lt D
theorem sl_of:∀D:List Lot,(∀x∈D,x.sized)→∃sl:List SLot,sl.map Subtype.val=D
 | [],_=>⟨[],rfl⟩
 | x::r,h=>by
   obtain⟨sl,e⟩:=sl_of r (fun y hy=>h y (Aax _ hy))
   exact⟨⟨x,h x (Aaw ..)⟩::sl,by rw[List.map_cons,e]⟩
theorem SRow.sl{w0 W:World}{g N:Nat}{sp:List Value}{D:List Lot}(h:SRow okL w0 g sp D W)(hN:D.length=N):∃sl:List SLot,sl.map Subtype.val=D∧sl.length=N∧RdB W.heap.size W (some ⟨g,0,none⟩) sl:=by
 obtain⟨sl,e⟩:=sl_of D (fun x hx=>(h.ok x hx).1)
 refine⟨sl,e,by rw[←hN,←e,Aar],fun _=>⟨_,rfl,h.ltW,fun j l hj=>?_⟩⟩
 rw[Ake]
 refine h.at ?_
 rw[←e,List.getElem?_map,hj]
 rfl
theorem Atu(nm:ByteArray)(f:Nat)(bd:Array Value)(rev:Bool)(cf:Lot→Lot→Int)(lt:Lot→Lot→Bool)(hw:Weak lt)(hlt:∀x y,okL x→okL y→decide (cf x y<0)=lt x y)
 (n₀:Nat) (A:Option Addr) (ls:List SLot) (c:Nat) (hlen:ls.length≤100000) (w:World) (hR:RdB n₀ w A ls) (hn:n₀≤w.heap.size) (hA:A=none→ls.length=0∧c=0) (hq:∀l∈ls,0<vl l.1.qty)
 (hC:∀W g,Below w.heap.size w W→w.heap.size≤g→CmpS okL cf f bd W g) :
 Calls Tryz.prog 46 #[.agg #[.string nm,.func (.func f) #[] bd,.bool rev],.slice A ls.length c] w fun e w'=>∃sl:List SLot,sl.map Subtype.val=ordB lt rev (ls.map Subtype.val)∧Att w sl e w':=by
 obtain⟨W0,hW0⟩:∃W0,w.alloc (.cells #[.string nm,.func (.func f) #[] bd,.bool rev] 67)=W0:=⟨_,rfl⟩
 have hb0:Below w.heap.size w W0:=by rw[←hW0];exact (Below.refl _ w).alloc (Aad _) _
 have k0:W0.heap[w.heap.size]?=some (.cells #[.string nm,.func (.func f) #[] bd,.bool rev] 67 (0,0)):=by rw[←hW0];exact Aa5 w _
 have HCLO:=hI (Apn A ls c n₀ W0 (hR.below (hb0.mono hn)) (Aap hn hb0.size) hlen hA)
 obtain⟨N,hN⟩:∃N,ls.length=N:=⟨_,rfl⟩
 rw[hN] at HCLO hlen ⊢
 have HN:=hI hN
 have HB0:=hI hb0
 have HK0:=hI k0
 have HC:=hI hC
 have HLT:=hI hlt
 have HWK:=hI hw
 have HQ:=hI hq
 clear hR hn hA hb0 k0 hC hlt hw hq hN
 go_enter Tryz.func46,Tryz.ntmps46
 go_wp2_with fail
 refine HCLO.out.mono ?_
 rintro e w1 ⟨v,rfl,hown,b1⟩
 have HO:=hI hown
 have hk1:=(b1.block w.heap.size (Aab.1 HK0.out).1).trans HK0.out
 have HK1:=hI hk1
 have HB1:=hI (HB0.out.trans (b1.mono HB0.out.size))
 have c1:=Aaa hk1 1
 have c2:=Aaa hk1 2
 simp at c1 c2
 clear hown b1 HCLO hk1
 rcases Aaq N with h0|hpos
 ·subst h0
  obtain⟨A',c',rfl,_⟩:∃A' c',v=.slice A' 0 c'∧True:=by
   rcases HO.out.2 with⟨rfl,_⟩|⟨g,cap,cur,rfl,_⟩
   ·exact⟨_,_,rfl,trivial⟩
   ·exact⟨_,_,rfl,trivial⟩
  have HS:=hI (As0 A' c' f bd w1)
  have HL0:Hid (ls=[]):=Aag HN.out
  have hfin:Att w [] (.returned (.slice A' 0 c')) w1:=⟨A',c',rfl,Nat.zero_le _,fun ad e=>by
   rcases HO.out.2 with⟨h,_⟩|⟨g,cap,cur,h,hg,_⟩
   ·injection h with h1 _ _;rw[h1] at e;cases e
   ·injection h with h1 _ _;rw[h1] at e;injection e with e;rw[←e];exact Aap HB0.out.size hg,fun h=>absurd rfl h,HB1.out,fun h0=>by
   rcases HO.out.2 with⟨h,_⟩|⟨g,cap,cur,h,hg,_⟩
   ·injection h with _ _ h3;exact⟨rfl,h3⟩
   ·injection h with h1 _ _;rw[h1] at h0;cases h0⟩
  have HFIN:=hI hfin
  have HE:Hid ([]=ordB lt rev (ls.map Subtype.val)):=by rw[HL0.out];unfold ordB;cases rev<;>rfl
  clear hfin
  go_wp2_with fail
  refine HS.out.mono ?_
  rintro e w2 ⟨rfl,rfl⟩
  cases rev
  ·go_wp2_with fail
   go_ret
   exact⟨[],HE.out,HFIN.out⟩
  ·have HRV:=hI (Ats A' c' w2)
   go_wp2_with fail
   refine HRV.out.mono ?_
   rintro e w3 ⟨rfl,rfl⟩
   go_wp2_with fail
   go_ret
   exact⟨[],HE.out,HFIN.out⟩
 ·obtain⟨g,cap,rfl,hbg,hgl⟩:=HO.out.form hpos
  obtain⟨D,hD⟩:∃D,ls.map Subtype.val=D:=⟨_,rfl⟩
  have hDN:D.length=N:=by rw[←hD,Aar,HN.out]
  obtain⟨sp,hrow⟩:∃sp,w1.heap[g]?=some (.cells (flatV D++sp).toArray 38 (0,0)):=by
   rcases HO.out.2 with⟨h,_⟩|⟨g',cap',cur,h,_,hg,_,_,_,ht⟩
   ·simp at h
   ·simp at h
    obtain⟨rfl,_⟩:=h
    refine⟨cur.toList.drop (N*7),?_⟩
    rw[←hD,Asc,←ht,Aav]
    exact hg
  have hcap:N≤cap:=by
   rcases HO.out.2 with⟨h,_⟩|⟨g',cap',cur,h,_,hg,hnc,_⟩
   ·simp at h
   ·simp at h
    omega
  have hgw:w.heap.size≤g:=Aap HB0.out.size hbg
  have hgne:w.heap.size≠g:=by
   have:=(Aab.1 HK0.out).1
   omega
  have hs:SRow okL w1 g sp D w1:=⟨hrow,fun x hx=>by
   rw[←hD] at hx
   obtain⟨y,hy,rfl⟩:=List.mem_map.1 hx
   exact⟨y.2,HQ.out y hy⟩,⟨rfl,rfl,rfl,Aad _,fun _ _ _=>rfl⟩,hgl⟩
  have HS:=hI (Asy okL cf lt HWK.out w1 g N cap f bd HLT.out (HC.out w1 g HB1.out hgw) sp D hDN hlen w1 hs)
  have HDD:=hI hD
  have HDN:=hI hDN
  have HG:Hid (w.heap.size≤g∧w.heap.size≠g∧N≤cap):=⟨hgw,hgne,hcap⟩
  clear hD hDN hrow hcap hgw hgne hs hbg hgl HC HLT
  go_wp2_with fail
  refine HS.out.mono ?_
  rintro e w2 ⟨rfl,hr2⟩
  have HR2:=hI hr2
  have hk2:=(hr2.gr.block w.heap.size (Aab.1 HK1.out).1 (fun e=>HG.out.2.1 (by injection e))).trans HK1.out
  have d2:=Aaa hk2 2
  simp at d2
  clear hr2 hk2 c1 c2 HS
  have hfin:∀(D':List Lot) (W:World),SRow okL w1 g sp D' W→D'.length=N→∃sl:List SLot,sl.map Subtype.val=D'∧Att w sl (.returned (.slice (some ⟨g,0,none⟩) N cap)) W:=by
   intro D' W hW hl
   obtain⟨sl,h1,h2,h3⟩:=hW.sl hl
   exact⟨sl,h1,_,_,by rw[h2],by rw[h2];exact HG.out.2.2,fun ad e=>by injection e with e;rw[←e];exact HG.out.1,h3,HB1.out.grown hW.gr (HB1.out.size) (fun k e=>by injection e with e;rw[←e];exact HG.out.1),fun h=>by cases h⟩
  have HFIN:=hI hfin
  have hl2:(ssort lt D).length=N:=by rw[(Ac9 lt D).length_eq,HDN.out]
  have HL2:=hI hl2
  clear hfin
  cases rev
  ·go_wp2_with fail
   go_ret
   obtain⟨sl,h1,h2⟩:=HFIN.out _ _ HR2.out HL2.out
   exact⟨sl,by rw[h1,HDD.out];rfl,h2⟩
  ·have HRV:=hI (As1 okL w1 g N cap sp (ssort lt D) hl2 (by omega) w2 HR2.out)
   clear hl2
   go_wp2_with fail
   refine HRV.out.mono ?_
   rintro e w3 ⟨rfl,hr3⟩
   have HR3:=hI hr3
   clear hr3 d2
   go_wp2_with fail
   go_ret
   obtain⟨sl,h1,h2⟩:=HFIN.out _ _ HR3.out (by rw[List.length_reverse];exact HL2.out)
   exact⟨sl,by rw[h1,HDD.out];rfl,h2⟩
theorem flatK_at:∀(ps:List Pk) (j:Nat) (u:Value),(flatK ps)[j]?=some u→∃k p f,ps[k]?=some p∧f<2∧j=k*2+f∧p.cells[f]?=some u
 | [],j,u,h=>by simp[flatK] at h
 | p::r,j,u,h=>by
   rw[Arw] at h
   rcases Aam j 2 with h2|h2
   ·rw[List.getElem?_append_left (by exact h2)] at h
    exact⟨0,p,j,rfl,h2,by omega,by rw[←Array.getElem?_toList];exact h⟩
   ·rw[Aa1 (by exact h2)] at h
    obtain⟨k,q,f,h1,h3,h4,h5⟩:=flatK_at r (j-2) u h
    exact⟨k+1,q,f,h1,h3,by omega,h5⟩
theorem RdK.flat{n:Nat}{w:World}{a:Addr}{ps:List Pk}(h:RdK n w (some a) ps):∀j u,(flatK ps)[j]?=some u→w.cell? (a.add j)=some u:=by
 intro j u hu
 obtain⟨k,p,f,h1,h2,rfl,h4⟩:=flatK_at ps j u hu
 obtain⟨ad,e,_,hc⟩:=h (by intro e;rw[e] at h1;cases h1)
 injection e with e
 subst e
 obtain⟨c0,c1⟩:=hc k p h1
 have hs:a.spot=none:=by
  obtain⟨y,hy⟩:∃y,ps[0]?=some y:=⟨_,Aae (by have:=(Aak.1 h1).1;omega)⟩
  have h0:=(hc 0 y hy).c0
  rw[show a.add (0*2)=a from by unfold Addr.add;simp] at h0
  exact Anr h0
 rw[Anq a hs] at c0 c1
 rw[Anq a hs]
 rcases (show f=0∨f=1 from by omega) with rfl|rfl<;>simp at h4<;>subst h4
 ·simpa using c0
 ·simpa[Nat.add_assoc] using c1
theorem Atv(w:World)(base:Nat)(v:Value)(n:Nat)(xs:List Value)(hown:w.ownsRow base 43 2 v n xs)(A:Option Addr)(m c:Nat)(ps:List Pk)(n₁:Nat)(hR:RdK n₁ w A ps)(hl:ps.length=m)(hA:A=none→m=0∧c=0)(hnm:n+m≤200000)(hb:base≤w.heap.size):
 ∃v' w',(Builtin.append_ #[24,24] 24 #[v,.slice A m c]).run Tryz.prog w=.ok v' w'∧w'.ownsRow base 43 2 v' (n+m) (xs++flatK ps)∧w.grownBy w' v.ownBlock:=by
 obtain⟨i0,hi0,hz0,hz1,hz2⟩:=info_parts Tryz.infoPick
 cases A with
 | some ad =>
   obtain⟨v',w',h1,h2,h3,_⟩:=run_append_own (P:=Tryz.prog) w base 24 24 43 i0 _ 2 32 Tryz.underlying24 hi0 hz0 hz1 hz2 rfl (by decide) v n xs hown ad m c (flatK ps) (by rw[Arx,hl]) hR.flat (Arz _) (by unfold maxLen;omega) (by omega) hb
   exact⟨v',w',h1,h2,h3⟩
 | none =>
   obtain⟨rfl,rfl⟩:=hA rfl
   obtain rfl:ps=[]:=Aag hl
   refine⟨v,w,?_,by simpa[flatK] using hown,⟨rfl,rfl,rfl,Aad _,fun _ _ _=>rfl⟩⟩
   rcases hown.2 with⟨rfl,rfl⟩|⟨g,cap,cur,rfl,hbg,hg,hnc,_,_,_⟩
   ·simp[Builtin.append_,run_underlying Tryz.underlying24,sizeOf,typeInfo,hi0,Builtin.lenOf,Builtin.firstCells,loadCells,loadCellsFrom]
   ·simp[Builtin.append_,run_underlying Tryz.underlying24,sizeOf,typeInfo,hi0,Builtin.lenOf,Builtin.firstCells,loadCells,loadCellsFrom,hnc,storeCells]
theorem Atw{out:Am}{k:Nat}{a:ByteArray×Int}(ha:out[k]?=some a):(pksOf out)[k]?=some ⟨a.1,I a.2⟩:=by unfold pksOf;rw[List.getElem?_map,ha];rfl
theorem Atx(out:Am):(pksOf out).length=out.length:=by unfold pksOf;rw[Aar]
theorem own_sto{W:World}{base g N c k:Nat}{out:Am}{a:ByteArray×Int}{ad:Addr}(had:ad=⟨g,0,none⟩)(hN:(pksOf out).length=N)(h:W.ownsRow base 43 2 (.slice (some ad) N c) N (flatK (pksOf out)))(ha:out[k]?=some a)(z:Int):
 (W.setCell ⟨(ad.add (k*2)).block,(ad.add (k*2)).off+1,none⟩ (.string (I z))).ownsRow base 43 2 (.slice (some ad) N c) N (flatK (pksOf (out.set k (a.1,z))))∧W.grownBy (W.setCell ⟨(ad.add (k*2)).block,(ad.add (k*2)).off+1,none⟩ (.string (I z))) (some g) ∧
   W.cell? (ad.add (k*2))=some (.string a.1)∧W.cell? ⟨(ad.add (k*2)).block,(ad.add (k*2)).off+1,none⟩=some (.string (I a.2))∧W.frozen? ⟨(ad.add (k*2)).block,(ad.add (k*2)).off+1,none⟩=false:=by
 subst had
 rw[Ake]
 have hp:=Atw ha
 have hk:k<N:=by rw[←hN];exact (Aak.1 hp).1
 obtain⟨h1,h2⟩:=h.stored (k*2+1) (.string (I z))
 rw[As3 _ _ _ _ hp] at h1
 have e1:(pksOf out).set k ⟨a.1,I z⟩=pksOf (out.set k (a.1,z)):=by unfold pksOf;rw[List.map_set]
 rw[show ((⟨a.1,I a.2⟩:Pk).lot)=a.1 from rfl,e1] at h1
 refine⟨h1,h2,?_,?_,h.frozenAt (k*2+1)⟩
 ·rw[h.cellAt (k*2) (by omega)]
  exact (As2 _ _ _ hp).1
 ·rw[h.cellAt (k*2+1) (by omega)]
  exact (As2 _ _ _ hp).2
def putA(out:Am)(id:ByteArray)(n:Int):Am:=if n=0 then out else addA out id n
def RaddP(w:World)(out:Am)(e:Ending)(w':World):Prop :=
 ∃(A':Option Addr) (c':Nat),e=.returned (.slice A' (pksOf out).length c')∧Below w.heap.size w w'∧RdK w'.heap.size w' A' (pksOf out)∧(pksOf out).length≤c'∧(A'=none→(pksOf out).length=0∧c'=0)
theorem Aty{w w':World}{base:Nat}{v:Value}{out:Am}(h:w'.ownsRow base 43 2 v (pksOf out).length (flatK (pksOf out)))(hb:Below w.heap.size w w'):RaddP w out (.returned v) w':=by
 obtain⟨A,c,rfl,h1,_,h2⟩:=RdK.of_own h
 refine⟨A,c,rfl,hb,h2,h1,fun e=>?_⟩
 subst e
 rcases h.2 with⟨e,h0⟩|⟨g,cap,cur,e,_⟩
 ·injection e with _ _ e2
  exact⟨h0,e2⟩
 ·simp at e
theorem Atz(n₀:Nat)(A:Option Addr)(out:Am)(c:Nat)(hl:out.length≤100000)(hc:(pksOf out).length≤c)(hA:A=none→(pksOf out).length=0∧c=0)(id:ByteArray)(n:Int)(hs:(I n).size≤2000)(hs2:∀a∈out,(I a.2).size≤2000)(w:World)(hR:RdK n₀ w A (pksOf out))(hn:n₀≤w.heap.size):
 Calls Tryz.prog 73 #[.slice A (pksOf out).length c,.string id,.string (I n)] w (RaddP w (putA out id n)):=by
 by_cases h0:n=0
 ·have t1:((I n).toList==[])=true:=by rw[Ajd,Aa3 h0]
  have hp:putA out id n=out:=if_pos h0
  have HF:Hid (RaddP w (putA out id n) (.returned (.slice A (pksOf out).length c)) w):=by
   rw[hp]
   exact⟨A,c,rfl,Below.refl _ _,hR.mono hn,hc,hA⟩
  clear hR hA h0 hp
  go_enter Tryz.func73,Tryz.ntmps73
  go_wp2_with fail
  go_ret
  exact HF.out
 have t1:((I n).toList==[])=false:=by rw[Ajd,Aa4 h0]
 have HP:Hid (putA out id n=addA out id n):=if_neg h0
 obtain⟨N,hN⟩:∃N,(pksOf out).length=N:=⟨_,rfl⟩
 rw[hN] at hc hA ⊢
 have hNl:out.length=N:=by rw[←Atx];exact hN
 -- the copy
 have hown0:(w.alloc (.cells #[] 43)).ownsRow w.heap.size 43 2 (.slice (some ⟨w.heap.size,0,none⟩) 0 0) 0 []:=World.ownsRow_made w #[] 0 (Aad _) (Nat.zero_le _) rfl
 have hba:Below w.heap.size w (w.alloc (.cells #[] 43)):=(Below.refl _ w).alloc (Aad _) _
 obtain⟨v1,w1,r1,o1,g1⟩:=Atv (w.alloc (.cells #[] 43)) w.heap.size _ 0 [] hown0 A N c (pksOf out) n₀ (hR.below (hba.mono hn)) hN hA (by omega) hba.size
 rw[Nat.zero_add,List.nil_append] at o1
 have hb1:Below w.heap.size w w1:=hba.grown g1 hba.size (fun k hk=>(hown0.lt k hk).1)
 have o1':=o1
 rw[←hN] at o1'
 obtain⟨A1,c1,e1,hc1,_,hr1⟩:=RdK.of_own o1'
 subst e1
 rw[hN] at o1 r1 hc1
 have HO:=hI o1
 have HB:=hI hb1
 have HR:=hI hr1
 have HN:=hI hNl
 have HNK:=hI hN
 have HS:=hI hs
 have HS2:=hI hs2
 clear hR hA h0 hown0 hba g1 o1 o1' hb1 hr1 hs hs2 hn
 go_enter Tryz.func73,Tryz.ntmps73
 go_wp2_with (at_builtin;refine Lib.wpList_append_run _ rfl _ _ _ _ rfl _ _ rfl rfl _ _ r1 ?_)
 clear r1 t1
 go_loop [8] (fun v=>∃k:Nat,v=.int .i64 (k:Int)∧k≤N∧∀x∈out.take k,x.1≠id) (fun v=>N-(intOf v).toNat)
 case atStart=>exact⟨0,rfl,by omega,fun x hx=>by simp at hx⟩
 case round =>
  obtain⟨k,rfl,hk,hx⟩:=hrel
  have HX:=hI hx
  clear hx
  rcases Aam k N with hlt|hge
  ·obtain⟨a,ha⟩:∃a,out[k]?=some a:=⟨_,Aae (by rw[HN.out];exact hlt)⟩
   obtain⟨i,m⟩:=a
   obtain⟨ad,rfl,had,hcell⟩:=HR.out (by intro e;have:=Atw ha;rw[e] at this;cases this)
   have hcx:decide ((k:Int)<(N:Int))=true:=by simp;omega
   obtain⟨d0,d1⟩:=hcell k _ (Atw ha)
   dsimp only at d0 d1
   have HAT:=hI ha
   have HTK:=hI (Amq ha)
   have e2:=Aj8 i id
   obtain⟨g,hgd⟩:∃g,ad=⟨g,0,none⟩:=by
    obtain⟨g,cap,e,_⟩:=HO.out.form (by omega)
    simp at e
    exact⟨g,e.1⟩
   have HGD:=hI hgd
   clear hcell ha hgd
   by_cases h1:i=id
   ·rw[Aa3 h1] at e2
    subst h1
    have HSP:=hI (Atd HAT.out HX.out n)
    have HMS:Hid ((I m).size≤2000):=HS2.out _ (Aas HAT.out)
    have hadd:=Aiy (I m) (I n) (by have:=HMS.out;omega) (by have:=HS.out;omega) w1
    rw[vl_I,vl_I] at hadd
    have HADD:=hI hadd
    clear hadd
    go_wp2_with fail
    refine HADD.out.mono ?_
    rintro e w2 ⟨rfl,b2⟩
    have HB2:=hI (HB.out.trans (b2.mono HB.out.size))
    have o2:=HO.out.kept (row:=none) ⟨b2.os,b2.tape,b2.output,b2.size,fun k hk _=>b2.block k hk⟩ (.inr (by simp[Value.ownBlock]))
    obtain⟨q1,q2,q3,q4,q5⟩:=own_sto HGD.out HNK.out o2 HAT.out (m+n)
    have hlen:(pksOf (out.set k (i,m+n))).length=N:=by rw[Atx,List.length_set,HN.out]
    have HQ:=hI q1
    have HQB:Hid (Below w.heap.size w (w2.setCell ⟨(ad.add (k*2)).block,(ad.add (k*2)).off+1,none⟩ (.string (I (m+n))))):=HB2.out.grown q2 HB2.out.size (fun j e=>by
     injection e with e
     subst e
     exact (HO.out.lt g (by rw[HGD.out];rfl)).1)
    have HL:=hI hlen
    clear b2 o2 q1 q2 d0 d1 hlen HADD
    go_wp2_with fail
    go_ret
    rw[HP.out,HSP.out.2]
    exact Aty (by rw[HL.out];exact HQ.out) HQB.out
   ·rw[Aa4 h1] at e2
    have H1:=hI h1
    clear h1
    go_wp2_with fail
    go_round
    case rel =>
     refine⟨k+1,by go_num,by omega,fun x hx=>?_⟩
     rw[HTK.out,List.mem_append] at hx
     rcases hx with hx|hx
     ·exact HX.out x hx
     ·rw[List.mem_singleton] at hx;subst hx;exact H1.out
    case measure=>simp[intOf];omega
  ·have hcx:decide ((k:Int)<(N:Int))=false:=by simp;omega
   have hnn:∀a∈out,a.1≠id:=fun a ha=>HX.out a (by rw[Aai (by rw[HN.out];exact hge)];exact ha)
   have hadd:=addA_none out id n hnn
   have hb2:Below w1.heap.size w1 (w1.alloc (.cells #[.string id,.string (I n)] 43)):=(Below.refl _ w1).alloc (Aad _) _
   have o2:(w1.alloc (.cells #[.string id,.string (I n)] 43)).ownsRow w.heap.size 43 2 (.slice A1 N c1) N (flatK (pksOf out)):=HO.out.alloc _
   have hbb:Below w.heap.size w (w1.alloc (.cells #[.string id,.string (I n)] 43)):=HB.out.trans (hb2.mono HB.out.size)
   obtain⟨g3,cap3,w3,r3,o3,gr3,_⟩:=As4 (w1.alloc (.cells #[.string id,.string (I n)] 43)) w.heap.size _ N _ ⟨id,I n⟩ w1.heap.size 1 o2 (Aa5 w1 _) (by omega) hbb.size
   have hb3:Below w.heap.size w w3:=hbb.grown gr3 hbb.size (fun j e=>(o2.lt j e).1)
   have hfl:flatK (pksOf (out++[(id,n)]))=flatK (pksOf out)++(⟨id,I n⟩:Pk).cells.toList:=by
    unfold pksOf
    rw[List.map_append,Arv]
    rfl
   have hle:(pksOf (out++[(id,n)])).length=N+1:=by rw[Atx,Aan,HN.out];rfl
   have HF:Hid (RaddP w (putA out id n) (.returned (.slice (some ⟨g3,0,none⟩) (N+1) cap3)) w3):=by
    rw[HP.out,hadd]
    exact Aty (by rw[hle,hfl];exact o3) hb3
   clear hnn hadd hb2 o2 hbb o3 gr3 hb3 hfl hle
   go_wp2_with (at_builtin;refine Lib.wpList_append_run _ rfl _ _ _ _ rfl _ _ rfl rfl _ _ r3 ?_)
   go_ret
   exact HF.out
theorem lOf_n(n₀:Nat)(A:Option Addr)(ls:List SLot)(c:Nat)(s:ByteArray)(w:World)(hlen:ls.length≤1000000)(hR:RdB n₀ w A ls)(hnw:n₀≤w.heap.size):
 Calls Tryz.prog 41 #[.slice A ls.length c,.string s] w (Att w (ownL ls s)):=by
 have hC:∀(W:World) (bl bi:Nat),Boxed W bl 22 (.slice A ls.length c)→Boxed W bi 9 (.string s)→RdB n₀ W A ls→n₀≤W.heap.size →
  Calls Tryz.prog 79 #[.func (.func 118) #[] #[.pointer (some ⟨bl,0,none⟩),.pointer (some ⟨bi,0,none⟩)]] W (Att W (ownL ls s)):=by
  intro W bl bi k0 k1 k2 k3
  have HA:=hI ((callsIn_wide (n:=6)).1 (Akd 6 bl bi n₀ A ls c s W (by omega) hlen k0 k1 k2 k3))
  clear k0 k1 k2 k3 hR hnw
  go_enter Tryz.func79,Tryz.ntmps79
  go_wp2_with fail
  refine HA.out.mono ?_
  rintro e w1 ⟨v,rfl,hrow,hb⟩
  have hnil:∀A' c',v=.slice A' (ownL ls s).length c'→A'=none→(ownL ls s).length=0∧c'=0:=fun A' c' hv hn0=>by
   rcases hrow.2 with⟨h,h0⟩|⟨g,cap,cur,h,_⟩
   ·rw[h] at hv;injection hv with _ _ h3;exact⟨h0,h3.symm⟩
   ·rw[h] at hv;injection hv with h1 _ _;rw[hn0] at h1;cases h1
  obtain⟨A',c',rfl,h1,h2,h3⟩:=RdB.of_own hrow
  have h9:=hnil A' c' rfl
  have HF:Hid (Att W (ownL ls s) (.returned (.slice A' (ownL ls s).length c')) w1):=⟨A',c',rfl,h1,h2,h3,hb,h9⟩
  clear hrow h1 h2 h3 hb h9 hnil
  go_wp2_with fail
  go_ret
  exact HF.out
 have HC:=hI hC
 have HR:=hI hR
 clear hC hR
 go_enter Tryz.func41,Tryz.ntmps41
 go_wp2_with fail
 refine (Aka A ls.length c s w).mono ?_
 rintro e w1 ⟨rfl,hw1⟩
 have b1:Below w.heap.size w w1:=by rw[hw1];exact ((Below.refl _ w).alloc (Aad _) _).alloc (by simp) _
 have k0:Boxed w1 w.heap.size 22 (.slice A ls.length c):=by rw[hw1];exact (Boxed.new w _ _).alloc _
 have k1:Boxed w1 (w.heap.size+1) 9 (.string s):=by
  rw[hw1]
  have:=Boxed.new (w.alloc (.cells #[.slice A ls.length c] 22)) 9 (.string s)
  rwa [World.size_alloc] at this
 have HX:=hI (HC.out w1 _ _ k0 k1 (HR.out.below (b1.mono hnw)) (Aap hnw b1.size))
 have HB1:=hI b1
 clear hw1 k0 k1 b1
 go_wp2_with fail
 refine HX.out.mono ?_
 rintro e w2 ⟨A',c',rfl,h1,h2,h3,h4,h9⟩
 have HF:Hid (Att w (ownL ls s) (.returned (.slice A' (ownL ls s).length c')) w2):=⟨A',c',rfl,h1,fun ad e=>Aap HB1.out.size (h2 ad e),h3,HB1.out.trans (h4.mono HB1.out.size),h9⟩
 clear h1 h2 h3 h4 h9
 go_wp2_with fail
 go_ret
 exact HF.out
end Go.Proofs.YtcmgmemffncbhabGreatDoor
