/-
  The walk of trancheref01.read.
-/
import Derived.Test.YtcmgmemffncbhabGreatDoorT12
import Derived.Test.YtcmgmemffncbhabGreatDoorT07
set_option linter.unusedVariables false
set_option linter.unusedSimpArgs false
set_option maxHeartbeats 16000000
set_option maxRecDepth 100000
namespace Go.Proofs.YtcmgmemffncbhabGreatDoor
open Go.RowKit Tr Go.Shelf
theorem RdN.of_own{w:World}{base:Nat}{e:TypeId}{A:Option Addr}{n c:Nat}{l:List Nat}(h:w.ownsRow base e 1 (.slice A n c) n (l.map V)):n=l.length∧n≤c∧RdN w A l:=by
 have hn:n=l.length:=by have:=h.1;simpa using this.symm
 refine⟨hn,?_,fun hl=>?_⟩
 ·rcases h.2 with⟨h',_⟩|⟨g',cap',cur,h',_,hg,hnc,_⟩
  ·simp at h';omega
  ·simp only[Value.slice.injEq] at h';omega
 ·rcases h.2 with⟨h',_⟩|⟨g',cap',cur,h',_,hg,_⟩
  ·exact absurd (Aag (by simp at h';omega)) hl
  ·simp only[Value.slice.injEq,true_and] at h'
   obtain⟨rfl,rfl⟩:=h'
   have hlt:g'<w.heap.size:=by
    rcases Aam g' w.heap.size with h|h
    ·exact h
    ·rw[Array.getElem?_eq_none h] at hg;cases hg
   refine⟨_,rfl,hlt,fun j hj=>?_⟩
   have hc:=h.cells (g:=g') rfl j (.int .i64 (gt l j)) (by simp[gt,V,hj])
   exact hc
theorem RdN.far{w:World}{A:Option Addr}{l:List Nat}(h:RdN w A l){p:Addr}(hp:∀ad:Addr,A=some ad→ad.block≠p.block)(u:Value):RdN (w.setCell p u) A l:=by
 intro hl
 obtain⟨ad,rfl,h1,h2⟩:=h hl
 refine⟨ad,rfl,by simpa[World.setCell] using h1,fun j hj=>?_⟩
 rw[World.cell?_setCell_other _ _ _ _ (fun e=>hp ad rfl (by rw[←Acv ad j,←e]))]
 exact h2 j hj
theorem Aht(w:World)(p:Addr)(v:Value):w.grownBy (w.setCell p v) (some p.block) :=
 ⟨rfl,rfl,rfl,by simp[World.setCell],fun k _ hne=>Below.heap_setCell w p v k (fun e=>hne (by rw[e]))⟩
theorem Ahu{ds:List UInt8}{s j:Nat}(hs:s≤j)(hj:j<ds.length):dval ((ds.take (j+1)).drop s)=10*dval ((ds.take j).drop s)+((byt (bs ds) j).toNat-48):=by
 rw[List.take_succ_eq_append_getElem hj,List.drop_append_of_le_length (by simp;omega),Ab9]
 unfold byt
 rw[Aei,Aau,Aae hj];rfl
theorem Ahv{ds:List UInt8}(hd:ds.all Ab1=true)(s j:Nat)(h:j-s≤9):dval ((ds.take j).drop s)<1000000000:=by
 have hall:((ds.take j).drop s).all Ab1=true:=by
  rw[List.all_eq_true] at hd ⊢
  exact fun x hx=>hd x (List.mem_of_mem_take (List.mem_of_mem_drop hx))
 have h1:=Acp _ hall
 have h2:((ds.take j).drop s).length≤9:=by simp;omega
 exact Aah h1 (Aep h2)
def RReadPost(w:World)(a:ByteArray)(e:Ending)(w':World):Prop :=
 ∃(A:Option Addr) (l:List Nat) (c:Nat),e=.returned (.agg #[.bool (decide (vl a<0)),.slice A l.length c])∧(Dig l∧Norm l∧mval l=(vl a).natAbs∧9*l.length≤a.size+8)∧l.length≤c∧RdN w' A l∧Below w.heap.size w w'
theorem Ahw(a:ByteArray)(w:World)(hs:a.size≤900000):
 Calls Tryz.prog 66 #[.string a] w (RReadPost w a):=by
 have HD:=Aac (fun W=>Ag4 a (by omega) W)
 go_enter Tryz.func66,Tryz.ntmps66
 go_wp2_with fail
 refine (HD.out _).mono ?_
 rintro e w1 ⟨rfl,hw1⟩
 clear HD
 have hlen:(digits (vl a).natAbs).length≤a.size:=by
  rw[digits_length_le_iff]
  exact Acq a.data.toList
 have hall:=all_digits (vl a).natAbs
 generalize hds:digits (vl a).natAbs=ds at hlen hall ⊢
 generalize hneg:decide (vl a<0)=nb
 have HNEG:=Aac hneg
 have HDS:=Aac hds
 have HALL:=Aac hall
 clear hds hneg hall
 subst hw1
 obtain⟨i0,hi,hz0,hz1,hz2⟩:=info_parts Tryz.info_int
 have hbsz:(bs ds).size=ds.length:=Aej ds
 go_wp2_with fail
 have hw2:((w.alloc (.cells #[.bool false,.slice none 0 0] 91)).alloc (.cells #[.bool nb,.slice none 0 0] 91)).heap[w.heap.size]?=some (.cells #[.bool false,.slice none 0 0] 91 (0,0)):=by
  rw[Below.heap_alloc _ _ _ (by simp)];exact Aa5 w _
 have hw3:((w.alloc (.cells #[.bool false,.slice none 0 0] 91)).alloc (.cells #[.bool nb,.slice none 0 0] 91)).heap[w.heap.size+1]?=some (.cells #[.bool nb,.slice none 0 0] 91 (0,0)):=by
  have:=Aa5 (w.alloc (.cells #[.bool false,.slice none 0 0] 91)) (.cells #[.bool nb,.slice none 0 0] 91)
  rwa [World.size_alloc] at this
 go_loopw [6] (fun iv wr=>∃(l:List Nat) (v:Value),iv=.int .i64 ((ds.length:Int)-9*(l.length:Int))∧ReadR ds l∧wr.ownsRow (w.heap.size+2) 3 1 v l.length (l.map V)∧wr.heap[w.heap.size]?=some (.cells #[.bool false,.slice none 0 0] 91 (0,0))∧wr.heap[w.heap.size+1]?=some (.cells #[.bool nb,v] 91 (0,0))∧Below w.heap.size w wr∧w.heap.size+2≤wr.heap.size) (fun iv _=>(intOf iv+8).toNat)
 case atStart=>exact⟨[],.slice none 0 0,by simp,⟨Dig.nil,by simp,by simp[mval]⟩,World.ownsRow_nil _ _ _ _,hw2,hw3,((Below.refl _ _).alloc (Aad _) _).alloc (by simp) _,by simp⟩
 case round =>
  obtain⟨l,v,rfl,hR,hown,hres,hout,hB,hwr⟩:=hrel
  have HR:=Aac hR
  have HOWN:=Aac hown
  have HRES:=Aac hres
  have HOUT:=Aac hout
  have HB:=Aac hB
  have b9:=hR.2.1
  have o1:=Aaa hout 1
  have q1:=Aaf hout 1
  simp at o1
  clear hR hown hres hout hB hw2 hw3
  by_cases hpos:9*l.length<ds.length
  ·have hk:((ds.length:Int)-9*(l.length:Int))=((ds.length-9*l.length:Nat):Int):=by omega
   have HST:=Aac (HR.out.step HALL.out hpos)
   rw[hk]
   generalize hkk:ds.length-9*l.length=k at HST hk ⊢
   have hk1:1≤k:=by omega
   have hk2:k≤ds.length:=by omega
   have HKK:=Aac hkk
   clear hk hkk b9 hpos
   have hmx:max 0 ((k:Int)-9)=((k-9:Nat):Int):=by omega
   go_wp2_with fail
   clear hmx
   go_loop [7,8] (fun v7 v8=>∃j:Nat,v8=.int .i64 (j:Int)∧k-9≤j∧j≤k∧v7=.int .i64 (dval ((ds.take j).drop (k-9)):Nat)) (fun _ v8=>k-(intOf v8).toNat)
   case atStart=>exact⟨k-9,rfl,by omega,by omega,by rw[List.drop_eq_nil_of_le (by simp;omega)];rfl⟩
   case round =>
    obtain⟨j,rfl,hj1,hj2,rfl⟩:=hrel
    rcases Aam j k with hlt|hge
    ·have hb:=Ag9 HALL.out (k:=j) (by omega)
     have hd9:=Ahv HALL.out (k-9) j (by omega)
     have HS:=Aac (Ahu (ds:=ds) hj1 (show j<ds.length by omega))
     have hjs:j<(bs ds).size:=by omega
     have hg:(bs ds)[j].toNat=(byt (bs ds) j).toNat:=by rw[Aev]
     generalize (byt (bs ds) j).toNat=bb at hb hg HS
     generalize dval ((ds.take j).drop (k-9))=dv at hd9 HS ⊢
     have hc:decide ((j:Int)<(k:Int))=true:=by simp;omega
     go_wp2_with fail
     go_round
     case rel=>exact⟨j+1,by go_num,by omega,by omega,Ahb (by rw[HS.out];omega)⟩
     case measure=>simp[intOf];omega
    ·have hjk:j=k:=by omega
     subst hjk
     generalize dval ((ds.take j).drop (j-9))=x at HST ⊢
     have hsrc:∀i u,[Value.int .i64 (x:Int)][i]?=some u→(wr.alloc (.cells #[.int .i64 (x:Int)] 3)).cell? ((⟨wr.heap.size,0,none⟩:Addr).add i)=some u:=by
      intro i u hu
      have hi0:i=0:=by rcases i with _|i;rfl;simp at hu
      subst hi0
      simp at hu
      subst hu
      exact Aaa (Aa5 wr (.cells #[.int .i64 (x:Int)] 3)) 0
     have HS:=Aac hsrc
     clear hsrc
     have hll:l.length≤ds.length:=by have:=HKK.out;omega
     have ne1:wr.heap.size≠w.heap.size+1:=by omega
     go_wp2_with (at_builtin;refine wpList_append_own _ rfl _ _ 89 rfl (w.heap.size+2) 3 i0 (.int .i64 0) 1 8 Tryz.underlying89 hi hz0 hz1 hz2 rfl (by decide) _ _ _ rfl (HOWN.out.alloc _) ⟨wr.heap.size,0,none⟩ 1 1 [.int .i64 (x:Int)] rfl rfl HS.out (by simp[Value.oneCell']) (by unfold maxLen;omega) (by omega) (by simp;omega) ?_;intro v3 w3 hown3 hgrow3 _;obtain⟨A3,n3,c3,hv3⟩:∃A3 n3 c3,v3=.slice A3 n3 c3:=(by rcases hown3.2 with⟨h',h0⟩|⟨g',cap',cur,h',_⟩;exact⟨_,_,_,h'⟩;exact⟨_,_,_,h'⟩);subst hv3;have hout3:w3.heap[w.heap.size+1]?=some (.cells #[.bool nb,v] 91 (0,0)):=(hgrow3.block (w.heap.size+1) (by simp;omega) (fun e=>by have:=HOWN.out.lt _ e.symm;omega)).trans ((Below.heap_alloc wr _ _ (by omega)).trans HOUT.out);have o3:=Aaa hout3 1;have q3:=Aaf hout3 1;simp at o3;have HOUT3:=Aac hout3;have HO3:=Aac hown3;have HG3:=Aac hgrow3;clear hown3 hgrow3 hout3)
     have hO4:(w3.setCell ⟨w.heap.size+1,1,none⟩ (.slice A3 n3 c3)).ownsRow (w.heap.size+2) 3 1 (.slice A3 n3 c3) (l++[x]).length ((l++[x]).map V):=by
      have h3:w3.ownsRow (w.heap.size+2) 3 1 (.slice A3 n3 c3) (l++[x]).length ((l++[x]).map V):=by simpa[V] using HO3.out
      refine h3.kept (Aht w3 ⟨w.heap.size+1,1,none⟩ (.slice A3 n3 c3)) ?_
      rcases hob:(Value.slice A3 n3 c3).ownBlock with _|k3
      ·exact .inl rfl
      ·refine .inr (fun e=>?_)
       have:=(h3.lt k3 hob).1
       simp only[Option.some.injEq] at e
       omega
     have hlt:=HOWN.out.lt
     have hg:=HG3.out
     have hB4:Below w.heap.size w w3:=(HB.out.alloc (by omega) _).grown hg (by simp;omega) (fun k hk=>by have:=hlt k hk;omega)
     have hres4:w3.heap[w.heap.size]?=some (.cells #[.bool false,.slice none 0 0] 91 (0,0)):=(hg.block w.heap.size (by simp;omega) (fun e=>by have:=hlt _ e.symm;omega)).trans ((Below.heap_alloc wr _ _ (by omega)).trans HRES.out)
     have hkk:=HKK.out
     have hsz:=hg.size
     simp only[World.size_alloc] at hsz
     refine⟨⟨l++[x],.slice A3 n3 c3,?_,HST.out,hO4,?_,?_,hB4.setCell (p:=⟨w.heap.size+1,1,none⟩) (by simp) _,?_⟩,by simp[intOf];omega⟩
     ·simp only[Aan,Aa0,List.length_nil]
      congr 1;omega
     ·exact (Below.heap_setCell _ _ _ _ (by simp)).trans hres4
     ·simp[World.setCell,Array.getElem?_modify,HOUT3.out]
     ·simp[World.setCell];omega
  ·have hneg:decide ((0:Int)<(ds.length:Int)-9*(l.length:Int))=false:=by simp only[decide_eq_false_iff_not];omega
   have o0:=Aaa HOUT.out 0
   have q0:=Aaf HOUT.out 0
   have r0:=Aaa HRES.out 0
   have r1:=Aaa HRES.out 1
   have s0:=Aaf HRES.out 0
   have s1:=Aaf HRES.out 1
   simp at o0 r0 r1
   obtain⟨A5,c5,rfl⟩:∃A5 c5,v=.slice A5 l.length c5:=by
    rcases HOWN.out.2 with⟨h',h0⟩|⟨g',cap',cur,h',_⟩
    ·exact⟨none,0,by rw[h',h0]⟩
    ·exact⟨_,_,h'⟩
   go_wp2_with fail
   refine bodyPost_ret (v:=.agg #[.bool nb,.slice A5 l.length c5]) (by simp[results,Tryz.results66,go_sem,r0,r1]) rfl ?_
   have hro:=RdN.of_own HOWN.out
   have hnil:ds.length≤9*l.length:=by omega
   have hds:=HDS.out
   subst hds
   have hB':Below w.heap.size w ((wr.setCell ⟨w.heap.size,0,none⟩ (.bool nb)).setCell ⟨w.heap.size,1,none⟩ (.slice A5 l.length c5)) :=
    (HB.out.setCell (p:=⟨w.heap.size,0,none⟩) (Aad _) _).setCell (p:=⟨w.heap.size,1,none⟩) (Aad _) _
   have hfar:∀ad:Addr,A5=some ad→l≠[]→ad.block≠w.heap.size:=by
    intro ad hA hl
    have h3:=HOWN.out.lt ad.block (by rw[hA];rfl)
    omega
   refine⟨A5,l,c5,by rw[HNEG.out],⟨HR.out.1,HR.out.norm hnil,by rw[HR.out.done hnil,dval_digits],by omega⟩,hro.2.1,?_,hB'⟩
   intro hl
   exact ((hro.2.2.far (p:=⟨w.heap.size,0,none⟩) (fun ad hA=>hfar ad hA hl) _).far (p:=⟨w.heap.size,1,none⟩) (fun ad hA=>hfar ad hA hl) _) hl
theorem Ahx(A A':Option Addr)(l m:List Nat)(c c':Nat)(w:World)(b1:l.length≤1073741824)(b2:m.length≤1073741824)
 (hl:Dig l) (hm:Dig m) (nl:Norm l) (nm:Norm m) (hr:RdN w A l) (hr':RdN w A' m) :
 Calls Tryz.prog 109 #[.slice A l.length c,.slice A' m.length c'] w (Ad6 w (mval l) (mval m)):=by
 have HR:=Aac hr
 have HR':=Aac hr'
 have HL:=Aac hl
 have HM:=Aac hm
 by_cases hlen:l.length=m.length
 ·have hne:(l.length != m.length)=false:=by simp[hlen]
  have hne':((l.length:Int) != (m.length:Int))=false:=by simp[hlen]
  have HLEN:=Aac hlen
  clear hlen hr hr' nl nm hl hm
  go_enter Tryz.func109,Tryz.ntmps109
  go_wp2_with fail
  go_loopw [5] (fun i wr=>∃k:Nat,k≤l.length∧i=.int .i64 ((k:Int)-1)∧Hid (l.drop k=m.drop k)∧∃q,wr=w.drewN q) (fun i _=>(intOf i+1).toNat)
  case atStart=>exact⟨l.length,Aad _,rfl,by simp[Hid,HLEN.out],0,rfl⟩
  case round =>
   obtain⟨k,hk,rfl,HD,q,rfl⟩:=hrel
   rcases Aaq k with h0|h0
   ·subst h0
    go_wp2_with fail
    go_ret
    refine⟨0,rfl,?_,q,rfl⟩
    have h:=HD.out
    simp only[List.drop_zero] at h
    subst h
    exact⟨by omega,by omega,by omega,by omega⟩
   ·obtain⟨j,rfl⟩:∃j,k=j+1:=⟨k-1,by omega⟩
    obtain⟨ad,rfl,_,hcell⟩:=HR.out (by rintro rfl;simp at hk)
    have hlen:=HLEN.out
    obtain⟨ad',rfl,_,hcell'⟩:=HR'.out (by rintro rfl;simp only[List.length_nil] at hlen;omega)
    have hcj:=hcell j (by omega)
    have hcj':=hcell' j (by omega)
    have b3:j<m.length:=by omega
    clear hcell hcell' HR HR' hlen
    have hi:((j+1:Nat):Int)-1=(j:Int):=by omega
    rw[hi]
    rcases Nat.lt_trichotomy (gt l j) (gt m j) with ht|ht|ht
    ·have h1:decide (gt l j<gt m j)=true:=by simp;omega
     go_wp2_with fail
     go_quiet (fail)
     go_wp2_with fail
     go_ret
     refine⟨-1,rfl,?_,_,World.drewN_drewN _ _ _⟩
     have:=Abv (HL.out) j (by omega) HLEN.out HD.out ht
     exact⟨by omega,by omega,by omega,by omega⟩
    ·have h1:decide (gt l j<gt m j)=false:=by simp;omega
     have h2:decide (gt m j<gt l j)=false:=by simp;omega
     have HT:=Aac ht
     clear ht
     go_wp2_with fail
     go_quiet (fail)
     go_wp2_with fail
     go_quiet (fail)
     go_wp2_with fail
     go_roundw
     case rel=>exact⟨j,by omega,by go_num,by have:=HLEN.out;exact Ad8 (by omega) this HD.out HT.out,_,rfl⟩
     case measure=>simp[intOf]
    ·have h1:decide (gt l j<gt m j)=false:=by simp;omega
     have h2:decide (gt m j<gt l j)=true:=by simp;omega
     go_wp2_with fail
     go_quiet (fail)
     go_wp2_with fail
     go_quiet (fail)
     go_wp2_with fail
     go_ret
     refine⟨1,rfl,?_,_,by rw[World.drewN_drewN,World.drewN_drewN]⟩
     have hlen:=HLEN.out
     have:=Abv (HM.out) j (by omega) HLEN.out.symm HD.out.symm ht
     exact⟨by omega,by omega,by omega,by omega⟩
 ·have hne:(l.length != m.length)=true:=by simp[hlen]
  have hne':((l.length:Int) != (m.length:Int))=true:=by simp;omega
  have HS:=Aac (Ad7 hl hm nl nm hlen b1 b2)
  rcases Aam l.length m.length with h1|h1
  ·have t1:decide ((l.length:Int)<(m.length:Int))=true:=Aa3 (by omega)
   have t2:decide (l.length<m.length)=true:=Aa3 h1
   have H:=Aac h1
   clear hlen hr hr' nl nm hl hm h1
   go_enter Tryz.func109,Tryz.ntmps109
   go_wp2_with fail
   go_ret
   refine⟨-1,rfl,?_,0,rfl⟩
   have:=HS.out
   have:=H.out
   unfold Sgn at *
   exact⟨by omega,by omega,by omega,by omega⟩
  ·have t1:decide ((l.length:Int)<(m.length:Int))=false:=Aa4 (by omega)
   have t2:decide (l.length<m.length)=false:=Aa4 (by omega)
   have H:=Aac (show m.length<l.length by omega)
   clear hlen hr hr' nl nm hl hm h1
   go_enter Tryz.func109,Tryz.ntmps109
   go_wp2_with fail
   go_ret
   refine⟨1,rfl,?_,0,rfl⟩
   have:=HS.out
   have:=H.out
   unfold Sgn at *
   exact⟨by omega,by omega,by omega,by omega⟩
theorem Ahy(w:World)(cs:Array Value)(t:TypeId):∀j u,cs.toList[j]?=some u→(w.alloc (.cells cs t)).cell? ((⟨w.heap.size,0,none⟩:Addr).add j)=some u:=by
 intro j u hj
 have h:=Aa5 w (.cells cs t)
 have e:(⟨w.heap.size,0,none⟩:Addr).add j=⟨w.heap.size,j,none⟩:=by unfold Addr.add;split<;>simp_all
 rw[e,Aaa h j]
 simpa using hj
def RSum(l n r:List Nat):Prop:=Dig r∧Norm r∧mval r=mval l+mval n∧r.length≤max l.length n.length+1
theorem PlusR.full{l m:List Nat}{k:Nat}{p:List Nat}(h:PlusR l m k p 0)(h1:l.length≤k)(h2:m.length≤k):mval p=mval l+mval m:=by
 have h3:=h.2.2
 rw[Aai h1,Aai h2] at h3
 omega
theorem Dig.cutz{l:List Nat}(h:Dig l):Dig (cutz l):=by rw[Aea];exact h.take _
theorem Ahz(w:World):(w.alloc (.cells #[] 3)).ownsRow w.heap.size 3 1 (.slice (some ⟨w.heap.size,0,none⟩) 0 0) 0 (([]:List Nat).map V) :=
 ⟨rfl,.inr ⟨w.heap.size,0,#[],rfl,Aad _,Aa5 w _,Aad _,by unfold maxLen;omega,rfl,rfl⟩⟩
theorem Ah0{W:World}{b n:Nat}{v:Value}{xs:List Value}(h:W.ownsRow b 3 1 v n xs)(hn:n≠0):∃ad c,v=.slice (some ad) n c:=by
 rcases h.2 with⟨h',h0⟩|⟨g',cap',cur,h',_⟩
 ·exact absurd h0 hn
 ·exact⟨_,_,h'⟩
theorem Ah1{W:World}{b n c:Nat}{A:Option Addr}{xs:List Value}(h:W.ownsRow b 3 1 (.slice A n c) n xs):∀ad:Addr,A=some ad→b≤ad.block:=by
 rcases h.2 with⟨h',h0⟩|⟨g',cap',cur,h',hb,_⟩
 ·injection h' with e1 e2 e3;subst e1;intro ad e;cases e
 ·injection h' with e1 e2 e3;subst e1;intro ad e;injection e with e;subst e;exact hb
def Ah2(w:World)(P:List Nat→Prop)(e:Ending)(w':World):Prop :=
 ∃(ad:Addr) (r:List Nat) (c:Nat),e=.returned (.slice (some ad) r.length c)∧r.length≤c∧P r∧w.heap.size≤ad.block∧RdN w' (some ad) r∧Below w.heap.size w w'
theorem Ah3(A A':Option Addr)(l n:List Nat)(c c':Nat)(w:World)(b1:l.length≤1000000)(b2:n.length≤1000000)
 (hc:l.length≤c) (hc':n.length≤c') (hl:Dig l) (hn:Dig n) (hr:RdN w A l) (hr':RdN w A' n) :
 Calls Tryz.prog 108 #[.slice A l.length c,.slice A' n.length c'] w (Ah2 w (RSum l n)):=by
 have HR:=Aac hr
 have HR':=Aac hr'
 have HL:=Aac hl
 have HN:=Aac hn
 obtain⟨M,hM⟩:∃M,M=max l.length n.length:=⟨_,rfl⟩
 have HM:Hid (l.length≤M∧n.length≤M∧M≤1000000∧M=max l.length n.length):=⟨by omega,by omega,by omega,hM⟩
 clear hr hr' hl hn hM
 go_enter Tryz.func108,Tryz.ntmps108
 go_wp2_with fail
 have hO0:=Ahz w
 have hB0:Below w.heap.size w (w.alloc (.cells #[] 3)):=(Below.refl _ _).alloc (Aad _) _
 generalize w.alloc (.cells #[] 3)=w1 at hO0 hB0 ⊢
 go_loopw [5,6,7] (fun o cy i wr=>∃(k q:Nat) (p:List Nat),(∃ad co,o=.slice (some ad) k co)∧cy=.int .i64 (q:Int)∧i=.int .i64 (k:Int)∧q≤1∧k≤M+1∧(k=M+1→q=0)∧PlusR l n k p q∧wr.ownsRow w.heap.size 3 1 o k (p.map V)∧Below w.heap.size w wr) (fun _ _ i _=>M+2-(intOf i).toNat)
 case atStart=>exact⟨0,0,[],⟨_,_,rfl⟩,rfl,rfl,by omega,by omega,fun h=>by omega,⟨rfl,Dig.nil,by simp[mval]⟩,hO0,hB0⟩
 case round =>
  obtain⟨k,q,p,⟨ao,co,rfl⟩,rfl,rfl,hq,hk,hkq,hp,hO,hB⟩:=hrel
  have HP:=Aac hp
  have HO:=Aac hO
  have HB:=Aac hB
  have HKQ:=Aac hkq
  clear hp hO hB hkq hO0 hB0
  have hm3:=HM.out.2.2.1
  by_cases hgo:k<l.length∨k<n.length∨0<q
  ·have hkM:k≤M:=by
    have:=HM.out
    rcases Aam M k with h|h
    ·have:=HKQ.out (by omega);omega
    ·exact h
   have HG1:=Aac (fun W hW=>Aec A l c k W (by omega) (by omega) hc hW)
   have HG2:=Aac (fun W hW=>Aec A' n c' k W (by omega) (by omega) hc' hW)
   have d1:=HL.out.get k
   change gt l k<_ at d1
   have d2:=HN.out.get k
   change gt n k<_ at d2
   have hst:=HP.out.step HL.out HN.out hq
   rw[show gt l k+q+gt n k=gt l k+gt n k+q by omega] at hst
   have HST:=Aac hst
   have HQ0:Hid (k=M→(gt l k+gt n k+q) / 1000000000=0):=fun e=>by
    have h1:gt l k=0:=Ae2 (by have:=HM.out;omega)
    have h2:gt n k=0:=Ae2 (by have:=HM.out;omega)
    omega
   clear hst
   obtain⟨T,hT⟩:∃T,T=gt l k+gt n k+q:=⟨_,rfl⟩
   rw[←hT] at HST HQ0
   obtain⟨x,hxT⟩:∃x,x=T % 1000000000:=⟨_,rfl⟩
   obtain⟨y,hyT⟩:∃y,y=T / 1000000000:=⟨_,rfl⟩
   have HS:Hid (∀W:World,∀j u,[Value.int .i64 (x:Int)][j]?=some u→(W.alloc (.cells #[.int .i64 (x:Int)] 3)).cell? ((⟨W.heap.size,0,none⟩:Addr).add j)=some u):=fun W=>Ahy W #[.int .i64 (x:Int)] 3
   obtain⟨i0,hi,hz0,hz1,hz2⟩:=info_parts Tryz.info_int
   have hTT:(gt l k:Int)+(gt n k:Int)+(q:Int)=(T:Int):=by omega
   have hTB:T≤2000000000:=by omega
   have hx:(T:Int) % 1000000000=(x:Int):=by omega
   have hy:(T:Int) / 1000000000=(y:Int):=by omega
   rw[←hxT,←hyT] at HST
   rw[←hyT] at HQ0
   clear hT hxT hyT
   by_cases h1:k<l.length
   ·have t1:decide ((k:Int)<(l.length:Int))=true:=Aa3 (by omega)
    have t1':decide (k<l.length)=true:=Aa3 h1
    clear hgo h1
    go_wp2_with fail
    refine (HG1.out _ (HR.out.below HB.out)).mono ?_
    rintro e wa ⟨rfl,rfl⟩
    go_wp2_with fail
    refine (HG2.out _ (HR'.out.below HB.out)).mono ?_
    rintro e wa ⟨rfl,rfl⟩
    go_upto_region 7 with fail
    clear d1 d2 hTT HG1 HG2
    go_wp2_with (at_builtin;refine wpList_append_own _ rfl _ _ 89 rfl w.heap.size 3 i0 (.int .i64 0) 1 8 Tryz.underlying89 hi hz0 hz1 hz2 rfl (by decide) _ _ _ rfl (HO.out.alloc _) ⟨wr.heap.size,0,none⟩ 1 1 [.int .i64 (x:Int)] rfl rfl (HS.out wr) (by simp[Value.oneCell']) (by unfold maxLen;omega) (by omega) (by have:=HB.out.size;simp;omega) ?_;intro v4 w4 hown4 hgrow4 _;have HO4:=Aac hown4;have HG4:=Aac hgrow4;clear hown4 hgrow4)
    go_roundw
    case rel =>
     have hlo:=HO.out.lt
     have hg:=HG4.out
     have hbs:=HB.out.size
     refine⟨k+1,y,p++[x],Ah0 HO4.out (by omega),rfl,by go_num,HST.out.1,by omega,fun e=>HQ0.out (by omega),HST.out.2,?_,?_⟩
     ·rw[List.map_append];exact HO4.out
     ·exact (HB.out.alloc hbs _).grown hg (by simp;omega) (fun k hk=>(hlo k hk).1)
    case measure=>simp[intOf];omega
   have t1:decide ((k:Int)<(l.length:Int))=false:=Aa4 (by omega)
   have t1':decide (k<l.length)=false:=Aa4 h1
   by_cases h2:k<n.length
   ·have t2:decide ((k:Int)<(n.length:Int))=true:=Aa3 (by omega)
    have t2':decide (k<n.length)=true:=Aa3 h2
    clear hgo h1 h2
    go_wp2_with fail
    refine (HG1.out _ (HR.out.below HB.out)).mono ?_
    rintro e wa ⟨rfl,rfl⟩
    go_wp2_with fail
    refine (HG2.out _ (HR'.out.below HB.out)).mono ?_
    rintro e wa ⟨rfl,rfl⟩
    go_upto_region 7 with fail
    clear d1 d2 hTT HG1 HG2
    go_wp2_with (at_builtin;refine wpList_append_own _ rfl _ _ 89 rfl w.heap.size 3 i0 (.int .i64 0) 1 8 Tryz.underlying89 hi hz0 hz1 hz2 rfl (by decide) _ _ _ rfl (HO.out.alloc _) ⟨wr.heap.size,0,none⟩ 1 1 [.int .i64 (x:Int)] rfl rfl (HS.out wr) (by simp[Value.oneCell']) (by unfold maxLen;omega) (by omega) (by have:=HB.out.size;simp;omega) ?_;intro v4 w4 hown4 hgrow4 _;have HO4:=Aac hown4;have HG4:=Aac hgrow4;clear hown4 hgrow4)
    go_roundw
    case rel =>
     have hlo:=HO.out.lt
     have hg:=HG4.out
     have hbs:=HB.out.size
     refine⟨k+1,y,p++[x],Ah0 HO4.out (by omega),rfl,by go_num,HST.out.1,by omega,fun e=>HQ0.out (by omega),HST.out.2,?_,?_⟩
     ·rw[List.map_append];exact HO4.out
     ·exact (HB.out.alloc hbs _).grown hg (by simp;omega) (fun k hk=>(hlo k hk).1)
    case measure=>simp[intOf];omega
   have t2:decide ((k:Int)<(n.length:Int))=false:=Aa4 (by omega)
   have t2':decide (k<n.length)=false:=Aa4 h2
   have t3:decide ((0:Int)<(q:Int))=true:=Aa3 (by omega)
   have t3':decide (0<q)=true:=Aa3 (by omega)
   clear hgo h1 h2
   go_wp2_with fail
   refine (HG1.out _ (HR.out.below HB.out)).mono ?_
   rintro e wa ⟨rfl,rfl⟩
   go_wp2_with fail
   refine (HG2.out _ (HR'.out.below HB.out)).mono ?_
   rintro e wa ⟨rfl,rfl⟩
   go_upto_region 7 with fail
   clear d1 d2 hTT HG1 HG2
   go_wp2_with (at_builtin;refine wpList_append_own _ rfl _ _ 89 rfl w.heap.size 3 i0 (.int .i64 0) 1 8 Tryz.underlying89 hi hz0 hz1 hz2 rfl (by decide) _ _ _ rfl (HO.out.alloc _) ⟨wr.heap.size,0,none⟩ 1 1 [.int .i64 (x:Int)] rfl rfl (HS.out wr) (by simp[Value.oneCell']) (by unfold maxLen;omega) (by omega) (by have:=HB.out.size;simp;omega) ?_;intro v4 w4 hown4 hgrow4 _;have HO4:=Aac hown4;have HG4:=Aac hgrow4;clear hown4 hgrow4)
   go_roundw
   case rel =>
    have hlo:=HO.out.lt
    have hg:=HG4.out
    have hbs:=HB.out.size
    refine⟨k+1,y,p++[x],Ah0 HO4.out (by omega),rfl,by go_num,HST.out.1,by omega,fun e=>HQ0.out (by omega),HST.out.2,?_,?_⟩
    ·rw[List.map_append];exact HO4.out
    ·exact (HB.out.alloc hbs _).grown hg (by simp;omega) (fun k hk=>(hlo k hk).1)
   case measure=>simp[intOf];omega
  ·have t1:decide ((k:Int)<(l.length:Int))=false:=Aa4 (by omega)
   have t1':decide (k<l.length)=false:=Aa4 (by omega)
   have t2:decide ((k:Int)<(n.length:Int))=false:=Aa4 (by omega)
   have t2':decide (k<n.length)=false:=Aa4 (by omega)
   have hq0:q=0:=by omega
   subst hq0
   have hpl:=HP.out.1
   have hRd:=RdN.of_own HO.out
   have HRd:=Aac hRd
   have HV:=Aac (HP.out.full (by omega) (by omega))
   have HTR:=Aac (fun W hW=>Aeb (some ao) p co W (by have:=HM.out;omega) (by have:=hRd.2.1;omega) hW)
   have HLE:Hid (p.length≤max l.length n.length+1):=by have:=HM.out;rw[Hid,hpl];omega
   clear hgo hRd
   rw[hpl] at HTR
   go_wp2_with fail
   refine (HTR.out _ HRd.out.2.2).mono ?_
   rintro e wa ⟨rfl,rfl⟩
   go_wp2_with fail
   go_ret
   refine⟨ao,Tr.cutz p,co,rfl,?_,⟨HP.out.2.1.cutz,Abj p,by rw[Abk];exact HV.out,?_⟩,Ah1 HO.out ao rfl,HRd.out.2.2.cutz,HB.out⟩
   ·have:=Abn p;have:=HRd.out;omega
   ·have:=Abn p;have:=HLE.out;omega
end Go.Proofs.YtcmgmemffncbhabGreatDoor
