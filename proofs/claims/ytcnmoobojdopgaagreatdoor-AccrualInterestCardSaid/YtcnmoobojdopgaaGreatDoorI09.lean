/-
  The walk of trancheref01.read.
-/
import Derived.Test.YtcnmoobojdopgaaGreatDoorI03
import Derived.Test.YtcnmoobojdopgaaGreatDoorI08
set_option linter.unusedVariables false
set_option linter.unusedSimpArgs false
set_option maxHeartbeats 16000000
set_option maxRecDepth 100000
namespace Go.Proofs.YtcnmoobojdopgaaGreatDoor
open Go.RowKit Tr Go.Shelf
theorem RdN.of_own{w:World}{base:Nat}{e:TypeId}{A:Option Addr}{n c:Nat}{l:List Nat}(h:w.ownsRow base e 1 (.slice A n c) n (l.map V)):n=l.length∧n≤c∧RdN w A l:=by
 have hn:n=l.length:=by have:=h.1;simpa using this.symm
 refine⟨hn,?_,fun hl=>?_⟩
 ·rcases h.2 with⟨h',_⟩|⟨g',cap',cur,h',_,hg,hnc,_⟩
  ·simp at h';omega
  ·simp only[Value.slice.injEq] at h';omega
 ·rcases h.2 with⟨h',_⟩|⟨g',cap',cur,h',_,hg,_⟩
  ·exact absurd (Aag (by simp at h';omega)) hl
  ·simp only[Value.slice.injEq,true_and] at h'
   obtain⟨rfl,rfl⟩:=h'
   have hlt:g'<w.heap.size:=by
    rcases Aam g' w.heap.size with h|h
    ·exact h
    ·rw[Array.getElem?_eq_none h] at hg;cases hg
   refine⟨_,rfl,hlt,fun j hj=>?_⟩
   have hc:=h.cells (g:=g') rfl j (.int .i64 (gt l j)) (by simp[gt,V,hj])
   exact hc
theorem RdN.far{w:World}{A:Option Addr}{l:List Nat}(h:RdN w A l){p:Addr}(hp:∀ad:Addr,A=some ad→ad.block≠p.block)(u:Value):RdN (w.setCell p u) A l:=by
 intro hl
 obtain⟨ad,rfl,h1,h2⟩:=h hl
 refine⟨ad,rfl,by simpa[World.setCell] using h1,fun j hj=>?_⟩
 rw[World.cell?_setCell_other _ _ _ _ (fun e=>hp ad rfl (by rw[←Ach ad j,←e]))]
 exact h2 j hj
theorem Afd(w:World)(p:Addr)(v:Value):w.grownBy (w.setCell p v) (some p.block) :=
 ⟨rfl,rfl,rfl,by simp[World.setCell],fun k _ hne=>Below.heap_setCell w p v k (fun e=>hne (by rw[e]))⟩
theorem Afe{ds:List UInt8}{s j:Nat}(hs:s≤j)(hj:j<ds.length):dval ((ds.take (j+1)).drop s)=10*dval ((ds.take j).drop s)+((byt (bs ds) j).toNat-48):=by
 rw[List.take_succ_eq_append_getElem hj,List.drop_append_of_le_length (by simp;omega),Ab0]
 unfold byt
 rw[Ac0,Aat,Aae hj];rfl
theorem Aff{ds:List UInt8}(hd:ds.all Abs=true)(s j:Nat)(h:j-s≤9):dval ((ds.take j).drop s)<1000000000:=by
 have hall:((ds.take j).drop s).all Abs=true:=by
  rw[List.all_eq_true] at hd ⊢
  exact fun x hx=>hd x (List.mem_of_mem_take (List.mem_of_mem_drop hx))
 have h1:=Tr.Acc _ hall
 have h2:((ds.take j).drop s).length≤9:=by simp;omega
 exact Aah h1 (Ac4 h2)
def RReadPost(w:World)(a:ByteArray)(e:Ending)(w':World):Prop :=
 ∃(A:Option Addr) (l:List Nat) (c:Nat),e=.returned (.agg #[.bool (decide (vl a<0)),.slice A l.length c])∧(Dig l∧Norm l∧mval l=(vl a).natAbs∧9*l.length≤a.size+8)∧l.length≤c∧RdN w' A l∧Below w.heap.size w w'
theorem Afg(a:ByteArray)(w:World)(hs:a.size≤900000):
 Calls Tryz.prog 138 #[.string a] w (RReadPost w a):=by
 have HD:=Aac (fun W=>Adm a (by omega) W)
 go_enter Tryz.func138,Tryz.ntmps138
 go_wp2_with fail
 refine (HD.out _).mono ?_
 rintro e w1 ⟨rfl,hw1⟩
 clear HD
 have hlen:(digits (vl a).natAbs).length≤a.size:=by
  rw[digits_length_le_iff]
  exact Acd a.data.toList
 have hall:=all_digits (vl a).natAbs
 generalize hds:digits (vl a).natAbs=ds at hlen hall ⊢
 generalize hneg:decide (vl a<0)=nb
 have HNEG:=Aac hneg
 have HDS:=Aac hds
 have HALL:=Aac hall
 clear hds hneg hall
 subst hw1
 obtain⟨i0,hi,hz0,hz1,hz2⟩:=info_parts Tryz.info_int
 have hbsz:(bs ds).size=ds.length:=Ac1 ds
 go_wp2_with fail
 have hw2:((w.alloc (.cells #[.bool false,.slice none 0 0] 165)).alloc (.cells #[.bool nb,.slice none 0 0] 165)).heap[w.heap.size]?=some (.cells #[.bool false,.slice none 0 0] 165 (0,0)):=by
  rw[Below.heap_alloc _ _ _ (by simp)];exact Aax w _
 have hw3:((w.alloc (.cells #[.bool false,.slice none 0 0] 165)).alloc (.cells #[.bool nb,.slice none 0 0] 165)).heap[w.heap.size+1]?=some (.cells #[.bool nb,.slice none 0 0] 165 (0,0)):=by
  have:=Aax (w.alloc (.cells #[.bool false,.slice none 0 0] 165)) (.cells #[.bool nb,.slice none 0 0] 165)
  rwa [World.size_alloc] at this
 go_loopw [6] (fun iv wr=>∃(l:List Nat) (v:Value),iv=.int .i64 ((ds.length:Int)-9*(l.length:Int))∧ReadR ds l∧wr.ownsRow (w.heap.size+2) 3 1 v l.length (l.map V)∧wr.heap[w.heap.size]?=some (.cells #[.bool false,.slice none 0 0] 165 (0,0))∧wr.heap[w.heap.size+1]?=some (.cells #[.bool nb,v] 165 (0,0))∧Below w.heap.size w wr∧w.heap.size+2≤wr.heap.size) (fun iv _=>(intOf iv+8).toNat)
 case atStart=>exact⟨[],.slice none 0 0,by simp,⟨Dig.nil,by simp,by simp[mval]⟩,World.ownsRow_nil _ _ _ _,hw2,hw3,((Below.refl _ _).alloc (Aad _) _).alloc (by simp) _,by simp⟩
 case round =>
  obtain⟨l,v,rfl,hR,hown,hres,hout,hB,hwr⟩:=hrel
  have HR:=Aac hR
  have HOWN:=Aac hown
  have HRES:=Aac hres
  have HOUT:=Aac hout
  have HB:=Aac hB
  have b9:=hR.2.1
  have o1:=Aaa hout 1
  have q1:=Aaf hout 1
  simp at o1
  clear hR hown hres hout hB hw2 hw3
  by_cases hpos:9*l.length<ds.length
  ·have hk:((ds.length:Int)-9*(l.length:Int))=((ds.length-9*l.length:Nat):Int):=by omega
   have HST:=Aac (HR.out.step HALL.out hpos)
   rw[hk]
   generalize hkk:ds.length-9*l.length=k at HST hk ⊢
   have hk1:1≤k:=by omega
   have hk2:k≤ds.length:=by omega
   have HKK:=Aac hkk
   clear hk hkk b9 hpos
   have hmx:max 0 ((k:Int)-9)=((k-9:Nat):Int):=by omega
   go_wp2_with fail
   clear hmx
   go_loop [7,8] (fun v7 v8=>∃j:Nat,v8=.int .i64 (j:Int)∧k-9≤j∧j≤k∧v7=.int .i64 (dval ((ds.take j).drop (k-9)):Nat)) (fun _ v8=>k-(intOf v8).toNat)
   case atStart=>exact⟨k-9,rfl,by omega,by omega,by rw[List.drop_eq_nil_of_le (by simp;omega)];rfl⟩
   case round =>
    obtain⟨j,rfl,hj1,hj2,rfl⟩:=hrel
    rcases Aam j k with hlt|hge
    ·have hb:=Ads HALL.out (k:=j) (by omega)
     have hd9:=Aff HALL.out (k-9) j (by omega)
     have HS:=Aac (Afe (ds:=ds) hj1 (show j<ds.length by omega))
     have hjs:j<(bs ds).size:=by omega
     have hg:(bs ds)[j].toNat=(byt (bs ds) j).toNat:=by rw[Adb]
     generalize (byt (bs ds) j).toNat=bb at hb hg HS
     generalize dval ((ds.take j).drop (k-9))=dv at hd9 HS ⊢
     have hc:decide ((j:Int)<(k:Int))=true:=by simp;omega
     go_wp2_with fail
     go_round
     case rel=>exact⟨j+1,by go_num,by omega,by omega,Adu (by rw[HS.out];omega)⟩
     case measure=>simp[intOf];omega
    ·have hjk:j=k:=by omega
     subst hjk
     generalize dval ((ds.take j).drop (j-9))=x at HST ⊢
     have hsrc:∀i u,[Value.int .i64 (x:Int)][i]?=some u→(wr.alloc (.cells #[.int .i64 (x:Int)] 3)).cell? ((⟨wr.heap.size,0,none⟩:Addr).add i)=some u:=by
      intro i u hu
      have hi0:i=0:=by rcases i with _|i;rfl;simp at hu
      subst hi0
      simp at hu
      subst hu
      exact Aaa (Aax wr (.cells #[.int .i64 (x:Int)] 3)) 0
     have HS:=Aac hsrc
     clear hsrc
     have hll:l.length≤ds.length:=by have:=HKK.out;omega
     have ne1:wr.heap.size≠w.heap.size+1:=by omega
     go_wp2_with (at_builtin;refine wpList_append_own _ rfl _ _ 163 rfl (w.heap.size+2) 3 i0 (.int .i64 0) 1 8 Tryz.underlying163 hi hz0 hz1 hz2 rfl (by decide) _ _ _ rfl (HOWN.out.alloc _) ⟨wr.heap.size,0,none⟩ 1 1 [.int .i64 (x:Int)] rfl rfl HS.out (by simp[Value.oneCell']) (by unfold maxLen;omega) (by omega) (by simp;omega) ?_;intro v3 w3 hown3 hgrow3 _;obtain⟨A3,n3,c3,hv3⟩:∃A3 n3 c3,v3=.slice A3 n3 c3:=(by rcases hown3.2 with⟨h',h0⟩|⟨g',cap',cur,h',_⟩;exact⟨_,_,_,h'⟩;exact⟨_,_,_,h'⟩);subst hv3;have hout3:w3.heap[w.heap.size+1]?=some (.cells #[.bool nb,v] 165 (0,0)):=(hgrow3.block (w.heap.size+1) (by simp;omega) (fun e=>by have:=HOWN.out.lt _ e.symm;omega)).trans ((Below.heap_alloc wr _ _ (by omega)).trans HOUT.out);have o3:=Aaa hout3 1;have q3:=Aaf hout3 1;simp at o3;have HOUT3:=Aac hout3;have HO3:=Aac hown3;have HG3:=Aac hgrow3;clear hown3 hgrow3 hout3)
     have hO4:(w3.setCell ⟨w.heap.size+1,1,none⟩ (.slice A3 n3 c3)).ownsRow (w.heap.size+2) 3 1 (.slice A3 n3 c3) (l++[x]).length ((l++[x]).map V):=by
      have h3:w3.ownsRow (w.heap.size+2) 3 1 (.slice A3 n3 c3) (l++[x]).length ((l++[x]).map V):=by simpa[V] using HO3.out
      refine h3.kept (Afd w3 ⟨w.heap.size+1,1,none⟩ (.slice A3 n3 c3)) ?_
      rcases hob:(Value.slice A3 n3 c3).ownBlock with _|k3
      ·exact .inl rfl
      ·refine .inr (fun e=>?_)
       have:=(h3.lt k3 hob).1
       simp only[Option.some.injEq] at e
       omega
     have hlt:=HOWN.out.lt
     have hg:=HG3.out
     have hB4:Below w.heap.size w w3:=(HB.out.alloc (by omega) _).grown hg (by simp;omega) (fun k hk=>by have:=hlt k hk;omega)
     have hres4:w3.heap[w.heap.size]?=some (.cells #[.bool false,.slice none 0 0] 165 (0,0)):=(hg.block w.heap.size (by simp;omega) (fun e=>by have:=hlt _ e.symm;omega)).trans ((Below.heap_alloc wr _ _ (by omega)).trans HRES.out)
     have hkk:=HKK.out
     have hsz:=hg.size
     simp only[World.size_alloc] at hsz
     refine⟨⟨l++[x],.slice A3 n3 c3,?_,HST.out,hO4,?_,?_,hB4.setCell (p:=⟨w.heap.size+1,1,none⟩) (by simp) _,?_⟩,by simp[intOf];omega⟩
     ·simp only[Aan,Aau,List.length_nil]
      congr 1;omega
     ·exact (Below.heap_setCell _ _ _ _ (by simp)).trans hres4
     ·simp[World.setCell,Array.getElem?_modify,HOUT3.out]
     ·simp[World.setCell];omega
  ·have hneg:decide ((0:Int)<(ds.length:Int)-9*(l.length:Int))=false:=by simp only[decide_eq_false_iff_not];omega
   have o0:=Aaa HOUT.out 0
   have q0:=Aaf HOUT.out 0
   have r0:=Aaa HRES.out 0
   have r1:=Aaa HRES.out 1
   have s0:=Aaf HRES.out 0
   have s1:=Aaf HRES.out 1
   simp at o0 r0 r1
   obtain⟨A5,c5,rfl⟩:∃A5 c5,v=.slice A5 l.length c5:=by
    rcases HOWN.out.2 with⟨h',h0⟩|⟨g',cap',cur,h',_⟩
    ·exact⟨none,0,by rw[h',h0]⟩
    ·exact⟨_,_,h'⟩
   go_wp2_with fail
   refine bodyPost_ret (v:=.agg #[.bool nb,.slice A5 l.length c5]) (by simp[results,Tryz.results138,go_sem,r0,r1]) rfl ?_
   have hro:=RdN.of_own HOWN.out
   have hnil:ds.length≤9*l.length:=by omega
   have hds:=HDS.out
   subst hds
   have hB':Below w.heap.size w ((wr.setCell ⟨w.heap.size,0,none⟩ (.bool nb)).setCell ⟨w.heap.size,1,none⟩ (.slice A5 l.length c5)) :=
    (HB.out.setCell (p:=⟨w.heap.size,0,none⟩) (Aad _) _).setCell (p:=⟨w.heap.size,1,none⟩) (Aad _) _
   have hfar:∀ad:Addr,A5=some ad→l≠[]→ad.block≠w.heap.size:=by
    intro ad hA hl
    have h3:=HOWN.out.lt ad.block (by rw[hA];rfl)
    omega
   refine⟨A5,l,c5,by rw[HNEG.out],⟨HR.out.1,HR.out.norm hnil,by rw[HR.out.done hnil,dval_digits],by omega⟩,hro.2.1,?_,hB'⟩
   intro hl
   exact ((hro.2.2.far (p:=⟨w.heap.size,0,none⟩) (fun ad hA=>hfar ad hA hl) _).far (p:=⟨w.heap.size,1,none⟩) (fun ad hA=>hfar ad hA hl) _) hl
theorem Dig.cutz{l:List Nat}(h:Dig l):Dig (cutz l):=by rw[Acv];exact h.take _
end Go.Proofs.YtcnmoobojdopgaaGreatDoor
