/-
  The walk of the iterator of schedule.inner.
-/
import Derived.Test.YtcnmoobojdopgaaGreatDoorI16
import Derived.RangeFuncNested
import Derived.Lib.BufferOwn
set_option linter.unusedVariables false
set_option linter.unusedSimpArgs false
set_option maxHeartbeats 16000000
set_option maxRecDepth 100000
namespace Go.Proofs.YtcnmoobojdopgaaGreatDoor
open Go.RowKit Tr Go.Shelf
attribute [local go_sem] Oper.semAt_some
def PBox(W:World)(B:Nat)(a b:Int):Prop:=W.heap[B]?=some (.cells #[.int .i64 a,.int .i64 b] 60 (0,0))
theorem PBox.lt{W:World}{B:Nat}{a b:Int}(h:PBox W B a b):B<W.heap.size:=(Aab.1 h).1
theorem PBox.below{W W':World}{B:Nat}{a b:Int}(h:PBox W B a b)(hb:Below W.heap.size W W'):PBox W' B a b:=(hb.block _ h.lt).trans h
theorem PBox.cells{W:World}{B:Nat}{a b:Int}(h:PBox W B a b):W.cell? ⟨B,0,none⟩=some (.int .i64 a)∧W.cell? ⟨B,1,none⟩=some (.int .i64 b):=by
 have h0:=Aaa h 0
 have h1:=Aaa h 1
 simp at h0 h1
 exact⟨h0,h1⟩
theorem Aru{W W':World}{B:Nat}{t:TypeId}{v:Value}(h:Boxed W B t v)(hb:Below W.heap.size W W'):Boxed W' B t v:=(hb.block _ h.lt).trans h
def encD(d:Int):Array Value:=#[.int .i64 d]
def KpI(bp bm:Nat)(a b mo:Int)(W W':World):Prop:=(PBox W bp a b→PBox W' bp a b)∧(Boxed W bm 3 (.int .i64 mo)→Boxed W' bm 3 (.int .i64 mo))
theorem KpI.trans{bp bm:Nat}{a b mo:Int}{A B C:World}(h:KpI bp bm a b mo A B)(k:KpI bp bm a b mo B C):KpI bp bm a b mo A C:=⟨fun x=>k.1 (h.1 x),fun x=>k.2 (h.2 x)⟩
theorem Arv{W:World}{k l:Nat}{o c:Obj}(o':Obj)(hk:W.heap[k]?=some c)(hc:c.isCells=true)(hl:W.heap[l]?=some o)(ho:o.isCells=false):(W.putObj l o').heap[k]?=some c:=by
 rcases Nat.decEq k l with h|h
 ·exact (World.putObj_heap_other (by omega)).trans hk
 ·subst h;rw[hl] at hk;injection hk with hk;subst hk;rw[ho] at hc;cases hc
theorem KpI.put{bp bm:Nat}{a b mo:Int}{W:World}{l:Nat}{o:Obj}(o':Obj)(hl:W.heap[l]?=some o)(ho:o.isCells=false):KpI bp bm a b mo W (W.putObj l o') :=
 ⟨fun h=>Arv o' h rfl hl ho,fun h=>Arv o' h rfl hl ho⟩
theorem Arw(n bp bs bm:Nat)(a b mo:Int)(w:World)(hn:1≤n)(hb:okDay b)(hm1:1≤mo)(hm2:mo≤4800)
 (hp:PBox w bp a b) (hs:Boxed w bs 3 (.int .i64 1)) (hm:Boxed w bm 3 (.int .i64 mo)) :
 SeqStopsK Fence.wide n Tryz.prog 217 #[.pointer (some ⟨bp,0,none⟩),.pointer (some ⟨bs,0,none⟩),.pointer (some ⟨bm,0,none⟩)] encD (KpI bp bm a b mo) (fun xs=>xs=cuts a b mo) (fun xs=>xs.length≤(cuts a b mo).length) 4801 w:=by
 intro l J Jx W hW hJ hJx hY hJ0
 have HJ:=Aac hJ
 have HY:=Aac hY
 have hp':PBox W bp a b:=(hW.block bp hp.lt).trans hp
 have hm':Boxed W bm 3 (.int .i64 mo):=(hW.block bm hm.lt).trans hm
 have hs':Boxed W bs 3 (.int .i64 1):=(hW.block bs hs.lt).trans hs
 obtain⟨p0,p1⟩:=hp'.cells
 have cs:=hs'.cell
 have cm:=hm'.cell
 have HP:=Aac hp'
 have HM:=Aac hm'
 have HAD:=Aac (fun (x:Int) (h0:-4800≤x) (h1:x≤4800) V=>Ajy b x hb h0 h1 V)
 have HLT:Hid (∀x,x∈cuts a b mo→a<x∧x<b):=fun x hx=>Ajs hm1 hb.1 hb.2 hx
 have HLN:Hid ((cuts a b mo).length≤4800):=Ajn hm1
 clear hJ hJx hY hp' hm' hs' hp hs hm hW hb
 refine callsIn_of_wp Tryz.func217 rfl trivial ?_ rfl
 simp only[Tryz.ntmps217,List.size_toArray,Aau,List.length_nil,Nat.reduceAdd,Nat.reduceSub,Array.replicate_succ,Array.replicate_zero,List.push_toArray,List.append_toArray,List.nil_append,List.cons_append]
 gi_wp2
 gi_loopw [7] (fun v wr=>∃(j:Nat) (nn:Int),v=.int .i64 nn∧Hid (nn=((j+1:Nat):Int)*mo)∧Hid (j≤(cuts a b mo).length)∧1≤nn∧nn≤9600∧Hid (PBox wr bp a b)∧Hid (Boxed wr bm 3 (.int .i64 mo))∧Hid (J ((cuts a b mo).take j) wr)) (fun v _=>(9700-intOf v).toNat)
 case atStart=>exact⟨0,mo,rfl,(by show mo=1*mo;omega),Nat.zero_le _,hm1,by omega,HP.out,HM.out,hJ0⟩
 case round =>
  obtain⟨j,nn,rfl,hnn,hj,n0,n9,HP1,HM1,HJ1⟩:=hrel
  clear HP HM hJ0 p0 p1 cs cm
  have HC:Hid ((cuts a b mo)[j]?=cutAt a b mo (j+1)):=Ajq hm1 hj.out
  have HE:Hid (∀x,addM b (-nn)=x→addM b (-(((j+1:Nat):Int)*mo))=x):=fun x h=>by rw[←hnn.out];exact h
  have HEND:Hid ((∀d,addM b (-nn)=some d→d≤a)→J ((cuts a b mo).take j)=J (cuts a b mo)):=fun h=>by
   have e:(cuts a b mo)[j]?=none:=by
    rw[HC.out]
    exact Aji (fun d hd=>h d (by rw[hnn.out];exact hd))
   rw[Aai (by simpa using e)]
  by_cases hle:nn≤4800
  ·have cle:decide (nn≤4800)=true:=Aav hle
   have HA:=Aac (HAD.out (-nn) (by omega) (by omega))
   gi_wp2_with fail
   refine⟨trivial,?_⟩
   refine (callsIn_wide.2 (HA.out wr)).mono ?_
   rintro e w4 ⟨rfl,hB⟩
   have HP4:Hid (PBox w4 bp a b):=HP1.out.below hB
   have HM4:Hid (Boxed w4 bm 3 (.int .i64 mo)):=Aru HM1.out hB
   have HJ4:Hid (J ((cuts a b mo).take j) w4):=HJ.out _ _ _ none HJ1.out (Lib.grownBy_below (World.grownBy.refl _ _) hB) (fun r e=>by cases e)
   obtain⟨p0,p1⟩:=HP4.out.cells
   have cm:=HM4.out.cell
   clear hB HP1 HM1 HJ1 HA HAD
   obtain⟨o,ho⟩:∃o,addM b (-nn)=o:=⟨_,rfl⟩
   rw[ho]
   have HO:=Aac ho
   clear ho
   rcases o with _|d
   ·have hf:Hid (J (cuts a b mo) w4):=by
     show J (cuts a b mo) w4
     rw[←HEND.out (fun d hd=>by rw[HO.out] at hd;cases hd)]
     exact HJ4.out
    rw[addV_none]
    gi_wp2
    refine⟨fun _ h=>(by cases h),?_⟩
    gi_wp2
    refine bodyPost_ret (results_none rfl _ _ _) rfl ?_
    exact⟨⟨_,rfl⟩,.inl (by first|exact hf.out|exact⟨_,rfl,hf.out⟩)⟩
   ·rw [Ajx]
    rcases Int.lt_or_le a d with had|had
    ·have HG:Hid ((cuts a b mo)[j]?=some d):=by
      show (cuts a b mo)[j]?=some d
      rw[HC.out]
      exact Ajh (HE.out _ HO.out) had
     have hdb:=(HLT.out d (Aar HG.out)).2
     have hc1:decide (d≤a)=false:=Aaw (by omega)
     have hc2:decide (d≥b)=false:=Aaw (by omega)
     have hjl:j<(cuts a b mo).length:=(Aak.1 HG.out).1
     have hl:=HLN.out
     obtain⟨fn,tmps,assign,body,hy,hR⟩:=HY.out _ d w4 HJ4.out (by rw[Aas];omega)
     dsimp only[encD] at hy
     have HT:Hid ((cuts a b mo).take j++[d]=(cuts a b mo).take (j+1)):=by
      show _++_=_
      rw[List.take_add_one,HG.out];rfl
     have HJL:=Aac hjl
     have HRD:=Aac hR
     clear hR hjl hl had hdb
     gi_wp2
     refine HRD.out.mono ?_
     rintro e W6 (⟨rfl,hj6,hk6⟩|⟨rfl,hjx⟩)
     ·have HP6:Hid (PBox W6 bp a b):=hk6.1 HP4.out
      have HM6:Hid (Boxed W6 bm 3 (.int .i64 mo)):=hk6.2 HM4.out
      have HJ6:Hid (J ((cuts a b mo).take (j+1)) W6):=by
       show J _ W6
       rw[←HT.out];exact hj6
      have cm6:=HM6.out.cell
      clear hj6 hk6 p0 p1 cm
      gi_wp2
      go_roundw
      case rel =>
       refine⟨j+1,nn+mo,rfl,?_,HJL.out,by omega,by omega,HP6.out,HM6.out,HJ6.out⟩
       show nn+mo=((j+1+1:Nat):Int)*mo
       rw[hnn.out]
       have e1:((j+1+1:Nat):Int)=((j+1:Nat):Int)+1:=by omega
       rw[e1,Int.add_mul,Int.one_mul]
      case measure=>simp[intOf];omega
     ·have hq:Hid (((cuts a b mo).take j++[d]).length≤(cuts a b mo).length):=by
       show _≤_
       have:=HJL.out
       rw[HT.out,Aas];omega
      gi_wp2
      refine bodyPost_ret (results_none rfl _ _ _) rfl ?_
      exact⟨⟨_,rfl⟩,.inr ⟨_,hq.out,hjx⟩⟩
    ·have hf:Hid (J (cuts a b mo) w4):=by
      show J (cuts a b mo) w4
      rw[←HEND.out (fun x hx=>by rw[HO.out] at hx;injection hx with hx;omega)]
      exact HJ4.out
     have hc1:decide (d≤a)=true:=Aav had
     clear had
     gi_wp2
     refine⟨fun _ h=>(by cases h),?_⟩
     gi_wp2
     refine bodyPost_ret (results_none rfl _ _ _) rfl ?_
     exact⟨⟨_,rfl⟩,.inl (by first|exact hf.out|exact⟨_,rfl,hf.out⟩)⟩
  ·have cle:decide (nn≤4800)=false:=Aaw hle
   gi_wp2
   go_end0
   have hf:J (cuts a b mo) wr:=by
    rw[←HEND.out (fun d hd=>by have:=(Ajf hd).2.1;omega)]
    exact HJ1.out
   exact⟨⟨_,rfl⟩,.inl (by first|exact hf|exact⟨_,rfl,hf⟩)⟩
end Go.Proofs.YtcnmoobojdopgaaGreatDoor
