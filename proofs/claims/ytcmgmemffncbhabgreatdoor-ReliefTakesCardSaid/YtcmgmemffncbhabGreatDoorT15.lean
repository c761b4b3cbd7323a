/-
  A range over a function whose iterator writes boxes of its own;the loop's body never leaves early.
-/
import Derived.Test.YtcmgmemffncbhabGreatDoorT11
import Derived.RangeFuncNested
import Derived.RangeFuncBound
import Derived.RangeFuncCalls
import Derived.RangeFuncLeaves
import Derived.Shelf.Abstract
import Derived.Shelf.RegionOpen
import Derived.OwnWalkIn
import Derived.TacticsInMore
import Derived.LoopNIn
import Derived.LoopIn
import Derived.Deep.QuietTactic
import Derived.Deep.RegionHeld3
import Derived.Test.YtcmgmemffncbhabGreatDoorT14
set_option linter.unusedVariables false
set_option linter.unusedSimpArgs false
set_option maxHeartbeats 16000000
set_option maxRecDepth 100000
namespace Go.Proofs.YtcmgmemffncbhabGreatDoor
open Go.RowKit Tr Go.Shelf
variable {F:Fence} {n:Nat} {P:Program}
def SeqM{α:Type}(F:Fence)(n:Nat)(P:Program)(g:Nat)(lb:Array Value)(encs:α→Array Value)(Kp M:World→World→Prop)(S:List α→World→Prop)(N:Nat)(w:World):Prop :=
 ∀(l:Nat) (J:List α→World→Prop) (W:World),Below w.heap.size w W→(∀pre A B,J pre A→M A B→J pre B) →
  (∀pre x W1,J pre W1→pre.length<N→YieldAt F (n-1) P l (encs x) W1 fun e W'=>e=.returned (.bool true)∧J (pre++[x]) W'∧Kp W1 W') →
  J [] W →
  CallsIn F n P g (#[.func (.yield l) #[] #[]]++lb) W fun e W'=>(∃v,e=.returned v)∧∃xs,S xs W'∧J xs W'
def goesOn{α:Type}(B:Nat)(Kp:World→World→Prop)(I:List α→World→Prop)(xs:List α)(W:World):Exit→Act→World→Prop
 | .normal,_,W'=>KeepsFrom B W W'∧Kp W W'∧I xs W'
 | _,_,_=>False
theorem Ah4{α:Type}{g:Operand}{ps:Array Tmp}{assign body:Code}{Q:Exit→Act→World→Prop}{a:Act}{w:World}
 (hro:F.round=none) (h1:1≤n) {gf:Nat} {lb:Array Value} (hg:a.eval g=.func (.func gf) #[] lb) (hFg:F.fn gf) (eg:∀args w,(callFunc gf args).run P w=.ok (.enter gf args) w)
 {encs:α→Array Value} {Kp M:World→World→Prop} {S:List α→World→Prop} {N:Nat} {w0:World} (hseq:SeqM F (n-1) P gf lb encs Kp M S N w0)
 (hM:∀A B:World,M A B→∀(k:Nat) (o:Obj),w.heap.size≤k→A.heap[k]?=some o→o.isCells=false→B.heap[k]?=some o)
 (hKt:∀ {A B C:World},Kp A B→Kp B C→Kp A C) (hKb:∀(W:World) (l:Nat) (o o':Obj),w.heap.size≤l→W.heap[l]?=some o→o.isCells=false→o.isWalk=false→Kp W (W.putObj l o')) (hb0:Below w0.heap.size w0 w) (hps:∀x,(encs x).size=ps.size)
 (I:List α→World→Prop) (hI:OwnFrom w.heap.size I) (hIM:∀pre A B,I pre A→M A B→I pre B) (hS:OwnFrom w.heap.size S) (h0:I [] w) (a₁:α→Act)
 (hassign:∀(l:Nat) (x:α) (W:World) (K:Act→World→Prop),K (a₁ x) W →
   assign.wpIn (F.inRound l) (n-1-1) P (Exit.then K (fun _ _ _=>False)) {tmps:=(ps.zip (encs x)).foldl (fun t (p,v)=>t.setIfInBounds p v) a.tmps,defers:=[]} W)
 (hbody:∀(l:Nat) (pre:List α) (x:α) (W:World),I pre W→pre.length<N→body.wpIn (F.inRound l) (n-1-1) P (goesOn w.heap.size Kp I (pre++[x]) W) (a₁ x) W)
 (hdone:∀(D:Nat) (xs:List α) (W:World),w.heap.size≤D→S xs W→I xs W→W.heap[D]?=some (.deferred (some []))→Q .normal {a with defers:={target:=.collected D,args:=#[]}::a.defers} W) :
 (Code.rangeFunc g ps assign body).wpIn F n P Q a w:=by
 refine wpIn_rangeFunc ?_
 intro fn hfn
 rw[hro]
 obtain⟨rec,hrec⟩:∃rec:LoopState→Option Code→Loop,rec=fun st pe=>{state:=st,pending:=pe,fn,tmps:=a.tmps,params:=ps,assign,body,defers:=w.heap.size}:=⟨_,rfl⟩
 obtain⟨W1,hW1⟩:∃W1,(w.alloc (.deferred (some []))).alloc (.loop (rec .ready none))=W1:=⟨_,rfl⟩
 have hL1:W1.heap[w.heap.size+1]?=some (.loop (rec .ready none)):=by
  rw[←hW1];have:=World.alloc_heap_new (w.alloc (.deferred (some []))) (.loop (rec .ready none));rwa [World.size_alloc] at this
 have hK1:W1.heap[w.heap.size]?=some (.deferred (some [])):=by
  rw[←hW1];exact (Below.heap_alloc _ _ _ (by simp)).trans (World.alloc_heap_new w _)
 have hI1:I [] W1:=by rw[←hW1];exact hI.alloc _ (hI.alloc _ h0)
 have hb1:Below w0.heap.size w0 W1:=by
  rw[←hW1];exact hb0.trans ((((Below.refl _ w).alloc (Aad _) _).alloc (by simp) _).mono hb0.size)
 refine⟨w.heap.size+1,[{target:=.collected w.heap.size,args:=#[]}],W1,{target:=.fn (.func gf) lb,args:=#[.func (.yield (w.heap.size+1)) #[] #[]]},W1,gf,
  #[.func (.yield (w.heap.size+1)) #[] #[]]++lb,W1,?_,?_,?_,?_,fun _=>h1,?_⟩
 ·rw[←hW1,hrec];exact run_enterLoop_outer _ _ _ _ _
 ·simp only[resolve,hg]
  simp[go_sem]
 ·intro f' hf';simp[Target.leads] at hf';subst hf';exact hFg
 ·simp[invoke,go_sem,eg]
 ·refine (hseq (w.heap.size+1)
   (fun pre W=>I pre W∧W.heap[w.heap.size+1]?=some (.loop (rec .ready none))∧W.heap[w.heap.size]?=some (.deferred (some [])))
   W1 hb1
   (fun s A B hs hm=>⟨hIM s A B hs.1 hm,hM A B hm _ _ (by omega) hs.2.1 rfl,hM A B hm _ _ (Aad _) hs.2.2 rfl⟩)
   ?_ ⟨hI1,hL1,hK1⟩).mono ?_
  ·rintro pre x W ⟨hi,hl,hk⟩ hlen
   have hlt:w.heap.size+1<W.heap.size:=(Aab.1 hl).1
   have hy:=run_yield (P:=P) (args:=encs x) hl (by rw[hrec];exact hps x)
   rw[hrec] at hy
   refine⟨fn,_,assign,body,hy,roundIn_of_wpIn hfn (hassign _ x W _ ⟨_,run_beginRound hl (by rw[hrec]),?_⟩)⟩
   have hl2:(W.putObj (w.heap.size+1) (.loop {rec .ready none with state:=.busy})).heap[w.heap.size+1]?=some (.loop {rec .ready none with state:=.busy}):=World.putObj_heap_same hlt
   have hk2:(W.putObj (w.heap.size+1) (.loop {rec .ready none with state:=.busy})).heap[w.heap.size]?=some (.deferred (some [])):=(World.putObj_heap_other (by omega)).trans hk
   have hw2:Kp W (W.putObj (w.heap.size+1) (.loop {rec .ready none with state:=.busy})):=hKb _ _ _ _ (by omega) hl rfl rfl
   refine wpIn_mono (hbody _ pre x _ (hI.putObj _ hi (by omega) hl rfl) hlen) ?_
   have fin:∀(jump:Option Code) (W3:World),KeepsFrom w.heap.size (W.putObj (w.heap.size+1) (.loop {rec .ready none with state:=.busy})) W3 →
    (Instr.endRound (w.heap.size+1) jump).run P W3=.ok (.bool jump.isNone) (W3.putObj (w.heap.size+1) (.loop (rec (if jump.isNone then .ready else .done) jump))) ∧
    W3.heap[w.heap.size+1]?=some (.loop {rec .ready none with state:=.busy}) ∧
    (W3.putObj (w.heap.size+1) (.loop (rec (if jump.isNone then .ready else .done) jump))).heap[w.heap.size+1]?=some (.loop (rec (if jump.isNone then .ready else .done) jump)) ∧
    (W3.putObj (w.heap.size+1) (.loop (rec (if jump.isNone then .ready else .done) jump))).heap[w.heap.size]?=some (.deferred (some [])):=fun jump W3 hk3=>by
    have hl3:=hk3.same _ _ (by omega) hl2 rfl
    have:=run_endRound (P:=P) jump hl3
    rw[hrec] at this ⊢
    exact⟨this,by rw[hrec] at hl3;exact hl3,World.putObj_heap_same (Aab.1 hl3).1,(World.putObj_heap_other (by omega)).trans (hk3.same _ _ (Aad _) hk2 rfl)⟩
   rintro e a3 W3 hp
   cases e with
   | normal =>
     obtain⟨hk3,hkp3,hi3⟩:=hp
     obtain⟨hr,hl3,hl4,hk4⟩:=fin none W3 hk3
     exact⟨_,_,hr,rfl,⟨hI.putObj _ hi3 (by omega) hl3 rfl,hl4,hk4⟩,hKt (hKt hw2 hkp3) (hKb _ _ _ _ (by omega) hl3 rfl rfl)⟩
   | ret=>exact hp.elim
   | exit id=>exact hp.elim
   | goto t=>exact hp.elim
   | panic ch=>exact hp.elim
   | outgrown=>exact hp.elim
  ·rintro e W2 ⟨⟨v,rfl⟩,xs,hs,hi,hl,hk⟩
   exact⟨none,_,by have:=run_endLoop (P:=P) hl (by rw[hrec];simp);rw[hrec] at this;exact this,hdone _ xs _ (Aad _) (hS.putObj _ hs (by omega) hl rfl) (hI.putObj _ hi (by omega) hl rfl) ((World.putObj_heap_other (by omega)).trans hk)⟩
def SB(b:Nat)(W:World):Prop:=∃x y z t m,W.heap[b]?=some (.cells #[.slice x y z] t m)
def KpC(b:Nat)(W W':World):Prop:=(Below 0 W W'∧(SB b W→SB b W'))∧∀(k:Nat) (o:Obj),k≠b→W.heap[k]?=some o→o.isCells=true→W'.heap[k]?=some o
def Mv(b1 b2:Nat)(W W':World):Prop:=Below 0 W W'∧∀(k:Nat),k<W.heap.size→k≠b1→k≠b2→W'.heap[k]?=W.heap[k]?
theorem KpC.trans{b:Nat}{A B C:World}(h:KpC b A B)(k:KpC b B C):KpC b A C:=⟨⟨h.1.1.trans k.1.1,fun s=>k.1.2 (h.1.2 s)⟩,fun i o hi ho hc=>k.2 i o hi (h.2 i o hi ho hc) hc⟩
theorem KpC.put{b:Nat}{W:World}{l:Nat}{o:Obj}(o':Obj)(hl:W.heap[l]?=some o)(ho:o.isCells=false):KpC b W (W.putObj l o'):=by
 refine⟨⟨⟨rfl,rfl,rfl,by simp[World.putObj],fun _ h=>absurd h (Nat.not_lt_zero _)⟩,?_⟩,fun k o2 _ hk hc=>?_⟩
 ·rintro⟨x,y,z,t,m,e⟩
  refine⟨x,y,z,t,m,?_⟩
  rcases Nat.decEq b l with h|h
  ·exact (World.putObj_heap_other (by omega)).trans e
  ·subst h;rw[hl] at e;injection e with e;subst e;cases ho
 rcases Nat.decEq k l with h|h
 ·exact (World.putObj_heap_other (by omega)).trans hk
 ·subst h;rw[hl] at hk;injection hk with hk;subst hk;rw[ho] at hc;cases hc
theorem Mv.trans{b1 b2:Nat}{A B C:World}(h:Mv b1 b2 A B)(k:Mv b1 b2 B C):Mv b1 b2 A C :=
 ⟨h.1.trans k.1,fun i hi n1 n2=>(k.2 i (Aah hi h.1.size) n1 n2).trans (h.2 i hi n1 n2)⟩
theorem Mv.below{b1 b2:Nat}{A B:World}(h:Below A.heap.size A B):Mv b1 b2 A B:=⟨h.mono (Nat.zero_le _),fun k hk _ _=>h.block k hk⟩
theorem Mv.set{b1 b2:Nat}(W:World)(p:Addr)(u:Value)(hp:p.block=b1∨p.block=b2):Mv b1 b2 W (W.setCell p u) :=
 ⟨⟨rfl,rfl,rfl,by simp[World.setCell],fun _ h=>absurd h (Nat.not_lt_zero _)⟩,fun k _ n1 n2=>Below.heap_setCell W p u k (by omega)⟩
theorem RdM.kept{w w':World}{A:Option Addr}{l:List Nat}(h:RdM w A l)(b:Nat→Prop)(hs:w.heap.size≤w'.heap.size)
 (hk:∀(k:Nat) (o:Obj),¬b k→w.heap[k]?=some o→o.isCells=true→w'.heap[k]?=some o)
 (hb:∀k,b k→SB k w):RdM w' A l:=by
 intro hl
 obtain⟨ad,rfl,h1,h2⟩:=h hl
 have hnb:¬b ad.block:=by
  intro hbb
  obtain⟨x,y,z,t,m,e1⟩:=hb _ hbb
  have e3:=h2 0 (by cases l with|nil=>exact absurd rfl hl|cons=>simp)
  rw[show ad.add 0=ad from by simp[Addr.add]] at e3
  unfold World.cell? at e3
  rw[e1] at e3
  simp only at e3
  split at e3
  ·cases e3
  ·rcases ad with⟨bb,off,sp⟩
   cases off<;>simp at e3
 refine⟨ad,rfl,Aah h1 hs,fun j hj=>?_⟩
 have e:=h2 j hj
 have hc:∃o:Obj,w.heap[ad.block]?=some o∧o.isCells=true:=by
  unfold World.cell? at e
  rw[Acv] at e
  split at e
  ·rename_i c t m hh;exact⟨_,hh,rfl⟩
  ·cases e
 obtain⟨o,ho,hoc⟩:=hc
 have e':=hk _ _ hnb ho hoc
 rw[←e]
 unfold World.cell?
 rw[Acv,ho,e']
end Go.Proofs.YtcmgmemffncbhabGreatDoor
namespace Go.Proofs.YtcmgmemffncbhabGreatDoor
open Go.RowKit Tr Go.Shelf
attribute [local go_sem] Oper.semAt_some
structure Two where
 A:Option Addr
 k:Nat
 c:Nat
 A':Option Addr
 k':Nat
 c':Nat
def enc2(x:Two):Array Value:=#[.slice x.A x.k x.c,.slice x.A' x.k' x.c']
def Left(bn:Nat)(wr:World)(z:Nat):Prop:=∃A l c,wr.cell? ⟨bn,0,none⟩=some (.slice A l.length c)∧RdM wr A l∧mval l=z
noncomputable def left(bn:Nat)(wr:World):Nat:=by
 classical exact if h:∃z,Left bn wr z then h.choose else 0
theorem Ah5{bn:Nat}{wr:World}{A:Option Addr}{l:List Nat}{c:Nat}(h1:wr.cell? ⟨bn,0,none⟩=some (.slice A l.length c))(h2:RdM wr A l):left bn wr=mval l:=by
 have hex:∃z,Left bn wr z:=⟨_,A,l,c,h1,h2,rfl⟩
 unfold left
 rw[dif_pos hex]
 obtain⟨A',l',c',e1,e2,e3⟩:=hex.choose_spec
 rw[←e3]
 rw[h1] at e1
 simp only[Option.some.injEq,Value.slice.injEq] at e1
 obtain⟨rfl,e1,rfl⟩:=e1
 congr 1
 refine (List.ext_getElem e1 fun j j1 j2=>?_).symm
 obtain⟨ad,ea,_,ec⟩:=h2 (by intro e;subst e;cases j1)
 obtain⟨ad',ea',_,ec'⟩:=e2 (by intro e;subst e;cases j2)
 rw[ea] at ea';injection ea' with ea';subst ea'
 have:=(ec j j1).symm.trans (ec' j j2)
 simp only[Option.some.injEq,Value.int.injEq,true_and] at this
 have:=Int.ofNat.inj this
 unfold gt at this
 rwa [Aa7 j1,Aa7 j2] at this
def GcdS(G:Nat)(xs:List Two)(W:World):Prop:=∃(pre:List Two) (x:Two) (l:List Nat),xs=pre++[x]∧x.k=l.length∧Dig l∧Norm l∧Mg W x.A x.c l∧l.length≤536870000∧mval l=G
theorem Mg.kept{w w':World}{A:Option Addr}{c:Nat}{l:List Nat}(h:Mg w A c l)(b:Nat→Prop)(hs:w.heap.size≤w'.heap.size)
 (hk:∀(k:Nat) (o:Obj),¬b k→w.heap[k]?=some o→o.isCells=true→w'.heap[k]?=some o)
 (hb:∀k,b k→SB k w):Mg w' A c l:=⟨h.1,h.2.1,h.2.2.kept b hs hk hb⟩
theorem Ah6(n bm bn bo:Nat)(h1:bm≠bn)(h2:bo≠bm)(h3:bo≠bn)(A0 A1:Option Addr)(l0 l1:List Nat)(c0 c1:Nat)(w:World)(hn:1≤n)
 (hb0:Boxed w bm 80 (.slice A0 l0.length c0)) (hb1:Boxed w bn 80 (.slice A1 l1.length c1)) (hbo:SB bo w) (d0:Dig l0) (d1:Dig l1) (n0:Norm l0) (n1:Norm l1)
 (m0:Mg w A0 c0 l0) (m1:Mg w A1 c1 l1) (z0:l0.length≤536870000) (z1:l1.length≤536870000) :
 SeqM Fence.wide n Tryz.prog 227 #[.pointer (some ⟨bm,0,none⟩),.pointer (some ⟨bn,0,none⟩)] enc2 (KpC bo) (Mv bm bn) (GcdS (Nat.gcd (mval l0) (mval l1))) (mval l1+2) w:=by
 intro l J W hW hJ hY hJ0
 refine callsIn_of_wp Tryz.func227 rfl trivial ?_ rfl
 simp only[Tryz.ntmps227,List.size_toArray,Aa0,List.length_nil,Nat.reduceAdd,Nat.reduceSub,Array.replicate_succ,Array.replicate_zero,List.push_toArray,List.append_toArray,List.nil_append,List.cons_append]
 gi_wp2
 gi_loopw [] (fun wr=>∃(pre:List Two) (A:Option Addr) (a:List Nat) (c:Nat) (A':Option Addr) (b:List Nat) (c':Nat),Boxed wr bm 80 (.slice A a.length c)∧Boxed wr bn 80 (.slice A' b.length c')∧SB bo wr∧Dig a∧Norm a∧Dig b∧Norm b∧Mg wr A c a∧Mg wr A' c' b∧a.length≤536870000∧b.length≤536870000∧Nat.gcd (mval a) (mval b)=Nat.gcd (mval l0) (mval l1)∧pre.length+mval b≤mval l1∧J pre wr) (fun wr=>left bn wr)
 case atStart =>
  have e0:Boxed W bm 80 (.slice A0 l0.length c0):=(hW.block bm hb0.lt).trans hb0
  have e1:Boxed W bn 80 (.slice A1 l1.length c1):=(hW.block bn hb1.lt).trans hb1
  refine⟨[],A0,l0,c0,A1,l1,c1,e0,e1,?_,d0,n0,d1,n1,m0.below hW,m1.below hW,z0,z1,rfl,by simp,hJ0⟩
  obtain⟨x,y,z,t,m,e⟩:=hbo
  exact⟨x,y,z,t,m,(hW.block bo (Aab.1 e).1).trans e⟩
 case round =>
  obtain⟨pre,A,a,c,A',b,c',hm,hn',ho,da,na,db,nb,ma,mb,za,zb,hg,hp,hj⟩:=hrel
  obtain⟨fn,tmps,assign,body,hy,hR⟩:=hY pre ⟨A,a.length,c,A',b.length,c'⟩ wr hj (by omega)
  dsimp only[enc2] at hy
  have cm:=hm.cell
  have cn:=hn'.cell
  gi_wp2
  refine hR.mono ?_
  rintro e W3 ⟨rfl,hj3,hk3⟩
  have bm3:Boxed W3 bm 80 (.slice A a.length c):=hk3.2 bm _ (Ne.symm h2) hm rfl
  have bn3:Boxed W3 bn 80 (.slice A' b.length c'):=hk3.2 bn _ (Ne.symm h3) hn' rfl
  have ma3:Mg W3 A c a:=ma.kept (·=bo) hk3.1.1.size (fun k o hk h hc=>hk3.2 k o hk h hc) (fun k e=>by subst e;exact ho)
  have mb3:Mg W3 A' c' b:=mb.kept (·=bo) hk3.1.1.size (fun k o hk h hc=>hk3.2 k o hk h hc) (fun k e=>by subst e;exact ho)
  have ho3:=hk3.1.2 ho
  have HL:left bn wr=mval b:=Ah5 cn mb.2.2
  clear hm hn' ma mb ho hk3 hy hR cm cn
  have cm:=bm3.cell
  have cn:=bn3.cell
  rcases Aaq b.length with hb|hb
  ·have hb0:b=[]:=Aag hb
   subst hb0
   have hcmp:decide ((0:Int)<((([]:List Nat).length:Nat):Int))=false:=rfl
   gi_wp2
   go_end0
   refine⟨⟨_,rfl⟩,_,⟨pre,_,a,rfl,rfl,da,na,ma3,za,?_⟩,hj3⟩
   rw[←hg];simp[mval]
  ·have hcmp:decide ((0:Int)<((b.length:Nat):Int))=true:=by simp;omega
   have hpos:0<mval b:=by
    rcases Aaq (mval b) with h|h
    ·rw[Abq nb] at h;subst h;cases hb
    ·exact h
   have hDV:=Aac (Agx A A' a b c c' W3 za zb da db na nb ma3 mb3 hpos)
   gi_wp2_with fail
   refine⟨trivial,?_⟩
   refine (callsIn_wide.2 hDV.out).mono ?_
   rintro e W4 ⟨A1',q,c1',A2,r,c2,rfl,⟨_,_,dr',nr,hqr,hlt⟩,_,mr,hB⟩
   clear hDV
   have bm4:Boxed W4 bm 80 (.slice A a.length c):=(hB.block bm bm3.lt).trans bm3
   have bn4:Boxed W4 bn 80 (.slice A' b.length c'):=(hB.block bn bn3.lt).trans bn3
   have ho4:SB bo W4:=by
    obtain⟨x,y,z,t,m,e⟩:=ho3
    exact⟨x,y,z,t,m,(hB.block bo (Aab.1 e).1).trans e⟩
   have mb4:=mb3.below hB
   have hj4:=hJ _ _ _ hj3 (Mv.below hB)
   clear cm cn bm3 bn3 ma3 mb3 ho3 hj3
   have cm:=bm4.cell
   have cn:=bn4.cell
   have fm:=bm4.frozen
   have fn':=bn4.frozen
   have HRZ:r.length≤536870000:=Aap (Abu nr (Nat.lt_trans hlt (Abd db))) zb
   have hbox1:=bm4.set (.slice A' b.length c')
   have hbox2:Boxed (W4.setCell ⟨bm,0,none⟩ (.slice A' b.length c')) bn 80 (.slice A' b.length c'):=(Below.heap_setCell _ _ _ bn (Ne.symm h1)).trans bn4
   have hbox3:=hbox2.set (.slice A2 r.length c2)
   have hbox4:Boxed ((W4.setCell ⟨bm,0,none⟩ (.slice A' b.length c')).setCell ⟨bn,0,none⟩ (.slice A2 r.length c2)) bm 80 (.slice A' b.length c'):=(Below.heap_setCell _ _ _ bm h1).trans hbox1
   have hkk:∀(k:Nat) (o:Obj),¬(k=bm∨k=bn)→W4.heap[k]?=some o→o.isCells=true→((W4.setCell ⟨bm,0,none⟩ (.slice A' b.length c')).setCell ⟨bn,0,none⟩ (.slice A2 r.length c2)).heap[k]?=some o:=by
    intro k o hk h _
    rw[Below.heap_setCell _ _ _ k (by simp;omega),Below.heap_setCell _ _ _ k (by simp;omega)]
    exact h
   have hsb:∀k,(k=bm∨k=bn)→SB k W4:=by
    rintro k (rfl|rfl)
    ·exact⟨_,_,_,_,_,bm4⟩
    ·exact⟨_,_,_,_,_,bn4⟩
   have mb5:=mb4.kept _ (w':=(W4.setCell ⟨bm,0,none⟩ (.slice A' b.length c')).setCell ⟨bn,0,none⟩ (.slice A2 r.length c2)) (by simp[World.setCell]) hkk hsb
   have mr5:=mr.kept _ (w':=(W4.setCell ⟨bm,0,none⟩ (.slice A' b.length c')).setCell ⟨bn,0,none⟩ (.slice A2 r.length c2)) (by simp[World.setCell]) hkk hsb
   have ho5:SB bo ((W4.setCell ⟨bm,0,none⟩ (.slice A' b.length c')).setCell ⟨bn,0,none⟩ (.slice A2 r.length c2)):=by
    obtain⟨x,y,z,t,m,e⟩:=ho4
    exact⟨x,y,z,t,m,hkk bo _ (by omega) e rfl⟩
   have hj5:=hJ _ _ _ hj4 ((Mv.set W4 ⟨bm,0,none⟩ (.slice A' b.length c') (.inl rfl)).trans (Mv.set _ ⟨bn,0,none⟩ (.slice A2 r.length c2) (.inr rfl)))
   have hg5:Nat.gcd (mval b) (mval r)=Nat.gcd (mval l0) (mval l1):=by
    rw[←hg,hqr,Nat.gcd_comm (mval b*mval q+mval r),Nat.mul_comm,Nat.gcd_mul_right_add_right]
   gi_wp2
   go_roundw
   case rel=>exact⟨_,A',b,c',A2,r,c2,hbox4,hbox3,ho5,db,nb,dr',nr,mb5,mr5,zb,HRZ,hg5,by simp;omega,hj5⟩
   case measure=>rw[HL,Ah5 hbox3.cell mr5.2.2];exact hlt
theorem Ah7(v u:Value)(w:World)(A0 A1:Option Addr)(k0 c0 k1 c1:Nat)(hv:v=.slice A0 k0 c0)(hu:u=.slice A1 k1 c1):
 Calls Tryz.prog 218 #[v,u] w fun e w'=>e=.returned (.func (.func 227) #[] #[.pointer (some ⟨w.heap.size,0,none⟩),.pointer (some ⟨w.heap.size+1,0,none⟩)])∧w'=(w.alloc (.cells #[v] 80)).alloc (.cells #[u] 80):=by
 subst hv hu
 go_enter Tryz.func218,Tryz.ntmps218
 go_wp2_with fail
 go_ret
 exact⟨rfl,rfl⟩
def lastv(pre:List Two):Value:=match pre.getLast? with|none=>.slice none 0 0|some x=>.slice x.A x.k x.c
theorem Ah8(pre:List Two)(x:Two):lastv (pre++[x])=.slice x.A x.k x.c:=by simp[lastv]
theorem Ah9(pre:List Two):∃A k c,lastv pre=.slice A k c:=by
 unfold lastv;split
 ·exact⟨_,_,_,rfl⟩
 ·exact⟨_,_,_,rfl⟩
theorem GcdS.own(G B:Nat):OwnFrom B (GcdS G):=by
 rintro s A B' row ⟨pre,x,l,h1,h2,h3,h4,h5,h6,h7⟩ hg hr
 refine⟨pre,x,l,h1,h2,h3,h4,h5.kept (fun _=>False) hg.size (fun k o _ hk hc=>?_) (fun k h=>h.elim),h6,h7⟩
 refine (hg.block k (Aab.1 hk).1 (fun e=>?_)).trans hk
 obtain⟨_,o',ho',hc'⟩:=hr k e.symm
 rw[hk] at ho';injection ho' with ho';subst ho';rw[hc] at hc';cases hc'
theorem KpC.set{b:Nat}{W:World}{t:TypeId}{v:Value}(h:Boxed W b t v)(A:Option Addr)(k c:Nat):KpC b W (W.setCell ⟨b,0,none⟩ (.slice A k c)) :=
 ⟨⟨⟨rfl,rfl,rfl,by simp[World.setCell],fun _ h=>absurd h (Nat.not_lt_zero _)⟩,fun _=>⟨_,_,_,_,_,h.set _⟩⟩,fun k' o hk ho _=>(Below.heap_setCell _ _ _ k' hk).trans ho⟩
theorem Aia(n:Bool)(A:Option Addr)(k c:Nat)(w:World):Sem.run Tryz.prog (Instr.field 82 (Value.agg #[.bool n,.slice A k c]) 1) w=.ok (.slice A k c) w:=by
 unfold Instr.field
 simp[go_sem,asAgg]
theorem Aib(a b:ByteArray)(w:World)(ha:a.size≤4000000)(hb:b.size≤4000000)(ht:Tabs w):
 Calls Tryz.prog 193 #[.string a,.string b] w fun e w'=>e=.returned (.string (I (Int.gcd (vl a) (vl b))))∧Below w.heap.size w w':=by
 have HT:=Aac ht
 clear ht
 refine (callsIn_wide (n:=5)).1 ?_
 have hfn:=Aia
 refine callsIn_of_wp_marks Tryz.func193 rfl trivial ?_ rfl
 simp only[Tryz.ntmps193,List.size_toArray,Aa0,List.length_nil,Nat.reduceAdd,Nat.reduceSub,Array.replicate_succ,Array.replicate_zero,List.push_toArray,List.append_toArray,List.nil_append,List.cons_append]
 gi_wp2_with fail
 refine⟨trivial,?_⟩
 have hB0:Below w.heap.size w (w.alloc (.cells #[.slice none 0 0] 80)):=(Below.refl _ w).alloc (Aad _) _
 have hbo:=Boxed.new w 80 (.slice none 0 0)
 obtain⟨W0,hW0⟩:∃W0,w.alloc (.cells #[.slice none 0 0] 80)=W0:=⟨_,rfl⟩
 have hsz:W0.heap.size=w.heap.size+1:=by rw[←hW0];simp
 rw[hW0] at hB0 hbo ⊢
 refine (callsIn_wide.2 (read_any a _ (by omega))).mono ?_
 rintro e w1 hr1
 obtain⟨n1,A1,l1,c1,rfl,h1,hb1⟩:=hr1.num
 clear hr1
 gi_wp2_with fail
 refine⟨trivial,?_⟩
 refine (callsIn_wide.2 (read_any b _ (by omega))).mono ?_
 rintro e w2 hr2
 obtain⟨n2,A2,l2,c2,rfl,h2,hb2⟩:=hr2.num
 clear hr2
 have h1':=h1.below hb2
 have hb12:=hb1.trans (hb2.mono hb1.size)
 clear h1 hb1 hb2
 gi_wp2_with fail
 refine⟨trivial,?_⟩
 refine (callsIn_wide.2 (Ah7 _ _ _ _ _ _ _ _ _ rfl rfl)).mono ?_
 rintro e w3 ⟨rfl,hw3⟩
 gi_wp2_with fail
 have k0:=Boxed.new w2 80 (.slice A1 l1.length c1)
 have k1:=Boxed.new (w2.alloc (.cells #[.slice A1 l1.length c1] 80)) 80 (.slice A2 l2.length c2)
 have k0:=k0.alloc (.cells #[.slice A2 l2.length c2] 80)
 have hB3:Below w2.heap.size w2 ((w2.alloc (.cells #[.slice A1 l1.length c1] 80)).alloc (.cells #[.slice A2 l2.length c2] 80)):=((Below.refl _ _).alloc (Aad _) _).alloc (by simp) _
 have hs3:w3.heap.size=w2.heap.size+2:=by rw[hw3];simp
 rw[←hw3] at k0 k1 hB3 ⊢
 rw[World.size_alloc] at k1
 have hlt:w.heap.size<w2.heap.size:=by have:=hb12.size;omega
 have hbo3:Boxed w3 w.heap.size 80 (.slice none 0 0):=(hB3.block _ hlt).trans ((hb12.block _ (by omega)).trans hbo)
 have hBw3:Below w.heap.size w w3:=(hB0.trans (hb12.mono (by omega))).trans (hB3.mono (by omega))
 have la:=vl_lt a
 have lb:=vl_lt b
 have q1:=h1'.len la
 have q2:=h2.len lb
 refine Ah4 (α:=Two) rfl (by omega) (gf:=227) (lb:=#[.pointer (some ⟨w2.heap.size,0,none⟩),.pointer (some ⟨w2.heap.size+1,0,none⟩)]) rfl trivial (enters_of Tryz.func227 (by kernel_rfl) rfl)
  (Ah6 (5-1) w2.heap.size (w2.heap.size+1) w.heap.size (by omega) (by omega) (by omega) A1 A2 l1 l2 c1 c2 w3 (by omega) k0 k1 ⟨_,_,_,_,_,hbo3⟩ h1'.1 h2.1 h1'.2.1 h2.2.1 (h1'.2.2.2.below hB3) (h2.2.2.2.below hB3) (by omega) (by omega))
  (fun A B hm k o hk ho _=>(hm.2 k (Aab.1 ho).1 (by omega) (by omega)).trans ho)
  KpC.trans (fun W l o o' _ hl hc _=>KpC.put o' hl hc) (Below.refl _ _) (fun _=>rfl)
  (fun pre W=>Boxed W w.heap.size 80 (lastv pre)∧Below w.heap.size w W)
  (OwnFrom.and (boxed_own _ _ _ |>.from _) (ownFrom_below (Aad _) (by omega)))
  (fun pre A B hs hm=>⟨(hm.2 _ hs.1.lt (by omega) (by omega)).trans hs.1,hs.2.trans ⟨hm.1.os,hm.1.tape,hm.1.output,hm.1.size,fun k hk=>hm.2 k (Aah hk hs.2.size) (by omega) (by omega)⟩⟩)
  (GcdS.own _ _) ⟨hbo3,hBw3⟩
  (fun x=>{tmps:=#[Value.string a,Value.string b,undef,undef,Value.string {data:=#[]},
    Value.pointer (some {block:=w.heap.size,off:=0}),.slice x.A x.k x.c,Value.string a,
    Value.agg #[Value.bool n1,Value.slice A1 l1.length c1],Value.slice A1 l1.length c1,Value.string b,
    Value.agg #[Value.bool n2,Value.slice A2 l2.length c2],Value.slice A2 l2.length c2,
    Value.func (Fn.func 227) #[]
     #[Value.pointer (some {block:=w2.heap.size,off:=0}),
      Value.pointer (some {block:=w2.heap.size+1,off:=0})],
    .slice x.A x.k x.c,.slice x.A' x.k' x.c',undef,undef,undef,undef],defers:=[]}) ?assign ?body ?done
 case assign =>
  intro l x W K hK
  simp only[enc2]
  gi_wp2
  exact hK
 case body =>
  rintro l pre x W ⟨hc,hB⟩ _
  have cc:=hc.cell
  have fc:=hc.frozen
  obtain⟨A',k',c',e⟩:=Ah9 pre
  rw[e] at cc
  gi_wp2
  refine⟨(KeepsOthers.setCell _ _ _).from _,KpC.set hc _ _ _,?_,hB.setCell (p:=⟨w.heap.size,0,none⟩) (Aad _) _⟩
  rw[Ah8]
  exact hc.set _
 case done =>
  rintro D ys W hD ⟨pre,x,l,rfl,hk,d,nn,mg,hz,hv⟩ ⟨hc,hB⟩ hK
  rw[Ah8,hk] at hc
  have cc:=hc.cell
  have hN:Nm W false x.A l x.c ((Int.gcd (vl a) (vl b):Nat):Int):=by
   refine⟨d,nn,?_,mg⟩
   rw[hv]
   show ((Nat.gcd _ _:Nat):Int)=_
   rw[h1'.mval,h2.mval];rfl
  have HX:=Aac (Agi false x.A l x.c _ W hN (by omega) (HT.out.below hB))
  clear d nn mg hN
  gi_wp2_with fail
  refine⟨trivial,?_⟩
  refine (callsIn_wide.2 HX.out).mono ?_
  rintro e w4 ⟨rfl,hb4⟩
  clear HX cc
  have hK4:w4.heap[D]?=some (Obj.deferred (some [])):=(hb4.block D (Aab.1 hK).1).trans hK
  have hB4:=hB.trans (hb4.mono hB.size)
  gi_wp2
  refine⟨by simp,.inl ⟨_,_,rfl,run_takeDeferred hK4,?_⟩⟩
  exact⟨_,results_tmp rfl _ _ _,rfl,hB4.trans (belowK_b (w:=w) (Aad _) w4 D _ _ (by omega) hK4 rfl rfl)⟩
end Go.Proofs.YtcmgmemffncbhabGreatDoor
namespace Go.Proofs.YtcmgmemffncbhabGreatDoor
open Go.RowKit Tr Go.Shelf
def one1:ByteArray:=⟨#[49]⟩
theorem one1_eq:one1=I 1:=by rfl
theorem zero_eq:(⟨#[]⟩:ByteArray)=I 0:=by rfl
def dd(d:ByteArray):ByteArray:=if vl d=0 then one1 else d
theorem dd_ne(d:ByteArray):vl (dd d)≠0:=by
 unfold dd;split
 ·rw[one1_eq,vl_I];omega
 ·assumption
theorem Aic(d:ByteArray):(dd d).size≤d.size+1:=by
 unfold dd;split
 ·show 1≤_;omega
 ·omega
def fv(n d:ByteArray):Rat:=Rat.divInt (vl n) (vl (dd d))
def dn(q:Rat):ByteArray:=if q.den=1 then⟨#[]⟩ else I q.den
def fenc(q:Rat):Value:=.agg #[.string (I q.num),.string (dn q)]
theorem Aid(q:Rat):vl (dd (dn q))=q.den:=by
 unfold dn
 split
 ·rename_i h
  unfold dd
  rw[zero_eq,vl_I,if_pos rfl,one1_eq,vl_I,h];rfl
 ·unfold dd
  rw[vl_I,if_neg (by have:=q.den_pos;omega),vl_I]
theorem fv_enc(q:Rat):fv (I q.num) (dn q)=q:=by
 unfold fv
 rw[Aid,vl_I]
 exact Rat.num_divInt_den q
theorem Aie{a b:Int}(h:0<b):dq a b=a / b:=by unfold dq;rw[if_pos h]
theorem Aif{a b:Int}(hb:0<b):dq a (Int.gcd a b)=(Rat.divInt a b).num:=by
 have hg:0<((Int.gcd a b:Nat):Int):=by
  have:=Int.gcd_pos_of_ne_zero_right a (b:=b) (by omega);omega
 rw[Aie hg,Rat.num_divInt,Int.sign_eq_one_of_pos hb,Int.one_mul,Int.gcd_comm]
theorem Aig{a b:Int}(hb:0<b):dq b (Int.gcd a b)=((Rat.divInt a b).den:Int):=by
 have hg:0<((Int.gcd a b:Nat):Int):=by
  have:=Int.gcd_pos_of_ne_zero_right a (b:=b) (by omega);omega
 rw[Aie hg,Rat.den_divInt,if_neg (by omega),Int.gcd_comm,Int.natCast_ediv]
 congr 1;omega
def BdQ(q:Rat)(k:Nat):Prop:=q.num.natAbs<10^k∧q.den<10^k
theorem BdQ.mono{q:Rat}{k m:Nat}(h:BdQ q k)(hk:k≤m):BdQ q m :=
 ⟨Aah h.1 (Nat.pow_le_pow_right (by omega) hk),Aah h.2 (Nat.pow_le_pow_right (by omega) hk)⟩
theorem BdQ.num{q:Rat}{k:Nat}(h:BdQ q k):(I q.num).size≤k+1:=Aen h.1
theorem BdQ.den{q:Rat}{k:Nat}(h:BdQ q k):(I q.den).size≤k+1:=Aen (by simpa using h.2)
theorem BdQ.dn{q:Rat}{k:Nat}(h:BdQ q k):(dn q).size≤k+1:=by
 unfold Go.Proofs.YtcmgmemffncbhabGreatDoor.dn;split
 ·show 0≤_;omega
 ·exact h.den
theorem BdQ.div{a b:Int}{k:Nat}(ha:a.natAbs<10^k)(hb:b.natAbs<10^k)(h0:b≠0):BdQ (Rat.divInt a b) k:=by
 constructor
 ·rw[Rat.num_divInt]
  refine Nat.lt_of_le_of_lt ?_ ha
  refine Aap (Int.natAbs_ediv_le_natAbs _ _) ?_
  rw[Int.natAbs_mul,Int.natAbs_sign_of_ne_zero h0];omega
 ·rw[Rat.den_divInt,if_neg h0]
  exact Nat.lt_of_le_of_lt (Nat.div_le_self _ _) hb
theorem fv_bd(n d:ByteArray){k:Nat}(hn:n.size≤k)(hd:d.size+1≤k):BdQ (fv n d) k :=
 BdQ.div (Aah (vl_lt n) (Nat.pow_le_pow_right (by omega) hn)) (Aah (vl_lt (dd d)) (Nat.pow_le_pow_right (by omega) (Aap (Aic d) hd))) (dd_ne d)
theorem Aih(n d:ByteArray)(w:World)(hn:n.size≤3000000)(hd:d.size≤3000000)(h0:vl d≠0)(ht:Tabs w):
 Calls Tryz.prog 155 #[.string n,.string d] w fun e w'=>e=.returned (.tuple #[.string (I (Rat.divInt (vl n) (vl d)).num),.string (I ((Rat.divInt (vl n) (vl d)).den:Int))])∧Below w.heap.size w w':=by
 have HT:=Aac ht
 have H0:=Aac h0
 clear ht h0
 have HC:=Aac (Agu d ⟨#[]⟩ w (by omega) (by show 0≤_;omega))
 rw[show vl (⟨#[]⟩:ByteArray)=0 from by rw[zero_eq,vl_I]] at HC
 have gp:∀x y:Int,y≠0→Int.gcd x y≠0:=fun x y h=>Nat.ne_of_gt (Int.gcd_pos_of_ne_zero_right x h)
 have gs:∀x y:ByteArray,x.size≤3000001→y.size≤3000001→vl y≠0→(I ((Int.gcd (vl x) (vl y):Nat):Int)).size≤3000002:=by
  intro x y _ hy h
  refine Aap (Aen (k:=y.size) ?_) (by omega)
  refine Nat.lt_of_le_of_lt ?_ (vl_lt y)
  simp only[Int.natAbs_natCast]
  exact Nat.le_of_dvd (by omega) (Int.gcd_dvd_natAbs_right _ _)
 go_enter Tryz.func155,Tryz.ntmps155
 go_wp2_with fail
 refine HC.out.mono ?_
 rintro e w1 ⟨rfl,B1⟩
 clear HC
 by_cases hneg:vl d<0
 ·have hc:decide (cmpI (vl d) 0<0)=true:=Aa3 (cmpI_lt.2 hneg)
  go_wp2_with fail
  refine (Agk n _ (by omega) (HT.out.below B1)).mono ?_
  rintro e w2 ⟨rfl,hb2⟩
  have B2:=B1.trans (hb2.mono B1.size)
  clear hb2
  go_wp2_with fail
  refine (Agk d _ (by omega) (HT.out.below B2)).mono ?_
  rintro e w3 ⟨rfl,hb3⟩
  have B3:=B2.trans (hb3.mono B2.size)
  clear hb3
  have sx:(I (-vl n)).size≤3000001:=Aap (Aen (k:=n.size) (by rw[Int.natAbs_neg];exact vl_lt n)) (by omega)
  have sy:(I (-vl d)).size≤3000001:=Aap (Aen (k:=d.size) (by rw[Int.natAbs_neg];exact vl_lt d)) (by omega)
  have ny:vl (I (-vl d))≠0:=by rw[vl_I];omega
  clear hc
  go_wp2_with fail
  refine (Aib (I (-vl n)) (I (-vl d)) _ (show (I (-vl n)).size≤4000000 by omega) (show (I (-vl d)).size≤4000000 by omega) (HT.out.below B3)).mono ?_
  rintro e w4 ⟨rfl,hb4⟩
  have B4:=B3.trans (hb4.mono B3.size)
  have g4:=gs (I (-vl n)) (I (-vl d)) (by have:=(show (I (-vl n)).size≤4000000 by omega);omega) (by have:=(show (I (-vl d)).size≤4000000 by omega);omega) ny
  have g5:vl (I ((Int.gcd (vl (I (-vl n))) (vl (I (-vl d))):Nat):Int))≠0:=by rw[vl_I];have:=gp (vl (I (-vl n))) (vl (I (-vl d))) ny;omega
  clear hb4
  go_wp2_with fail
  refine (Div_any (I (-vl n)) _ _ (show (I (-vl n)).size≤4000000 by omega) (by omega) g5 (HT.out.below B4)).mono ?_
  rintro e w5 ⟨rfl,hb5⟩
  have B5:=B4.trans (hb5.mono B4.size)
  clear hb5
  go_wp2_with fail
  refine (Div_any (I (-vl d)) _ _ (show (I (-vl d)).size≤4000000 by omega) (by omega) g5 (HT.out.below B5)).mono ?_
  rintro e w6 ⟨rfl,hb6⟩
  have B6:=B5.trans (hb6.mono B5.size)
  clear hb6
  go_wp2_with fail
  go_ret2
  refine⟨?_,B6⟩
  rw[vl_I,vl_I,vl_I,Aif (by omega),Aig (by omega),Rat.neg_divInt_neg]
  rfl
 ·have hc:decide (cmpI (vl d) 0<0)=false:=Aa4 (fun h=>hneg (cmpI_lt.1 h))
  go_wp2_with fail
  refine (Aib n d _ (show n.size≤4000000 by omega) (show d.size≤4000000 by omega) (HT.out.below B1)).mono ?_
  rintro e w4 ⟨rfl,hb4⟩
  have B4:=B1.trans (hb4.mono B1.size)
  have g4:=gs n d (by have:=(show n.size≤4000000 by omega);omega) (by have:=(show d.size≤4000000 by omega);omega) H0.out
  have g5:vl (I ((Int.gcd (vl n) (vl d):Nat):Int))≠0:=by rw[vl_I];have:=gp (vl n) (vl d) H0.out;omega
  clear hb4
  go_wp2_with fail
  refine (Div_any n _ _ (show n.size≤4000000 by omega) (by omega) g5 (HT.out.below B4)).mono ?_
  rintro e w5 ⟨rfl,hb5⟩
  have B5:=B4.trans (hb5.mono B4.size)
  clear hb5
  go_wp2_with fail
  refine (Div_any d _ _ (show d.size≤4000000 by omega) (by omega) g5 (HT.out.below B5)).mono ?_
  rintro e w6 ⟨rfl,hb6⟩
  have B6:=B5.trans (hb6.mono B5.size)
  clear hb6
  go_wp2_with fail
  go_ret2
  refine⟨?_,B6⟩
  have:=H0.out
  rw[vl_I,Aif (by omega),Aig (by omega)]
  rfl
theorem Aii(z:Int):((I z).toList==[49])=decide (z=1):=by
 rw[show ([49]:List UInt8)=(I 1).toList from by rw[Lib.toList_data];rfl]
 by_cases h:z=1
 ·subst h;simp
 ·rw[Aes (fun e=>h (I_inj e))];simp[h]
theorem set2{w:World}{b:Nat}{x y:Value}{t:TypeId}{m:Nat×Nat}(h:w.heap[b]?=some (.cells #[x,y] t m))(x' y':Value):
 ((w.setCell ⟨b,0,none⟩ x').setCell ⟨b,1,none⟩ y').heap[b]?=some (.cells #[x',y'] t m):=by
 simp[World.setCell,Array.getElem?_modify,h]
theorem Aij(n d:ByteArray)(w:World)(hn:n.size≤3000000)(hd:d.size≤3000000)(h0:vl d≠0)(ht:Tabs w):
 Calls Tryz.prog 124 #[.string n,.string d] w fun e w'=>e=.returned (fenc (Rat.divInt (vl n) (vl d)))∧Below w.heap.size w w':=by
 have HB:=Aac ((Below.refl _ w).alloc (Aad _) (Obj.cells #[.string ⟨#[]⟩,.string ⟨#[]⟩] 112))
 have HR:=Aac (Aih n d _ hn hd h0 (ht.below HB.out))
 obtain⟨W0,hW0⟩:∃W0,w.alloc (Obj.cells #[.string ⟨#[]⟩,.string ⟨#[]⟩] 112)=W0:=⟨_,rfl⟩
 have hk:W0.heap[w.heap.size]?=some (Obj.cells #[.string ⟨#[]⟩,.string ⟨#[]⟩] 112):=by rw[←hW0];exact Aa5 w _
 have hs:W0.heap.size=w.heap.size+1:=by rw[←hW0];simp
 rw[hW0] at HB HR
 generalize hq:Rat.divInt (vl n) (vl d)=q at HR ⊢
 clear h0 ht hq
 go_enter Tryz.func124,Tryz.ntmps124
 go_wp2_with fail
 try rw[hW0]
 refine HR.out.mono ?_
 rintro e w1 ⟨rfl,B1⟩
 clear HR
 have k1:=(B1.block w.heap.size (by omega)).trans hk
 have a0:=Aaa k1 0
 have a1:=Aaa k1 1
 simp at a0 a1
 have f0:=Aaf k1 0
 have HB1:=Aac (HB.out.trans (B1.mono HB.out.size))
 clear B1 HB hk hs
 have f1:=Aaf k1 1
 have hone:=Aii (q.den:Int)
 have K1:=Aac k1
 clear k1
 by_cases hq:q.den=1
 ·rw[Aa3 (by rw[hq];rfl)] at hone
  have HQ:=Aac hq
  clear hq
  go_wp2_with fail
  have k2:=set2 K1.out (.string (I q.num)) (.string ⟨#[]⟩)
  have m0:=Aaa k2 0
  have m1:=Aaa k2 1
  simp at m0 m1
  refine bodyPost_ret (v:=.agg #[.string (I q.num),.string ⟨#[]⟩]) (by simp[results,Tryz.results124,go_sem,m0,m1]) rfl ?_
  refine⟨?_,(HB1.out.setCell (p:=⟨w.heap.size,0,none⟩) (Aad _) _).setCell (p:=⟨w.heap.size,1,none⟩) (Aad _) _⟩
  unfold fenc dn
  rw[if_pos HQ.out]
 ·rw[Aa4 (by omega)] at hone
  go_wp2_with fail
  have k2:=set2 K1.out (.string (I q.num)) (.string (I (q.den:Int)))
  have m0:=Aaa k2 0
  have m1:=Aaa k2 1
  simp at m0 m1
  refine bodyPost_ret (v:=.agg #[.string (I q.num),.string (I (q.den:Int))]) (by simp[results,Tryz.results124,go_sem,m0,m1]) rfl ?_
  refine⟨?_,(HB1.out.setCell (p:=⟨w.heap.size,0,none⟩) (Aad _) _).setCell (p:=⟨w.heap.size,1,none⟩) (Aad _) _⟩
  unfold fenc dn
  rw[if_neg hq]
theorem Aik(n d:ByteArray)(w:World)(hd:d.size≤3000000):
 Calls Tryz.prog 156 #[.agg #[.string n,.string d]] w fun e w'=>e=.returned (.tuple #[.string n,.string (dd d)])∧Below w.heap.size w w':=by
 have HB:=Aac ((Below.refl _ w).alloc (Aad _) (Obj.cells #[.string n,.string d] 112))
 have HC:=Aac (Agu d ⟨#[]⟩ (w.alloc (Obj.cells #[.string n,.string d] 112)) (by omega) (by show 0≤_;omega))
 rw[show vl (⟨#[]⟩:ByteArray)=0 from by rw[zero_eq,vl_I]] at HC
 obtain⟨W0,hW0⟩:∃W0,w.alloc (Obj.cells #[.string n,.string d] 112)=W0:=⟨_,rfl⟩
 have hk:W0.heap[w.heap.size]?=some (Obj.cells #[.string n,.string d] 112):=by rw[←hW0];exact Aa5 w _
 have hs:W0.heap.size=w.heap.size+1:=by rw[←hW0];simp
 rw[hW0] at HB HC
 have b0:=Aaa hk 0
 have b1:=Aaa hk 1
 simp at b0 b1
 go_enter Tryz.func156,Tryz.ntmps156
 go_wp2_with fail
 try rw[hW0]
 refine HC.out.mono ?_
 rintro e w1 ⟨rfl,B1⟩
 clear HC
 have a0:w1.cell? ⟨w.heap.size,0,none⟩=some (.string n):=(B1.cell (by simp;omega)).trans b0
 have a1:w1.cell? ⟨w.heap.size,1,none⟩=some (.string d):=(B1.cell (by simp;omega)).trans b1
 have HB1:=Aac (HB.out.trans (B1.mono HB.out.size))
 clear B1 HB hk hs b0 b1
 by_cases h0:vl d=0
 ·have hc:(cmpI (vl d) 0==0)=true:=beq_iff_eq.2 (cmpI_eq.2 h0)
  go_wp2_with fail
  go_ret2
  refine⟨?_,HB1.out⟩
  unfold dd;rw[if_pos h0];rfl
 ·have hc:(cmpI (vl d) 0==0)=false:=Aaj.2 (fun h=>h0 (cmpI_eq.1 h))
  go_wp2_with fail
  go_quiet (fail)
  go_wp2_with fail
  go_ret2
  refine⟨?_,Acz HB1.out _⟩
  unfold dd;rw[if_neg h0];rfl
def MulBox(w:World)(B:Nat):Prop:=w.heap[B]?=some (.cells #[.func (.func 87) #[] #[]] 58 (0,0))
theorem MulBox.below{w w':World}{B:Nat}(h:MulBox w B)(hb:Below w.heap.size w w'):MulBox w' B:=(hb.block B (Aab.1 h).1).trans h
theorem MulBox.cell{w:World}{B:Nat}(h:MulBox w B):w.cell? ⟨B,0,none⟩=some (.func (.func 87) #[] #[]):=by simp[World.cell?,show w.heap[B]?=_ from h]
theorem Aim{a b:ByteArray}{k m:Nat}(ha:a.size≤k)(hb:b.size≤m):(I (vl a*vl b)).size≤k+m+1:=by
 refine Aen ?_
 rw[Int.natAbs_mul,Nat.pow_add]
 refine Aah (Nat.mul_lt_mul_of_lt_of_le (vl_lt a) (Nat.le_of_lt (vl_lt b)) (Nat.pow_pos (by omega))) ?_
 exact Nat.mul_le_mul (Nat.pow_le_pow_right (by omega) ha) (Nat.pow_le_pow_right (by omega) hb)
end Go.Proofs.YtcmgmemffncbhabGreatDoor
namespace Go.Proofs.YtcmgmemffncbhabGreatDoor
open Go.RowKit Tr
theorem Ain{P:Program}{f:FuncId}{args:Array Value}{w:World}{n:Nat}{v:Value}
 (h:Calls P f args (w.drewN n) fun e w'=>e=.returned v∧w.drewN n=w'):Calls P f args (w.drewN n) fun e w''=>e=.returned v∧∃m,w''=w.drewN m :=
 Calls.quiet_of_same (h.mono fun _ _ ⟨a,b⟩=>⟨a,b.symm⟩)
theorem Aip(w:World):Calls Tryz.prog 195 #[] w fun e w'=>e=.returned (.string one1)∧w=w':=by
 have HC:=Aac (Ahk 1 (by decide) w)
 go_enter Tryz.func195,Tryz.ntmps195
 go_wp2_with fail
 refine HC.out.mono ?_
 rintro e w1 ⟨rfl,rfl⟩
 go_wp2_with fail
 go_ret
 exact⟨by rw[one1_eq];rfl,rfl⟩
theorem Aiq(a:ByteArray)(ha:a.size≤1000000)(w:World):Calls Tryz.prog 130 #[.string a] w fun e w'=>e=.returned (.bool (vl a==0))∧w=w':=by
 have HC:=Aac (Ahh a ⟨#[]⟩ ha (by decide) w)
 have HR:Hid ((cmpI (vl a) (vl ⟨#[]⟩)==0)=(vl a==0)):=by
  show _=_
  rw[Bool.eq_iff_iff,beq_iff_eq,beq_iff_eq,cmpI_eq];rfl
 clear ha
 go_enter Tryz.func130,Tryz.ntmps130
 go_wp2_with fail
 refine HC.out.mono ?_
 rintro e w1 ⟨rfl,rfl⟩
 go_wp2_with fail
 go_ret
 exact⟨by rw[←HR.out];rfl,rfl⟩
def rawN(n d:ByteArray):ByteArray:=if vl d<0 then I (-vl n) else n
def rawD(d:ByteArray):ByteArray:=if vl d=0 then one1 else if vl d<0 then I (-vl d) else d
theorem Air(n d:ByteArray)(ha:n.size≤1000000)(hb:d.size≤1000000)(w:World):
 Calls Tryz.prog 158 #[.agg #[.string n,.string d]] w fun e w'=>e=.returned (.tuple #[.string (rawN n d),.string (rawD d)])∧Below w.heap.size w w':=by
 have HB:=Aac ((Below.refl _ w).alloc (Aad _) (Obj.cells #[.string n,.string d] 112))
 obtain⟨W0,hW0⟩:∃W0,w.alloc (Obj.cells #[.string n,.string d] 112)=W0:=⟨_,rfl⟩
 have hk:W0.heap[w.heap.size]?=some (Obj.cells #[.string n,.string d] 112):=by rw[←hW0];exact Aa5 w _
 have c0:=Aaa hk 0
 have c1:=Aaa hk 1
 simp at c0 c1
 rw[hW0] at HB
 have HZ:=Aac (Aiq d hb)
 have HC:=Aac (Ahh d ⟨#[]⟩ hb (by decide))
 have HN1:=Aac (Ahe n ha)
 have HN2:=Aac (Ahe d hb)
 clear hk ha hb
 go_enter Tryz.func158,Tryz.ntmps158
 go_wp2_with fail
 refine (HZ.out _).mono ?_
 rintro e w1 ⟨rfl,rfl⟩
 rcases Int.lt_trichotomy (vl d) 0 with h|h|h
 ·have h1:(vl d==0)=false:=by rw[Aaj];omega
  have h2:cmpI (vl d) (vl ⟨#[]⟩)=-1:=by
   rw[show vl ⟨#[]⟩=0 from rfl];unfold cmpI;rw[if_pos h]
  rw[h2] at HC
  have HR:Hid (rawN n d=I (-vl n)∧rawD d=I (-vl d)):=⟨by unfold rawN;rw[if_pos h],by unfold rawD;rw[if_neg (by omega),if_pos h]⟩
  clear h h2
  go_wp2_with fail
  refine (HC.out _).mono ?_
  rintro e w1 ⟨rfl,rfl⟩
  go_wp2_with fail
  go_quiet ((first|(go_at_call_of 93 [Value.string n];exact Ain (HN1.out _))|(go_at_call_of 93 [Value.string d];exact Ain (HN2.out _))))
  go_wp2_with fail
  go_ret2
  exact⟨by rw[HR.out.1,HR.out.2];rfl,Acz HB.out _⟩
 ·have h1:(vl d==0)=true:=by rw[beq_iff_eq];exact h
  have HR:Hid (rawN n d=n∧rawD d=one1):=⟨by unfold rawN;rw[if_neg (by omega)],by unfold rawD;rw[if_pos h]⟩
  clear h
  go_wp2_with fail
  go_quiet ((go_at_call 195;exact Ain (Aip _)))
  go_wp2_with fail
  go_ret2
  exact⟨by rw[HR.out.1,HR.out.2];rfl,Acz HB.out _⟩
 ·have h1:(vl d==0)=false:=by rw[Aaj];omega
  have h2:cmpI (vl d) (vl ⟨#[]⟩)=1:=by
   rw[show vl ⟨#[]⟩=0 from rfl];unfold cmpI;rw[if_neg (by omega),if_neg (by omega)]
  rw[h2] at HC
  have HR:Hid (rawN n d=n∧rawD d=d):=⟨by unfold rawN;rw[if_neg (by omega)],by unfold rawD;rw[if_neg (by omega),if_neg (by omega)]⟩
  clear h h2
  go_wp2_with fail
  refine (HC.out _).mono ?_
  rintro e w1 ⟨rfl,rfl⟩
  go_wp2_with fail
  go_quiet (fail)
  go_wp2_with fail
  go_ret2
  exact⟨by rw[HR.out.1,HR.out.2];rfl,Acz HB.out _⟩
end Go.Proofs.YtcmgmemffncbhabGreatDoor
namespace Go.Proofs.YtcmgmemffncbhabGreatDoor
open Go.RowKit Tr Go.Shelf
def RDif(l n r:List Nat):Prop:=Dig r∧Norm r∧mval r=mval l-mval n∧r.length≤l.length
theorem RdN.drewN{w:World}{A:Option Addr}{l:List Nat}(h:RdN w A l)(k:Nat):RdN (w.drewN k) A l:=h.below (Acz (Below.refl _ _) k)
theorem Ais(A A':Option Addr)(l n:List Nat)(c c':Nat)(w:World)(b1:l.length≤1000000)(b2:n.length≤l.length)
 (hc:l.length≤c) (hc':n.length≤c') (hl:Dig l) (hn:Dig n) (hle:mval n≤mval l) (hr:RdN w A l) (hr':RdN w A' n) :
 Calls Tryz.prog 110 #[.slice A l.length c,.slice A' n.length c'] w (Ah2 w (RDif l n)):=by
 have HR:=Aac hr
 have HR':=Aac hr'
 have HL:=Aac hl
 have HN:=Aac hn
 have HLE:=Aac hle
 clear hr hr' hl hn hle
 go_enter Tryz.func110,Tryz.ntmps110
 go_wp2_with fail
 have hO0:=Ahz w
 have hB0:Below w.heap.size w (w.alloc (.cells #[] 3)):=(Below.refl _ _).alloc (Aad _) _
 generalize w.alloc (.cells #[] 3)=w1 at hO0 hB0 ⊢
 go_loopw [5,6,7] (fun o cy i wr=>∃(k q:Nat) (p:List Nat),(∃ad co,o=.slice (some ad) k co)∧cy=.int .i64 (q:Int)∧i=.int .i64 (k:Int)∧q≤1∧k≤l.length∧MinusR l n k p q∧wr.ownsRow w.heap.size 3 1 o k (p.map V)∧Below w.heap.size w wr) (fun _ _ i _=>l.length-(intOf i).toNat)
 case atStart=>exact⟨0,0,[],⟨_,_,rfl⟩,rfl,rfl,by omega,by omega,⟨rfl,Dig.nil,by simp[mval]⟩,hO0,hB0⟩
 case round =>
  obtain⟨k,q,p,⟨ao,co,rfl⟩,rfl,rfl,hq,hk,hp,hO,hB⟩:=hrel
  have HP:=Aac hp
  have HO:=Aac hO
  have HB:=Aac hB
  clear hp hO hB hO0 hB0
  rcases Aam k l.length with hlt|hge
  ·obtain⟨ad,rfl,had,hcell⟩:=HR.out.below HB.out (by rintro rfl;simp at hlt)
   have ck:=hcell k hlt
   have HG:=Aac (fun m=>Ain (Aec A' n c' k (wr.drewN m) (by omega) (by omega) hc' ((HR'.out.below HB.out).drewN m)))
   have d1:=HL.out.get k
   change gt l k<_ at d1
   have d2:=HN.out.get k
   change gt n k<_ at d2
   clear hcell had
   obtain⟨i0,hi,hz0,hz1,hz2⟩:=info_parts Tryz.info_int
   obtain⟨D,hD⟩:∃D:Int,(gt l k:Int)-(gt n k:Int)-(q:Int)=D:=⟨_,rfl⟩
   by_cases hneg:D<0
   ·obtain⟨x,hx⟩:∃x:Nat,D+1000000000=(x:Int):=⟨(D+1000000000).toNat,by omega⟩
    have t1:decide (D<0)=true:=Aa3 hneg
    have HST:=Aac (HP.out.step 1 x (by omega) (by omega))
    have HS:Hid (∀W:World,∀j u,[Value.int .i64 (x:Int)][j]?=some u→(W.alloc (.cells #[.int .i64 (x:Int)] 3)).cell? ((⟨W.heap.size,0,none⟩:Addr).add j)=some u):=fun W=>Ahy W #[.int .i64 (x:Int)] 3
    clear hneg
    go_wp2_with fail
    go_quiet ((go_at_call 147;exact HG.out _))
    have HO2:=Aac (ownsRow_below HO.out (Acz (Below.refl _ _) nq))
    have HB2:=Aac (Acz HB.out nq)
    generalize wr.drewN nq=w2 at HO2 HB2 ⊢
    clear HG HO HB ck
    go_wp2_with (at_builtin;refine wpList_append_own _ rfl _ _ 89 rfl w.heap.size 3 i0 (.int .i64 0) 1 8 Tryz.underlying89 hi hz0 hz1 hz2 rfl (by decide) _ _ _ rfl (HO2.out.alloc _) ⟨w2.heap.size,0,none⟩ 1 1 [.int .i64 (x:Int)] rfl rfl (HS.out w2) (by simp[Value.oneCell']) (by unfold maxLen;omega) (by omega) (by have:=HB2.out.size;simp;omega) ?_;intro v4 w4 hown4 hgrow4 _;have HO4:=Aac hown4;have HG4:=Aac hgrow4;clear hown4 hgrow4)
    go_roundw
    case rel =>
     have hlo:=HO2.out.lt
     have hg:=HG4.out
     have hbs:=HB2.out.size
     refine⟨k+1,1,p++[x],Ah0 HO4.out (by omega),rfl,by go_num,by omega,by omega,HST.out,?_,?_⟩
     ·rw[List.map_append];exact HO4.out
     ·exact (HB2.out.alloc hbs _).grown hg (by simp;omega) (fun k hk=>(hlo k hk).1)
    case measure=>simp[intOf];omega
   ·obtain⟨x,hx⟩:∃x:Nat,D=(x:Int):=⟨D.toNat,by omega⟩
    have HST:=Aac (HP.out.step 0 x (by omega) (by omega))
    have HS:Hid (∀W:World,∀j u,[Value.int .i64 (x:Int)][j]?=some u→(W.alloc (.cells #[.int .i64 (x:Int)] 3)).cell? ((⟨W.heap.size,0,none⟩:Addr).add j)=some u):=fun W=>Ahy W #[.int .i64 (x:Int)] 3
    clear hneg
    subst hx
    have t1:decide ((x:Int)<0)=false:=Aa4 (by omega)
    go_wp2_with fail
    go_quiet ((go_at_call 147;exact HG.out _))
    have HO2:=Aac (ownsRow_below HO.out (Acz (Below.refl _ _) nq))
    have HB2:=Aac (Acz HB.out nq)
    generalize wr.drewN nq=w2 at HO2 HB2 ⊢
    clear HG HO HB ck
    go_wp2_with (at_builtin;refine wpList_append_own _ rfl _ _ 89 rfl w.heap.size 3 i0 (.int .i64 0) 1 8 Tryz.underlying89 hi hz0 hz1 hz2 rfl (by decide) _ _ _ rfl (HO2.out.alloc _) ⟨w2.heap.size,0,none⟩ 1 1 [.int .i64 (x:Int)] rfl rfl (HS.out w2) (by simp[Value.oneCell']) (by unfold maxLen;omega) (by omega) (by have:=HB2.out.size;simp;omega) ?_;intro v4 w4 hown4 hgrow4 _;have HO4:=Aac hown4;have HG4:=Aac hgrow4;clear hown4 hgrow4)
    go_roundw
    case rel =>
     have hlo:=HO2.out.lt
     have hg:=HG4.out
     have hbs:=HB2.out.size
     refine⟨k+1,0,p++[x],Ah0 HO4.out (by omega),rfl,by go_num,by omega,by omega,HST.out,?_,?_⟩
     ·rw[List.map_append];exact HO4.out
     ·exact (HB2.out.alloc hbs _).grown hg (by simp;omega) (fun k hk=>(hlo k hk).1)
    case measure=>simp[intOf];omega
  ·have hcx:decide ((k:Int)<(l.length:Int))=false:=by simp;omega
   have hkk:k=l.length:=by omega
   subst hkk
   have hpl:=HP.out.1
   have hRd:=RdN.of_own HO.out
   have HRd:=Aac hRd
   have HV:=Aac (HP.out.done b2 HLE.out)
   have HTR:=Aac (fun W hW=>Aeb (some ao) p co W (by omega) (by have:=hRd.2.1;omega) hW)
   have HPL:=Aac hpl
   rw[hpl] at HTR
   clear hRd hpl
   go_wp2_with fail
   refine (HTR.out _ HRd.out.2.2).mono ?_
   rintro e wa ⟨rfl,rfl⟩
   go_wp2_with fail
   go_ret
   refine⟨ao,Tr.cutz p,co,rfl,?_,⟨HP.out.2.1.cutz,Abj p,by rw[Abk];exact HV.out,?_⟩,Ah1 HO.out ao rfl,HRd.out.2.2.cutz,HB.out⟩
   ·have:=Abn p;have:=HRd.out;omega
   ·have:=Abn p;have:=HPL.out;omega
def RNm(w:World)(nb:Bool)(A:Option Addr)(l:List Nat)(c:Nat)(z:Int)(K:Nat):Prop:=Dig l∧Norm l∧sg nb (mval l)=z∧l.length≤c∧l.length≤K∧RdN w A l
theorem RNm.below{w w':World}{nb:Bool}{A:Option Addr}{l:List Nat}{c:Nat}{z:Int}{K:Nat}(h:RNm w nb A l c z K)(hb:Below w.heap.size w w'):RNm w' nb A l c z K:=⟨h.1,h.2.1,h.2.2.1,h.2.2.2.1,h.2.2.2.2.1,h.2.2.2.2.2.below hb⟩
def Ait(w:World)(z:Int)(K:Nat)(e:Ending)(w':World):Prop:=∃(nb:Bool) (A:Option Addr) (l:List Nat) (c:Nat),e=.returned (.agg #[.bool nb,.slice A l.length c])∧RNm w' nb A l c z K∧Below w.heap.size w w'
theorem sg_same(nb:Bool)(a b:Nat):sg nb a+sg nb b=sg nb (a+b):=by
 cases nb
 ·show (a:Int)+(b:Int)=((a+b:Nat):Int);omega
 ·show -(a:Int)+-(b:Int)=-((a+b:Nat):Int);omega
theorem Aiu(n1:Bool)(A1 A2:Option Addr)(l1 l2:List Nat)(c1 c2:Nat)(z1 z2:Int)(K:Nat)(w:World)(hK:K≤500000)(h1:RNm w n1 A1 l1 c1 z1 K)(h2:RNm w n1 A2 l2 c2 z2 K):
 Calls Tryz.prog 65 #[.agg #[.bool n1,.slice A1 l1.length c1],.agg #[.bool n1,.slice A2 l2.length c2]] w (Ait w (z1+z2) (K+1)):=by
 obtain⟨W0,hW0,hB0,hz,k1,k2,k3⟩:=box3 w (.cells #[.bool n1,.slice A1 l1.length c1] 91) (.cells #[.bool n1,.slice A2 l2.length c2] 91) (.cells #[.bool false,.slice none 0 0] 91)
 have HZE:Hid (z1+z2=sg n1 (mval l1+mval l2)):=by rw[Hid,←h1.2.2.1,←h2.2.2.1];exact sg_same n1 _ _
 have HK:Hid (l1.length≤K∧l2.length≤K):=⟨h1.2.2.2.2.1,h2.2.2.2.2.1⟩
 have HF:=Aac (fun (W:World) (hW:Below w.heap.size w W)=>Ah3 A1 A2 l1 l2 c1 c2 W (by have:=HK.out;omega) (by have:=HK.out;omega) h1.2.2.2.1 h2.2.2.2.1 h1.1 h2.1 (h1.below hW).2.2.2.2.2 (h2.below hW).2.2.2.2.2)
 have E1:=k1
 have E2:=k2
 have E3:=Aac k3
 have EB:=Aac hB0
 have EZ:Hid (W0.heap.size=w.heap.size+3):=hz
 have c10:=Aaa k1 0
 have c20:=Aaa k2 0
 simp at c10 c20
 clear h1 h2 k1 k2 k3 hz hB0
 go_enter Tryz.func65,Tryz.ntmps65
 go_wp2_with fail
 rw[←hW0]
 go_wp2_with fail
 clear hW0 c10 c20
 have k0:=Aaa E1 0
 have k1:=Aaa E1 1
 have k2:=Aaa E2 1
 simp at k0 k1 k2
 clear E1 E2
 go_region_held3 (fun W=>W.cell? ⟨w.heap.size,0,none⟩=some (.bool n1)∧W.cell? ⟨w.heap.size,1,none⟩=some (.slice A1 l1.length c1)∧W.cell? ⟨w.heap.size+1,1,none⟩=some (.slice A2 l2.length c2))
  (refine⟨?_,?_,?_⟩<;>first|assumption|(go_simp;done))
  (first
    | (go_at_call 108;refine (HF.out _ EB.out.drew).mono ?_;rintro e w1 ⟨A3,r3,c3,rfl,hc3,hS3,hA3,hR3,hb3⟩;have j0:w1.cell? ⟨w.heap.size,0,none⟩=some (.bool n1):=(hb3.cell (by simp[EZ.out])).trans k0;have j1:w1.cell? ⟨w.heap.size,1,none⟩=some (.slice A1 l1.length c1):=(hb3.cell (by simp[EZ.out])).trans k1;have j2:w1.cell? ⟨w.heap.size+1,1,none⟩=some (.slice A2 l2.length c2):=(hb3.cell (by simp[EZ.out])).trans k2;have j3:=(hb3.block (w.heap.size+1+1) (by simp[EZ.out])).trans E3.out;have m0:=Aaa j3 0;have m1:=Aaa j3 1;have f0:=Aaf j3 0;have f1:=Aaf j3 1;clear j3;simp at m0 m1))
 go_wp2_with fail
 refine bodyPost_ret (v:=.agg #[.bool n1,.slice (some A3) r3.length c3]) (by simp[results,Tryz.results65,go_sem,m0,m1]) rfl ?_
 have hz:=EZ.out
 have hb0:=EB.out
 have hne:∀ad:Addr,some A3=some ad→ad.block≠w.heap.size+1+1:=fun ad e=>by injection e with e;subst e;have:=hA3;simp at this;omega
 refine⟨n1,some A3,r3,c3,rfl,⟨hS3.1,hS3.2.1,?_,hc3,?_,(hR3.far (p:=⟨w.heap.size+1+1,0,none⟩) hne _).far (p:=⟨w.heap.size+1+1,1,none⟩) hne _⟩,?_⟩
 ·rw[hS3.2.2.1];exact HZE.out.symm
 ·have:=hS3.2.2.2;have:=HK.out;omega
 ·exact ((hb0.drew.trans (hb3.mono (by simp;omega))).setCell (p:=⟨w.heap.size+1+1,0,none⟩) (by simp;omega) _).setCell (p:=⟨w.heap.size+1+1,1,none⟩) (by simp;omega) _
theorem Aiv(n1:Bool)(A1 A2:Option Addr)(l1 l2:List Nat)(c1 c2:Nat)(z1 z2:Int)(K:Nat)(w:World)(hK:K≤500000)(h1:RNm w n1 A1 l1 c1 z1 K)(h2:RNm w (!n1) A2 l2 c2 z2 K):
 Calls Tryz.prog 65 #[.agg #[.bool n1,.slice A1 l1.length c1],.agg #[.bool (!n1),.slice A2 l2.length c2]] w (Ait w (z1+z2) (K+1)):=by
 obtain⟨W0,hW0,hB0,hz,k1,k2,k3⟩:=box3 w (.cells #[.bool n1,.slice A1 l1.length c1] 91) (.cells #[.bool (!n1),.slice A2 l2.length c2] 91) (.cells #[.bool false,.slice none 0 0] 91)
 have hnn:(n1==!n1)=false:=by cases n1<;>rfl
 have hz12:z1+z2=if mval l1<mval l2 then sg (!n1) (mval l2-mval l1) else sg n1 (mval l1-mval l2):=by
  rw[←h1.2.2.1,←h2.2.2.1]
  exact Agd n1 _ _
 have HK:Hid (l1.length≤K∧l2.length≤K):=⟨h1.2.2.2.2.1,h2.2.2.2.2.1⟩
 have HC:=Aac (Ahx A1 A2 l1 l2 c1 c2 W0 (by have:=HK.out;omega) (by have:=HK.out;omega) h1.1 h2.1 h1.2.1 h2.2.1 (h1.below hB0).2.2.2.2.2 (h2.below hB0).2.2.2.2.2)
 have HF1:=Aac (fun (hle:mval l2≤mval l1) (W:World) (hW:Below w.heap.size w W)=>Ais A1 A2 l1 l2 c1 c2 W (by have:=HK.out;omega) (Agc h1.1 h2.2.1 hle) h1.2.2.2.1 h2.2.2.2.1 h1.1 h2.1 hle (h1.below hW).2.2.2.2.2 (h2.below hW).2.2.2.2.2)
 have HF2:=Aac (fun (hle:mval l1≤mval l2) (W:World) (hW:Below w.heap.size w W)=>Ais A2 A1 l2 l1 c2 c1 W (by have:=HK.out;omega) (Agc h2.1 h1.2.1 hle) h2.2.2.2.1 h1.2.2.2.1 h2.1 h1.1 hle (h2.below hW).2.2.2.2.2 (h1.below hW).2.2.2.2.2)
 have HZ12:=Aac hz12
 have K1:=Aac k1
 have K2:=Aac k2
 have K3:=Aac k3
 have HB:=Aac hB0
 have HZ:Hid (W0.heap.size=w.heap.size+3):=hz
 have c10:=Aaa k1 0
 have c11:=Aaa k1 1
 have c20:=Aaa k2 0
 have c21:=Aaa k2 1
 simp at c10 c11 c20 c21
 clear h1 h2 k1 k2 k3 hz hB0 hz12
 go_enter Tryz.func65,Tryz.ntmps65
 go_wp2_with fail
 rw[←hW0]
 refine HC.out.mono ?_
 rintro e w1 ⟨r,rfl,hs,q,rfl⟩
 have EB:=Aac (Acz HB.out q)
 have EZ:Hid ((W0.drewN q).heap.size=w.heap.size+3):=HZ.out
 have E1:(W0.drewN q).heap[w.heap.size]?=some (.cells #[.bool n1,.slice A1 l1.length c1] 91):=K1.out
 have E2:(W0.drewN q).heap[w.heap.size+1]?=some (.cells #[.bool (!n1),.slice A2 l2.length c2] 91):=K2.out
 have E3:Hid ((W0.drewN q).heap[w.heap.size+1+1]?=some (.cells #[.bool false,.slice none 0 0] 91)):=K3.out
 have HS:=Aac hs
 clear hW0 HC hs HB HZ K1 K2 K3 c10 c11 c20 c21
 generalize W0.drewN q=W1 at EB EZ E1 E2 E3 ⊢
 by_cases hlt:mval l1<mval l2
 ·have hr0:=HS.out.1.2 hlt
  have hd:decide (0≤r)=false:=Aa4 (by omega)
  have HZE:Hid (z1+z2=sg (!n1) (mval l2-mval l1)):=by rw[Hid,HZ12.out,if_pos hlt]
  have HF:=Aac (HF2.out (Nat.le_of_lt hlt))
  clear hr0 hlt HF1 HF2 HZ12
  go_wp2_with fail
  have k0:=Aaa E2 0
  have k1:=Aaa E2 1
  have k2:=Aaa E1 1
  simp at k0 k1 k2
  clear E1 E2
  go_region_held3 (fun W=>W.cell? ⟨w.heap.size+1,0,none⟩=some (.bool (!n1))∧W.cell? ⟨w.heap.size+1,1,none⟩=some (.slice A2 l2.length c2)∧W.cell? ⟨w.heap.size,1,none⟩=some (.slice A1 l1.length c1))
   (refine⟨?_,?_,?_⟩<;>first|assumption|(go_simp;done))
   (first
     | (go_at_call 110;refine (HF.out _ EB.out.drew).mono ?_;rintro e w1 ⟨A3,r3,c3,rfl,hc3,hS3,hA3,hR3,hb3⟩;have j0:w1.cell? ⟨w.heap.size+1,0,none⟩=some (.bool (!n1)):=(hb3.cell (by simp[EZ.out])).trans k0;have j1:w1.cell? ⟨w.heap.size+1,1,none⟩=some (.slice A2 l2.length c2):=(hb3.cell (by simp[EZ.out])).trans k1;have j2:w1.cell? ⟨w.heap.size,1,none⟩=some (.slice A1 l1.length c1):=(hb3.cell (by simp[EZ.out])).trans k2;have j3:=(hb3.block (w.heap.size+1+1) (by simp[EZ.out])).trans E3.out;have m0:=Aaa j3 0;have m1:=Aaa j3 1;have f0:=Aaf j3 0;have f1:=Aaf j3 1;clear j3;simp at m0 m1))
  go_wp2_with fail
  refine bodyPost_ret (v:=.agg #[.bool (!n1),.slice (some A3) r3.length c3]) (by simp[results,Tryz.results65,go_sem,m0,m1]) rfl ?_
  have hz:=EZ.out
  have hb0:=EB.out
  have hne:∀ad:Addr,some A3=some ad→ad.block≠w.heap.size+1+1:=fun ad e=>by injection e with e;subst e;have:=hA3;simp at this;omega
  refine⟨(!n1),some A3,r3,c3,rfl,⟨hS3.1,hS3.2.1,?_,hc3,?_,(hR3.far (p:=⟨w.heap.size+1+1,0,none⟩) hne _).far (p:=⟨w.heap.size+1+1,1,none⟩) hne _⟩,?_⟩
  ·rw[hS3.2.2.1];exact HZE.out.symm
  ·have:=hS3.2.2.2;have:=HK.out;omega
  ·exact ((hb0.drew.trans (hb3.mono (by simp;omega))).setCell (p:=⟨w.heap.size+1+1,0,none⟩) (by simp;omega) _).setCell (p:=⟨w.heap.size+1+1,1,none⟩) (by simp;omega) _
 ·have hr0:¬r<0:=fun h=>hlt (HS.out.1.1 h)
  have hd:decide (0≤r)=true:=Aa3 (by omega)
  have HZE:Hid (z1+z2=sg n1 (mval l1-mval l2)):=by rw[Hid,HZ12.out,if_neg hlt]
  have HF:=Aac (HF1.out (Nat.le_of_not_lt hlt))
  clear hr0 hlt HF1 HF2 HZ12
  go_wp2_with fail
  have k0:=Aaa E1 0
  have k1:=Aaa E1 1
  have k2:=Aaa E2 1
  simp at k0 k1 k2
  clear E1 E2
  go_region_held3 (fun W=>W.cell? ⟨w.heap.size,0,none⟩=some (.bool n1)∧W.cell? ⟨w.heap.size,1,none⟩=some (.slice A1 l1.length c1)∧W.cell? ⟨w.heap.size+1,1,none⟩=some (.slice A2 l2.length c2))
   (refine⟨?_,?_,?_⟩<;>first|assumption|(go_simp;done))
   (first
     | (go_at_call 110;refine (HF.out _ EB.out.drew).mono ?_;rintro e w1 ⟨A3,r3,c3,rfl,hc3,hS3,hA3,hR3,hb3⟩;have j0:w1.cell? ⟨w.heap.size,0,none⟩=some (.bool n1):=(hb3.cell (by simp[EZ.out])).trans k0;have j1:w1.cell? ⟨w.heap.size,1,none⟩=some (.slice A1 l1.length c1):=(hb3.cell (by simp[EZ.out])).trans k1;have j2:w1.cell? ⟨w.heap.size+1,1,none⟩=some (.slice A2 l2.length c2):=(hb3.cell (by simp[EZ.out])).trans k2;have j3:=(hb3.block (w.heap.size+1+1) (by simp[EZ.out])).trans E3.out;have m0:=Aaa j3 0;have m1:=Aaa j3 1;have f0:=Aaf j3 0;have f1:=Aaf j3 1;clear j3;simp at m0 m1))
  go_wp2_with fail
  refine bodyPost_ret (v:=.agg #[.bool n1,.slice (some A3) r3.length c3]) (by simp[results,Tryz.results65,go_sem,m0,m1]) rfl ?_
  have hz:=EZ.out
  have hb0:=EB.out
  have hne:∀ad:Addr,some A3=some ad→ad.block≠w.heap.size+1+1:=fun ad e=>by injection e with e;subst e;have:=hA3;simp at this;omega
  refine⟨n1,some A3,r3,c3,rfl,⟨hS3.1,hS3.2.1,?_,hc3,?_,(hR3.far (p:=⟨w.heap.size+1+1,0,none⟩) hne _).far (p:=⟨w.heap.size+1+1,1,none⟩) hne _⟩,?_⟩
  ·rw[hS3.2.2.1];exact HZE.out.symm
  ·have:=hS3.2.2.2;have:=HK.out;omega
  ·exact ((hb0.drew.trans (hb3.mono (by simp;omega))).setCell (p:=⟨w.heap.size+1+1,0,none⟩) (by simp;omega) _).setCell (p:=⟨w.heap.size+1+1,1,none⟩) (by simp;omega) _
theorem Aiw(n1 n2:Bool)(A1 A2:Option Addr)(l1 l2:List Nat)(c1 c2:Nat)(z1 z2:Int)(K:Nat)(w:World)(hK:K≤500000)(h1:RNm w n1 A1 l1 c1 z1 K)(h2:RNm w n2 A2 l2 c2 z2 K):
 Calls Tryz.prog 65 #[.agg #[.bool n1,.slice A1 l1.length c1],.agg #[.bool n2,.slice A2 l2.length c2]] w (Ait w (z1+z2) (K+1)):=by
 by_cases h:n2=n1
 ·subst h;exact Aiu n2 A1 A2 l1 l2 c1 c2 z1 z2 K w hK h1 h2
 ·obtain rfl:n2=!n1:=by cases n1<;>cases n2<;>simp_all
  exact Aiv n1 A1 A2 l1 l2 c1 c2 z1 z2 K w hK h1 h2
theorem RReadPost.num{w w':World}{a:ByteArray}{e:Ending}(h:RReadPost w a e w'):Ait w (vl a) (a.size+1) e w':=by
 obtain⟨A,l,c,rfl,⟨h1,h2,h3,h4⟩,hc,hr,hb⟩:=h
 refine⟨_,A,l,c,rfl,⟨h1,h2,?_,hc,by omega,hr⟩,hb⟩
 rw[h3]
 by_cases hn:vl a<0
 ·rw[Aa3 hn];show -((vl a).natAbs:Int)=vl a;omega
 ·rw[Aa4 hn];show ((vl a).natAbs:Int)=vl a;omega
theorem Aix{z:Int}(h:(digits z.natAbs).length≤17):z.natAbs<100000000000000000:=(digits_length_le_iff 17 z.natAbs).1 h
theorem Aiy(a b:ByteArray)(ha:a.size≤90000)(hb:b.size≤90000)(w:World):
 Calls Tryz.prog 30 #[.string a,.string b] w fun e w'=>e=.returned (.string (I (vl a+vl b)))∧Below w.heap.size w w':=by
 obtain⟨K,hK⟩:∃K,K=max a.size b.size+1:=⟨_,rfl⟩
 have HR1:=Aac (fun W=>(Ahw a W (by omega)).mono fun _ _ h=>h.num)
 have HR2:=Aac (fun W=>(Ahw b W (by omega)).mono fun _ _ h=>h.num)
 have HKK:=Aac (show a.size+1≤K∧b.size+1≤K∧K≤90001 by omega)
 by_cases h1:(digits (vl a).natAbs).length≤17
 ·by_cases h2:(digits (vl b).natAbs).length≤17
  ·have s1:=Aix h1
   have s2:=Aix h2
   have HA:=Aac (fun W=>Ahc a (by omega) h1 W)
   have HB:=Aac (fun W=>Ahc b (by omega) h2 W)
   have HOF:=Aac (fun W=>Ahk (vl a+vl b) (by omega) W)
   generalize vl a=m at *
   generalize vl b=n at *
   clear ha hb h1 h2 HR1 HR2 HKK hK
   go_enter Tryz.func30,Tryz.ntmps30
   go_wp2_with fail
   refine (HA.out _).mono ?_
   rintro e w1 ⟨rfl,rfl⟩
   go_wp2_with fail
   refine (HB.out _).mono ?_
   rintro e w1 ⟨rfl,rfl⟩
   go_wp2_with fail
   refine (HOF.out _).mono ?_
   rintro e w1 ⟨rfl,rfl⟩
   go_wp2_with fail
   go_ret
   exact⟨rfl,Below.refl _ _⟩
  ·have HA:=Aac (fun W=>Ahc a (by omega) h1 W)
   have HB:=Aac (fun W=>Ahd b (by omega) (by omega) W)
   clear ha hb h1 h2 hK
   go_enter Tryz.func30,Tryz.ntmps30
   go_wp2_with fail
   refine (HA.out _).mono ?_
   rintro e w1 ⟨rfl,rfl⟩
   go_wp2_with fail
   refine (HB.out _).mono ?_
   rintro e w1 ⟨rfl,rfl⟩
   go_wp2_with fail
   refine (HR1.out _).mono ?_
   rintro e w2 ⟨n1,A1,l1,c1,rfl,h1,b2⟩
   have H1:=Aac h1
   have B2:=Aac b2
   clear h1 b2
   go_wp2_with fail
   refine (HR2.out _).mono ?_
   rintro e w3 ⟨n2,A2,l2,c2,rfl,h2,b3⟩
   have H1':=Aac (H1.out.below b3)
   have H2:=Aac h2
   have B3:=Aac (B2.out.trans (b3.mono B2.out.size))
   clear h2 b3 H1 B2
   have HAD:=Aac (Aiw n1 n2 A1 A2 l1 l2 c1 c2 (vl a) (vl b) K w3 (by have:=HKK.out;omega) ⟨H1'.out.1,H1'.out.2.1,H1'.out.2.2.1,H1'.out.2.2.2.1,(by have:=H1'.out.2.2.2.2.1;have:=HKK.out;omega),H1'.out.2.2.2.2.2⟩ ⟨H2.out.1,H2.out.2.1,H2.out.2.2.1,H2.out.2.2.2.1,(by have:=H2.out.2.2.2.2.1;have:=HKK.out;omega),H2.out.2.2.2.2.2⟩)
   clear H1' H2 HR1 HR2
   go_wp2_with fail
   refine HAD.out.mono ?_
   rintro e w4 ⟨n3,A3,l3,c3,rfl,h3,b4⟩
   have HW:=Aac (Ahq n3 A3 l3 c3 w4 (by have:=h3.2.2.2.2.1;have:=HKK.out;omega) h3.2.2.2.1 h3.1 h3.2.2.2.2.2)
   have HZ:Hid ((if n3=true then -(mval l3:Int) else (mval l3:Int))=vl a+vl b):=by rw[Hid,←h3.2.2.1];cases n3<;>rfl
   have B4:=Aac (B3.out.trans (b4.mono B3.out.size))
   clear h3 b4 B3 HAD
   rw[HZ.out] at HW
   go_wp2_with fail
   refine HW.out.mono ?_
   rintro e w5 ⟨rfl,b5⟩
   have B5:=Aac (B4.out.trans (b5.mono B4.out.size))
   clear b5 B4
   go_wp2_with fail
   go_ret
   exact⟨rfl,B5.out⟩
 ·obtain⟨m,also,HB,_⟩:=rshort_two b (by omega)
  have HA:=Aac (fun W=>Ahd a (by omega) (by omega) W)
  clear ha hb h1 hK
  go_enter Tryz.func30,Tryz.ntmps30
  go_wp2_with fail
  refine (HA.out _).mono ?_
  rintro e w1 ⟨rfl,rfl⟩
  go_wp2_with fail
  refine (HB.out _).mono ?_
  rintro e w1 ⟨rfl,rfl⟩
  go_wp2_with fail
  refine (HR1.out _).mono ?_
  rintro e w2 ⟨n1,A1,l1,c1,rfl,h1,b2⟩
  have H1:=Aac h1
  have B2:=Aac b2
  clear h1 b2
  go_wp2_with fail
  refine (HR2.out _).mono ?_
  rintro e w3 ⟨n2,A2,l2,c2,rfl,h2,b3⟩
  have H1':=Aac (H1.out.below b3)
  have H2:=Aac h2
  have B3:=Aac (B2.out.trans (b3.mono B2.out.size))
  clear h2 b3 H1 B2
  have HAD:=Aac (Aiw n1 n2 A1 A2 l1 l2 c1 c2 (vl a) (vl b) K w3 (by have:=HKK.out;omega) ⟨H1'.out.1,H1'.out.2.1,H1'.out.2.2.1,H1'.out.2.2.2.1,(by have:=H1'.out.2.2.2.2.1;have:=HKK.out;omega),H1'.out.2.2.2.2.2⟩ ⟨H2.out.1,H2.out.2.1,H2.out.2.2.1,H2.out.2.2.2.1,(by have:=H2.out.2.2.2.2.1;have:=HKK.out;omega),H2.out.2.2.2.2.2⟩)
  clear H1' H2 HR1 HR2
  go_wp2_with fail
  refine HAD.out.mono ?_
  rintro e w4 ⟨n3,A3,l3,c3,rfl,h3,b4⟩
  have HW:=Aac (Ahq n3 A3 l3 c3 w4 (by have:=h3.2.2.2.2.1;have:=HKK.out;omega) h3.2.2.2.1 h3.1 h3.2.2.2.2.2)
  have HZ:Hid ((if n3=true then -(mval l3:Int) else (mval l3:Int))=vl a+vl b):=by rw[Hid,←h3.2.2.1];cases n3<;>rfl
  have B4:=Aac (B3.out.trans (b4.mono B3.out.size))
  clear h3 b4 B3 HAD
  rw[HZ.out] at HW
  go_wp2_with fail
  refine HW.out.mono ?_
  rintro e w5 ⟨rfl,b5⟩
  have B5:=Aac (B4.out.trans (b5.mono B4.out.size))
  clear b5 B4
  go_wp2_with fail
  go_ret
  exact⟨rfl,B5.out⟩
theorem Aiz(a b:ByteArray)(ha:a.size≤80000)(hb:b.size≤80000)(w:World):
 Calls Tryz.prog 57 #[.string a,.string b] w fun e w'=>e=.returned (.string (I (vl a-vl b)))∧Below w.heap.size w w':=by
 have HN:=Aac (fun W=>Ahe b (by omega) W)
 have HA:=Aac (fun W=>Aiy a (I (-vl b)) (by omega) (by have:=Aen (z:=-vl b) (k:=b.size) (by rw[Int.natAbs_neg];exact vl_lt b);omega) W)
 rw[vl_I] at HA
 clear ha hb
 go_enter Tryz.func57,Tryz.ntmps57
 go_wp2_with fail
 refine (HN.out _).mono ?_
 rintro e w1 ⟨rfl,rfl⟩
 go_wp2_with fail
 refine (HA.out _).mono ?_
 rintro e w2 ⟨rfl,b2⟩
 have HB:=Aac b2
 clear b2
 go_wp2_with fail
 go_ret
 exact⟨by rw[Int.sub_eq_add_neg];rfl,HB.out⟩
structure DivJ(l n:List Nat)(k:Nat)(Q R:List Nat):Prop where
 len:Q.length=l.length
 dq:Dig Q
 dr:Dig R
 nr:Norm R
 q:mval (Q.drop k)=mval (l.drop k) / mval n
 r:mval R=mval (l.drop k) % mval n
theorem Ai0{l:List Nat}{j:Nat}(h:j<l.length):l.drop j=gt l j::l.drop (j+1):=by
 rw[Aa2 h]
 congr 1
 exact (Aa7 h).symm
theorem DivJ.step{l n:List Nat}{j:Nat}{Q R R':List Nat}{p:Nat}(h:DivJ l n (j+1) Q R)(hj:j<l.length)(hp:p=(gt l j+1000000000*mval R) / mval n)(hpb:p<1000000000)(d:Dig R')(nn:Norm R')(hr:mval R'=(gt l j+1000000000*mval R) % mval n):DivJ l n j (Q.set j p) R':=by
 have e:mval (l.drop j)=mval n*(1000000000*(mval (l.drop (j+1)) / mval n))+(gt l j+1000000000*mval R):=by
  rw[Ai0 hj,Aa9,h.r]
  have:=Nat.div_add_mod (mval (l.drop (j+1))) (mval n)
  generalize mval (l.drop (j+1))=T at *
  have e2:1000000000*T=1000000000*(mval n*(T / mval n))+1000000000*(T % mval n):=by rw[←Nat.mul_add,this]
  rw[e2,Nat.mul_left_comm]
  omega
 have hjq:j<Q.length:=by rw[h.len];exact hj
 refine⟨by rw[List.length_set];exact h.len,h.dq.set j p hpb,d,nn,?_,?_⟩
 ·have e3:(Q.set j p).drop j=p::Q.drop (j+1):=by
   rw[Ai0 (by rw[List.length_set];exact hjq),Ae1 hjq]
   congr 1
   rw[List.drop_set_of_lt (by omega)]
  rw[e3,Aa9,h.q,e]
  rcases Aaq (mval n) with h0|h0
  ·rw[h0] at hp ⊢;simp at hp ⊢;omega
  ·rw[Nat.mul_add_div h0,hp];omega
 ·rw[hr,e,Nat.mul_add_mod]
theorem Ai1{x R n:Nat}(hx:x<1000000000)(hr:R<n):x+1000000000*R<(999999999+1)*n:=by
 have:=Nat.mul_le_mul_left 1000000000 (show R+1≤n by omega)
 omega
theorem RdN.far2{w:World}{ad:Addr}{l:List Nat}(h:RdN w (some ad) l){g j:Nat}(hp:ad.block≠g)(u:Value):RdN (w.setCell ⟨g,j,none⟩ u) (some ad) l:=h.far (p:=⟨g,j,none⟩) (fun ad' e=>by injection e with e;subst e;exact hp) u
theorem OwnN.below{w w':World}{g:Nat}{l:List Nat}(h:OwnN w g l)(hb:Below w.heap.size w w'):OwnN w' g l:=(hb.block g h.lt).trans h
theorem RdN.single(w:World)(x:Nat):RdN (w.alloc (.cells #[.int .i64 (x:Int)] 3)) (some ⟨w.heap.size,0,none⟩) [x]:=by
 have hk:=Aa5 w (.cells #[.int .i64 (x:Int)] 3)
 intro _
 refine⟨_,rfl,(Aab.1 hk).1,fun j hj=>?_⟩
 have hj0:j=0:=by simp at hj;omega
 subst hj0
 exact Aaa hk 0
structure DivW(w:World)(g:Nat)(Q:List Nat)(ad:Addr)(R:List Nat)(W:World):Prop where
 own:OwnN W g Q
 rd:RdN W (some ad) R
 bel:Below w.heap.size w W
theorem DivW.below{w:World}{g:Nat}{Q:List Nat}{ad:Addr}{R:List Nat}{W W':World}(h:DivW w g Q ad R W)(hb:Below W.heap.size W W'):DivW w g Q ad R W':=⟨h.own.below hb,h.rd.below hb,h.bel.trans (hb.mono h.bel.size)⟩
def Ai2(w:World)(l n:List Nat)(e:Ending)(w':World):Prop :=
 ∃(a1 a2:Addr) (q r:List Nat) (c1 c2:Nat),e=.returned (.tuple #[.slice (some a1) q.length c1,.slice (some a2) r.length c2])∧(Dig q∧Norm q∧mval q=mval l / mval n∧q.length≤l.length∧q.length≤c1)∧(Dig r∧Norm r∧mval r=mval l % mval n∧r.length≤n.length∧r.length≤c2)∧RdN w' (some a1) q∧RdN w' (some a2) r∧Below w.heap.size w w'
theorem Ai3(A A':Option Addr)(l n:List Nat)(c c':Nat)(w:World)(b1:l.length≤100000)(b2:n.length≤100000)
 (hc:l.length≤c) (hc':n.length≤c') (hl:Dig l) (hn:Dig n) (nn:Norm n) (hne:0<mval n) (hr:RdN w A l) (hr':RdN w A' n) :
 Calls Tryz.prog 219 #[.slice A l.length c,.slice A' n.length c'] w (Ai2 w l n):=by
 have HR:=Aac hr
 have HR':=Aac hr'
 have HL:=Aac hl
 have HN:=Aac hn
 have HNN:=Aac nn
 have HNE:=Aac hne
 have hmk:=fun W=>Afr (l.length:Int) (l.length:Int) l.length l.length rfl rfl (Aad _) (by omega) W
 clear hr hr' hl hn nn hne
 go_enter Tryz.func219,Tryz.ntmps219
 go_wp2_with fail
 clear hmk
 have hO1:=OwnN.made w l.length
 have hB1:Below w.heap.size w (w.alloc (.cells (zrowN l.length) 3)):=(Below.refl _ _).alloc (Aad _) _
 have hs1:(w.alloc (.cells (zrowN l.length) 3)).heap.size=w.heap.size+1:=by simp
 generalize w.alloc (.cells (zrowN l.length) 3)=w1 at hO1 hB1 hs1 ⊢
 have hW2:DivW w w.heap.size (List.replicate l.length 0) ⟨w1.heap.size,0,none⟩ [] (w1.alloc (.cells #[] 3)) :=
  ⟨hO1.below ((Below.refl _ _).alloc (Aad _) _),RdN.nil _ _,hB1.trans (((Below.refl _ _).alloc (Aad _) _).mono hB1.size)⟩
 have HAD:Hid ((⟨w1.heap.size,0,none⟩:Addr).block≠w.heap.size):=by rw[Hid];show w1.heap.size≠w.heap.size;omega
 have HW2:=Aac hW2
 rw[hs1] at HW2 HAD
 generalize w1.alloc (.cells #[] 3)=w2 at HW2 ⊢
 generalize (⟨w.heap.size+1,0,none⟩:Addr)=ad0 at HW2 HAD ⊢
 clear hO1 hB1 hs1 hW2
 go_loopw [7,8] (fun rs i wr=>∃(k:Nat) (Q R:List Nat) (ad:Addr) (cR:Nat),rs=.slice (some ad) R.length cR∧i=.int .i64 ((k:Int)-1)∧k≤l.length∧DivJ l n k Q R∧R.length≤cR∧ad.block≠w.heap.size∧DivW w w.heap.size Q ad R wr) (fun _ i _=>(intOf i+1).toNat)
 case atStart =>
  refine⟨l.length,List.replicate l.length 0,[],ad0,0,rfl,rfl,Aad _,⟨by simp,Dig.replicate _,Dig.nil,norm_nil,?_,?_⟩,by simp,HAD.out,HW2.out⟩
  ·rw[List.drop_of_length_le (by simp),List.drop_of_length_le (Aad _)];simp[mval]
  ·rw[List.drop_of_length_le (Aad _)];simp[mval]
 case round =>
  clear HW2 HAD
  obtain⟨k,Q,R,ad,cR,rfl,rfl,hk,hJ,hcR,hadb,hW⟩:=hrel
  have HJ:=Aac hJ
  have HW:=Aac hW
  have HAD:=Aac hadb
  have hql:=hJ.len
  clear hJ hW hadb
  rcases Aaq k with h0|h0
  ·subst h0
   have HTR:=Aac (fun W hW=>Aeb (some ⟨w.heap.size,0,none⟩) Q l.length W (by omega) (by omega) hW)
   have HQL:=Aac hql
   rw[hql] at HTR
   clear hql
   go_wp2_with fail
   refine (HTR.out _ HW.out.own.rd).mono ?_
   rintro e wa ⟨rfl,rfl⟩
   go_wp2_with fail
   go_ret2
   have hJ:=HJ.out
   have e1:=hJ.q
   have e2:=hJ.r
   rw[List.drop_zero,List.drop_zero] at e1
   rw[List.drop_zero] at e2
   have hrl:R.length≤n.length:=by
    have hlt:mval R<mval n:=by rw[e2];exact Nat.mod_lt _ HNE.out
    exact Agc HN.out hJ.nr (Nat.le_of_lt hlt)
   refine⟨⟨w.heap.size,0,none⟩,ad,Tr.cutz Q,R,l.length,cR,rfl,⟨hJ.dq.cutz,Abj Q,by rw[Abk];exact e1,?_,?_⟩,⟨hJ.dr,hJ.nr,e2,hrl,hcR⟩,HW.out.own.rd.cutz,HW.out.rd,HW.out.bel⟩
   ·have:=Abn Q;have:=HQL.out;omega
   ·have:=Abn Q;have:=HQL.out;omega
  ·obtain⟨j,rfl⟩:∃j,k=j+1:=⟨k-1,by omega⟩
   obtain⟨al,rfl,hal,hcell⟩:=HR.out.below HW.out.bel (by rintro rfl;simp at hk)
   have ck:=hcell j (by omega)
   have hi1:((j+1:Nat):Int)-1=(j:Int):=by omega
   rw[hi1]
   have d1:=HL.out.get j
   change gt l j<_ at d1
   clear hcell hal hi1 h0
   obtain⟨x,hx⟩:∃x,gt l j=x:=⟨_,rfl⟩
   rw[hx] at ck d1
   have HX:=Aac hx
   clear hx
   obtain⟨i0,hi,hz0,hz1,hz2⟩:=info_parts Tryz.info_int
   have hOL:(wr.alloc (.cells #[.int .i64 (x:Int)] 3)).ownsRow wr.heap.size 3 1 (.slice (some ⟨wr.heap.size,0,none⟩) 1 1) 1 [V x]:=World.ownsRow_lit wr #[.int .i64 (x:Int)] 1 (Aad _) (by unfold maxLen;omega) rfl
   have HOL:=Aac hOL
   have HSR:Hid (∀i u,(R.map V)[i]?=some u→(wr.alloc (.cells #[.int .i64 (x:Int)] 3)).cell? (ad.add i)=some u):=fun i u hu=>by
    have hRd:=HW.out.rd.below ((Below.refl _ wr).alloc (Aad _) (.cells #[.int .i64 (x:Int)] 3))
    obtain⟨hil,he⟩:=Aak.1 hu
    rw[Aar] at hil
    obtain⟨ad',e1,_,hcl⟩:=hRd (by rintro rfl;simp at hil)
    injection e1 with e1
    subst e1
    rw[hcl i hil,←he,List.getElem_map]
    unfold V gt
    rw[Aa7 hil]
   have hRl:R.length≤n.length:=by
    have hlt:mval R<mval n:=by rw[HJ.out.r];exact Nat.mod_lt _ HNE.out
    exact Agc HN.out HJ.out.nr (Nat.le_of_lt hlt)
   clear hOL
   go_wp2_with (at_builtin;refine wpList_append_own _ rfl _ _ 89 rfl wr.heap.size 3 i0 (.int .i64 0) 1 8 Tryz.underlying89 hi hz0 hz1 hz2 rfl (by decide) _ _ _ rfl HOL.out ad R.length cR (R.map V) rfl (by simp) HSR.out (by simp[V,Value.oneCell']) (by unfold maxLen;omega) (by omega) (by simp) ?_;intro v4 w4 hown4 hgrow4 _;obtain⟨ad4,c4,hv4⟩:=Ah0 hown4 (by omega);subst hv4;have HO4:=Aac hown4;have HG4:=Aac hgrow4;clear hown4 hgrow4)
   have hRd4:RdN w4 (some ad4) (x::R)∧(x::R).length≤c4:=by
    have h1:w4.ownsRow wr.heap.size 3 1 (.slice (some ad4) (1+R.length) c4) (1+R.length) ((x::R).map V):=HO4.out
    have h2:=RdN.of_own h1
    exact⟨h2.2.2,by rw[←h2.1];exact h2.2.1⟩
   have hfr4:wr.heap.size≤ad4.block:=Ah1 HO4.out ad4 rfl
   have hb4:Below wr.heap.size wr w4:=((Below.refl _ wr).alloc (Aad _) _).grown HG4.out (by simp) (fun k hk=>by have:=HOL.out.lt k hk;exact this.1)
   have e1R:1+R.length=(x::R).length:=by simp;omega
   rw[e1R]
   refine (Aeb (some ad4) (x::R) c4 w4 (by simp;omega) hRd4.2 hRd4.1).mono ?_
   rintro e wa ⟨rfl,rfl⟩
   obtain⟨R1,hR1⟩:∃R1,Tr.cutz (x::R)=R1:=⟨_,rfl⟩
   rw[hR1]
   obtain⟨T,hT⟩:∃T,T=x+1000000000*mval R:=⟨_,rfl⟩
   obtain⟨N,hN⟩:∃N,N=mval n:=⟨_,rfl⟩
   have hgl:w.heap.size<wr.heap.size:=HW.out.own.lt
   have HW4:Hid (DivW w w.heap.size Q ad4 R1 w4):=by rw[Hid,←hR1];exact⟨HW.out.own.below hb4,hRd4.1.cutz,HW.out.bel.trans (hb4.mono HW.out.bel.size)⟩
   have HAD4:Hid (ad4.block≠w.heap.size):=by rw[Hid];omega
   have HR1:Hid (Dig R1∧Norm R1∧mval R1=T∧R1.length≤c4∧R1.length≤n.length+1):=by
    rw[Hid,←hR1]
    have:=Abn (x::R)
    have:=hRd4.2
    refine⟨(HJ.out.dr.cons d1).cutz,Abj _,by rw[Abk,Aa9,hT],by omega,?_⟩
    simp at this ⊢;omega
   have HTB:Hid (T<(999999999+1)*N):=by
    rw[Hid,hT,hN]
    exact Ai1 d1 (by rw[HJ.out.r];exact Nat.mod_lt _ HNE.out)
   have HSTEP:Hid (∀(R':List Nat) (p:Nat),p=T / N→p<1000000000→Dig R'→Norm R'→mval R'=T % N→DivJ l n j (Q.set j p) R'):=fun R' p h1 h2 h3 h4 h5=>HJ.out.step (by omega) (by rw[h1,hT,hN,HX.out]) h2 h3 h4 (by rw[h5,hT,hN,HX.out])
   have HNV:Hid (mval n=N∧0<N):=⟨hN.symm,by rw[hN];exact HNE.out⟩
   clear hT hN hR1 hRd4 hfr4 hb4 hgl e1R HG4 HO4 HOL HSR HJ HW HAD ck d1 hRl hcR hi hz0 hz1 hz2
   go_wp2_with fail
   go_loopw [9,10] (fun lo hi wq=>∃p q:Nat,lo=.int .i64 (p:Int)∧hi=.int .i64 (q:Int)∧p≤q∧q≤999999999∧p*N≤T∧T<(q+1)*N∧DivW w w.heap.size Q ad4 R1 wq) (fun lo hi _=>(intOf hi-intOf lo).toNat)
   case atStart=>exact⟨0,999999999,rfl,rfl,by omega,by omega,by omega,HTB.out,HW4.out⟩
   case round =>
    clear HW4
    obtain⟨p,q,rfl,rfl,hpq,hq,hlo,hhi,hWq⟩:=hrel
    have HLO:=Aac hlo
    have HHI:=Aac hhi
    have HWQ:=Aac hWq
    clear hlo hhi hWq
    rcases Aam p q with hlt|hge
    ·have hcx:decide ((p:Int)<(q:Int))=true:=by simp;omega
     obtain⟨m,hm⟩:∃m,m=(p+q+1) / 2:=⟨_,rfl⟩
     have hmi:((p:Int)+(q:Int)+1) / 2=(m:Int):=by omega
     have hmb:p<m∧m≤q:=by omega
     have HTM:=Aac (Afu A' (some ⟨wr.heap.size,0,none⟩) n [m] c' 1 (wr.alloc (.cells #[.int .i64 (m:Int)] 3)) (by omega) (by simp) hc' (by simp) HN.out (Dig.nil.cons (by omega)) (HR'.out.below (HWQ.out.bel.trans (((Below.refl _ wr).alloc (Aad _) _).mono HWQ.out.bel.size))) (RdN.single wr m))
     have HWA:=Aac (HWQ.out.below ((Below.refl _ wr).alloc (Aad _) (.cells #[.int .i64 (m:Int)] 3)))
     clear hm
     go_wp2_with fail
     refine HTM.out.mono ?_
     rintro e w5 ⟨At,t,ct,rfl,hct,⟨htl,hP⟩,hrt,b5⟩
     have HW5:=Aac (HWA.out.below b5)
     have hmt:mval t=N*m:=by rw[hP.2.2,Abc,HNV.out.1]
     have HOR:=Aac (Ahx At (some ad4) t R1 ct c4 w5 (by simp at htl;omega) (by have:=HR1.out.2.2.2.2;omega) hP.1 HR1.out.1 hP.2.1 HR1.out.2.1 hrt HW5.out.rd)
     rw[hmt,HR1.out.2.2.1] at HOR
     clear hct htl hP hrt b5 HWA HTM HWQ hmt
     go_wp2_with fail
     refine HOR.out.mono ?_
     rintro e w6 ⟨r,rfl,hs,dq,rfl⟩
     have HW6:=Aac (HW5.out.below (Acz (Below.refl _ _) dq))
     generalize w5.drewN dq=w6 at HW6 ⊢
     clear HW5 HOR
     by_cases hle:m*N≤T
     ·have t1:decide (r≤0)=true:=Aa3 (by have:=hs.2.1;rw[Nat.mul_comm N m] at this;omega)
      have HLE:=Aac hle
      clear hle hs
      go_wp2_with fail
      go_roundw
      case rel=>exact⟨m,q,rfl,rfl,by omega,by omega,HLE.out,HHI.out,HW6.out⟩
      case measure=>simp[intOf];omega
     ·have t1:decide (r≤0)=false:=Aa4 (by have:=hs.2.1;rw[Nat.mul_comm N m] at this;omega)
      have HLE:=Aac hle
      clear hle hs
      go_wp2_with fail
      go_roundw
      case rel=>exact⟨p,m-1,rfl,congrArg _ (by omega),by omega,by omega,HLO.out,by rw[show m-1+1=m by omega];have:=HLE.out;omega,HW6.out⟩
      case measure=>simp[intOf];omega
    ·have hcx:decide ((p:Int)<(q:Int))=false:=by simp;omega
     have hqp:q=p:=by omega
     subst hqp
     have hdiv:q=T / N:=by
      refine (Nat.div_eq_of_lt_le ?_ ?_).symm
      ·exact HLO.out
      ·exact HHI.out
     have hmod:T % N=T-q*N:=by
      have:=Nat.div_add_mod T N
      rw[←hdiv,Nat.mul_comm] at this
      omega
     have HDV:=Aac hdiv
     have HMD:=Aac hmod
     have hcj:=HWQ.out.own.cell (k:=j) (by omega)
     have hfj:=HWQ.out.own.frozen j
     have HWS:Hid (DivW w w.heap.size (Q.set j q) ad4 R1 (wr.setCell ⟨w.heap.size,j,none⟩ (.int .i64 (q:Int)))):=⟨HWQ.out.own.set (by omega) q,HWQ.out.rd.far2 HAD4.out _,HWQ.out.bel.setCell (p:=⟨w.heap.size,j,none⟩) (Aad _) _⟩
     clear hdiv hmod hpq
     go_upto_region 13 with fail
     generalize wr.setCell ⟨w.heap.size,j,none⟩ (.int .i64 (q:Int))=w7 at HWS ⊢
     clear HWQ hcj hfj hge hcx HLO HHI
     have hjl:j<l.length:=by omega
     rcases Aaq q with h0|h0
     ·have t1:decide ((0:Int)<(q:Int))=false:=Aa4 (by omega)
      have t1':decide (0<q)=false:=Aa4 (by omega)
      have HJ':Hid (DivJ l n j (Q.set j q) R1):=HSTEP.out R1 q HDV.out (by omega) HR1.out.1 HR1.out.2.1 (by rw[HMD.out,HR1.out.2.2.1,h0];omega)
      clear h0
      go_wp2_with fail
      go_roundw
      case rel=>exact⟨j,Q.set j q,R1,ad4,c4,rfl,by go_num,by omega,HJ'.out,HR1.out.2.2.2.1,HAD4.out,HWS.out⟩
      case measure=>simp[intOf]
     ·have t1:decide ((0:Int)<(q:Int))=true:=Aa3 (by omega)
      have t1':decide (0<q)=true:=Aa3 h0
      have HTM:=Aac (Afu A' (some ⟨w7.heap.size,0,none⟩) n [q] c' 1 (w7.alloc (.cells #[.int .i64 (q:Int)] 3)) (by omega) (by simp) hc' (by simp) HN.out (Dig.nil.cons (by omega)) (HR'.out.below (HWS.out.bel.trans (((Below.refl _ w7).alloc (Aad _) _).mono HWS.out.bel.size))) (RdN.single w7 q))
      have HWA:=Aac (HWS.out.below ((Below.refl _ w7).alloc (Aad _) (.cells #[.int .i64 (q:Int)] 3)))
      clear h0
      go_wp2_with fail
      refine HTM.out.mono ?_
      rintro e w5 ⟨At,t,ct,rfl,hct,⟨htl,hP⟩,hrt,b5⟩
      have HW5:=Aac (HWA.out.below b5)
      have hmt:mval t=N*q:=by rw[hP.2.2,Abc,HNV.out.1]
      have hle:mval t≤mval R1:=by
       rw[hmt,HR1.out.2.2.1,Nat.mul_comm,HDV.out]
       exact Nat.div_mul_le_self T N
      have HMI:=Aac (Ais (some ad4) At R1 t c4 ct w5 (by have:=HR1.out.2.2.2.2;omega) (Agc HR1.out.1 hP.2.1 hle) HR1.out.2.2.2.1 hct HR1.out.1 hP.1 hle HW5.out.rd hrt)
      have HMT:=Aac hmt
      have hg5:w.heap.size<w5.heap.size:=HW5.out.own.lt
      have HG5:=Aac hg5
      clear hct htl hP hrt b5 HWA HTM hmt hle hg5
      go_wp2_with fail
      refine HMI.out.mono ?_
      rintro e w6 ⟨ad6,r6,c6,rfl,hc6,hD6,hf6,hr6,b6⟩
      have HJ':Hid (DivJ l n j (Q.set j q) r6):=HSTEP.out r6 q HDV.out (by omega) hD6.1 hD6.2.1 (by rw[hD6.2.2.1,HMT.out,HR1.out.2.2.1,HMD.out,Nat.mul_comm])
      have HW6:Hid (DivW w w.heap.size (Q.set j q) ad6 r6 w6):=⟨HW5.out.own.below b6,hr6,HW5.out.bel.trans (b6.mono HW5.out.bel.size)⟩
      have HF6:Hid (r6.length≤c6∧ad6.block≠w.heap.size):=⟨hc6,by have:=HG5.out;omega⟩
      clear hc6 hD6 hf6 hr6 b6 HMI HW5
      go_wp2_with fail
      go_roundw
      case rel=>exact⟨j,Q.set j q,r6,ad6,c6,rfl,by go_num,by omega,HJ'.out,HF6.out.1,HF6.out.2,HW6.out⟩
      case measure=>simp[intOf]
structure SD(w:World)(B3 B4:Nat)(nq nr:Bool)(Aq Ar:Option Addr)(lq lr:List Nat)(cq cr:Nat)(zq zr:Int)(K:Nat)(W:World):Prop where
 b3:W.heap[B3]?=some (.cells #[.bool nq,.slice Aq lq.length cq] 91 (0,0))
 b4:W.heap[B4]?=some (.cells #[.bool nr,.slice Ar lr.length cr] 91 (0,0))
 mq:RNm W nq Aq lq cq zq K
 mr:RNm W nr Ar lr cr zr K
 bel:Below w.heap.size w W
theorem SD.below{w:World}{B3 B4:Nat}{nq nr:Bool}{Aq Ar:Option Addr}{lq lr:List Nat}{cq cr:Nat}{zq zr:Int}{K:Nat}{W W':World}(h:SD w B3 B4 nq nr Aq Ar lq lr cq cr zq zr K W)(hb:Below W.heap.size W W'):SD w B3 B4 nq nr Aq Ar lq lr cq cr zq zr K W' :=
 ⟨(hb.block B3 (Aab.1 h.b3).1).trans h.b3,(hb.block B4 (Aab.1 h.b4).1).trans h.b4,h.mq.below hb,h.mr.below hb,h.bel.trans (hb.mono h.bel.size)⟩
theorem Ai4{W:World}{nb:Bool}{A:Option Addr}{l:List Nat}{c:Nat}{z:Int}{K:Nat}(h:RNm W nb A l c z K)(hK:K≤100000):
 Calls Tryz.prog 64 #[.agg #[.bool nb,.slice A l.length c]] W fun e w'=>e=.returned (.string (I z))∧Below W.heap.size W w':=by
 have h1:=Ahq nb A l c W (by have:=h.2.2.2.2.1;omega) h.2.2.2.1 h.1 h.2.2.2.2.2
 have e:(if nb=true then -(mval l:Int) else (mval l:Int))=z:=by rw[←h.2.2.1];cases nb<;>rfl
 rw[e] at h1
 exact h1
theorem SD.calls{w:World}{B3 B4:Nat}{nq nr:Bool}{Aq Ar:Option Addr}{lq lr:List Nat}{cq cr:Nat}{zq zr:Int}{K:Nat}{args:Array Value}{v:Value}(h:∀W,SD w B3 B4 nq nr Aq Ar lq lr cq cr zq zr K W→Calls Tryz.prog 64 args W fun e w'=>e=.returned v∧Below W.heap.size W w'):
 ∀W,SD w B3 B4 nq nr Aq Ar lq lr cq cr zq zr K W→Calls Tryz.prog 64 args W fun e wn=>e=.returned v∧SD w B3 B4 nq nr Aq Ar lq lr cq cr zq zr K wn∧wn.cell? ⟨B3,0,none⟩=some (.bool nq)∧wn.cell? ⟨B3,1,none⟩=some (.slice Aq lq.length cq)∧wn.cell? ⟨B4,0,none⟩=some (.bool nr)∧wn.cell? ⟨B4,1,none⟩=some (.slice Ar lr.length cr):=by
 intro W hW
 refine (h W hW).mono ?_
 rintro e wn ⟨rfl,bn⟩
 have hn:=hW.below bn
 exact⟨rfl,hn,Aaa hn.b3 0,Aaa hn.b3 1,Aaa hn.b4 0,Aaa hn.b4 1⟩
structure XD(w:World)(P:Nat)(na:Bool)(v1:Value)(A2:Option Addr)(l2:List Nat)(c2:Nat)(aq ar:Addr)(q r:List Nat)(W:World):Prop where
 k0:W.heap[P]?=some (.cells #[.bool na,v1] 91 (0,0))
 k1:W.heap[P+1]?=some (.cells #[.bool false,.slice A2 l2.length c2] 91 (0,0))
 r2:RdN W A2 l2
 rq:RdN W (some aq) q
 rr:RdN W (some ar) r
 bel:Below w.heap.size w W
theorem XD.below{w:World}{P:Nat}{na:Bool}{v1:Value}{A2:Option Addr}{l2:List Nat}{c2:Nat}{aq ar:Addr}{q r:List Nat}{W W':World}(h:XD w P na v1 A2 l2 c2 aq ar q r W)(hb:Below W.heap.size W W'):XD w P na v1 A2 l2 c2 aq ar q r W' :=
 ⟨(hb.block P (Aab.1 h.k0).1).trans h.k0,(hb.block (P+1) (Aab.1 h.k1).1).trans h.k1,h.r2.below hb,h.rq.below hb,h.rr.below hb,h.bel.trans (hb.mono h.bel.size)⟩
theorem XD.lt{w:World}{P:Nat}{na:Bool}{v1:Value}{A2:Option Addr}{l2:List Nat}{c2:Nat}{aq ar:Addr}{q r:List Nat}{W:World}(h:XD w P na v1 A2 l2 c2 aq ar q r W):P+1<W.heap.size:=(Aab.1 h.k1).1
theorem Ai5(W:World)(o1 o2:Obj):((W.alloc o1).alloc o2).drew.heap[W.heap.size]?=some o1∧((W.alloc o1).alloc o2).drew.heap[W.heap.size+1]?=some o2∧Below W.heap.size W ((W.alloc o1).alloc o2).drew:=by
 obtain⟨W0,rfl,hb,_,h1,h2⟩:=box2 W o1 o2
 exact⟨h1,h2,hb.drew⟩
theorem RdN.apart{W:World}{A:Option Addr}{l:List Nat}(h:RdN W A l){B:Nat}{x:Bool}{A':Option Addr}{k c:Nat}(hB:W.heap[B]?=some (.cells #[.bool x,.slice A' k c] 91 (0,0)))(u:Value)(o:Nat):RdN (W.setCell ⟨B,o,none⟩ u) A l:=by
 rcases Classical.em (l=[]) with h0|h0
 ·subst h0;exact RdN.nil _ _
 ·refine h.far (p:=⟨B,o,none⟩) (fun ad e=>?_) u
  obtain⟨ad',e',_,hc⟩:=h h0
  rw[e] at e'
  injection e' with e'
  subst e'
  intro eb
  have hb:ad.block=B:=eb
  have h1:=hc 0 (List.length_pos_iff.2 h0)
  have h2:ad.add 0=ad:=rfl
  rw[h2] at h1
  unfold World.cell? at h1
  rw[hb,hB] at h1
  dsimp only at h1
  split at h1
  ·cases h1
  ·rcases ho:ad.off with _|_|n
   ·rw[ho] at h1;simp at h1
   ·rw[ho] at h1;simp at h1
   ·rw[ho] at h1;simp at h1
theorem RdN.apart2{W:World}{A:Option Addr}{l:List Nat}(h:RdN W A l){B:Nat}{x:Bool}{A':Option Addr}{k c:Nat}(hB:W.heap[B]?=some (.cells #[.bool x,.slice A' k c] 91 (0,0)))(u:Bool)(v:Value):RdN ((W.setCell ⟨B,0,none⟩ (.bool u)).setCell ⟨B,1,none⟩ v) A l:=by
 have h1:=h.apart hB (.bool u) 0
 have h2:(W.setCell ⟨B,0,none⟩ (.bool u)).heap[B]?=some (.cells #[.bool u,.slice A' k c] 91 (0,0)):=by simp[World.setCell,Array.getElem?_modify,hB]
 exact h1.apart h2 v 1
theorem Ai6{W:World}{B k:Nat}(hk:k≠B)(x y:Value):((W.setCell ⟨B,0,none⟩ x).setCell ⟨B,1,none⟩ y).heap[k]?=W.heap[k]?:=by
 rw[Below.heap_setCell _ _ _ _ (by simpa using hk),Below.heap_setCell _ _ _ _ (by simpa using hk)]
theorem Ai7{w W:World}{B:Nat}(hb:w.heap.size≤B)(h:Below w.heap.size w W)(x y:Value):Below w.heap.size w ((W.setCell ⟨B,0,none⟩ x).setCell ⟨B,1,none⟩ y) :=
 (h.setCell (p:=⟨B,0,none⟩) hb _).setCell (p:=⟨B,1,none⟩) hb _
theorem Ai8{A B:Nat}(hB:0<B)(h:A % B=0):(-(A:Int)) / (B:Int)=-((A / B:Nat):Int)∧(-(A:Int)) % (B:Int)=0:=by
 have e:(A:Int)=(B:Int)*((A / B:Nat):Int):=by have:=Nat.div_add_mod A B;rw[h] at this;exact_mod_cast this.symm
 constructor
 ·rw[e,←Int.mul_neg,Int.mul_ediv_cancel_left _ (by omega)]
 ·rw[e,←Int.mul_neg,Int.mul_emod_right]
theorem Ai9{A B:Nat}(hB:0<B)(h:0<A % B):(-(A:Int)) / (B:Int)=-((A / B:Nat):Int)+-1∧(-(A:Int)) % (B:Int)=-((A % B:Nat):Int)+(B:Int):=by
 have e:(A:Int)=(B:Int)*((A / B:Nat):Int)+((A % B:Nat):Int):=by exact_mod_cast (Nat.div_add_mod A B).symm
 have hlt:A % B<B:=Nat.mod_lt _ hB
 have e2:-(A:Int)=(-((A / B:Nat):Int)+-1)*(B:Int)+(-((A % B:Nat):Int)+(B:Int)):=by rw[Int.add_mul,Int.neg_mul,Int.mul_comm _ (B:Int)];omega
 constructor
 ·rw[e2,Int.add_comm,Int.add_mul_ediv_right _ _ (by omega),Int.ediv_eq_zero_of_lt (by omega) (by omega)];omega
 ·rw[e2,Int.add_comm,Int.add_mul_emod_self_right,Int.emod_eq_of_lt (by omega) (by omega)]
theorem Aja(a b:ByteArray)(ha:a.size≤80000)(hb:b.size≤80000)(hp:0<vl b)(hlong:¬((digits (vl a).natAbs).length≤17∧(digits (vl b).natAbs).length≤17))(w:World):
 Calls Tryz.prog 198 #[.string a,.string b] w fun e w'=>e=.returned (.tuple #[.string (I (vl a / vl b)),.string (I (vl a % vl b)),.int .i64 0])∧Below w.heap.size w w':=by
 obtain⟨m,is,n,also,HA,HB,HIS,HNZ⟩:∃(m:Int) (is:Bool) (n:Int) (also:Bool),Hid (∀W,Calls Tryz.prog 62 #[.string a] W fun e w'=>e=.returned (.tuple #[.int .i64 m,.bool is])∧W=w')∧Hid (∀W,Calls Tryz.prog 62 #[.string b] W fun e w'=>e=.returned (.tuple #[.int .i64 n,.bool also])∧W=w')∧Hid (is=true→also=false)∧Hid (also=true→(n==0)=false):=by
  by_cases h1:(digits (vl a).natAbs).length≤17
  ·have h2:17<(digits (vl b).natAbs).length:=by omega
   exact⟨_,_,_,_,Ahc a (by omega) h1,Ahd b (by omega) h2,fun _=>rfl,fun h=>by cases h⟩
  ·by_cases h2:(digits (vl b).natAbs).length≤17
   ·exact⟨_,_,_,_,Ahd a (by omega) (by omega),Ahc b (by omega) h2,(fun h=>by cases h),fun _=>by rw[Aaj];omega⟩
   ·exact⟨_,_,_,_,Ahd a (by omega) (by omega),Ahd b (by omega) (by omega),(fun h=>by cases h),fun h=>by cases h⟩
 have HR1:=Aac (fun W=>Ahw a W (by omega))
 have HR2:=Aac (fun W=>Ahw b W (by omega))
 have HS:=Aac (And.intro ha hb)
 have HP:=Aac hp
 clear ha hb hp hlong
 go_enter Tryz.func198,Tryz.ntmps198
 go_wp2_with fail
 refine (HA.out _).mono ?_
 rintro e w1 ⟨rfl,rfl⟩
 go_wp2_with fail
 refine (HB.out _).mono ?_
 rintro e w1 ⟨rfl,rfl⟩
 go_upto_region 3 with fail
 go_cut [33] (fun v wx=>v=.bool false∧w=wx)
 case first =>
  cases also
  ·go_wp2_with fail
   go_meet
   exact⟨rfl,rfl⟩
  ·have hz:=HNZ.out rfl
   go_wp2_with fail
   go_meet
   exact⟨rfl,rfl⟩
 case rest =>
  obtain⟨rfl,rfl⟩:=hcut
  go_upto_region 5 with fail
  go_cut [37] (fun v wx=>v=.bool false∧w=wx)
  case first =>
   cases is
   ·go_wp2_with fail
    go_meet
    exact⟨rfl,rfl⟩
   ·have ha:=HIS.out rfl
    subst ha
    go_wp2_with fail
    go_meet
    exact⟨rfl,rfl⟩
  case rest =>
   obtain⟨rfl,rfl⟩:=hcut
   clear HA HB HIS HNZ
   go_wp2_with fail
   refine (HR1.out _).mono ?_
   rintro e w1 ⟨A1,l1,c1,rfl,h1,hc1,hr1,hb1⟩
   have H1:=Aac h1
   have R1:=Aac hr1
   have B1:=Aac hb1
   clear HR1 h1 hr1 hb1
   go_wp2_with fail
   refine (HR2.out _).mono ?_
   rintro e w2 ⟨A2,l2,c2,rfl,h2,hc2,hr2,hb2⟩
   rw[Aa4 (show ¬vl b<0 by have:=HP.out;omega)]
   obtain⟨W2,hW2,hBW,hz,k0,k1⟩:=box2 w2 (.cells #[.bool (decide (vl a<0)),.slice A1 l1.length c1] 91) (.cells #[.bool false,.slice A2 l2.length c2] 91)
   have H2:=Aac h2
   have R1':=Aac ((R1.out.below hb2).below hBW)
   have R2':=Aac (hr2.below hBW)
   have B2:=Aac ((B1.out.trans (hb2.mono B1.out.size)).trans (hBW.mono (B1.out.trans (hb2.mono B1.out.size)).size))
   have HZ:=Aac hz
   have HPW:=Aac (B1.out.trans (hb2.mono B1.out.size)).size
   have K0:=Aac k0
   have K1:=Aac k1
   clear HR2 h2 hr2 hb2 hBW hz k0 k1 R1 B1
   go_upto_region 12 with fail
   rw[←hW2]
   clear hW2
   obtain⟨na,hna⟩:∃na,decide (vl a<0)=na:=⟨_,rfl⟩
   rw[hna] at K0 ⊢
   have HNA:=Aac hna
   have a0:=Aaa K0.out 0
   have a1:=Aaa K0.out 1
   have e0:=Aaa K1.out 0
   have e1:=Aaa K1.out 1
   simp at a0 a1 e0 e1
   have hlb:0<mval l2:=by rw[H2.out.2.2.1];have:=HP.out;omega
   have HDV:=Aac (Ai3 A1 A2 l1 l2 c1 c2 W2 (by have:=H1.out.2.2.2;have:=HS.out;omega) (by have:=H2.out.2.2.2;have:=HS.out;omega) hc1 hc2 H1.out.1 H2.out.1 H2.out.2.1 hlb R1'.out R2'.out)
   generalize w2.heap.size=P at *
   clear hna hlb
   go_wp2_with fail
   refine HDV.out.mono ?_
   rintro e w3 ⟨aq,ar,q,r,cq,cr,rfl,hq,hr,rq,rr,b3⟩
   have HX:Hid (XD w P na (.slice A1 l1.length c1) A2 l2 c2 aq ar q r w3):=⟨(b3.block P (Aab.1 K0.out).1).trans K0.out,(b3.block (P+1) (Aab.1 K1.out).1).trans K1.out,R2'.out.below b3,rq,rr,B2.out.trans (b3.mono B2.out.size)⟩
   have HQ:=Aac hq
   have HR:=Aac hr
   clear hq hr rq rr b3 K0 K1 R1' R2' B2 HDV HZ a0 a1 e0 e1
   go_upto_region 13 with fail
   go_cut [17,18] (fun v17 v18 wx=>∃B3 B4:Nat,v17=.pointer (some ⟨B3,0,none⟩)∧v18=.pointer (some ⟨B4,0,none⟩)∧B3≠B4∧P+1<B3∧P+1<B4∧wx.heap[B3]?=some (.cells #[.bool na,.slice (some aq) q.length cq] 91 (0,0))∧wx.heap[B4]?=some (.cells #[.bool na,.slice (some ar) r.length cr] 91 (0,0))∧XD w P na (.slice A1 l1.length c1) A2 l2 c2 aq ar q r wx)
   case first =>
    have a0:=Aaa HX.out.k0 0
    have e0:=Aaa HX.out.k1 0
    simp at a0 e0
    have n1:w3.heap.size≠P:=by have:=HX.out.lt;omega
    have n2:w3.heap.size≠P+1:=by have:=HX.out.lt;omega
    have n3:P<w3.heap.size:=by have:=HX.out.lt;omega
    have n4:P+1<w3.heap.size:=HX.out.lt
    have y1:(w3.alloc (.cells #[.bool false,.slice none 0 0] 91)).cell? ⟨P,0,none⟩=some (.bool na):=(Below.cell ((Below.refl w3.heap.size w3).alloc (Aad _) _) n3).trans a0
    have y2:((w3.alloc (.cells #[.bool false,.slice none 0 0] 91)).alloc (.cells #[.bool false,.slice none 0 0] 91)).cell? ⟨P,0,none⟩=some (.bool na):=(Below.cell (((Below.refl w3.heap.size w3).alloc (Aad _) _).alloc (by simp) _) n3).trans a0
    have y3:(w3.alloc (.cells #[.bool false,.slice none 0 0] 91)).cell? ⟨P+1,0,none⟩=some (.bool false):=(Below.cell ((Below.refl w3.heap.size w3).alloc (Aad _) _) n4).trans e0
    have y4:((w3.alloc (.cells #[.bool false,.slice none 0 0] 91)).alloc (.cells #[.bool false,.slice none 0 0] 91)).cell? ⟨P+1,0,none⟩=some (.bool false):=(Below.cell (((Below.refl w3.heap.size w3).alloc (Aad _) _).alloc (by simp) _) n4).trans e0
    cases na
    ·
     go_region
     all_goals (first|go_wp2_with fail|skip)
     all_goals go_meet
     all_goals first
      | (have t:=Ai5 w3 (.cells #[.bool false,.slice (some aq) q.length cq] 91) (.cells #[.bool false,.slice (some ar) r.length cr] 91);exact⟨w3.heap.size,w3.heap.size+1,rfl,rfl,(by omega),(by omega),(by omega),t.1,t.2.1,HX.out.below t.2.2⟩)
      | (have t:=Ai5 w3 (.cells #[.bool false,.slice (some ar) r.length cr] 91) (.cells #[.bool false,.slice (some aq) q.length cq] 91);exact⟨w3.heap.size+1,w3.heap.size,rfl,rfl,(by omega),(by omega),(by omega),t.2.1,t.1,HX.out.below t.2.2⟩)
    ·
     go_region
     all_goals (first|go_wp2_with fail|skip)
     all_goals go_meet
     all_goals first
      | (have t:=Ai5 w3 (.cells #[.bool true,.slice (some aq) q.length cq] 91) (.cells #[.bool true,.slice (some ar) r.length cr] 91);exact⟨w3.heap.size,w3.heap.size+1,rfl,rfl,(by omega),(by omega),(by omega),t.1,t.2.1,HX.out.below t.2.2⟩)
      | (have t:=Ai5 w3 (.cells #[.bool true,.slice (some ar) r.length cr] 91) (.cells #[.bool true,.slice (some aq) q.length cq] 91);exact⟨w3.heap.size+1,w3.heap.size,rfl,rfl,(by omega),(by omega),(by omega),t.2.1,t.1,HX.out.below t.2.2⟩)
   case rest =>
    obtain⟨B3,B4,rfl,rfl,n34,n3,n4,k3,k4,hx⟩:=hcut
    have K3:=Aac k3
    have K4:=Aac k4
    have HN34:=Aac n34
    have HN3:=Aac (And.intro n3 n4)
    have a0:=Aaa hx.k0 0
    have e0:=Aaa hx.k1 0
    have e1:=Aaa hx.k1 1
    simp at a0 e0 e1
    have HXD:=Aac hx
    have HV:Hid (mval l1=(vl a).natAbs∧(mval l2:Int)=vl b∧0<mval l2):=⟨H1.out.2.2.1,by rw[H2.out.2.2.1];have:=HP.out;omega,by rw[H2.out.2.2.1];have:=HP.out;omega⟩
    have HLN:Hid (q.length≤9000∧r.length≤9000∧l2.length≤9000):=⟨by have:=HQ.out.2.2.2.1;have:=H1.out.2.2.2;have:=HS.out;omega,by have:=HR.out.2.2.2.1;have:=H2.out.2.2.2;have:=HS.out;omega,by have:=H2.out.2.2.2;have:=HS.out;omega⟩
    clear k3 k4 n34 n3 n4 hx HX
    cases na
    ·have hva:vl a=(mval l1:Int):=by have:=HNA.out;rw[decide_eq_false_iff_not] at this;rw[HV.out.1];omega
     have HSD:Hid (SD w B3 B4 false false (some aq) (some ar) q r cq cr (vl a / vl b) (vl a % vl b) 9001 _):=⟨K3.out,K4.out,⟨HQ.out.1,HQ.out.2.1,(by rw[hva,←HV.out.2.1];show (mval q:Int)=_;rw[HQ.out.2.2.1];exact Int.natCast_ediv _ _),HQ.out.2.2.2.2,(by have:=HLN.out;omega),HXD.out.rq⟩,⟨HR.out.1,HR.out.2.1,(by rw[hva,←HV.out.2.1];show (mval r:Int)=_;rw[HR.out.2.2.1];exact Int.natCast_emod _ _),HR.out.2.2.2.2,(by have:=HLN.out;omega),HXD.out.rr⟩,HXD.out.bel⟩
     clear hva K3 K4 HXD
     rcases Aaq r.length with h0|h0
     ·have t1:decide ((0:Int)<(r.length:Int))=false:=Aa4 (by omega)
      have t2:decide (0<r.length)=false:=Aa4 (by omega)
      clear h0
      go_upto_region 17 with fail
      clear a0 e0 e1 t1 t2
      have g0:=Aaa HSD.out.b3 0
      have g1:=Aaa HSD.out.b3 1
      have g2:=Aaa HSD.out.b4 0
      have g3:=Aaa HSD.out.b4 1
      simp at g0 g1 g2 g3
      have HW1:=Aac (SD.calls (fun W hW=>Ai4 (W:=W) hW.mq (by omega)):∀W,SD w B3 B4 false false (some aq) (some ar) q r cq cr (vl a / vl b) (vl a % vl b) 9001 W→_)
      have HW2:=Aac (SD.calls (fun W hW=>Ai4 (W:=W) hW.mr (by omega)):∀W,SD w B3 B4 false false (some aq) (some ar) q r cq cr (vl a / vl b) (vl a % vl b) 9001 W→_)
      have hg:=HSD.out.below (Below.refl _ _).drew
      clear HSD
      go_wp2_with fail
      go_region_held3 (fun W=>W.cell? ⟨B3,0,none⟩=some (.bool false)∧W.cell? ⟨B3,1,none⟩=some (.slice (some aq) q.length cq)∧W.cell? ⟨B4,0,none⟩=some (.bool false)∧W.cell? ⟨B4,1,none⟩=some (.slice (some ar) r.length cr))
       (((try dsimp only);refine⟨?_,?_,?_,?_⟩<;>first|assumption|(go_simp;done)))
       (first
         | (go_at_call_of 64 [Value.agg #[Value.bool false,Value.slice (some aq) q.length cq]];refine (HW1.out _ hg).mono ?_;clear hg g0 g1 g2 g3;rintro e wn ⟨rfl,hg,g0,g1,g2,g3⟩)
         | (go_at_call_of 64 [Value.agg #[Value.bool false,Value.slice (some ar) r.length cr]];refine (HW2.out _ hg).mono ?_;clear hg g0 g1 g2 g3;rintro e wn ⟨rfl,hg,g0,g1,g2,g3⟩))
      all_goals (first|go_wp2_with fail|skip)
      all_goals go_ret3
      all_goals exact⟨rfl,hg.bel⟩
     ·have t1:decide ((0:Int)<(r.length:Int))=true:=Aa3 (by omega)
      have t2:decide (0<r.length)=true:=Aa3 (by omega)
      clear h0
      go_upto_region 17 with fail
      clear a0 e0 e1 t1 t2
      have g0:=Aaa HSD.out.b3 0
      have g1:=Aaa HSD.out.b3 1
      have g2:=Aaa HSD.out.b4 0
      have g3:=Aaa HSD.out.b4 1
      simp at g0 g1 g2 g3
      have HW1:=Aac (SD.calls (fun W hW=>Ai4 (W:=W) hW.mq (by omega)):∀W,SD w B3 B4 false false (some aq) (some ar) q r cq cr (vl a / vl b) (vl a % vl b) 9001 W→_)
      have HW2:=Aac (SD.calls (fun W hW=>Ai4 (W:=W) hW.mr (by omega)):∀W,SD w B3 B4 false false (some aq) (some ar) q r cq cr (vl a / vl b) (vl a % vl b) 9001 W→_)
      have hg:=HSD.out.below (Below.refl _ _).drew
      clear HSD
      go_wp2_with fail
      go_region_held3 (fun W=>W.cell? ⟨B3,0,none⟩=some (.bool false)∧W.cell? ⟨B3,1,none⟩=some (.slice (some aq) q.length cq)∧W.cell? ⟨B4,0,none⟩=some (.bool false)∧W.cell? ⟨B4,1,none⟩=some (.slice (some ar) r.length cr))
       (((try dsimp only);refine⟨?_,?_,?_,?_⟩<;>first|assumption|(go_simp;done)))
       (first
         | (go_at_call_of 64 [Value.agg #[Value.bool false,Value.slice (some aq) q.length cq]];refine (HW1.out _ hg).mono ?_;clear hg g0 g1 g2 g3;rintro e wn ⟨rfl,hg,g0,g1,g2,g3⟩)
         | (go_at_call_of 64 [Value.agg #[Value.bool false,Value.slice (some ar) r.length cr]];refine (HW2.out _ hg).mono ?_;clear hg g0 g1 g2 g3;rintro e wn ⟨rfl,hg,g0,g1,g2,g3⟩))
      all_goals (first|go_wp2_with fail|skip)
      all_goals go_ret3
      all_goals exact⟨rfl,hg.bel⟩
    ·have hva:vl a=-(mval l1:Int):=by have:=HNA.out;rw[decide_eq_true_eq] at this;rw[HV.out.1];omega
     rcases Aaq r.length with h0|h0
     ·have t1:decide ((0:Int)<(r.length:Int))=false:=Aa4 (by omega)
      have t2:decide (0<r.length)=false:=Aa4 (by omega)
      have hr0:r=[]:=Aag h0
      have hm0:mval l1 % mval l2=0:=by rw[←HR.out.2.2.1,hr0];rfl
      have hdz:=Ai8 HV.out.2.2 hm0
      have HSD:Hid (SD w B3 B4 true true (some aq) (some ar) q r cq cr (vl a / vl b) (vl a % vl b) 9001 _):=⟨K3.out,K4.out,⟨HQ.out.1,HQ.out.2.1,(by rw[hva,←HV.out.2.1,hdz.1];show -(mval q:Int)=_;rw[HQ.out.2.2.1]),HQ.out.2.2.2.2,(by have:=HLN.out;omega),HXD.out.rq⟩,⟨HR.out.1,HR.out.2.1,(by rw[hva,←HV.out.2.1,hdz.2];show -(mval r:Int)=_;rw[HR.out.2.2.1,hm0];rfl),HR.out.2.2.2.2,(by have:=HLN.out;omega),HXD.out.rr⟩,HXD.out.bel⟩
      clear hva K3 K4 HXD hdz hm0 hr0 h0
      go_upto_region 17 with fail
      clear a0 e0 e1 t1 t2
      have g0:=Aaa HSD.out.b3 0
      have g1:=Aaa HSD.out.b3 1
      have g2:=Aaa HSD.out.b4 0
      have g3:=Aaa HSD.out.b4 1
      simp at g0 g1 g2 g3
      have HW1:=Aac (SD.calls (fun W hW=>Ai4 (W:=W) hW.mq (by omega)):∀W,SD w B3 B4 true true (some aq) (some ar) q r cq cr (vl a / vl b) (vl a % vl b) 9001 W→_)
      have HW2:=Aac (SD.calls (fun W hW=>Ai4 (W:=W) hW.mr (by omega)):∀W,SD w B3 B4 true true (some aq) (some ar) q r cq cr (vl a / vl b) (vl a % vl b) 9001 W→_)
      have hg:=HSD.out.below (Below.refl _ _).drew
      clear HSD
      go_wp2_with fail
      go_region_held3 (fun W=>W.cell? ⟨B3,0,none⟩=some (.bool true)∧W.cell? ⟨B3,1,none⟩=some (.slice (some aq) q.length cq)∧W.cell? ⟨B4,0,none⟩=some (.bool true)∧W.cell? ⟨B4,1,none⟩=some (.slice (some ar) r.length cr))
       (((try dsimp only);refine⟨?_,?_,?_,?_⟩<;>first|assumption|(go_simp;done)))
       (first
         | (go_at_call_of 64 [Value.agg #[Value.bool true,Value.slice (some aq) q.length cq]];refine (HW1.out _ hg).mono ?_;clear hg g0 g1 g2 g3;rintro e wn ⟨rfl,hg,g0,g1,g2,g3⟩)
         | (go_at_call_of 64 [Value.agg #[Value.bool true,Value.slice (some ar) r.length cr]];refine (HW2.out _ hg).mono ?_;clear hg g0 g1 g2 g3;rintro e wn ⟨rfl,hg,g0,g1,g2,g3⟩))
      all_goals (first|go_wp2_with fail|skip)
      all_goals go_ret3
      all_goals exact⟨rfl,hg.bel⟩
     ·have t1:decide ((0:Int)<(r.length:Int))=true:=Aa3 (by omega)
      have t2:decide (0<r.length)=true:=Aa3 (by omega)
      have hm0:0<mval l1 % mval l2:=by
       rw[←HR.out.2.2.1]
       rcases Aaq (mval r) with h|h
       ·have:=(Abq HR.out.2.1).1 h;rw[this] at h0;cases h0
       ·exact h
      have hdz:=Ai9 HV.out.2.2 hm0
      have HZQ:Hid (vl a / vl b=-(mval q:Int)+-1):=by rw[Hid,hva,←HV.out.2.1,hdz.1,HQ.out.2.2.1]
      have HZR:Hid (vl a % vl b=-(mval r:Int)+vl b):=by rw[Hid,hva,←HV.out.2.1,hdz.2,HR.out.2.2.1]
      clear hva hdz hm0 h0
      have g0:=Aaa K3.out 0
      have g1:=Aaa K3.out 1
      simp at g0 g1
      have hal:Below wc.heap.size wc (wc.alloc (.cells #[.int .i64 1] 3)):=(Below.refl _ wc).alloc (Aad _) _
      have HA1:=Aac (Aiw true true (some aq) (some ⟨wc.heap.size,0,none⟩) q [1] cq 1 (-(mval q:Int)) (-1) 9000 (wc.alloc (.cells #[.int .i64 1] 3)) (by omega) ⟨HQ.out.1,HQ.out.2.1,rfl,HQ.out.2.2.2.2,HLN.out.1,HXD.out.rq.below hal⟩ ⟨Dig.nil.cons (by omega),Abh (l:=[]) (by omega),by rw[Abc];rfl,by simp,by simp,RdN.single wc 1⟩)
      clear hal
      go_wp2_with fail
      refine HA1.out.mono ?_
      rintro e w5 ⟨n5,A5,l5,c5,rfl,h5,b5⟩
      have b5':Below wc.heap.size wc w5:=((Below.refl _ wc).alloc (Aad _) (.cells #[.int .i64 1] 3)).trans (b5.mono (by simp))
      have k3:=(b5'.block B3 (Aab.1 K3.out).1).trans K3.out
      have k4:=(b5'.block B4 (Aab.1 K4.out).1).trans K4.out
      have hx5:=HXD.out.below b5'
      have m0:=Aaa k3 0
      have m1:=Aaa k3 1
      have f0:=Aaf k3 0
      have f1:=Aaf k3 1
      simp at m0 m1
      have H5:=Aac h5
      have K3':=Aac k3
      have K4':=Aac k4
      have HX5:=Aac hx5
      clear b5 b5' k3 k4 hx5 h5 K3 K4 HXD HA1 a0 e0 e1 g0 g1 t1 t2
      go_upto_region 16 with fail
      have K3'':=Aac (set2 K3'.out (.bool n5) (.slice A5 l5.length c5))
      have K4'':Hid (((w5.setCell ⟨B3,0,none⟩ (.bool n5)).setCell ⟨B3,1,none⟩ (.slice A5 l5.length c5)).heap[B4]?=some (.cells #[.bool true,.slice (some ar) r.length cr] 91 (0,0))):=(Ai6 (fun e=>HN34.out e.symm) _ _).trans K4'.out
      have KY:Hid (((w5.setCell ⟨B3,0,none⟩ (.bool n5)).setCell ⟨B3,1,none⟩ (.slice A5 l5.length c5)).heap[P+1]?=some (.cells #[.bool false,.slice A2 l2.length c2] 91 (0,0))):=(Ai6 (by have:=HN3.out;omega) _ _).trans HX5.out.k1
      have RY:=Aac (HX5.out.r2.apart2 K3'.out n5 (.slice A5 l5.length c5))
      have RR:=Aac (HX5.out.rr.apart2 K3'.out n5 (.slice A5 l5.length c5))
      have R5:=Aac (H5.out.2.2.2.2.2.apart2 K3'.out n5 (.slice A5 l5.length c5))
      have BB:=Aac (Ai7 (B:=B3) (by have:=HN3.out;have:=HPW.out;omega) HX5.out.bel (.bool n5) (.slice A5 l5.length c5))
      generalize (w5.setCell ⟨B3,0,none⟩ (.bool n5)).setCell ⟨B3,1,none⟩ (.slice A5 l5.length c5)=w6 at K3'' K4'' KY RY RR R5 BB ⊢
      have M5:Hid (RNm w6 n5 A5 l5 c5 (vl a / vl b) 9001):=⟨H5.out.1,H5.out.2.1,by rw[H5.out.2.2.1,HZQ.out],H5.out.2.2.2.1,H5.out.2.2.2.2.1,R5.out⟩
      have HA2:=Aac (Aiw true false (some ar) A2 r l2 cr c2 (-(mval r:Int)) (vl b) 9000 w6 (by omega) ⟨HR.out.1,HR.out.2.1,rfl,HR.out.2.2.2.2,HLN.out.2.1,RR.out⟩ ⟨H2.out.1,H2.out.2.1,HV.out.2.1,hc2,HLN.out.2.2,RY.out⟩)
      have g0:=Aaa K4''.out 0
      have g1:=Aaa K4''.out 1
      have e0:=Aaa KY.out 0
      have e1:=Aaa KY.out 1
      simp at g0 g1 e0 e1
      clear H5 K3' K4' HX5 m0 m1 f0 f1 RY RR R5 KY
      go_wp2_with fail
      refine HA2.out.mono ?_
      rintro e w7 ⟨n7,A7,l7,c7,rfl,h7,b7⟩
      have k3:=(b7.block B3 (Aab.1 K3''.out).1).trans K3''.out
      have k4:=(b7.block B4 (Aab.1 K4''.out).1).trans K4''.out
      have m0:=Aaa k4 0
      have m1:=Aaa k4 1
      have f0:=Aaf k4 0
      have f1:=Aaf k4 1
      simp at m0 m1
      have m5:=M5.out.below b7
      have hs7:SD w B3 B4 n5 n7 A5 A7 l5 l7 c5 c7 (vl a / vl b) (vl a % vl b) 9001 ((w7.setCell ⟨B4,0,none⟩ (.bool n7)).setCell ⟨B4,1,none⟩ (.slice A7 l7.length c7)) :=
       ⟨(Ai6 HN34.out _ _).trans k3,set2 k4 _ _,⟨m5.1,m5.2.1,m5.2.2.1,m5.2.2.2.1,m5.2.2.2.2.1,m5.2.2.2.2.2.apart2 k4 n7 _⟩,⟨h7.1,h7.2.1,by rw[h7.2.2.1,HZR.out],h7.2.2.2.1,h7.2.2.2.2.1,h7.2.2.2.2.2.apart2 k4 n7 _⟩,Ai7 (B:=B4) (by have:=HN3.out;have:=HPW.out;omega) (BB.out.trans (b7.mono BB.out.size)) _ _⟩
      have HSD:=Aac hs7
      clear hs7 h7 b7 k3 k4 m5 M5 HA2 K3'' K4'' BB g0 g1 e0 e1
      go_upto_region 17 with fail
      generalize (w7.setCell ⟨B4,0,none⟩ (.bool n7)).setCell ⟨B4,1,none⟩ (.slice A7 l7.length c7)=w8 at HSD ⊢
      clear m0 m1 f0 f1
      have g0:=Aaa HSD.out.b3 0
      have g1:=Aaa HSD.out.b3 1
      have g2:=Aaa HSD.out.b4 0
      have g3:=Aaa HSD.out.b4 1
      simp at g0 g1 g2 g3
      have HW1:=Aac (SD.calls (fun W hW=>Ai4 (W:=W) hW.mq (by omega)):∀W,SD w B3 B4 n5 n7 A5 A7 l5 l7 c5 c7 (vl a / vl b) (vl a % vl b) 9001 W→_)
      have HW2:=Aac (SD.calls (fun W hW=>Ai4 (W:=W) hW.mr (by omega)):∀W,SD w B3 B4 n5 n7 A5 A7 l5 l7 c5 c7 (vl a / vl b) (vl a % vl b) 9001 W→_)
      have hg:=HSD.out.below (Below.refl _ _).drew
      clear HSD
      go_wp2_with fail
      go_region_held3 (fun W=>W.cell? ⟨B3,0,none⟩=some (.bool n5)∧W.cell? ⟨B3,1,none⟩=some (.slice A5 l5.length c5)∧W.cell? ⟨B4,0,none⟩=some (.bool n7)∧W.cell? ⟨B4,1,none⟩=some (.slice A7 l7.length c7))
       (((try dsimp only);refine⟨?_,?_,?_,?_⟩<;>first|assumption|(go_simp;done)))
       (first
         | (go_at_call_of 64 [Value.agg #[Value.bool n5,Value.slice A5 l5.length c5]];refine (HW1.out _ hg).mono ?_;clear hg g0 g1 g2 g3;rintro e wn ⟨rfl,hg,g0,g1,g2,g3⟩)
         | (go_at_call_of 64 [Value.agg #[Value.bool n7,Value.slice A7 l7.length c7]];refine (HW2.out _ hg).mono ?_;clear hg g0 g1 g2 g3;rintro e wn ⟨rfl,hg,g0,g1,g2,g3⟩))
      all_goals (first|go_wp2_with fail|skip)
      all_goals go_ret3
      all_goals exact⟨rfl,hg.bel⟩
theorem Ajb(a b:ByteArray)(ha:a.size≤80000)(hb:b.size≤80000)(hp:0<vl b)(w:World):
 Calls Tryz.prog 198 #[.string a,.string b] w fun e w'=>e=.returned (.tuple #[.string (I (vl a / vl b)),.string (I (vl a % vl b)),.int .i64 0])∧Below w.heap.size w w':=by
 by_cases h:(digits (vl a).natAbs).length≤17∧(digits (vl b).natAbs).length≤17
 ·exact Ahs a b (by omega) (by omega) (Aix h.1) (Aix h.2) hp w
 ·exact Aja a b ha hb hp h w
end Go.Proofs.YtcmgmemffncbhabGreatDoor
