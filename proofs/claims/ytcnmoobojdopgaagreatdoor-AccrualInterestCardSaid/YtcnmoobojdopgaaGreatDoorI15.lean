/-
  A range over a function whose iterator writes boxes of its own;the loop's body never leaves early.
-/
import Derived.Test.YtcnmoobojdopgaaGreatDoorI14
import Derived.RangeFuncNested
import Derived.RangeFuncBound
import Derived.RangeFuncCalls
import Derived.RangeFuncLeaves
import Derived.Shelf.Abstract
import Derived.Shelf.RegionOpen
import Derived.OwnWalkIn
import Derived.TacticsInMore
import Derived.LoopNIn
import Derived.LoopIn
import Derived.Deep.QuietTactic
import Derived.Deep.RegionHeld3
import Derived.Test.YtcnmoobojdopgaaGreatDoorI12
set_option linter.unusedVariables false
set_option linter.unusedSimpArgs false
set_option maxHeartbeats 16000000
set_option maxRecDepth 100000
namespace Go.Proofs.YtcnmoobojdopgaaGreatDoor
open Go.RowKit Tr Go.Shelf
variable {F:Fence} {n:Nat} {P:Program}
def SeqM{α:Type}(F:Fence)(n:Nat)(P:Program)(g:Nat)(lb:Array Value)(encs:α→Array Value)(Kp M:World→World→Prop)(S:List α→World→Prop)(N:Nat)(w:World):Prop :=
 ∀(l:Nat) (J:List α→World→Prop) (W:World),Below w.heap.size w W→(∀pre A B,J pre A→M A B→J pre B) →
  (∀pre x W1,J pre W1→pre.length<N→YieldAt F (n-1) P l (encs x) W1 fun e W'=>e=.returned (.bool true)∧J (pre++[x]) W'∧Kp W1 W') →
  J [] W →
  CallsIn F n P g (#[.func (.yield l) #[] #[]]++lb) W fun e W'=>(∃v,e=.returned v)∧∃xs,S xs W'∧J xs W'
def goesOn{α:Type}(B:Nat)(Kp:World→World→Prop)(I:List α→World→Prop)(xs:List α)(W:World):Exit→Act→World→Prop
 | .normal,_,W'=>KeepsFrom B W W'∧Kp W W'∧I xs W'
 | _,_,_=>False
theorem Agj{α:Type}{g:Operand}{ps:Array Tmp}{assign body:Code}{Q:Exit→Act→World→Prop}{a:Act}{w:World}
 (hro:F.round=none) (h1:1≤n) {gf:Nat} {lb:Array Value} (hg:a.eval g=.func (.func gf) #[] lb) (hFg:F.fn gf) (eg:∀args w,(callFunc gf args).run P w=.ok (.enter gf args) w)
 {encs:α→Array Value} {Kp M:World→World→Prop} {S:List α→World→Prop} {N:Nat} {w0:World} (hseq:SeqM F (n-1) P gf lb encs Kp M S N w0)
 (hM:∀A B:World,M A B→∀(k:Nat) (o:Obj),w.heap.size≤k→A.heap[k]?=some o→o.isCells=false→B.heap[k]?=some o)
 (hKt:∀ {A B C:World},Kp A B→Kp B C→Kp A C) (hKb:∀(W:World) (l:Nat) (o o':Obj),w.heap.size≤l→W.heap[l]?=some o→o.isCells=false→o.isWalk=false→Kp W (W.putObj l o')) (hb0:Below w0.heap.size w0 w) (hps:∀x,(encs x).size=ps.size)
 (I:List α→World→Prop) (hI:OwnFrom w.heap.size I) (hIM:∀pre A B,I pre A→M A B→I pre B) (hS:OwnFrom w.heap.size S) (h0:I [] w) (a₁:α→Act)
 (hassign:∀(l:Nat) (x:α) (W:World) (K:Act→World→Prop),K (a₁ x) W →
   assign.wpIn (F.inRound l) (n-1-1) P (Exit.then K (fun _ _ _=>False)) {tmps:=(ps.zip (encs x)).foldl (fun t (p,v)=>t.setIfInBounds p v) a.tmps,defers:=[]} W)
 (hbody:∀(l:Nat) (pre:List α) (x:α) (W:World),I pre W→pre.length<N→body.wpIn (F.inRound l) (n-1-1) P (goesOn w.heap.size Kp I (pre++[x]) W) (a₁ x) W)
 (hdone:∀(D:Nat) (xs:List α) (W:World),w.heap.size≤D→S xs W→I xs W→W.heap[D]?=some (.deferred (some []))→Q .normal {a with defers:={target:=.collected D,args:=#[]}::a.defers} W) :
 (Code.rangeFunc g ps assign body).wpIn F n P Q a w:=by
 refine wpIn_rangeFunc ?_
 intro fn hfn
 rw[hro]
 obtain⟨rec,hrec⟩:∃rec:LoopState→Option Code→Loop,rec=fun st pe=>{state:=st,pending:=pe,fn,tmps:=a.tmps,params:=ps,assign,body,defers:=w.heap.size}:=⟨_,rfl⟩
 obtain⟨W1,hW1⟩:∃W1,(w.alloc (.deferred (some []))).alloc (.loop (rec .ready none))=W1:=⟨_,rfl⟩
 have hL1:W1.heap[w.heap.size+1]?=some (.loop (rec .ready none)):=by
  rw[←hW1];have:=World.alloc_heap_new (w.alloc (.deferred (some []))) (.loop (rec .ready none));rwa [World.size_alloc] at this
 have hK1:W1.heap[w.heap.size]?=some (.deferred (some [])):=by
  rw[←hW1];exact (Below.heap_alloc _ _ _ (by simp)).trans (World.alloc_heap_new w _)
 have hI1:I [] W1:=by rw[←hW1];exact hI.alloc _ (hI.alloc _ h0)
 have hb1:Below w0.heap.size w0 W1:=by
  rw[←hW1];exact hb0.trans ((((Below.refl _ w).alloc (Aad _) _).alloc (by simp) _).mono hb0.size)
 refine⟨w.heap.size+1,[{target:=.collected w.heap.size,args:=#[]}],W1,{target:=.fn (.func gf) lb,args:=#[.func (.yield (w.heap.size+1)) #[] #[]]},W1,gf,
  #[.func (.yield (w.heap.size+1)) #[] #[]]++lb,W1,?_,?_,?_,?_,fun _=>h1,?_⟩
 ·rw[←hW1,hrec];exact run_enterLoop_outer _ _ _ _ _
 ·simp only[resolve,hg]
  simp[go_sem]
 ·intro f' hf';simp[Target.leads] at hf';subst hf';exact hFg
 ·simp[invoke,go_sem,eg]
 ·refine (hseq (w.heap.size+1)
   (fun pre W=>I pre W∧W.heap[w.heap.size+1]?=some (.loop (rec .ready none))∧W.heap[w.heap.size]?=some (.deferred (some [])))
   W1 hb1
   (fun s A B hs hm=>⟨hIM s A B hs.1 hm,hM A B hm _ _ (by omega) hs.2.1 rfl,hM A B hm _ _ (Aad _) hs.2.2 rfl⟩)
   ?_ ⟨hI1,hL1,hK1⟩).mono ?_
  ·rintro pre x W ⟨hi,hl,hk⟩ hlen
   have hlt:w.heap.size+1<W.heap.size:=(Aab.1 hl).1
   have hy:=run_yield (P:=P) (args:=encs x) hl (by rw[hrec];exact hps x)
   rw[hrec] at hy
   refine⟨fn,_,assign,body,hy,roundIn_of_wpIn hfn (hassign _ x W _ ⟨_,run_beginRound hl (by rw[hrec]),?_⟩)⟩
   have hl2:(W.putObj (w.heap.size+1) (.loop {rec .ready none with state:=.busy})).heap[w.heap.size+1]?=some (.loop {rec .ready none with state:=.busy}):=World.putObj_heap_same hlt
   have hk2:(W.putObj (w.heap.size+1) (.loop {rec .ready none with state:=.busy})).heap[w.heap.size]?=some (.deferred (some [])):=(World.putObj_heap_other (by omega)).trans hk
   have hw2:Kp W (W.putObj (w.heap.size+1) (.loop {rec .ready none with state:=.busy})):=hKb _ _ _ _ (by omega) hl rfl rfl
   refine wpIn_mono (hbody _ pre x _ (hI.putObj _ hi (by omega) hl rfl) hlen) ?_
   have fin:∀(jump:Option Code) (W3:World),KeepsFrom w.heap.size (W.putObj (w.heap.size+1) (.loop {rec .ready none with state:=.busy})) W3 →
    (Instr.endRound (w.heap.size+1) jump).run P W3=.ok (.bool jump.isNone) (W3.putObj (w.heap.size+1) (.loop (rec (if jump.isNone then .ready else .done) jump))) ∧
    W3.heap[w.heap.size+1]?=some (.loop {rec .ready none with state:=.busy}) ∧
    (W3.putObj (w.heap.size+1) (.loop (rec (if jump.isNone then .ready else .done) jump))).heap[w.heap.size+1]?=some (.loop (rec (if jump.isNone then .ready else .done) jump)) ∧
    (W3.putObj (w.heap.size+1) (.loop (rec (if jump.isNone then .ready else .done) jump))).heap[w.heap.size]?=some (.deferred (some [])):=fun jump W3 hk3=>by
    have hl3:=hk3.same _ _ (by omega) hl2 rfl
    have:=run_endRound (P:=P) jump hl3
    rw[hrec] at this ⊢
    exact⟨this,by rw[hrec] at hl3;exact hl3,World.putObj_heap_same (Aab.1 hl3).1,(World.putObj_heap_other (by omega)).trans (hk3.same _ _ (Aad _) hk2 rfl)⟩
   rintro e a3 W3 hp
   cases e with
   | normal =>
     obtain⟨hk3,hkp3,hi3⟩:=hp
     obtain⟨hr,hl3,hl4,hk4⟩:=fin none W3 hk3
     exact⟨_,_,hr,rfl,⟨hI.putObj _ hi3 (by omega) hl3 rfl,hl4,hk4⟩,hKt (hKt hw2 hkp3) (hKb _ _ _ _ (by omega) hl3 rfl rfl)⟩
   | ret=>exact hp.elim
   | exit id=>exact hp.elim
   | goto t=>exact hp.elim
   | panic ch=>exact hp.elim
   | outgrown=>exact hp.elim
  ·rintro e W2 ⟨⟨v,rfl⟩,xs,hs,hi,hl,hk⟩
   exact⟨none,_,by have:=run_endLoop (P:=P) hl (by rw[hrec];simp);rw[hrec] at this;exact this,hdone _ xs _ (Aad _) (hS.putObj _ hs (by omega) hl rfl) (hI.putObj _ hi (by omega) hl rfl) ((World.putObj_heap_other (by omega)).trans hk)⟩
def SB(b:Nat)(W:World):Prop:=∃x y z t m,W.heap[b]?=some (.cells #[.slice x y z] t m)
def KpC(b:Nat)(W W':World):Prop:=(Below 0 W W'∧(SB b W→SB b W'))∧∀(k:Nat) (o:Obj),k≠b→W.heap[k]?=some o→o.isCells=true→W'.heap[k]?=some o
def Mv(b1 b2:Nat)(W W':World):Prop:=Below 0 W W'∧∀(k:Nat),k<W.heap.size→k≠b1→k≠b2→W'.heap[k]?=W.heap[k]?
theorem KpC.trans{b:Nat}{A B C:World}(h:KpC b A B)(k:KpC b B C):KpC b A C:=⟨⟨h.1.1.trans k.1.1,fun s=>k.1.2 (h.1.2 s)⟩,fun i o hi ho hc=>k.2 i o hi (h.2 i o hi ho hc) hc⟩
theorem KpC.put{b:Nat}{W:World}{l:Nat}{o:Obj}(o':Obj)(hl:W.heap[l]?=some o)(ho:o.isCells=false):KpC b W (W.putObj l o'):=by
 refine⟨⟨⟨rfl,rfl,rfl,by simp[World.putObj],fun _ h=>absurd h (Nat.not_lt_zero _)⟩,?_⟩,fun k o2 _ hk hc=>?_⟩
 ·rintro⟨x,y,z,t,m,e⟩
  refine⟨x,y,z,t,m,?_⟩
  rcases Nat.decEq b l with h|h
  ·exact (World.putObj_heap_other (by omega)).trans e
  ·subst h;rw[hl] at e;injection e with e;subst e;cases ho
 rcases Nat.decEq k l with h|h
 ·exact (World.putObj_heap_other (by omega)).trans hk
 ·subst h;rw[hl] at hk;injection hk with hk;subst hk;rw[ho] at hc;cases hc
theorem Mv.trans{b1 b2:Nat}{A B C:World}(h:Mv b1 b2 A B)(k:Mv b1 b2 B C):Mv b1 b2 A C :=
 ⟨h.1.trans k.1,fun i hi n1 n2=>(k.2 i (Aah hi h.1.size) n1 n2).trans (h.2 i hi n1 n2)⟩
theorem Mv.below{b1 b2:Nat}{A B:World}(h:Below A.heap.size A B):Mv b1 b2 A B:=⟨h.mono (Nat.zero_le _),fun k hk _ _=>h.block k hk⟩
theorem Mv.set{b1 b2:Nat}(W:World)(p:Addr)(u:Value)(hp:p.block=b1∨p.block=b2):Mv b1 b2 W (W.setCell p u) :=
 ⟨⟨rfl,rfl,rfl,by simp[World.setCell],fun _ h=>absurd h (Nat.not_lt_zero _)⟩,fun k _ n1 n2=>Below.heap_setCell W p u k (by omega)⟩
theorem RdM.kept{w w':World}{A:Option Addr}{l:List Nat}(h:RdM w A l)(b:Nat→Prop)(hs:w.heap.size≤w'.heap.size)
 (hk:∀(k:Nat) (o:Obj),¬b k→w.heap[k]?=some o→o.isCells=true→w'.heap[k]?=some o)
 (hb:∀k,b k→SB k w):RdM w' A l:=by
 intro hl
 obtain⟨ad,rfl,h1,h2⟩:=h hl
 have hnb:¬b ad.block:=by
  intro hbb
  obtain⟨x,y,z,t,m,e1⟩:=hb _ hbb
  have e3:=h2 0 (by cases l with|nil=>exact absurd rfl hl|cons=>simp)
  rw[show ad.add 0=ad from by simp[Addr.add]] at e3
  unfold World.cell? at e3
  rw[e1] at e3
  simp only at e3
  split at e3
  ·cases e3
  ·rcases ad with⟨bb,off,sp⟩
   cases off<;>simp at e3
 refine⟨ad,rfl,Aah h1 hs,fun j hj=>?_⟩
 have e:=h2 j hj
 have hc:∃o:Obj,w.heap[ad.block]?=some o∧o.isCells=true:=by
  unfold World.cell? at e
  rw[Ach] at e
  split at e
  ·rename_i c t m hh;exact⟨_,hh,rfl⟩
  ·cases e
 obtain⟨o,ho,hoc⟩:=hc
 have e':=hk _ _ hnb ho hoc
 rw[←e]
 unfold World.cell?
 rw[Ach,ho,e']
end Go.Proofs.YtcnmoobojdopgaaGreatDoor
namespace Go.Proofs.YtcnmoobojdopgaaGreatDoor
open Go.RowKit Tr Go.Shelf
attribute [local go_sem] Oper.semAt_some
structure Two where
 A:Option Addr
 k:Nat
 c:Nat
 A':Option Addr
 k':Nat
 c':Nat
def enc2(x:Two):Array Value:=#[.slice x.A x.k x.c,.slice x.A' x.k' x.c']
def Left(bn:Nat)(wr:World)(z:Nat):Prop:=∃A l c,wr.cell? ⟨bn,0,none⟩=some (.slice A l.length c)∧RdM wr A l∧mval l=z
noncomputable def left(bn:Nat)(wr:World):Nat:=by
 classical exact if h:∃z,Left bn wr z then h.choose else 0
theorem Agk{bn:Nat}{wr:World}{A:Option Addr}{l:List Nat}{c:Nat}(h1:wr.cell? ⟨bn,0,none⟩=some (.slice A l.length c))(h2:RdM wr A l):left bn wr=mval l:=by
 have hex:∃z,Left bn wr z:=⟨_,A,l,c,h1,h2,rfl⟩
 unfold left
 rw[dif_pos hex]
 obtain⟨A',l',c',e1,e2,e3⟩:=hex.choose_spec
 rw[←e3]
 rw[h1] at e1
 simp only[Option.some.injEq,Value.slice.injEq] at e1
 obtain⟨rfl,e1,rfl⟩:=e1
 congr 1
 refine (List.ext_getElem e1 fun j j1 j2=>?_).symm
 obtain⟨ad,ea,_,ec⟩:=h2 (by intro e;subst e;cases j1)
 obtain⟨ad',ea',_,ec'⟩:=e2 (by intro e;subst e;cases j2)
 rw[ea] at ea';injection ea' with ea';subst ea'
 have:=(ec j j1).symm.trans (ec' j j2)
 simp only[Option.some.injEq,Value.int.injEq,true_and] at this
 have:=Int.ofNat.inj this
 unfold gt at this
 rwa [Aaz j1,Aaz j2] at this
def GcdS(G:Nat)(xs:List Two)(W:World):Prop:=∃(pre:List Two) (x:Two) (l:List Nat),xs=pre++[x]∧x.k=l.length∧Dig l∧Norm l∧Mg W x.A x.c l∧l.length≤536870000∧mval l=G
theorem Mg.kept{w w':World}{A:Option Addr}{c:Nat}{l:List Nat}(h:Mg w A c l)(b:Nat→Prop)(hs:w.heap.size≤w'.heap.size)
 (hk:∀(k:Nat) (o:Obj),¬b k→w.heap[k]?=some o→o.isCells=true→w'.heap[k]?=some o)
 (hb:∀k,b k→SB k w):Mg w' A c l:=⟨h.1,h.2.1,h.2.2.kept b hs hk hb⟩
theorem Agm(n bm bn bo:Nat)(h1:bm≠bn)(h2:bo≠bm)(h3:bo≠bn)(A0 A1:Option Addr)(l0 l1:List Nat)(c0 c1:Nat)(w:World)(hn:1≤n)
 (hb0:Boxed w bm 124 (.slice A0 l0.length c0)) (hb1:Boxed w bn 124 (.slice A1 l1.length c1)) (hbo:SB bo w) (d0:Dig l0) (d1:Dig l1) (n0:Norm l0) (n1:Norm l1)
 (m0:Mg w A0 c0 l0) (m1:Mg w A1 c1 l1) (z0:l0.length≤536870000) (z1:l1.length≤536870000) :
 SeqM Fence.wide n Tryz.prog 276 #[.pointer (some ⟨bm,0,none⟩),.pointer (some ⟨bn,0,none⟩)] enc2 (KpC bo) (Mv bm bn) (GcdS (Nat.gcd (mval l0) (mval l1))) (mval l1+2) w:=by
 intro l J W hW hJ hY hJ0
 refine callsIn_of_wp Tryz.func276 rfl trivial ?_ rfl
 simp only[Tryz.ntmps276,List.size_toArray,Aau,List.length_nil,Nat.reduceAdd,Nat.reduceSub,Array.replicate_succ,Array.replicate_zero,List.push_toArray,List.append_toArray,List.nil_append,List.cons_append]
 gi_wp2
 gi_loopw [] (fun wr=>∃(pre:List Two) (A:Option Addr) (a:List Nat) (c:Nat) (A':Option Addr) (b:List Nat) (c':Nat),Boxed wr bm 124 (.slice A a.length c)∧Boxed wr bn 124 (.slice A' b.length c')∧SB bo wr∧Dig a∧Norm a∧Dig b∧Norm b∧Mg wr A c a∧Mg wr A' c' b∧a.length≤536870000∧b.length≤536870000∧Nat.gcd (mval a) (mval b)=Nat.gcd (mval l0) (mval l1)∧pre.length+mval b≤mval l1∧J pre wr) (fun wr=>left bn wr)
 case atStart =>
  have e0:Boxed W bm 124 (.slice A0 l0.length c0):=(hW.block bm hb0.lt).trans hb0
  have e1:Boxed W bn 124 (.slice A1 l1.length c1):=(hW.block bn hb1.lt).trans hb1
  refine⟨[],A0,l0,c0,A1,l1,c1,e0,e1,?_,d0,n0,d1,n1,m0.below hW,m1.below hW,z0,z1,rfl,by simp,hJ0⟩
  obtain⟨x,y,z,t,m,e⟩:=hbo
  exact⟨x,y,z,t,m,(hW.block bo (Aab.1 e).1).trans e⟩
 case round =>
  obtain⟨pre,A,a,c,A',b,c',hm,hn',ho,da,na,db,nb,ma,mb,za,zb,hg,hp,hj⟩:=hrel
  obtain⟨fn,tmps,assign,body,hy,hR⟩:=hY pre ⟨A,a.length,c,A',b.length,c'⟩ wr hj (by omega)
  dsimp only[enc2] at hy
  have cm:=hm.cell
  have cn:=hn'.cell
  gi_wp2
  refine hR.mono ?_
  rintro e W3 ⟨rfl,hj3,hk3⟩
  have bm3:Boxed W3 bm 124 (.slice A a.length c):=hk3.2 bm _ (Ne.symm h2) hm rfl
  have bn3:Boxed W3 bn 124 (.slice A' b.length c'):=hk3.2 bn _ (Ne.symm h3) hn' rfl
  have ma3:Mg W3 A c a:=ma.kept (·=bo) hk3.1.1.size (fun k o hk h hc=>hk3.2 k o hk h hc) (fun k e=>by subst e;exact ho)
  have mb3:Mg W3 A' c' b:=mb.kept (·=bo) hk3.1.1.size (fun k o hk h hc=>hk3.2 k o hk h hc) (fun k e=>by subst e;exact ho)
  have ho3:=hk3.1.2 ho
  have HL:left bn wr=mval b:=Agk cn mb.2.2
  clear hm hn' ma mb ho hk3 hy hR cm cn
  have cm:=bm3.cell
  have cn:=bn3.cell
  rcases Aaq b.length with hb|hb
  ·have hb0:b=[]:=Aag hb
   subst hb0
   have hcmp:decide ((0:Int)<((([]:List Nat).length:Nat):Int))=false:=rfl
   gi_wp2
   go_end0
   refine⟨⟨_,rfl⟩,_,⟨pre,_,a,rfl,rfl,da,na,ma3,za,?_⟩,hj3⟩
   rw[←hg];simp[mval]
  ·have hcmp:decide ((0:Int)<((b.length:Nat):Int))=true:=by simp;omega
   have hpos:0<mval b:=by
    rcases Aaq (mval b) with h|h
    ·rw[Abg nb] at h;subst h;cases hb
    ·exact h
   have hDV:=Aac (Agi A A' a b c c' W3 za zb da db na nb ma3 mb3 hpos)
   gi_wp2_with fail
   refine⟨trivial,?_⟩
   refine (callsIn_wide.2 hDV.out).mono ?_
   rintro e W4 ⟨A1',q,c1',A2,r,c2,rfl,⟨_,_,dr',nr,hqr,hlt⟩,_,mr,hB⟩
   clear hDV
   have bm4:Boxed W4 bm 124 (.slice A a.length c):=(hB.block bm bm3.lt).trans bm3
   have bn4:Boxed W4 bn 124 (.slice A' b.length c'):=(hB.block bn bn3.lt).trans bn3
   have ho4:SB bo W4:=by
    obtain⟨x,y,z,t,m,e⟩:=ho3
    exact⟨x,y,z,t,m,(hB.block bo (Aab.1 e).1).trans e⟩
   have mb4:=mb3.below hB
   have hj4:=hJ _ _ _ hj3 (Mv.below hB)
   clear cm cn bm3 bn3 ma3 mb3 ho3 hj3
   have cm:=bm4.cell
   have cn:=bn4.cell
   have fm:=bm4.frozen
   have fn':=bn4.frozen
   have HRZ:r.length≤536870000:=Aap (Abj nr (Nat.lt_trans hlt (Aa5 db))) zb
   have hbox1:=bm4.set (.slice A' b.length c')
   have hbox2:Boxed (W4.setCell ⟨bm,0,none⟩ (.slice A' b.length c')) bn 124 (.slice A' b.length c'):=(Below.heap_setCell _ _ _ bn (Ne.symm h1)).trans bn4
   have hbox3:=hbox2.set (.slice A2 r.length c2)
   have hbox4:Boxed ((W4.setCell ⟨bm,0,none⟩ (.slice A' b.length c')).setCell ⟨bn,0,none⟩ (.slice A2 r.length c2)) bm 124 (.slice A' b.length c'):=(Below.heap_setCell _ _ _ bm h1).trans hbox1
   have hkk:∀(k:Nat) (o:Obj),¬(k=bm∨k=bn)→W4.heap[k]?=some o→o.isCells=true→((W4.setCell ⟨bm,0,none⟩ (.slice A' b.length c')).setCell ⟨bn,0,none⟩ (.slice A2 r.length c2)).heap[k]?=some o:=by
    intro k o hk h _
    rw[Below.heap_setCell _ _ _ k (by simp;omega),Below.heap_setCell _ _ _ k (by simp;omega)]
    exact h
   have hsb:∀k,(k=bm∨k=bn)→SB k W4:=by
    rintro k (rfl|rfl)
    ·exact⟨_,_,_,_,_,bm4⟩
    ·exact⟨_,_,_,_,_,bn4⟩
   have mb5:=mb4.kept _ (w':=(W4.setCell ⟨bm,0,none⟩ (.slice A' b.length c')).setCell ⟨bn,0,none⟩ (.slice A2 r.length c2)) (by simp[World.setCell]) hkk hsb
   have mr5:=mr.kept _ (w':=(W4.setCell ⟨bm,0,none⟩ (.slice A' b.length c')).setCell ⟨bn,0,none⟩ (.slice A2 r.length c2)) (by simp[World.setCell]) hkk hsb
   have ho5:SB bo ((W4.setCell ⟨bm,0,none⟩ (.slice A' b.length c')).setCell ⟨bn,0,none⟩ (.slice A2 r.length c2)):=by
    obtain⟨x,y,z,t,m,e⟩:=ho4
    exact⟨x,y,z,t,m,hkk bo _ (by omega) e rfl⟩
   have hj5:=hJ _ _ _ hj4 ((Mv.set W4 ⟨bm,0,none⟩ (.slice A' b.length c') (.inl rfl)).trans (Mv.set _ ⟨bn,0,none⟩ (.slice A2 r.length c2) (.inr rfl)))
   have hg5:Nat.gcd (mval b) (mval r)=Nat.gcd (mval l0) (mval l1):=by
    rw[←hg,hqr,Nat.gcd_comm (mval b*mval q+mval r),Nat.mul_comm,Nat.gcd_mul_right_add_right]
   gi_wp2
   go_roundw
   case rel=>exact⟨_,A',b,c',A2,r,c2,hbox4,hbox3,ho5,db,nb,dr',nr,mb5,mr5,zb,HRZ,hg5,by simp;omega,hj5⟩
   case measure=>rw[HL,Agk hbox3.cell mr5.2.2];exact hlt
theorem Agn(v u:Value)(w:World)(A0 A1:Option Addr)(k0 c0 k1 c1:Nat)(hv:v=.slice A0 k0 c0)(hu:u=.slice A1 k1 c1):
 Calls Tryz.prog 223 #[v,u] w fun e w'=>e=.returned (.func (.func 276) #[] #[.pointer (some ⟨w.heap.size,0,none⟩),.pointer (some ⟨w.heap.size+1,0,none⟩)])∧w'=(w.alloc (.cells #[v] 124)).alloc (.cells #[u] 124):=by
 subst hv hu
 go_enter Tryz.func223,Tryz.ntmps223
 go_wp2_with fail
 go_ret
 exact⟨rfl,rfl⟩
def lastv(pre:List Two):Value:=match pre.getLast? with|none=>.slice none 0 0|some x=>.slice x.A x.k x.c
theorem Agp(pre:List Two)(x:Two):lastv (pre++[x])=.slice x.A x.k x.c:=by simp[lastv]
theorem Agq(pre:List Two):∃A k c,lastv pre=.slice A k c:=by
 unfold lastv;split
 ·exact⟨_,_,_,rfl⟩
 ·exact⟨_,_,_,rfl⟩
theorem GcdS.own(G B:Nat):OwnFrom B (GcdS G):=by
 rintro s A B' row ⟨pre,x,l,h1,h2,h3,h4,h5,h6,h7⟩ hg hr
 refine⟨pre,x,l,h1,h2,h3,h4,h5.kept (fun _=>False) hg.size (fun k o _ hk hc=>?_) (fun k h=>h.elim),h6,h7⟩
 refine (hg.block k (Aab.1 hk).1 (fun e=>?_)).trans hk
 obtain⟨_,o',ho',hc'⟩:=hr k e.symm
 rw[hk] at ho';injection ho' with ho';subst ho';rw[hc] at hc';cases hc'
theorem KpC.set{b:Nat}{W:World}{t:TypeId}{v:Value}(h:Boxed W b t v)(A:Option Addr)(k c:Nat):KpC b W (W.setCell ⟨b,0,none⟩ (.slice A k c)) :=
 ⟨⟨⟨rfl,rfl,rfl,by simp[World.setCell],fun _ h=>absurd h (Nat.not_lt_zero _)⟩,fun _=>⟨_,_,_,_,_,h.set _⟩⟩,fun k' o hk ho _=>(Below.heap_setCell _ _ _ k' hk).trans ho⟩
theorem Agr(n:Bool)(A:Option Addr)(k c:Nat)(w:World):Sem.run Tryz.prog (Instr.field 126 (Value.agg #[.bool n,.slice A k c]) 1) w=.ok (.slice A k c) w:=by
 unfold Instr.field
 simp[go_sem,asAgg]
theorem Ags(a b:ByteArray)(w:World)(ha:a.size≤4000000)(hb:b.size≤4000000)(ht:Tabs w):
 Calls Tryz.prog 163 #[.string a,.string b] w fun e w'=>e=.returned (.string (I (Int.gcd (vl a) (vl b))))∧Below w.heap.size w w':=by
 have HT:=Aac ht
 clear ht
 refine (callsIn_wide (n:=5)).1 ?_
 have hfn:=Agr
 refine callsIn_of_wp_marks Tryz.func163 rfl trivial ?_ rfl
 simp only[Tryz.ntmps163,List.size_toArray,Aau,List.length_nil,Nat.reduceAdd,Nat.reduceSub,Array.replicate_succ,Array.replicate_zero,List.push_toArray,List.append_toArray,List.nil_append,List.cons_append]
 gi_wp2_with fail
 refine⟨trivial,?_⟩
 have hB0:Below w.heap.size w (w.alloc (.cells #[.slice none 0 0] 124)):=(Below.refl _ w).alloc (Aad _) _
 have hbo:=Boxed.new w 124 (.slice none 0 0)
 obtain⟨W0,hW0⟩:∃W0,w.alloc (.cells #[.slice none 0 0] 124)=W0:=⟨_,rfl⟩
 have hsz:W0.heap.size=w.heap.size+1:=by rw[←hW0];simp
 rw[hW0] at hB0 hbo ⊢
 refine (callsIn_wide.2 (read_any a _ (by omega))).mono ?_
 rintro e w1 hr1
 obtain⟨n1,A1,l1,c1,rfl,h1,hb1⟩:=hr1.num
 clear hr1
 gi_wp2_with fail
 refine⟨trivial,?_⟩
 refine (callsIn_wide.2 (read_any b _ (by omega))).mono ?_
 rintro e w2 hr2
 obtain⟨n2,A2,l2,c2,rfl,h2,hb2⟩:=hr2.num
 clear hr2
 have h1':=h1.below hb2
 have hb12:=hb1.trans (hb2.mono hb1.size)
 clear h1 hb1 hb2
 gi_wp2_with fail
 refine⟨trivial,?_⟩
 refine (callsIn_wide.2 (Agn _ _ _ _ _ _ _ _ _ rfl rfl)).mono ?_
 rintro e w3 ⟨rfl,hw3⟩
 gi_wp2_with fail
 have k0:=Boxed.new w2 124 (.slice A1 l1.length c1)
 have k1:=Boxed.new (w2.alloc (.cells #[.slice A1 l1.length c1] 124)) 124 (.slice A2 l2.length c2)
 have k0:=k0.alloc (.cells #[.slice A2 l2.length c2] 124)
 have hB3:Below w2.heap.size w2 ((w2.alloc (.cells #[.slice A1 l1.length c1] 124)).alloc (.cells #[.slice A2 l2.length c2] 124)):=((Below.refl _ _).alloc (Aad _) _).alloc (by simp) _
 have hs3:w3.heap.size=w2.heap.size+2:=by rw[hw3];simp
 rw[←hw3] at k0 k1 hB3 ⊢
 rw[World.size_alloc] at k1
 have hlt:w.heap.size<w2.heap.size:=by have:=hb12.size;omega
 have hbo3:Boxed w3 w.heap.size 124 (.slice none 0 0):=(hB3.block _ hlt).trans ((hb12.block _ (by omega)).trans hbo)
 have hBw3:Below w.heap.size w w3:=(hB0.trans (hb12.mono (by omega))).trans (hB3.mono (by omega))
 have la:=vl_lt a
 have lb:=vl_lt b
 have q1:=h1'.len la
 have q2:=h2.len lb
 refine Agj (α:=Two) rfl (by omega) (gf:=276) (lb:=#[.pointer (some ⟨w2.heap.size,0,none⟩),.pointer (some ⟨w2.heap.size+1,0,none⟩)]) rfl trivial (enters_of Tryz.func276 (by kernel_rfl) rfl)
  (Agm (5-1) w2.heap.size (w2.heap.size+1) w.heap.size (by omega) (by omega) (by omega) A1 A2 l1 l2 c1 c2 w3 (by omega) k0 k1 ⟨_,_,_,_,_,hbo3⟩ h1'.1 h2.1 h1'.2.1 h2.2.1 (h1'.2.2.2.below hB3) (h2.2.2.2.below hB3) (by omega) (by omega))
  (fun A B hm k o hk ho _=>(hm.2 k (Aab.1 ho).1 (by omega) (by omega)).trans ho)
  KpC.trans (fun W l o o' _ hl hc _=>KpC.put o' hl hc) (Below.refl _ _) (fun _=>rfl)
  (fun pre W=>Boxed W w.heap.size 124 (lastv pre)∧Below w.heap.size w W)
  (OwnFrom.and (boxed_own _ _ _ |>.from _) (ownFrom_below (Aad _) (by omega)))
  (fun pre A B hs hm=>⟨(hm.2 _ hs.1.lt (by omega) (by omega)).trans hs.1,hs.2.trans ⟨hm.1.os,hm.1.tape,hm.1.output,hm.1.size,fun k hk=>hm.2 k (Aah hk hs.2.size) (by omega) (by omega)⟩⟩)
  (GcdS.own _ _) ⟨hbo3,hBw3⟩
  (fun x=>{tmps:=#[Value.string a,Value.string b,undef,undef,Value.string {data:=#[]},
    Value.pointer (some {block:=w.heap.size,off:=0}),.slice x.A x.k x.c,Value.string a,
    Value.agg #[Value.bool n1,Value.slice A1 l1.length c1],Value.slice A1 l1.length c1,Value.string b,
    Value.agg #[Value.bool n2,Value.slice A2 l2.length c2],Value.slice A2 l2.length c2,
    Value.func (Fn.func 276) #[]
     #[Value.pointer (some {block:=w2.heap.size,off:=0}),
      Value.pointer (some {block:=w2.heap.size+1,off:=0})],
    .slice x.A x.k x.c,.slice x.A' x.k' x.c',undef,undef,undef,undef],defers:=[]}) ?assign ?body ?done
 case assign =>
  intro l x W K hK
  simp only[enc2]
  gi_wp2
  exact hK
 case body =>
  rintro l pre x W ⟨hc,hB⟩ _
  have cc:=hc.cell
  have fc:=hc.frozen
  obtain⟨A',k',c',e⟩:=Agq pre
  rw[e] at cc
  gi_wp2
  refine⟨(KeepsOthers.setCell _ _ _).from _,KpC.set hc _ _ _,?_,hB.setCell (p:=⟨w.heap.size,0,none⟩) (Aad _) _⟩
  rw[Agp]
  exact hc.set _
 case done =>
  rintro D ys W hD ⟨pre,x,l,rfl,hk,d,nn,mg,hz,hv⟩ ⟨hc,hB⟩ hK
  rw[Agp,hk] at hc
  have cc:=hc.cell
  have hN:Nm W false x.A l x.c ((Int.gcd (vl a) (vl b):Nat):Int):=by
   refine⟨d,nn,?_,mg⟩
   rw[hv]
   show ((Nat.gcd _ _:Nat):Int)=_
   rw[h1'.mval,h2.mval];rfl
  have HX:=Aac (Af5 false x.A l x.c _ W hN (by omega) (HT.out.below hB))
  clear d nn mg hN
  gi_wp2_with fail
  refine⟨trivial,?_⟩
  refine (callsIn_wide.2 HX.out).mono ?_
  rintro e w4 ⟨rfl,hb4⟩
  clear HX cc
  have hK4:w4.heap[D]?=some (Obj.deferred (some [])):=(hb4.block D (Aab.1 hK).1).trans hK
  have hB4:=hB.trans (hb4.mono hB.size)
  gi_wp2
  refine⟨by simp,.inl ⟨_,_,rfl,run_takeDeferred hK4,?_⟩⟩
  exact⟨_,results_tmp rfl _ _ _,rfl,hB4.trans (belowK_b (w:=w) (Aad _) w4 D _ _ (by omega) hK4 rfl rfl)⟩
end Go.Proofs.YtcnmoobojdopgaaGreatDoor
namespace Go.Proofs.YtcnmoobojdopgaaGreatDoor
open Go.RowKit Tr Go.Shelf
def one1:ByteArray:=⟨#[49]⟩
theorem one1_eq:one1=I 1:=by rfl
theorem zero_eq:(⟨#[]⟩:ByteArray)=I 0:=by rfl
def dd(d:ByteArray):ByteArray:=if vl d=0 then one1 else d
theorem dd_ne(d:ByteArray):vl (dd d)≠0:=by
 unfold dd;split
 ·rw[one1_eq,vl_I];omega
 ·assumption
theorem Agt(d:ByteArray):(dd d).size≤d.size+1:=by
 unfold dd;split
 ·show 1≤_;omega
 ·omega
def fv(n d:ByteArray):Rat:=Rat.divInt (vl n) (vl (dd d))
def dn(q:Rat):ByteArray:=if q.den=1 then⟨#[]⟩ else I q.den
def fenc(q:Rat):Value:=.agg #[.string (I q.num),.string (dn q)]
theorem Agu(q:Rat):vl (dd (dn q))=q.den:=by
 unfold dn
 split
 ·rename_i h
  unfold dd
  rw[zero_eq,vl_I,if_pos rfl,one1_eq,vl_I,h];rfl
 ·unfold dd
  rw[vl_I,if_neg (by have:=q.den_pos;omega),vl_I]
theorem Agv(q:Rat):fv (I q.num) (dn q)=q:=by
 unfold fv
 rw[Agu,vl_I]
 exact Rat.num_divInt_den q
theorem Agw{a b:Int}(h:0<b):dq a b=a / b:=by unfold dq;rw[if_pos h]
theorem Agx{a b:Int}(hb:0<b):dq a (Int.gcd a b)=(Rat.divInt a b).num:=by
 have hg:0<((Int.gcd a b:Nat):Int):=by
  have:=Int.gcd_pos_of_ne_zero_right a (b:=b) (by omega);omega
 rw[Agw hg,Rat.num_divInt,Int.sign_eq_one_of_pos hb,Int.one_mul,Int.gcd_comm]
theorem Agy{a b:Int}(hb:0<b):dq b (Int.gcd a b)=((Rat.divInt a b).den:Int):=by
 have hg:0<((Int.gcd a b:Nat):Int):=by
  have:=Int.gcd_pos_of_ne_zero_right a (b:=b) (by omega);omega
 rw[Agw hg,Rat.den_divInt,if_neg (by omega),Int.gcd_comm,Int.natCast_ediv]
 congr 1;omega
def BdQ(q:Rat)(k:Nat):Prop:=q.num.natAbs<10^k∧q.den<10^k
theorem BdQ.mono{q:Rat}{k m:Nat}(h:BdQ q k)(hk:k≤m):BdQ q m :=
 ⟨Aah h.1 (Nat.pow_le_pow_right (by omega) hk),Aah h.2 (Nat.pow_le_pow_right (by omega) hk)⟩
theorem BdQ.num{q:Rat}{k:Nat}(h:BdQ q k):(I q.num).size≤k+1:=Ac3 h.1
theorem BdQ.den{q:Rat}{k:Nat}(h:BdQ q k):(I q.den).size≤k+1:=Ac3 (by simpa using h.2)
theorem BdQ.dn{q:Rat}{k:Nat}(h:BdQ q k):(dn q).size≤k+1:=by
 unfold Go.Proofs.YtcnmoobojdopgaaGreatDoor.dn;split
 ·show 0≤_;omega
 ·exact h.den
theorem BdQ.div{a b:Int}{k:Nat}(ha:a.natAbs<10^k)(hb:b.natAbs<10^k)(h0:b≠0):BdQ (Rat.divInt a b) k:=by
 constructor
 ·rw[Rat.num_divInt]
  refine Nat.lt_of_le_of_lt ?_ ha
  refine Aap (Int.natAbs_ediv_le_natAbs _ _) ?_
  rw[Int.natAbs_mul,Int.natAbs_sign_of_ne_zero h0];omega
 ·rw[Rat.den_divInt,if_neg h0]
  exact Nat.lt_of_le_of_lt (Nat.div_le_self _ _) hb
theorem fv_bd(n d:ByteArray){k:Nat}(hn:n.size≤k)(hd:d.size+1≤k):BdQ (fv n d) k :=
 BdQ.div (Aah (vl_lt n) (Nat.pow_le_pow_right (by omega) hn)) (Aah (vl_lt (dd d)) (Nat.pow_le_pow_right (by omega) (Aap (Agt d) hd))) (dd_ne d)
theorem Agz(n d:ByteArray)(w:World)(hn:n.size≤3000000)(hd:d.size≤3000000)(h0:vl d≠0)(ht:Tabs w):
 Calls Tryz.prog 98 #[.string n,.string d] w fun e w'=>e=.returned (.tuple #[.string (I (Rat.divInt (vl n) (vl d)).num),.string (I ((Rat.divInt (vl n) (vl d)).den:Int))])∧Below w.heap.size w w':=by
 have HT:=Aac ht
 have H0:=Aac h0
 clear ht h0
 have HC:=Aac (Agf d ⟨#[]⟩ w (by omega) (by show 0≤_;omega))
 rw[show vl (⟨#[]⟩:ByteArray)=0 from by rw[zero_eq,vl_I]] at HC
 have gp:∀x y:Int,y≠0→Int.gcd x y≠0:=fun x y h=>Nat.ne_of_gt (Int.gcd_pos_of_ne_zero_right x h)
 have gs:∀x y:ByteArray,x.size≤3000001→y.size≤3000001→vl y≠0→(I ((Int.gcd (vl x) (vl y):Nat):Int)).size≤3000002:=by
  intro x y _ hy h
  refine Aap (Ac3 (k:=y.size) ?_) (by omega)
  refine Nat.lt_of_le_of_lt ?_ (vl_lt y)
  simp only[Int.natAbs_natCast]
  exact Nat.le_of_dvd (by omega) (Int.gcd_dvd_natAbs_right _ _)
 go_enter Tryz.func98,Tryz.ntmps98
 go_wp2_with fail
 refine HC.out.mono ?_
 rintro e w1 ⟨rfl,B1⟩
 clear HC
 by_cases hneg:vl d<0
 ·have hc:decide (cmpI (vl d) 0<0)=true:=Aav (cmpI_lt.2 hneg)
  go_wp2_with fail
  refine (Af7 n _ (by omega) (HT.out.below B1)).mono ?_
  rintro e w2 ⟨rfl,hb2⟩
  have B2:=B1.trans (hb2.mono B1.size)
  clear hb2
  go_wp2_with fail
  refine (Af7 d _ (by omega) (HT.out.below B2)).mono ?_
  rintro e w3 ⟨rfl,hb3⟩
  have B3:=B2.trans (hb3.mono B2.size)
  clear hb3
  have sx:(I (-vl n)).size≤3000001:=Aap (Ac3 (k:=n.size) (by rw[Int.natAbs_neg];exact vl_lt n)) (by omega)
  have sy:(I (-vl d)).size≤3000001:=Aap (Ac3 (k:=d.size) (by rw[Int.natAbs_neg];exact vl_lt d)) (by omega)
  have ny:vl (I (-vl d))≠0:=by rw[vl_I];omega
  clear hc
  go_wp2_with fail
  refine (Ags (I (-vl n)) (I (-vl d)) _ (show (I (-vl n)).size≤4000000 by omega) (show (I (-vl d)).size≤4000000 by omega) (HT.out.below B3)).mono ?_
  rintro e w4 ⟨rfl,hb4⟩
  have B4:=B3.trans (hb4.mono B3.size)
  have g4:=gs (I (-vl n)) (I (-vl d)) (by have:=(show (I (-vl n)).size≤4000000 by omega);omega) (by have:=(show (I (-vl d)).size≤4000000 by omega);omega) ny
  have g5:vl (I ((Int.gcd (vl (I (-vl n))) (vl (I (-vl d))):Nat):Int))≠0:=by rw[vl_I];have:=gp (vl (I (-vl n))) (vl (I (-vl d))) ny;omega
  clear hb4
  go_wp2_with fail
  refine (Div_any (I (-vl n)) _ _ (show (I (-vl n)).size≤4000000 by omega) (by omega) g5 (HT.out.below B4)).mono ?_
  rintro e w5 ⟨rfl,hb5⟩
  have B5:=B4.trans (hb5.mono B4.size)
  clear hb5
  go_wp2_with fail
  refine (Div_any (I (-vl d)) _ _ (show (I (-vl d)).size≤4000000 by omega) (by omega) g5 (HT.out.below B5)).mono ?_
  rintro e w6 ⟨rfl,hb6⟩
  have B6:=B5.trans (hb6.mono B5.size)
  clear hb6
  go_wp2_with fail
  go_ret2
  refine⟨?_,B6⟩
  rw[vl_I,vl_I,vl_I,Agx (by omega),Agy (by omega),Rat.neg_divInt_neg]
  rfl
 ·have hc:decide (cmpI (vl d) 0<0)=false:=Aaw (fun h=>hneg (cmpI_lt.1 h))
  go_wp2_with fail
  refine (Ags n d _ (show n.size≤4000000 by omega) (show d.size≤4000000 by omega) (HT.out.below B1)).mono ?_
  rintro e w4 ⟨rfl,hb4⟩
  have B4:=B1.trans (hb4.mono B1.size)
  have g4:=gs n d (by have:=(show n.size≤4000000 by omega);omega) (by have:=(show d.size≤4000000 by omega);omega) H0.out
  have g5:vl (I ((Int.gcd (vl n) (vl d):Nat):Int))≠0:=by rw[vl_I];have:=gp (vl n) (vl d) H0.out;omega
  clear hb4
  go_wp2_with fail
  refine (Div_any n _ _ (show n.size≤4000000 by omega) (by omega) g5 (HT.out.below B4)).mono ?_
  rintro e w5 ⟨rfl,hb5⟩
  have B5:=B4.trans (hb5.mono B4.size)
  clear hb5
  go_wp2_with fail
  refine (Div_any d _ _ (show d.size≤4000000 by omega) (by omega) g5 (HT.out.below B5)).mono ?_
  rintro e w6 ⟨rfl,hb6⟩
  have B6:=B5.trans (hb6.mono B5.size)
  clear hb6
  go_wp2_with fail
  go_ret2
  refine⟨?_,B6⟩
  have:=H0.out
  rw[vl_I,Agx (by omega),Agy (by omega)]
  rfl
theorem Ag0(z:Int):((I z).toList==[49])=decide (z=1):=by
 rw[show ([49]:List UInt8)=(I 1).toList from by rw[Lib.toList_data];rfl]
 by_cases h:z=1
 ·subst h;simp
 ·rw[Ac7 (fun e=>h (I_inj e))];simp[h]
theorem set2{w:World}{b:Nat}{x y:Value}{t:TypeId}{m:Nat×Nat}(h:w.heap[b]?=some (.cells #[x,y] t m))(x' y':Value):
 ((w.setCell ⟨b,0,none⟩ x').setCell ⟨b,1,none⟩ y').heap[b]?=some (.cells #[x',y'] t m):=by
 simp[World.setCell,Array.getElem?_modify,h]
theorem Ag1(n d:ByteArray)(w:World)(hn:n.size≤3000000)(hd:d.size≤3000000)(h0:vl d≠0)(ht:Tabs w):
 Calls Tryz.prog 40 #[.string n,.string d] w fun e w'=>e=.returned (fenc (Rat.divInt (vl n) (vl d)))∧Below w.heap.size w w':=by
 have HB:=Aac ((Below.refl _ w).alloc (Aad _) (Obj.cells #[.string ⟨#[]⟩,.string ⟨#[]⟩] 25))
 have HR:=Aac (Agz n d _ hn hd h0 (ht.below HB.out))
 obtain⟨W0,hW0⟩:∃W0,w.alloc (Obj.cells #[.string ⟨#[]⟩,.string ⟨#[]⟩] 25)=W0:=⟨_,rfl⟩
 have hk:W0.heap[w.heap.size]?=some (Obj.cells #[.string ⟨#[]⟩,.string ⟨#[]⟩] 25):=by rw[←hW0];exact Aax w _
 have hs:W0.heap.size=w.heap.size+1:=by rw[←hW0];simp
 rw[hW0] at HB HR
 generalize hq:Rat.divInt (vl n) (vl d)=q at HR ⊢
 clear h0 ht hq
 go_enter Tryz.func40,Tryz.ntmps40
 go_wp2_with fail
 try rw[hW0]
 refine HR.out.mono ?_
 rintro e w1 ⟨rfl,B1⟩
 clear HR
 have k1:=(B1.block w.heap.size (by omega)).trans hk
 have a0:=Aaa k1 0
 have a1:=Aaa k1 1
 simp at a0 a1
 have f0:=Aaf k1 0
 have HB1:=Aac (HB.out.trans (B1.mono HB.out.size))
 clear B1 HB hk hs
 have f1:=Aaf k1 1
 have hone:=Ag0 (q.den:Int)
 have K1:=Aac k1
 clear k1
 by_cases hq:q.den=1
 ·rw[Aav (by rw[hq];rfl)] at hone
  have HQ:=Aac hq
  clear hq
  go_wp2_with fail
  have k2:=set2 K1.out (.string (I q.num)) (.string ⟨#[]⟩)
  have m0:=Aaa k2 0
  have m1:=Aaa k2 1
  simp at m0 m1
  refine bodyPost_ret (v:=.agg #[.string (I q.num),.string ⟨#[]⟩]) (by simp[results,Tryz.results40,go_sem,m0,m1]) rfl ?_
  refine⟨?_,(HB1.out.setCell (p:=⟨w.heap.size,0,none⟩) (Aad _) _).setCell (p:=⟨w.heap.size,1,none⟩) (Aad _) _⟩
  unfold fenc dn
  rw[if_pos HQ.out]
 ·rw[Aaw (by omega)] at hone
  go_wp2_with fail
  have k2:=set2 K1.out (.string (I q.num)) (.string (I (q.den:Int)))
  have m0:=Aaa k2 0
  have m1:=Aaa k2 1
  simp at m0 m1
  refine bodyPost_ret (v:=.agg #[.string (I q.num),.string (I (q.den:Int))]) (by simp[results,Tryz.results40,go_sem,m0,m1]) rfl ?_
  refine⟨?_,(HB1.out.setCell (p:=⟨w.heap.size,0,none⟩) (Aad _) _).setCell (p:=⟨w.heap.size,1,none⟩) (Aad _) _⟩
  unfold fenc dn
  rw[if_neg hq]
theorem Ag2(n d:ByteArray)(w:World)(hd:d.size≤3000000):
 Calls Tryz.prog 41 #[.agg #[.string n,.string d]] w fun e w'=>e=.returned (.tuple #[.string n,.string (dd d)])∧Below w.heap.size w w':=by
 have HB:=Aac ((Below.refl _ w).alloc (Aad _) (Obj.cells #[.string n,.string d] 25))
 have HC:=Aac (Agf d ⟨#[]⟩ (w.alloc (Obj.cells #[.string n,.string d] 25)) (by omega) (by show 0≤_;omega))
 rw[show vl (⟨#[]⟩:ByteArray)=0 from by rw[zero_eq,vl_I]] at HC
 obtain⟨W0,hW0⟩:∃W0,w.alloc (Obj.cells #[.string n,.string d] 25)=W0:=⟨_,rfl⟩
 have hk:W0.heap[w.heap.size]?=some (Obj.cells #[.string n,.string d] 25):=by rw[←hW0];exact Aax w _
 have hs:W0.heap.size=w.heap.size+1:=by rw[←hW0];simp
 rw[hW0] at HB HC
 have b0:=Aaa hk 0
 have b1:=Aaa hk 1
 simp at b0 b1
 go_enter Tryz.func41,Tryz.ntmps41
 go_wp2_with fail
 try rw[hW0]
 refine HC.out.mono ?_
 rintro e w1 ⟨rfl,B1⟩
 clear HC
 have a0:w1.cell? ⟨w.heap.size,0,none⟩=some (.string n):=(B1.cell (by simp;omega)).trans b0
 have a1:w1.cell? ⟨w.heap.size,1,none⟩=some (.string d):=(B1.cell (by simp;omega)).trans b1
 have HB1:=Aac (HB.out.trans (B1.mono HB.out.size))
 clear B1 HB hk hs b0 b1
 by_cases h0:vl d=0
 ·have hc:(cmpI (vl d) 0==0)=true:=beq_iff_eq.2 (cmpI_eq.2 h0)
  go_wp2_with fail
  go_ret2
  refine⟨?_,HB1.out⟩
  unfold dd;rw[if_pos h0];rfl
 ·have hc:(cmpI (vl d) 0==0)=false:=Aaj.2 (fun h=>h0 (cmpI_eq.1 h))
  go_wp2_with fail
  go_quiet (fail)
  go_wp2_with fail
  go_ret2
  refine⟨?_,Acm HB1.out _⟩
  unfold dd;rw[if_neg h0];rfl
end Go.Proofs.YtcnmoobojdopgaaGreatDoor
namespace Go.Proofs.YtcnmoobojdopgaaGreatDoor
open Go.RowKit Tr
theorem Ag3{P:Program}{f:FuncId}{args:Array Value}{w:World}{n:Nat}{v:Value}
 (h:Calls P f args (w.drewN n) fun e w'=>e=.returned v∧w.drewN n=w'):Calls P f args (w.drewN n) fun e w''=>e=.returned v∧∃m,w''=w.drewN m :=
 Calls.quiet_of_same (h.mono fun _ _ ⟨a,b⟩=>⟨a,b.symm⟩)
theorem Ag4(w:World):Calls Tryz.prog 180 #[] w fun e w'=>e=.returned (.string one1)∧w=w':=by
 have HC:=Aac (Ad3 1 (by decide) w)
 go_enter Tryz.func180,Tryz.ntmps180
 go_wp2_with fail
 refine HC.out.mono ?_
 rintro e w1 ⟨rfl,rfl⟩
 go_wp2_with fail
 go_ret
 exact⟨by rw[one1_eq];rfl,rfl⟩
theorem Ag5(a:ByteArray)(ha:a.size≤1000000)(w:World):Calls Tryz.prog 182 #[.string a] w fun e w'=>e=.returned (.bool (vl a==0))∧w=w':=by
 have HC:=Aac (Ad0 a ⟨#[]⟩ ha (by decide) w)
 have HR:Hid ((cmpI (vl a) (vl ⟨#[]⟩)==0)=(vl a==0)):=by
  show _=_
  rw[Bool.eq_iff_iff,beq_iff_eq,beq_iff_eq,cmpI_eq];rfl
 clear ha
 go_enter Tryz.func182,Tryz.ntmps182
 go_wp2_with fail
 refine HC.out.mono ?_
 rintro e w1 ⟨rfl,rfl⟩
 go_wp2_with fail
 go_ret
 exact⟨by rw[←HR.out];rfl,rfl⟩
theorem Ag6(a b:ByteArray)(ha:a.size≤1000000)(hb:b.size≤1000000)(hx:(vl a).natAbs<100000000000000000)(hy:(vl b).natAbs<100000000000000000)(hp:0<vl b)(w:World):
 Calls Tryz.prog 186 #[.string a,.string b] w fun e w'=>e=.returned (.string (I (vl a / vl b)))∧Below w.heap.size w w':=by
 have HC:=Aac (Ad9 a b ha hb hx hy hp w)
 clear ha hb hx hy hp
 go_enter Tryz.func186,Tryz.ntmps186
 go_wp2_with fail
 refine HC.out.mono ?_
 rintro e w1 ⟨rfl,b1⟩
 have HB:=Aac b1
 clear b1
 go_wp2_with fail
 go_ret
 exact⟨rfl,HB.out⟩
def rawN(n d:ByteArray):ByteArray:=if vl d<0 then I (-vl n) else n
def rawD(d:ByteArray):ByteArray:=if vl d=0 then one1 else if vl d<0 then I (-vl d) else d
theorem Ag7(n d:ByteArray)(ha:n.size≤1000000)(hb:d.size≤1000000)(w:World):
 Calls Tryz.prog 127 #[.agg #[.string n,.string d]] w fun e w'=>e=.returned (.tuple #[.string (rawN n d),.string (rawD d)])∧Below w.heap.size w w':=by
 have HB:=Aac ((Below.refl _ w).alloc (Aad _) (Obj.cells #[.string n,.string d] 25))
 obtain⟨W0,hW0⟩:∃W0,w.alloc (Obj.cells #[.string n,.string d] 25)=W0:=⟨_,rfl⟩
 have hk:W0.heap[w.heap.size]?=some (Obj.cells #[.string n,.string d] 25):=by rw[←hW0];exact Aax w _
 have c0:=Aaa hk 0
 have c1:=Aaa hk 1
 simp at c0 c1
 rw[hW0] at HB
 have HZ:=Aac (Ag5 d hb)
 have HC:=Aac (Ad0 d ⟨#[]⟩ hb (by decide))
 have HN1:=Aac (Adx n ha)
 have HN2:=Aac (Adx d hb)
 clear hk ha hb
 go_enter Tryz.func127,Tryz.ntmps127
 go_wp2_with fail
 refine (HZ.out _).mono ?_
 rintro e w1 ⟨rfl,rfl⟩
 rcases Int.lt_trichotomy (vl d) 0 with h|h|h
 ·have h1:(vl d==0)=false:=by rw[Aaj];omega
  have h2:cmpI (vl d) (vl ⟨#[]⟩)=-1:=by
   rw[show vl ⟨#[]⟩=0 from rfl];unfold cmpI;rw[if_pos h]
  rw[h2] at HC
  have HR:Hid (rawN n d=I (-vl n)∧rawD d=I (-vl d)):=⟨by unfold rawN;rw[if_pos h],by unfold rawD;rw[if_neg (by omega),if_pos h]⟩
  clear h h2
  go_wp2_with fail
  refine (HC.out _).mono ?_
  rintro e w1 ⟨rfl,rfl⟩
  go_wp2_with fail
  go_quiet ((first|(go_at_call_of 184 [Value.string n];exact Ag3 (HN1.out _))|(go_at_call_of 184 [Value.string d];exact Ag3 (HN2.out _))))
  go_wp2_with fail
  go_ret2
  exact⟨by rw[HR.out.1,HR.out.2];rfl,Acm HB.out _⟩
 ·have h1:(vl d==0)=true:=by rw[beq_iff_eq];exact h
  have HR:Hid (rawN n d=n∧rawD d=one1):=⟨by unfold rawN;rw[if_neg (by omega)],by unfold rawD;rw[if_pos h]⟩
  clear h
  go_wp2_with fail
  go_quiet ((go_at_call 180;exact Ag3 (Ag4 _)))
  go_wp2_with fail
  go_ret2
  exact⟨by rw[HR.out.1,HR.out.2];rfl,Acm HB.out _⟩
 ·have h1:(vl d==0)=false:=by rw[Aaj];omega
  have h2:cmpI (vl d) (vl ⟨#[]⟩)=1:=by
   rw[show vl ⟨#[]⟩=0 from rfl];unfold cmpI;rw[if_neg (by omega),if_neg (by omega)]
  rw[h2] at HC
  have HR:Hid (rawN n d=n∧rawD d=d):=⟨by unfold rawN;rw[if_neg (by omega)],by unfold rawD;rw[if_neg (by omega),if_neg (by omega)]⟩
  clear h h2
  go_wp2_with fail
  refine (HC.out _).mono ?_
  rintro e w1 ⟨rfl,rfl⟩
  go_wp2_with fail
  go_quiet (fail)
  go_wp2_with fail
  go_ret2
  exact⟨by rw[HR.out.1,HR.out.2];rfl,Acm HB.out _⟩
theorem Ag8(n d:ByteArray)(ha:n.size≤1000000)(hb:d.size≤1000000)(hx:(vl n).natAbs<100000000000000000)(hy:(vl d).natAbs<100000000000000000)(hp:0<vl d)(w:World):
 Calls Tryz.prog 128 #[.string n,.string d] w fun e w'=>e=.returned (fenc (Rat.divInt (vl n) (vl d)))∧Below w.heap.size w w':=by
 have HZ:=Aac (Ag5 n ha)
 have HB:=Aac ((Below.refl _ w).alloc (Aad _) (Obj.cells #[.string ⟨#[]⟩,.string ⟨#[]⟩] 25))
 by_cases h0:vl n=0
 ·rw[h0] at HZ
  have HR:Hid (fenc (Rat.divInt (vl n) (vl d))=.agg #[.string ⟨#[]⟩,.string ⟨#[]⟩]):=by
   show _=_
   rw[h0,Rat.zero_divInt];kernel_rfl
  clear h0 ha hb hx hy hp
  obtain⟨W0,hW0⟩:∃W0,w.alloc (Obj.cells #[.string ⟨#[]⟩,.string ⟨#[]⟩] 25)=W0:=⟨_,rfl⟩
  have k1:W0.heap[w.heap.size]?=some (Obj.cells #[.string ⟨#[]⟩,.string ⟨#[]⟩] 25):=by rw[←hW0];exact Aax w _
  have a0:=Aaa k1 0
  have a1:=Aaa k1 1
  simp at a0 a1
  have f0:=Aaf k1 0
  have f1:=Aaf k1 1
  have K1:=Aac k1
  rw[hW0] at HB
  clear k1
  go_enter Tryz.func128,Tryz.ntmps128
  go_wp2_with fail
  try rw[hW0]
  refine (HZ.out _).mono ?_
  rintro e w1 ⟨rfl,rfl⟩
  go_wp2_with fail
  have k2:=set2 K1.out (.string ⟨#[]⟩) (.string ⟨#[]⟩)
  have m0:=Aaa k2 0
  have m1:=Aaa k2 1
  simp at m0 m1
  refine bodyPost_ret (v:=.agg #[.string ⟨#[]⟩,.string ⟨#[]⟩]) (by simp[results,Tryz.results128,go_sem,m0,m1]) rfl ?_
  exact⟨by rw[HR.out],(HB.out.setCell (p:=⟨w.heap.size,0,none⟩) (Aad _) _).setCell (p:=⟨w.heap.size,1,none⟩) (Aad _) _⟩
 have hz:(vl n==0)=false:=by rw[Aaj];exact h0
 have HG:=Aac (Aea n d ha hb hx hy)
 have hgp:0<Int.gcd (vl n) (vl d):=Int.gcd_pos_of_ne_zero_right _ (by omega)
 have hgl:Int.gcd (vl n) (vl d)≤(vl d).natAbs:=Nat.le_of_dvd (by omega) (Int.gcd_dvd_natAbs_right _ _)
 have gs:(I ((Int.gcd (vl n) (vl d):Nat):Int)).size≤1000000:=Aap (Ac3 (k:=17) (by rw[Int.natAbs_natCast];omega)) (by decide)
 have e1:vl n / ((Int.gcd (vl n) (vl d):Nat):Int)=(Rat.divInt (vl n) (vl d)).num:=by rw[←Agx hp,Agw (by omega)]
 have e2:vl d / ((Int.gcd (vl n) (vl d):Nat):Int)=((Rat.divInt (vl n) (vl d)).den:Int):=by rw[←Agy hp,Agw (by omega)]
 have HE1:=fun W=>Ag6 n (I ((Int.gcd (vl n) (vl d):Nat):Int)) ha gs hx (by rw[vl_I,Int.natAbs_natCast];omega) (by rw[vl_I];omega) W
 have HE2:=fun W=>Ag6 d (I ((Int.gcd (vl n) (vl d):Nat):Int)) hb gs hy (by rw[vl_I,Int.natAbs_natCast];omega) (by rw[vl_I];omega) W
 rw[vl_I,e1] at HE1
 rw[vl_I,e2] at HE2
 have hdl:((Rat.divInt (vl n) (vl d)).den:Int).natAbs<10^17:=by
  rw[←e2,Int.natAbs_ediv_of_nonneg (by omega)]
  exact Nat.lt_of_le_of_lt (Nat.div_le_self _ _) (by omega)
 have HE1:=Aac HE1
 have HE2:=Aac HE2
 change Hid (∀w,Calls Tryz.prog 185 #[.string n,.string d] w fun e w'=>e=.returned (.string (I ((Int.gcd (vl n) (vl d):Nat):Int)))∧Below w.heap.size w w') at HG
 clear ha hb hx hy hp h0 hgp hgl gs e1 e2
 generalize Int.gcd (vl n) (vl d)=g at *
 generalize Rat.divInt (vl n) (vl d)=q at *
 have zd:(I (q.den:Int)).size≤1000000:=Aap (Ac3 hdl) (by decide)
 have HC:=fun W=>Ad0 (I (q.den:Int)) one1 zd (by decide) W
 rw[vl_I,show vl one1=1 from by rw[one1_eq,vl_I]] at HC
 clear hdl zd
 obtain⟨W0,hW0⟩:∃W0,w.alloc (Obj.cells #[.string ⟨#[]⟩,.string ⟨#[]⟩] 25)=W0:=⟨_,rfl⟩
 have hk:W0.heap[w.heap.size]?=some (Obj.cells #[.string ⟨#[]⟩,.string ⟨#[]⟩] 25):=by rw[←hW0];exact Aax w _
 rw[hW0] at HB
 have HK:=Aac hk
 clear hk
 go_enter Tryz.func128,Tryz.ntmps128
 go_wp2_with fail
 try rw[hW0]
 refine (HZ.out _).mono ?_
 rintro e w1 ⟨rfl,rfl⟩
 go_wp2_with fail
 refine (HG.out _).mono ?_
 rintro e w1 ⟨rfl,b1⟩
 have HB1:=Aac b1
 clear b1
 go_wp2_with fail
 refine (HE1.out _).mono ?_
 rintro e w2 ⟨rfl,b2⟩
 have HB2:=Aac b2
 clear b2
 go_wp2_with fail
 refine (HE2.out _).mono ?_
 rintro e w3 ⟨rfl,b3⟩
 have b13:=(HB1.out.trans (HB2.out.mono HB1.out.size)).trans (b3.mono (Aap HB1.out.size HB2.out.size))
 have k3:=(b13.block _ (Aab.1 HK.out).1).trans HK.out
 have hlt:=(Aab.1 k3).1
 have ne3:w3.heap.size≠w.heap.size:=by omega
 have ne4:w.heap.size≠w3.heap.size:=by omega
 have HB3:=Aac (HB.out.trans (b13.mono HB.out.size))
 have HW4:=Aac ((Below.refl _ w3).alloc (Aad _) (Obj.cells #[.string (I q.num),.string (I (q.den:Int))] 25))
 obtain⟨W4,hW4⟩:∃W4,w3.alloc (Obj.cells #[.string (I q.num),.string (I (q.den:Int))] 25)=W4:=⟨_,rfl⟩
 have k4:W4.heap[w3.heap.size]?=some (Obj.cells #[.string (I q.num),.string (I (q.den:Int))] 25):=by rw[←hW4];exact Aax w3 _
 rw[hW4] at HW4
 have k5:=(HW4.out.block _ hlt).trans k3
 have c0:=Aaa k4 0
 have c1:=Aaa k4 1
 have g1:=Aaf k4 1
 have a0:=Aaa k5 0
 have a1:=Aaa k5 1
 have f0:=Aaf k5 0
 have f1:=Aaf k5 1
 simp at c0 c1 a0 a1
 have HB4:=Aac (HB3.out.trans (HW4.out.mono (Nat.le_of_lt hlt)))
 have K4:=Aac k4
 have K5:=Aac k5
 clear b3 b13 k3 k4 k5 HB HB1 HB2 HB3 HW4 HK HE1 HE2 HG HZ
 by_cases hq:q.den=1
 ·rw[show cmpI (q.den:Int) 1=0 from cmpI_eq.2 (by omega)] at HC
  have HC:=Aac HC
  have HQ:=Aac hq
  clear hq
  go_wp2_with fail
  try rw[hW4]
  go_quiet ((first|(go_at_call 180;exact Ag3 (Ag4 _))|(go_at_call 183;exact Ag3 (HC.out _))))
  go_wp2_with fail
  have k6:((W4.drewN nq).setCell ⟨w3.heap.size,1,none⟩ (.string ⟨#[]⟩)).heap[w.heap.size]?=some (Obj.cells #[.string ⟨#[]⟩,.string ⟨#[]⟩] 25):=(Below.heap_setCell _ _ _ _ (by simp;omega)).trans (by simpa using K5.out)
  have k2:=set2 k6 (.string (I q.num)) (.string ⟨#[]⟩)
  have m0:=Aaa k2 0
  have m1:=Aaa k2 1
  simp at m0 m1
  refine bodyPost_ret (v:=.agg #[.string (I q.num),.string ⟨#[]⟩]) (by simp[results,Tryz.results128,go_sem,m0,m1]) rfl ?_
  refine⟨?_,(Below.setCell (p:=⟨w.heap.size,0,none⟩) ((Acm HB4.out nq).setCell (p:=⟨w3.heap.size,1,none⟩) (by simp;omega) _) (Aad _) _).setCell (p:=⟨w.heap.size,1,none⟩) (Aad _) _⟩
  unfold fenc dn
  rw[if_pos HQ.out]
 ·have hc1:(cmpI (q.den:Int) 1==0)=false:=by rw[Aaj,Ne,cmpI_eq];omega
  have HC:=Aac HC
  have HQ:=Aac hq
  clear hq
  go_wp2_with fail
  try rw[hW4]
  go_quiet ((first|(go_at_call 180;exact Ag3 (Ag4 _))|(go_at_call 183;exact Ag3 (HC.out _))))
  go_wp2_with fail
  have k6:(W4.drewN nq).heap[w.heap.size]?=some (Obj.cells #[.string ⟨#[]⟩,.string ⟨#[]⟩] 25):=by simpa using K5.out
  have k2:=set2 k6 (.string (I q.num)) (.string (I (q.den:Int)))
  have m0:=Aaa k2 0
  have m1:=Aaa k2 1
  simp at m0 m1
  refine bodyPost_ret (v:=.agg #[.string (I q.num),.string (I (q.den:Int))]) (by simp[results,Tryz.results128,go_sem,m0,m1]) rfl ?_
  refine⟨?_,(Below.setCell (p:=⟨w.heap.size,0,none⟩) (Acm HB4.out nq) (Aad _) _).setCell (p:=⟨w.heap.size,1,none⟩) (Aad _) _⟩
  unfold fenc dn
  rw[if_neg HQ.out]
end Go.Proofs.YtcnmoobojdopgaaGreatDoor
namespace Go.Proofs.YtcnmoobojdopgaaGreatDoor
open Go.RowKit Tr Go.Shelf
def MulBox(w:World)(B:Nat):Prop:=w.heap[B]?=some (.cells #[.func (.func 102) #[] #[]] 115 (0,0))
theorem MulBox.below{w w':World}{B:Nat}(h:MulBox w B)(hb:Below w.heap.size w w'):MulBox w' B:=(hb.block B (Aab.1 h).1).trans h
theorem MulBox.drew{w:World}{B:Nat}(h:MulBox w B):MulBox w.drew B:=h
theorem MulBox.cell{w:World}{B:Nat}(h:MulBox w B):w.cell? ⟨B,0,none⟩=some (.func (.func 102) #[] #[]):=by simp[World.cell?,show w.heap[B]?=_ from h]
def Ag9(w:World)(x y:Int)(e:Ending)(w':World):Prop:=e=.returned (.tuple #[.string (I x),.string (I y)])∧Below w.heap.size w w'
theorem Aha{a b:ByteArray}{k m:Nat}(ha:a.size≤k)(hb:b.size≤m):(I (vl a*vl b)).size≤k+m+1:=by
 refine Ac3 ?_
 rw[Int.natAbs_mul,Nat.pow_add]
 refine Aah (Nat.mul_lt_mul_of_lt_of_le (vl_lt a) (Nat.le_of_lt (vl_lt b)) (Nat.pow_pos (by omega))) ?_
 exact Nat.mul_le_mul (Nat.pow_le_pow_right (by omega) ha) (Nat.pow_le_pow_right (by omega) hb)
theorem op3_any(a b c d:ByteArray)(w:World)(B:Nat)(ha:a.size≤1000000)(hb:b.size≤1000000)(hc:c.size≤1000000)(hd:d.size≤1000000)(hB:MulBox w B)(ht:Tabs w):
 Calls Tryz.prog 105 #[.string a,.string b,.string c,.string d,.pointer (some ⟨B,0,none⟩)] w (Ag9 w (vl a*vl c) (vl b*vl d)):=by
 have HT:=Aac ht
 have HB:=Aac hB
 have k0:=hB.cell
 clear ht hB
 go_enter Tryz.func105,Tryz.ntmps105
 go_wp2_with fail
 go_region_held3 (fun W=>W.cell? ⟨B,0,none⟩=some (.func (.func 102) #[] #[]))
  (first|assumption|(go_simp;done))
  (first
    | (go_at_call_of 102 [Value.string a,Value.string c];refine (Af9 a c w.drew (by omega) (by omega) (HT.out.below (Below.refl _ w).drew)).mono ?_;rintro e w1 ⟨rfl,hb1⟩;have k1:=(HB.out.drew.below hb1).cell;have B1:=(Below.refl w.heap.size w).drew.trans (hb1.mono (Aad _));clear hb1)
    | (go_at_call_of 102 [Value.string b,Value.string d];refine (Af9 b d w1 (by omega) (by omega) (HT.out.below B1)).mono ?_;rintro e w2 ⟨rfl,hb2⟩;have B2:=B1.trans (hb2.mono B1.size);have k2:=(HB.out.below B2).cell;clear hb2))
 go_wp2_with fail
 go_ret2
 exact⟨rfl,B2⟩
theorem op4_any(a b c d:ByteArray)(w:World)(B:Nat)(ha:a.size≤1000000)(hb:b.size≤1000000)(hc:c.size≤1000000)(hd:d.size≤1000000)(hB:MulBox w B)(ht:Tabs w):
 Calls Tryz.prog 106 #[.string a,.string b,.string c,.string d,.pointer (some ⟨B,0,none⟩)] w (Ag9 w (vl a*vl d) (vl b*vl c)):=by
 have HT:=Aac ht
 have HB:=Aac hB
 have k0:=hB.cell
 clear ht hB
 go_enter Tryz.func106,Tryz.ntmps106
 go_wp2_with fail
 go_region_held3 (fun W=>W.cell? ⟨B,0,none⟩=some (.func (.func 102) #[] #[]))
  (first|assumption|(go_simp;done))
  (first
    | (go_at_call_of 102 [Value.string a,Value.string d];refine (Af9 a d w.drew (by omega) (by omega) (HT.out.below (Below.refl _ w).drew)).mono ?_;rintro e w1 ⟨rfl,hb1⟩;have k1:=(HB.out.drew.below hb1).cell;have B1:=(Below.refl w.heap.size w).drew.trans (hb1.mono (Aad _));clear hb1)
    | (go_at_call_of 102 [Value.string b,Value.string c];refine (Af9 b c w1 (by omega) (by omega) (HT.out.below B1)).mono ?_;rintro e w2 ⟨rfl,hb2⟩;have B2:=B1.trans (hb2.mono B1.size);have k2:=(HB.out.below B2).cell;clear hb2))
 go_wp2_with fail
 go_ret2
 exact⟨rfl,B2⟩
theorem op1_any(a b c d:ByteArray)(w:World)(B:Nat)(ha:a.size≤1000000)(hb:b.size≤1000000)(hc:c.size≤1000000)(hd:d.size≤1000000)(hB:MulBox w B)(ht:Tabs w):
 Calls Tryz.prog 103 #[.string a,.string b,.string c,.string d,.pointer (some ⟨B,0,none⟩)] w (Ag9 w (vl a*vl d+vl c*vl b) (vl b*vl d)):=by
 have HT:=Aac ht
 have HB:=Aac hB
 have k0:=hB.cell
 clear ht hB
 go_enter Tryz.func103,Tryz.ntmps103
 go_wp2_with fail
 go_region_held3 (fun W=>W.cell? ⟨B,0,none⟩=some (.func (.func 102) #[] #[]))
  (first|assumption|(go_simp;done))
  (first
    | (go_at_call_of 102 [Value.string a,Value.string d];refine (Af9 a d w.drew (by omega) (by omega) (HT.out.below (Below.refl _ w).drew)).mono ?_;rintro e w1 ⟨rfl,hb1⟩;have k1:=(HB.out.drew.below hb1).cell;have B1:=(Below.refl w.heap.size w).drew.trans (hb1.mono (Aad _));clear hb1)
    | (go_at_call_of 102 [Value.string c,Value.string b];refine (Af9 c b w1 (by omega) (by omega) (HT.out.below B1)).mono ?_;rintro e w2 ⟨rfl,hb2⟩;have B2:=B1.trans (hb2.mono B1.size);have k2:=(HB.out.below B2).cell;clear hb2)
    | (go_at_call_of 74 [Value.string (I (vl a*vl d)),Value.string (I (vl c*vl b))];refine (Af6 (I (vl a*vl d)) (I (vl c*vl b)) w2 (Aap (Aha (k:=1000000) (m:=1000000) (by omega) (by omega)) (by omega)) (Aap (Aha (k:=1000000) (m:=1000000) (by omega) (by omega)) (by omega)) (HT.out.below B2)).mono ?_;rintro e w3 ⟨rfl,hb3⟩;have B3:=B2.trans (hb3.mono B2.size);have k3:=(HB.out.below B3).cell;clear hb3)
    | (go_at_call_of 102 [Value.string b,Value.string d];refine (Af9 b d w3 (by omega) (by omega) (HT.out.below B3)).mono ?_;rintro e w4 ⟨rfl,hb4⟩;have B4:=B3.trans (hb4.mono B3.size);have k4:=(HB.out.below B4).cell;clear hb4))
 go_wp2_with fail
 go_ret2
 refine⟨?_,B4⟩
 rw[vl_I,vl_I];rfl
theorem op2_any(a b c d:ByteArray)(w:World)(B:Nat)(ha:a.size≤1000000)(hb:b.size≤1000000)(hc:c.size≤1000000)(hd:d.size≤1000000)(hB:MulBox w B)(ht:Tabs w):
 Calls Tryz.prog 104 #[.string a,.string b,.string c,.string d,.pointer (some ⟨B,0,none⟩)] w (Ag9 w (vl a*vl d-vl c*vl b) (vl b*vl d)):=by
 have HT:=Aac ht
 have HB:=Aac hB
 have k0:=hB.cell
 clear ht hB
 go_enter Tryz.func104,Tryz.ntmps104
 go_wp2_with fail
 go_region_held3 (fun W=>W.cell? ⟨B,0,none⟩=some (.func (.func 102) #[] #[]))
  (first|assumption|(go_simp;done))
  (first
    | (go_at_call_of 102 [Value.string a,Value.string d];refine (Af9 a d w.drew (by omega) (by omega) (HT.out.below (Below.refl _ w).drew)).mono ?_;rintro e w1 ⟨rfl,hb1⟩;have k1:=(HB.out.drew.below hb1).cell;have B1:=(Below.refl w.heap.size w).drew.trans (hb1.mono (Aad _));clear hb1)
    | (go_at_call_of 102 [Value.string c,Value.string b];refine (Af9 c b w1 (by omega) (by omega) (HT.out.below B1)).mono ?_;rintro e w2 ⟨rfl,hb2⟩;have B2:=B1.trans (hb2.mono B1.size);have k2:=(HB.out.below B2).cell;clear hb2)
    | (go_at_call_of 88 [Value.string (I (vl a*vl d)),Value.string (I (vl c*vl b))];refine (Af8 (I (vl a*vl d)) (I (vl c*vl b)) w2 (Aap (Aha (k:=1000000) (m:=1000000) (by omega) (by omega)) (by omega)) (Aap (Aha (k:=1000000) (m:=1000000) (by omega) (by omega)) (by omega)) (HT.out.below B2)).mono ?_;rintro e w3 ⟨rfl,hb3⟩;have B3:=B2.trans (hb3.mono B2.size);have k3:=(HB.out.below B3).cell;clear hb3)
    | (go_at_call_of 102 [Value.string b,Value.string d];refine (Af9 b d w3 (by omega) (by omega) (HT.out.below B3)).mono ?_;rintro e w4 ⟨rfl,hb4⟩;have B4:=B3.trans (hb4.mono B3.size);have k4:=(HB.out.below B4).cell;clear hb4))
 go_wp2_with fail
 go_ret2
 refine⟨?_,B4⟩
 rw[vl_I,vl_I];rfl
def RNm(w:World)(nb:Bool)(A:Option Addr)(l:List Nat)(c:Nat)(z:Int)(K:Nat):Prop:=Dig l∧Norm l∧sg nb (mval l)=z∧l.length≤c∧l.length≤K∧RdN w A l
def Ahb(w:World)(z:Int)(K:Nat)(e:Ending)(w':World):Prop:=∃(nb:Bool) (A:Option Addr) (l:List Nat) (c:Nat),e=.returned (.agg #[.bool nb,.slice A l.length c])∧RNm w' nb A l c z K∧Below w.heap.size w w'
theorem RReadPost.num{w w':World}{a:ByteArray}{e:Ending}(h:RReadPost w a e w'):Ahb w (vl a) (a.size+1) e w':=by
 obtain⟨A,l,c,rfl,⟨h1,h2,h3,h4⟩,hc,hr,hb⟩:=h
 refine⟨_,A,l,c,rfl,⟨h1,h2,?_,hc,by omega,hr⟩,hb⟩
 rw[h3]
 by_cases hn:vl a<0
 ·rw[Aav hn];show -((vl a).natAbs:Int)=vl a;omega
 ·rw[Aaw hn];show ((vl a).natAbs:Int)=vl a;omega
structure XD(w:World)(P:Nat)(na:Bool)(v1:Value)(A2:Option Addr)(l2:List Nat)(c2:Nat)(aq ar:Addr)(q r:List Nat)(W:World):Prop where
 k0:W.heap[P]?=some (.cells #[.bool na,v1] 165 (0,0))
 k1:W.heap[P+1]?=some (.cells #[.bool false,.slice A2 l2.length c2] 165 (0,0))
 r2:RdN W A2 l2
 rq:RdN W (some aq) q
 rr:RdN W (some ar) r
 bel:Below w.heap.size w W
theorem XD.lt{w:World}{P:Nat}{na:Bool}{v1:Value}{A2:Option Addr}{l2:List Nat}{c2:Nat}{aq ar:Addr}{q r:List Nat}{W:World}(h:XD w P na v1 A2 l2 c2 aq ar q r W):P+1<W.heap.size:=(Aab.1 h.k1).1
theorem Ahc{W:World}{B k:Nat}(hk:k≠B)(x y:Value):((W.setCell ⟨B,0,none⟩ x).setCell ⟨B,1,none⟩ y).heap[k]?=W.heap[k]?:=by
 rw[Below.heap_setCell _ _ _ _ (by simpa using hk),Below.heap_setCell _ _ _ _ (by simpa using hk)]
theorem Ahd{w W:World}{B:Nat}(hb:w.heap.size≤B)(h:Below w.heap.size w W)(x y:Value):Below w.heap.size w ((W.setCell ⟨B,0,none⟩ x).setCell ⟨B,1,none⟩ y) :=
 (h.setCell (p:=⟨B,0,none⟩) hb _).setCell (p:=⟨B,1,none⟩) hb _
end Go.Proofs.YtcnmoobojdopgaaGreatDoor
