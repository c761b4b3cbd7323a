/-
  The walk of schedule.Build.
-/
import Derived.Test.YtcnmoobojdopgaaGreatDoorI25
import Derived.Test.YtcnmoobojdopgaaGreatDoorI27
import Derived.Sort.OwnSortedInts
import Derived.Maps.AppendAt
import Derived.Test.YtcnmoobojdopgaaGreatDoorI21
set_option linter.unusedVariables false
set_option linter.unusedSimpArgs false
set_option maxHeartbeats 16000000
set_option maxRecDepth 100000
namespace Go.Proofs.YtcnmoobojdopgaaGreatDoor
open Go.RowKit Tr Go.Shelf
attribute [local go_sem] Oper.semAt_some
theorem Tryz.infoDay:(Tryz.prog.info? 22).map (fun i=>(i.zero,i.size,i.bytes))=some (some (.int .i64 0),1,8):=by kernel_rfl
theorem Tryz.infoPer:(Tryz.prog.info? 60).map (fun i=>(i.zero,i.size,i.bytes))=some (some (.agg #[.int .i64 0,.int .i64 0]),2,16):=by kernel_rfl
def ints(l:List Int):List Value:=l.map (Value.int .i64)
def perV(p:Int×Int):List Value:=[.int .i64 p.1,.int .i64 p.2]
def persV(l:List (Int×Int)):List Value:=l.flatMap perV
structure BuW(w:World)(a b:Int)(W:World):Prop where
 p:PBox W w.heap.size a b
 r6:Boxed W (w.heap.size+1) 55 (.slice none 0 0)
 r7:Boxed W (w.heap.size+1+1) 30 (.int .i64 0)
 be:Below w.heap.size w W
theorem BuW.below{w:World}{a b:Int}{W W':World}(h:BuW w a b W)(hb:Below W.heap.size W W'):BuW w a b W' :=
 ⟨h.p.below hb,Aru h.r6 hb,Aru h.r7 hb,h.be.trans (hb.mono h.be.size)⟩
theorem BuW.start(w:World)(a b:Int):BuW w a b (((w.alloc (.cells #[.int .i64 a,.int .i64 b] 60)).alloc (.cells #[.slice none 0 0] 55)).alloc (.cells #[.int .i64 0] 30)):=by
 have b0:Below w.heap.size w (w.alloc (.cells #[.int .i64 a,.int .i64 b] 60)):=(Below.refl _ w).alloc (Aad _) _
 have k0:PBox (w.alloc (.cells #[.int .i64 a,.int .i64 b] 60)) w.heap.size a b:=Aax w _
 obtain⟨W0,hW0⟩:∃W0,w.alloc (.cells #[.int .i64 a,.int .i64 b] 60)=W0:=⟨_,rfl⟩
 have s0:W0.heap.size=w.heap.size+1:=by rw[←hW0];simp
 rw[hW0] at b0 k0 ⊢
 have b1:Below W0.heap.size W0 (W0.alloc (.cells #[.slice none 0 0] 55)):=(Below.refl _ W0).alloc (Aad _) _
 have k1:=Boxed.new W0 55 (.slice none 0 0)
 obtain⟨W1,hW1⟩:∃W1,W0.alloc (.cells #[.slice none 0 0] 55)=W1:=⟨_,rfl⟩
 have s1:W1.heap.size=W0.heap.size+1:=by rw[←hW1];simp
 rw[hW1] at b1 k1 ⊢
 have b2:Below W1.heap.size W1 (W1.alloc (.cells #[.int .i64 0] 30)):=(Below.refl _ W1).alloc (Aad _) _
 have k2:=Boxed.new W1 30 (.int .i64 0)
 rw[s0] at k1
 rw[s1,s0] at k2
 exact⟨(k0.below b1).below b2,Aru k1 b2,k2,(b0.trans (b1.mono (by omega))).trans (b2.mono (by omega))⟩
theorem Ar9{W:World}{g:Nat}{x y:Value}{t:TypeId}{m:Nat×Nat}(h:W.heap[g]?=some (.cells #[x,y] t m)):W.cell? ⟨g,0,none⟩=some x∧W.cell? ⟨g,1,none⟩=some y:=by
 have h0:=Aaa h 0
 have h1:=Aaa h 1
 simp at h0 h1
 exact⟨h0,h1⟩
theorem Asa{W:World}{b n₀ size k:Nat}{e t:TypeId}{cs:Array Value}{m:Nat×Nat}{v:Value}{xs:List Value}(h:W.heap[b]?=some (.cells cs t m))(hte:t≠e)(hrow:W.ownsRow n₀ e size v k xs):v.ownBlock≠some b:=by
 rcases hrow.2 with⟨rfl,_⟩|⟨g,cap,cur,rfl,_,hgb,_⟩
 ·simp[Value.ownBlock]
 ·intro ej
  obtain rfl:g=b:=by simpa[Value.ownBlock] using ej
  rw[hgb] at h;cases h;exact hte rfl
theorem kept3{W w1:World}{v u:Value}{tmp:Obj}{b BE n₀ size k:Nat}{e t:TypeId}{cs:Array Value}{m:Nat×Nat}{xs:List Value}(h:W.heap[b]?=some (.cells cs t m))(hte:t≠e)(hrow:W.ownsRow n₀ e size v k xs)(hg:(W.alloc tmp).grownBy w1 v.ownBlock)(hne:b≠BE):
 (w1.setCell ⟨BE,0,none⟩ u).heap[b]?=some (.cells cs t m):=by
 have hlt:b<W.heap.size:=(Aab.1 h).1
 rw[Below.heap_setCell _ _ _ b hne]
 refine (hg.block b (by simp;omega) (Ne.symm (Asa h hte hrow))).trans ?_
 exact ((Below.refl W.heap.size W).alloc (Aad _) tmp).block b hlt |>.trans h
theorem Asb{β:Type}(b:Nat)(cs:Array Value)(t:TypeId)(m:Nat×Nat):Own (fun (_:β) W=>W.heap[b]?=some (.cells cs t m)):=fun s X Y row hs hg hrow=>by
 refine (hg.block b (Aab.1 hs).1 (fun e=>?_)).trans hs
 obtain⟨o,ho,hc⟩:=hrow b e.symm
 rw[hs] at ho;cases ho;cases hc
theorem five(W:World)(N:Nat)(hN:W.heap.size=N)(o1 o2 o3 o4 o5:Obj):∃W',W'=((((W.alloc o1).alloc o2).alloc o3).alloc o4).alloc o5∧Below N W W'∧W'.heap.size=N+5∧W'.heap[N]?=some o1∧W'.heap[N+1]?=some o2∧W'.heap[N+1+1]?=some o3∧W'.heap[N+1+1+1]?=some o4∧W'.heap[N+1+1+2]?=some o5:=by
 subst hN
 obtain⟨W0,e0,b0,z0,h1,h2,h3⟩:=box3 W o1 o2 o3
 refine⟨_,rfl,?_⟩
 rw[←e0]
 have bb:=(((Below.refl W0.heap.size W0).alloc (Aad _) o4).alloc (by simp) o5)
 have k4:=Aax W0 o4
 have k5:=Aax (W0.alloc o4) o5
 rw[World.size_alloc] at k5
 have k4':((W0.alloc o4).alloc o5).heap[W0.heap.size]?=some o4:=(Below.heap_alloc _ _ _ (by simp)).trans k4
 rw[z0] at k4' k5
 exact⟨b0.trans (bb.mono b0.size),by simp[z0],(bb.block _ (by omega)).trans h1,(bb.block _ (by omega)).trans h2,(bb.block _ (by omega)).trans h3,k4',k5⟩
def BuI(w:World)(a b:Int)(BE:Nat)(pre:List Int)(W:World):Prop :=
 ((∃v,Boxed W BE 184 v∧W.ownsRow w.heap.size 22 1 v (2+pre.length) (ints (a::b::pre))∧(∃A' k' c',v=.slice A' k' c')) ∧
   (PBox W w.heap.size a b∧Boxed W (w.heap.size+1) 55 (.slice none 0 0)∧Boxed W (w.heap.size+1+1) 30 (.int .i64 0)))∧(Below w.heap.size w W∧pre.length≤399)
def BuX(w:World)(c:Code)(pre:List Int)(W:World):Prop :=
 (Boxed W (w.heap.size+1) 55 (.slice none 0 0)∧Boxed W (w.heap.size+1+1) 30 (.int .i64 4))∧(Below w.heap.size w W∧(c=.ret∧400≤pre.length))
theorem BuI.own(w:World)(a b:Int)(BE N:Nat)(hN:w.heap.size≤N):OwnFrom N (BuI w a b BE):=by
 refine OwnFrom.and (OwnFrom.and ((holdsRow_own w.heap.size BE 184 22 1 (fun pre=>2+pre.length) (fun pre=>ints (a::b::pre)) (fun _ v=>∃A' k' c',v=.slice A' k' c')).from _) ?_) (OwnFrom.and (ownFrom_below (Aad _) hN) (ownFrom_pure _ _))
 refine OwnFrom.and ((Asb _ _ _ _).from _) (OwnFrom.and ((Asb _ _ _ _).from _) ((Asb _ _ _ _).from _))
theorem BuX.own(w:World)(c:Code)(N:Nat)(hN:w.heap.size≤N):OwnFrom N (BuX w c) :=
 OwnFrom.and (OwnFrom.and ((Asb _ _ _ _).from _) ((Asb _ _ _ _).from _)) (OwnFrom.and (ownFrom_below (Aad _) hN) (ownFrom_pure _ _))
theorem Asc{F:Fence}{nF:Nat}{P:Program}{ops:Array Oper}{o:Oper}{a:Act}{K:Act→World→Prop}{Q:Exit→Act→World→Prop}{E:Prop}{t ty:TypeId}{sv xv v':Value}{w w':World}(hr:(Builtin.append_ #[t,t] ty #[sv,xv]).run P w=.ok v' w')(hgd:o.guard=none)(s x:Operand)
 (ho:o.op=.call {callee:=.builtin .append,args:=#[s,x],argTypes:=#[t,t]}) (hty:o.type=ty) (hs:a.eval s=sv) (hx:a.eval x=xv) (h:K (a.put o.dst v') w') :
 if Region.wanted o (yielded ops a.tmps)=true then Oper.wpIn F nF P o a w K Q else E:=by
 subst hty
 have hw:Region.wanted o (yielded ops a.tmps)=true:=by simp[Region.wanted,hgd]
 rw[if_pos hw]
 unfold Oper.wpIn
 refine⟨by simp[Oper.about,ho,resolve,Target.leads,Sem.run_pure],?_⟩
 rw[Oper.semAt_plain F _ _ (by rw[ho];intro c hc';cases hc')]
 simp only[execOp,ho,resolve,invoke,builtin,Sem.run_bind,Sem.run_pure,Result.andThen_ok,List.map_toArray,List.map_cons,List.map_nil,hs,hx,hr]
 exact h
structure LB(w:World)(a b mo:Int)(BE g D:Nat)(cur2:Array Value)(m c k:Nat)(v:Value)(W:World):Prop where
 out:W.ownsRow w.heap.size 60 2 v k (persV ((pers a b mo).take k))
 en:W.heap[g]?=some (.cells cur2 22 (0,0))
 bx:Boxed W BE 184 (.slice (some ⟨g,0,none⟩) m c)
 r6:Boxed W (w.heap.size+1) 55 (.slice none 0 0)
 r7:Boxed W (w.heap.size+1+1) 30 (.int .i64 0)
 dk:W.heap[D]?=some (.deferred (some []))
 be:Below w.heap.size w W
theorem Asd{a b mo:Int}{g m:Nat}{cur2:Array Value}(hT:cur2.toList.take m=ints (ends a b mo)){W:World}(h:W.heap[g]?=some (.cells cur2 22 (0,0)))(j:Nat)(x:Int)(hx:(ends a b mo)[j]?=some x):W.cell? ⟨g,j,none⟩=some (.int .i64 x):=by
 rw[Aaa h j,←Array.getElem?_toList]
 have h1:(cur2.toList.take m)[j]?=some (.int .i64 x):=by rw[hT];simp[ints,hx]
 rw[List.getElem?_take] at h1
 split at h1
 ·exact h1
 ·cases h1
theorem Ase{W:World}{k:Nat}{o:Obj}(h:W.heap[k]?=some o)(o':Obj):(W.alloc o').heap[k]?=some o:=(Below.heap_alloc _ _ _ (Aab.1 h).1).trans h
theorem Asf{W:World}{b n₀ size k:Nat}{e:TypeId}{o:Obj}{v:Value}{xs:List Value}(h:W.heap[b]?=some o)(ho:∀cs m,o≠.cells cs e m)(hrow:W.ownsRow n₀ e size v k xs):v.ownBlock≠some b:=by
 rcases hrow.2 with⟨rfl,_⟩|⟨g,cap,cur,rfl,_,hgb,_⟩
 ·simp[Value.ownBlock]
 ·intro ej
  obtain rfl:g=b:=by simpa[Value.ownBlock] using ej
  rw[hgb] at h;cases h;exact ho _ _ rfl
theorem LB.drew{w:World}{a b mo:Int}{BE g D:Nat}{cur2:Array Value}{m c k:Nat}{v:Value}{W:World}(h:LB w a b mo BE g D cur2 m c k v W):LB w a b mo BE g D cur2 m c k v W.drew :=
 ⟨h.out,h.en,h.bx,h.r6,h.r7,h.dk,h.be.drew⟩
def LBx(w:World)(a b mo:Int)(BE g D:Nat)(cur2:Array Value)(m c k:Nat)(v:Value)(W:World):Prop:=∃A1 c1,v=.slice A1 k c1∧LB w a b mo BE g D cur2 m c k (.slice A1 k c1) W
theorem LB.app{w:World}{a b mo:Int}{BE g D:Nat}{cur2:Array Value}{m c k:Nat}{v:Value}{W:World}{x y:Int}{q:Nat}(h:LB w a b mo BE g D cur2 m c k v W)(hp:(pers a b mo)[k]?=some (x,y))(hq:q≤400)(hk:k<q):
 ∃g1 c1 w1,(Builtin.append_ #[55,55] 55 #[v,.slice (some ⟨W.heap.size,0,none⟩) 1 1]).run Tryz.prog (W.alloc (.cells #[.int .i64 x,.int .i64 y] 60))=.ok (.slice (some ⟨g1,0,none⟩) (k+1) c1) w1∧LB w a b mo BE g D cur2 m c (k+1) (.slice (some ⟨g1,0,none⟩) (k+1) c1) w1:=by
 obtain⟨i1,hi,hz0,hz1,hz2⟩:=info_parts Tryz.infoPer
 have hrow:=h.out.alloc (.cells #[.int .i64 x,.int .i64 y] 60)
 obtain⟨v1,w1,hr,h2,h3,_,_⟩:=run_append_own_at (P:=Tryz.prog) (W.alloc (.cells #[.int .i64 x,.int .i64 y] 60)) w.heap.size 55 55 60 i1 _ 2 16 Tryz.underlying55 hi hz0 hz1 hz2 rfl (by decide) v k _ hrow
  ⟨W.heap.size,0,none⟩ 1 1 [.int .i64 x,.int .i64 y] rfl (An1 _ _ _) (by simp[Value.oneCell']) (by unfold maxLen;omega) (by omega) (by have:=h.be.size;simp;omega)
 have hkp:∀(j:Nat) (o:Obj),(∀cs m,o≠.cells cs 60 m)→W.heap[j]?=some o→w1.heap[j]?=some o:=fun j o ho hj =>
  (h3.block j (by have:=(Aab.1 hj).1;simp;omega) (Asf hj ho h.out).symm).trans (Ase hj _)
 obtain⟨g1,c1,rfl⟩:=ownsRow_succ h2
 refine⟨g1,c1,w1,hr,?_,hkp _ _ (fun _ _ e=>by cases e) h.en,hkp _ _ (fun _ _ e=>by cases e) h.bx,hkp _ _ (fun _ _ e=>by cases e) h.r6,hkp _ _ (fun _ _ e=>by cases e) h.r7,hkp _ _ (fun _ _ e=>by cases e) h.dk,?_⟩
 ·have e1:persV ((pers a b mo).take (k+1))=persV ((pers a b mo).take k)++[.int .i64 x,.int .i64 y]:=by
   rw[List.take_add_one,hp];simp[persV,perV]
  rw[e1];exact h2
 ·refine (h.be.alloc h.be.size _).grown h3 (by have:=h.be.size;simp;omega) fun j ej=>?_
  rcases h.out.2 with⟨rfl,_⟩|⟨g1,cap,cur,rfl,hb1,_,_⟩
  ·simp[Value.ownBlock] at ej
  ·obtain rfl:g1=j:=by simpa[Value.ownBlock] using ej
   exact hb1
structure BLV(w:World)(pa pb pmo:Int)(BE g D:Nat)(cur2:Array Value)(q c k:Nat)(x y:Int)(A0:Option Addr)(c0:Nat)(wr:World)  (L:Array Bool) (W:World) (s11 s57 s58 s59 s60 s61 s62 s63 s64 s65 s66 s67 s68 s69:Value):Prop where
 k0:L.getD 0 false=true→s57=.slice A0 k c0
 k1:L.getD 1 false=true→s58=.slice (some ⟨g,0,none⟩) (q+1) c
 k2:L.getD 2 false=true→s59=.int .i64 (k:Int)
 k3:L.getD 3 false=true→s60=.pointer (some ⟨g,k,none⟩)
 k4:L.getD 4 false=true→s61=.int .i64 x
 k5:L.getD 5 false=true→s62=.slice (some ⟨g,0,none⟩) (q+1) c
 k6:L.getD 6 false=true→s63=.int .i64 (k:Int)
 k7:L.getD 7 false=true→s64=.int .i64 ((k:Int)+1)
 k8:L.getD 8 false=true→s65=.pointer (some ⟨g,k+1,none⟩)
 k9:L.getD 9 false=true→s66=.int .i64 y
 k10:L.getD 10 false=true→s67=.agg #[.int .i64 x,.int .i64 y]
 k11:L.getD 11 false=true→s68=.slice (some ⟨wr.heap.size,0,none⟩) 1 1
 n11:L.getD 13 false=false→s11=.slice A0 k c0
 qz:L.getD 13 false=true→L.getD 0 false=true
 q12:L.getD 12 false=true→L.getD 11 false=true
 q13:L.getD 13 false=true→L.getD 12 false=true
 ce:W.heap[g]?=some (.cells cur2 22 (0,0))
 cb:Boxed W BE 184 (.slice (some ⟨g,0,none⟩) (q+1) c)
 w0:L.getD 11 false=false→W=wr
 w1:L.getD 11 false=true→L.getD 12 false=false→W=wr.alloc (.cells #[.int .i64 x,.int .i64 y] 60)
 w2:L.getD 12 false=true→LBx w pa pb pmo BE g D cur2 (q+1) c (k+1) s69 W
 r13:L.getD 13 false=true→LBx w pa pb pmo BE g D cur2 (q+1) c (k+1) s11 W
structure BLJ(w:World)(pa pb pmo:Int)(BE g D:Nat)(cur2:Array Value)(q c k:Nat)(x y:Int)(A0:Option Addr)(c0:Nat)(wr:World)(x0 x1 x2 x3 x4 x5 x6 x7 x8 x10 x13 x14 x15 x16 x17 x18 x19 x20 x21 x22 x23 x24 x25 x26 x27 x28 x29 x30 x31 x32 x33 x34 x35 x36 x37 x38 x39 x40 x41 x42 x43 x44 x45 x46 x47 x48 x49 x50 x51 x52 x53 x54 x55 x56 x70 x71:Value)(L:Array Bool)(a:Act)(W:World):Prop where
 sz:L.size=14
 fr:∃s11 s57 s58 s59 s60 s61 s62 s63 s64 s65 s66 s67 s68 s69:Value,a={tmps:=#[x0,x1,x2,x3,x4,x5,x6,x7,x8,.pointer (some ⟨BE,0,none⟩),x10,s11,.int .i64 (k:Int),x13,x14,x15,x16,x17,x18,x19,x20,x21,x22,x23,x24,x25,x26,x27,x28,x29,x30,x31,x32,x33,x34,x35,x36,x37,x38,x39,x40,x41,x42,x43,x44,x45,x46,x47,x48,x49,x50,x51,x52,x53,x54,x55,x56,s57,s58,s59,s60,s61,s62,s63,s64,s65,s66,s67,s68,s69,x70,x71],defers:=[{target:=.collected D,args:=#[]}]}∧BLV w pa pb pmo BE g D cur2 q c k x y A0 c0 wr  L W s11 s57 s58 s59 s60 s61 s62 s63 s64 s65 s66 s67 s68 s69
theorem Asg{a b mo:Int}(hm1:1≤mo)(hb:okDay b)(hab:a<b):((a::b::cuts a b mo).mergeSort fun x y=>decide (x≤y))=ends a b mo:=by
 have h1:((a::b::cuts a b mo).mergeSort fun x y=>decide (x≤y)).Perm (ends a b mo):=by
  refine (List.mergeSort_perm _ _).trans ?_
  unfold ends
  refine List.Perm.cons a ?_
  exact (List.perm_append_comm (l₁:=[b]) (l₂:=cuts a b mo)).trans ((List.reverse_perm (cuts a b mo)).symm.append_right [b])
 have h2:((a::b::cuts a b mo).mergeSort fun x y=>decide (x≤y)).Pairwise (·≤·):=by
  have:=List.pairwise_mergeSort (le:=fun x y:Int=>decide (x≤y)) (fun a b c h h'=>by simp at h h' ⊢;omega) (fun a b=>by simp;omega) (a::b::cuts a b mo)
  exact this.imp (fun h=>by simpa using h)
 have h3:(ends a b mo).Pairwise (·≤·):=(Ajw hm1 hb.1 hb.2 hab).imp (fun h=>Int.le_of_lt h)
 exact h1.eq_of_pairwise (fun a b _ _ h h'=>Int.le_antisymm h h') h2 h3
def Ash(w:World)(a b mo:Int)(e:Ending)(w':World):Prop :=
 Below w.heap.size w w'∧((400≤(cuts a b mo).length∧e=.returned (.tuple #[.slice none 0 0,.int .i64 4])) ∨
  ((cuts a b mo).length≤399∧∃v,e=.returned (.tuple #[v,.int .i64 0])∧w'.ownsRow w.heap.size 60 2 v (pers a b mo).length (persV (pers a b mo))))
theorem Asi(a b mo:Int)(ha:okDay a)(hb:okDay b)(hab:a<b)(hm1:1≤mo)(hm2:mo≤4800)(w:World):
 Calls Tryz.prog 84 #[.agg #[.int .i64 a,.int .i64 b],.int .i64 mo,.int .i64 1] w (Ash w a b mo):=by
 refine (callsIn_wide (n:=6)).1 ?_
 have cab:decide (a<b)=true:=Aav hab
 obtain⟨i0,hi,hz0,hz1,hz2⟩:=info_parts Tryz.infoDay
 refine callsIn_of_wp_marks Tryz.func84 rfl trivial ?_ rfl
 simp only[Tryz.ntmps84,List.size_toArray,Aau,List.length_nil,Nat.reduceAdd,Nat.reduceSub,Array.replicate_succ,Array.replicate_zero,List.push_toArray,List.append_toArray,List.nil_append,List.cons_append]
 gi_wp2_with fail
 refine⟨trivial,?_⟩
 have hs:=BuW.start w a b
 obtain⟨W0,hW0⟩:∃W0,((w.alloc (.cells #[.int .i64 a,.int .i64 b] 60)).alloc (.cells #[.slice none 0 0] 55)).alloc (.cells #[.int .i64 0] 30)=W0:=⟨_,rfl⟩
 have s0:W0.heap.size=w.heap.size+1+1+1:=by rw[←hW0];simp
 rw[hW0] at hs ⊢
 rw[←s0]
 have k1:(W0.alloc (.cells #[.int .i64 a,.int .i64 b] 22)).heap[W0.heap.size]?=some (.cells #[.int .i64 a,.int .i64 b] 22 (0,0)):=Aax W0 _
 have b1:Below W0.heap.size W0 (W0.alloc (.cells #[.int .i64 a,.int .i64 b] 22)):=(Below.refl _ W0).alloc (Aad _) _
 obtain⟨W1,hW1⟩:∃W1,W0.alloc (.cells #[.int .i64 a,.int .i64 b] 22)=W1:=⟨_,rfl⟩
 have s1:W1.heap.size=W0.heap.size+1:=by rw[←hW1];simp
 rw[hW1] at k1 b1 ⊢
 have HS1:=hI (hs.below b1)
 obtain⟨p0,p1⟩:=Ar9 HS1.out.p
 refine (callsIn_wide.2 (Aj1 W0.heap.size a b 2 ha hb W1 (Ar9 k1).1 (Ar9 k1).2)).mono ?_
 rintro e w2 ⟨rfl,rfl⟩
 clear k1 b1 hs hW0 hW1
 gi_wp2_with fail
 refine⟨trivial,?_⟩
 refine (callsIn_wide.2 (sChk_ok mo hm1 hm2 _)).mono ?_
 rintro e w2 ⟨rfl,rfl⟩
 gi_wp2_with fail
 refine⟨trivial,?_⟩
 refine (callsIn_wide.2 (Aj2 a b mo _)).mono ?_
 rintro e W3 ⟨rfl,hW3⟩
 simp only[World.size_alloc] at hW3 ⊢
 obtain⟨W3',e3,b3,z3,q0,q1,q2,q3,q4⟩:=five W1 (w.heap.size+1+1+1+1) (by rw[s1,s0]) (.cells #[.int .i64 a,.int .i64 b] 22) (.cells #[.slice (some ⟨w.heap.size+1+1+1+1,0,none⟩) 2 2] 184) (.cells #[.int .i64 a,.int .i64 b] 60) (.cells #[.int .i64 mo] 3) (.cells #[.int .i64 1] 3)
 have eW:W3=W3':=hW3.trans e3.symm
 clear hW3 e3
 subst eW
 have hS3:BuW w a b W3:=HS1.out.below (b3.mono (by rw[s1,s0];exact Aad _))
 rw[s1,s0]
 obtain⟨BE,hBE⟩:∃BE,w.heap.size+1+1+1+1+1=BE:=⟨_,rfl⟩
 obtain⟨bp,hbp⟩:∃bp,w.heap.size+1+1+1+1+1+1=bp:=⟨_,rfl⟩
 obtain⟨bm,hbm⟩:∃bm,w.heap.size+1+1+1+1+1+1+1=bm:=⟨_,rfl⟩
 obtain⟨bs,hbs⟩:∃bs,w.heap.size+1+1+1+1+1+1+2=bs:=⟨_,rfl⟩
 rw[hBE] at q1
 rw[hbp] at q2
 rw[hbm] at q3
 rw[hbs] at q4
 have hI0:BuI w a b BE [] W3:=by
  refine⟨⟨⟨_,q1,⟨rfl,.inr ⟨_,_,_,rfl,by omega,q0,by decide,by decide,rfl,rfl⟩⟩,⟨_,_,_,rfl⟩⟩,hS3.p,hS3.r6,hS3.r7⟩,hS3.be,by simp⟩
 have HSEQ:=hI (Arw 5 bp bs bm a b mo W3 (by omega) hb hm1 hm2 q2 q4 q3)
 have HLC:=hI (Ajn (a:=a) (b:=b) hm1)
 clear q0 q1 q2 q3 q4 hS3 HS1 p0 p1 b3
 rw[hbm,hbs,hbp,hBE]
 gi_wp2
 refine wpIn_rangeFunc_ownG rfl (by omega) (gf:=217) (lb:=#[.pointer (some ⟨bp,0,none⟩),.pointer (some ⟨bs,0,none⟩),.pointer (some ⟨bm,0,none⟩)]) rfl trivial (enters_of Tryz.func217 (by kernel_rfl) rfl)
  HSEQ.out KpI.trans (fun W l o o' _ hl hc _=>KpI.put o' hl hc) (Below.refl _ _) (fun _=>rfl) (BuI w a b BE) (BuX w) (BuI.own _ _ _ _ _ (by omega)) (fun c=>BuX.own _ _ _ (by omega)) hI0 ?a1 ?assign ?body ?done ?stop
 case assign =>
  intro l x W K hK
  simp only[encD]
  gi_wp2
  exact hK
 case body =>
  rintro l pre x W ⟨⟨⟨v,hv,hrow,⟨A',k',c',rfl⟩⟩,hp,hr6,hr7⟩,hB,hlen⟩ _
  have hc:=hv.cell
  obtain⟨m,hm⟩:∃m,2+pre.length=m:=⟨_,rfl⟩
  rw[hm] at hrow
  have hlt:=hv.lt
  by_cases hbig:401<m+1
  ·have t1:decide ((401:Int)<(m:Int)+1)=true:=Aav (by omega)
   gi_wp2_with (gi_at_builtin;refine wpListIn_append_own _ rfl _ _ 184 rfl w.heap.size 22 i0 (.int .i64 0) 1 8 Tryz.underlying184 hi hz0 hz1 hz2 rfl (by decide) _ _ _ rfl (hrow.alloc _) ⟨W.heap.size,0,none⟩ 1 1 [.int .i64 x] rfl rfl (cell_one_new _ _ _) (by simp[Value.oneCell']) (by unfold maxLen;omega) (by omega) (by have:=hB.size;simp;omega) ?_;intro v' w1 hown' hgrow _;obtain⟨g',cap',rfl⟩:=ownsRow_succ hown';obtain⟨hv1,hv2,hr2,hk2,hb2⟩:=hv.appended (by decide) hrow hB.size (by omega) hown' hgrow;have hc1:=hv1.cell;have hf1:=hv1.frozen;have hc2:=hv2.cell;have e6:Boxed (w1.setCell ⟨BE,0,none⟩ (.slice (some ⟨g',0,none⟩) (m+1) cap')) (w.heap.size+1) 55 (.slice none 0 0):=kept3 hr6 (by decide) hrow hgrow (by omega);have e7:Boxed (w1.setCell ⟨BE,0,none⟩ (.slice (some ⟨g',0,none⟩) (m+1) cap')) (w.heap.size+1+1) 30 (.int .i64 0):=kept3 hr7 (by decide) hrow hgrow (by omega);have c6:=e6.cell;have f6:=e6.frozen;have c7:=e7.cell;have f7:=e7.frozen)
   refine⟨((hk2.trans (KeepsOthers.setCell _ _ _)).trans (KeepsOthers.setCell _ _ _)).from _,⟨?_,?_⟩,?_,rfl,?_⟩
   ·exact (e6.set _).other (by omega) _
   ·exact ((e7.other (by omega) _).set _)
   ·exact ((hB.trans hb2).setCell (p:=⟨w.heap.size+1,0,none⟩) (by simp) _).setCell (p:=⟨w.heap.size+1+1,0,none⟩) (by simp;omega) _
   ·simp;omega
  ·have t1:decide ((401:Int)<(m:Int)+1)=false:=Aaw (by omega)
   gi_wp2_with (gi_at_builtin;refine wpListIn_append_own _ rfl _ _ 184 rfl w.heap.size 22 i0 (.int .i64 0) 1 8 Tryz.underlying184 hi hz0 hz1 hz2 rfl (by decide) _ _ _ rfl (hrow.alloc _) ⟨W.heap.size,0,none⟩ 1 1 [.int .i64 x] rfl rfl (cell_one_new _ _ _) (by simp[Value.oneCell']) (by unfold maxLen;omega) (by omega) (by have:=hB.size;simp;omega) ?_;intro v' w1 hown' hgrow _;obtain⟨g',cap',rfl⟩:=ownsRow_succ hown';obtain⟨hv1,hv2,hr2,hk2,hb2⟩:=hv.appended (by decide) hrow hB.size (by omega) hown' hgrow;have hc1:=hv1.cell;have hf1:=hv1.frozen;have hc2:=hv2.cell;have e6:Boxed (w1.setCell ⟨BE,0,none⟩ (.slice (some ⟨g',0,none⟩) (m+1) cap')) (w.heap.size+1) 55 (.slice none 0 0):=kept3 hr6 (by decide) hrow hgrow (by omega);have e7:Boxed (w1.setCell ⟨BE,0,none⟩ (.slice (some ⟨g',0,none⟩) (m+1) cap')) (w.heap.size+1+1) 30 (.int .i64 0):=kept3 hr7 (by decide) hrow hgrow (by omega))
   have ep:PBox (w1.setCell ⟨BE,0,none⟩ (.slice (some ⟨g',0,none⟩) (m+1) cap')) w.heap.size a b:=kept3 hp (by decide) hrow hgrow (by omega)
   refine⟨hk2.from _,⟨fun h=>kept3 h (by decide) hrow hgrow (by omega),fun h=>kept3 h (by decide) hrow hgrow (by omega)⟩,⟨⟨_,hv2,?_,⟨_,_,_,rfl⟩⟩,ep,e6,e7⟩,hB.trans hb2,by simp;omega⟩
   have e1:2+(pre++[x]).length=m+1:=by simp;omega
   rw[e1]
   have e2:ints (a::b::(pre++[x]))=ints (a::b::pre)++[.int .i64 x]:=by simp[ints]
   rw[e2]
   exact hr2
 case stop =>
  rintro D c pre W hD hpre ⟨⟨hr6,hr7⟩,hB,rfl,hge⟩ hK
  gi_wp2
  refine⟨by simp,.inl ⟨_,_,rfl,run_takeDeferred hK,?_⟩⟩
  have c6:=cell_kept hr6.cell (grownBy_putObj' _ D (.deferred none)) (fun r e=>by cases e;exact⟨_,hK,rfl⟩)
  have c7:=cell_kept hr7.cell (grownBy_putObj' _ D (.deferred none)) (fun r e=>by cases e;exact⟨_,hK,rfl⟩)
  refine⟨.tuple #[.slice none 0 0,.int .i64 4],?_,hB.trans (belowK_b (w:=w) (Aad _) W D _ _ (by omega) hK rfl rfl),.inl ⟨Aap hge hpre,rfl⟩⟩
  simp[results,Tryz.results84,go_sem,c6,c7]
 case done =>
  rintro D xs W hD rfl ⟨⟨⟨v,hv,hrow,⟨A',k',c',rfl⟩⟩,hp,hr6,hr7⟩,hB,hlen⟩ hK
  have hc:=hv.cell
  have HSRT:=hI (Asg hm1 hb hab)
  obtain⟨m,hm⟩:∃m,2+(cuts a b mo).length=m:=⟨_,rfl⟩
  rw[hm] at hrow
  have hml:(a::b::cuts a b mo).length=m:=by simp;omega
  rcases hrow.2 with⟨_,h0⟩|⟨g,cap,cur,ev,hg,hgb,h1,h2,h3,h4⟩
  ·omega
  obtain⟨rfl,rfl,rfl⟩:A'=some ⟨g,0,none⟩∧k'=m∧c'=cap:=by simpa using ev
  have hcur:cur.toList.take k'=(a::b::cuts a b mo).map (Value.int .i64):=by rw[Nat.mul_one] at h4;exact h4
  have hH:Sort.Holds (Value.int .i64) W g 0 (a::b::cuts a b mo).toArray:=holds_of_blockI hgb (by rw[hml];exact hcur)
  have HS:=hI (Tryz.sortDays g 0 c' (a::b::cuts a b mo) W hH (Aab.1 hgb).1 (by omega))
  rw[HSRT.out,hml] at HS
  have hgD:g≠D:=fun e=>by subst e;rw[hgb] at hK;cases hK
  have hgE:g≠BE:=fun e=>by subst e;have:=hgb.symm.trans hv;cases this
  have hg6:g≠w.heap.size+1:=fun e=>by subst e;have:=hgb.symm.trans hr6;cases this
  have hg7:g≠w.heap.size+1+1:=fun e=>by subst e;have:=hgb.symm.trans hr7;cases this
  have hlE:(ends a b mo).length=k':=by unfold ends;simp;omega
  obtain⟨q,hq⟩:∃q,(pers a b mo).length=q:=⟨_,rfl⟩
  obtain rfl:k'=q+1:=by rw[←hq,Ajv];omega
  clear hH hrow
  gi_wp2_with fail
  refine⟨trivial,?_⟩
  refine (callsIn_wide.2 HS.out).mono ?_
  rintro e w2 ⟨rfl,nn,os,hw2⟩
  have hO:w2.heap[g]?=some (.cells (Sort.putCells (Value.int .i64) 0 (ends a b mo).toArray cur) 22 (0,0)):=by rw[hw2];exact heap_sortedI _ hgb
  have hT:(Sort.putCells (Value.int .i64) 0 (ends a b mo).toArray cur).toList.take (q+1)=ints (ends a b mo):=by
   have:=take_putCellsI cur (ends a b mo) (by rw[hlE,h3];omega)
   rw[hlE] at this;exact this
  have hG:W.grownBy w2 (some g):=by rw[hw2];exact grownBy_sortedI _
  have hkp:∀(k:Nat) (o:Obj),g≠k→W.heap[k]?=some o→w2.heap[k]?=some o:=fun k o hne h=>(hG.block k (Aab.1 h).1 (fun e=>hne (by cases e;rfl))).trans h
  generalize Sort.putCells (Value.int .i64) 0 (ends a b mo).toArray cur=cur2 at hO hT
  have HL:Hid (LB w a b mo BE g D cur2 (q+1) c' 0 (.slice none 0 0) w2) :=
   ⟨⟨rfl,.inl ⟨rfl,rfl⟩⟩,hO,hkp _ _ hgE hv,hkp _ _ hg6 hr6,hkp _ _ hg7 hr7,hkp _ _ hgD hK,hB.grown hG hB.size (fun k e=>by cases e;exact hg)⟩
  have HC:=hI (fun (W':World) (h:W'.heap[g]?=some (.cells cur2 22 (0,0)))=>Asd hT h)
  have hv2:Boxed w2 BE 184 (.slice (some ⟨g,0,none⟩) (q+1) c'):=hkp _ _ hgE hv
  have hc:=hv2.cell
  clear hO hT hG hkp hw2 hK hv hv2 hr6 hr7 hp hgb HS h3 h4 hcur
  gi_wp2
  gi_loopw [11,54] (fun v11 v54 wr=>∃(k:Nat) (A0:Option Addr) (c0:Nat),v11=.slice A0 k c0∧v54=.int .i64 (k:Int)∧k≤q∧Hid (LB w a b mo BE g D cur2 (q+1) c' k (.slice A0 k c0) wr)) (fun _ v54 _=>q-(intOf v54).toNat)
  case atStart=>exact⟨0,_,_,rfl,rfl,by omega,HL.out⟩
  case round =>
   obtain⟨k,A0,c0,rfl,rfl,hk,HB⟩:=hrel
   clear HL hc
   rcases Aam k q with hlt|hge
   ·obtain⟨x,hx⟩:∃x,(ends a b mo)[k]?=some x:=⟨_,Aae (by omega)⟩
    obtain⟨y,hy⟩:∃y,(ends a b mo)[k+1]?=some y:=⟨_,Aae (by omega)⟩
    have HPX:Hid ((pers a b mo)[k]?=some (x,y)):=by
     show (pers a b mo)[k]?=some (x,y)
     unfold pers
     rw[pairs_get,hx,hy]
    have HX:=hI hx
    have HY:=hI hy
    have hcx:decide ((k:Int)<(q:Int))=true:=Aav (by omega)
    have hq4:q≤400:=by omega
    clear hx hy
    gi_wp2
    have mixed:Tryz.prog.follows .mixedOrders=true:=by kernel_rfl
    refine wpIn_region_any mixed (Apd (BLJ w a b mo BE g D cur2 q c' k x y A0 c0 wr.drew _ _ _ _ _ _ _ _ _ _ _ _ _ _ _ _ _ _ _ _ _ _ _ _ _ _ _ _ _ _ _ _ _ _ _ _ _ _ _ _ _ _ _ _ _ _ _ _ _ _ _ _ _ _ _ _) ?stBL ?dnBL _ _ _ _ ⟨by simp,⟨_,_,_,_,_,_,_,_,_,_,_,_,_,_,rfl,fun h=>by simp at h,fun h=>by simp at h,fun h=>by simp at h,fun h=>by simp at h,fun h=>by simp at h,fun h=>by simp at h,fun h=>by simp at h,fun h=>by simp at h,fun h=>by simp at h,fun h=>by simp at h,fun h=>by simp at h,fun h=>by simp at h,fun _=>rfl,fun h=>by simp at h,fun h=>by simp at h,fun h=>by simp at h,HB.out.en,HB.out.bx,fun _=>rfl,fun h=>by simp at h,fun h=>by simp at h,fun h=>by simp at h⟩⟩ (by decide))
    case dnBL =>
     intro L a w' hj hr
     have all:=Apr hr hj.sz (by kernel_rfl)
     obtain⟨s11,s57,s58,s59,s60,s61,s62,s63,s64,s65,s66,s67,s68,s69,rfl,hv⟩:=hj.fr
     have HF:Hid (LBx w a b mo BE g D cur2 (q+1) c' (k+1) s11 w'):=hv.r13 (all 13 (by omega))
     clear all hv hj hr
     obtain⟨A1,c1,e1,HB1⟩:=HF.out
     subst e1
     gi_wp2
     go_roundw
     case rel=>exact⟨k+1,_,_,rfl,by go_num,by omega,HB1⟩
     case measure=>simp[intOf];omega
    case stBL =>
     intro L a w' hj i hi
     obtain⟨hun,o,ho,hall⟩:=mem_ready.1 hi
     have hoff:=Apg hun
     have hlt:=(Aab.1 ho).1
     simp at hlt
     obtain⟨s11,s57,s58,s59,s60,s61,s62,s63,s64,s65,s66,s67,s68,s69,rfl,hv⟩:=hj.fr
     have HV:=hI hv
     have HJ:=hI hj
     clear hv hj
     rcases (show i=0∨i=1∨i=2∨i=3∨i=4∨i=5∨i=6∨i=7∨i=8∨i=9∨i=10∨i=11∨i=12∨i=13 from by omega) with rfl|rfl|rfl|rfl|rfl|rfl|rfl|rfl|rfl|rfl|rfl|rfl|rfl|rfl
     ·simp at ho
      subst ho
      clear hall hi
      have h13:L.getD 13 false=false:=(Apm L 13).resolve_right (fun h=>Apk hoff (HV.out.qz h))
      refine wpOpIn_step rfl (fun K' hK'=>?_)
      have HK:=hI hK'
      clear hK'
      go_simp
      cases HV.out
      refine HK.out _ _ ⟨by simp[HJ.out.sz],⟨_,_,_,_,_,_,_,_,_,_,_,_,_,_,rfl,fun _=>HV.out.n11 h13,?_,?_,?_,?_,?_,?_,?_,?_,?_,?_,?_,fun h0=>HV.out.n11 (Apj h0),fun h=>Aph hun (HV.out.qz (Api h)),fun h=>Aph hun (HV.out.q12 (Api h)),fun h=>Aph hun (HV.out.q13 (Api h)),HV.out.ce,HV.out.cb,fun h0=>HV.out.w0 (Apj h0),fun h0 h1=>HV.out.w1 (Api h0) (Apj h1),?_,?_⟩⟩
      all_goals exact Um (by assumption)
     ·simp at ho
      subst ho
      clear hall hi
      have cb:=HV.out.cb.cell
      refine wpOpIn_step rfl (fun K' hK'=>?_)
      have HK:=hI hK'
      clear hK'
      go_simp
      cases HV.out
      refine HK.out _ _ ⟨by simp[HJ.out.sz],⟨_,_,_,_,_,_,_,_,_,_,_,_,_,_,rfl,?_,fun _=>rfl,?_,?_,?_,?_,?_,?_,?_,?_,?_,?_,fun h0=>HV.out.n11 (Apj h0),fun h=>Aph hun (HV.out.qz (Api h)),fun h=>Aph hun (HV.out.q12 (Api h)),fun h=>Aph hun (HV.out.q13 (Api h)),HV.out.ce,HV.out.cb,fun h0=>HV.out.w0 (Apj h0),fun h0 h1=>HV.out.w1 (Api h0) (Apj h1),?_,?_⟩⟩
      all_goals exact Um (by assumption)
     ·simp at ho
      subst ho
      clear hall hi
      refine wpOpIn_step rfl (fun K' hK'=>?_)
      have HK:=hI hK'
      clear hK'
      go_simp
      cases HV.out
      refine HK.out _ _ ⟨by simp[HJ.out.sz],⟨_,_,_,_,_,_,_,_,_,_,_,_,_,_,rfl,?_,?_,fun _=>rfl,?_,?_,?_,?_,?_,?_,?_,?_,?_,fun h0=>HV.out.n11 (Apj h0),fun h=>Aph hun (HV.out.qz (Api h)),fun h=>Aph hun (HV.out.q12 (Api h)),fun h=>Aph hun (HV.out.q13 (Api h)),HV.out.ce,HV.out.cb,fun h0=>HV.out.w0 (Apj h0),fun h0 h1=>HV.out.w1 (Api h0) (Apj h1),?_,?_⟩⟩
      all_goals exact Um (by assumption)
     ·simp at ho
      subst ho
      have h1x:L.getD 1 false=true:=hall {on:=1,ground:=Ground.data} (by simp) (by decide)
      have h2x:L.getD 2 false=true:=hall {on:=2,ground:=Ground.data} (by simp) (by decide)
      have H1:=hI h1x
      have H2:=hI h2x
      clear hall hi h1x h2x
      have e0:=HV.out.k1 H1.out
      subst e0
      have e1:=HV.out.k2 H2.out
      subst e1
      have hi1:(k:Int)<(q:Int)+1:=by omega
      refine wpOpIn_step rfl (fun K' hK'=>?_)
      have HK:=hI hK'
      clear hK'
      go_simp
      cases HV.out
      refine HK.out _ _ ⟨by simp[HJ.out.sz],⟨_,_,_,_,_,_,_,_,_,_,_,_,_,_,rfl,?_,?_,?_,fun _=>rfl,?_,?_,?_,?_,?_,?_,?_,?_,fun h0=>HV.out.n11 (Apj h0),fun h=>Aph hun (HV.out.qz (Api h)),fun h=>Aph hun (HV.out.q12 (Api h)),fun h=>Aph hun (HV.out.q13 (Api h)),HV.out.ce,HV.out.cb,fun h0=>HV.out.w0 (Apj h0),fun h0 h1=>HV.out.w1 (Api h0) (Apj h1),?_,?_⟩⟩
      all_goals exact Um (by assumption)
     ·simp at ho
      subst ho
      have h3x:L.getD 3 false=true:=hall {on:=3,ground:=Ground.data} (by simp) (by decide)
      have H3:=hI h3x
      clear hall hi h3x
      have e0:=HV.out.k3 H3.out
      subst e0
      have cx:=HC.out _ HV.out.ce k x HX.out
      refine wpOpIn_step rfl (fun K' hK'=>?_)
      have HK:=hI hK'
      clear hK'
      go_simp
      cases HV.out
      refine HK.out _ _ ⟨by simp[HJ.out.sz],⟨_,_,_,_,_,_,_,_,_,_,_,_,_,_,rfl,?_,?_,?_,?_,fun _=>rfl,?_,?_,?_,?_,?_,?_,?_,fun h0=>HV.out.n11 (Apj h0),fun h=>Aph hun (HV.out.qz (Api h)),fun h=>Aph hun (HV.out.q12 (Api h)),fun h=>Aph hun (HV.out.q13 (Api h)),HV.out.ce,HV.out.cb,fun h0=>HV.out.w0 (Apj h0),fun h0 h1=>HV.out.w1 (Api h0) (Apj h1),?_,?_⟩⟩
      all_goals exact Um (by assumption)
     ·simp at ho
      subst ho
      clear hall hi
      have cb:=HV.out.cb.cell
      refine wpOpIn_step rfl (fun K' hK'=>?_)
      have HK:=hI hK'
      clear hK'
      go_simp
      cases HV.out
      refine HK.out _ _ ⟨by simp[HJ.out.sz],⟨_,_,_,_,_,_,_,_,_,_,_,_,_,_,rfl,?_,?_,?_,?_,?_,fun _=>rfl,?_,?_,?_,?_,?_,?_,fun h0=>HV.out.n11 (Apj h0),fun h=>Aph hun (HV.out.qz (Api h)),fun h=>Aph hun (HV.out.q12 (Api h)),fun h=>Aph hun (HV.out.q13 (Api h)),HV.out.ce,HV.out.cb,fun h0=>HV.out.w0 (Apj h0),fun h0 h1=>HV.out.w1 (Api h0) (Apj h1),?_,?_⟩⟩
      all_goals exact Um (by assumption)
     ·simp at ho
      subst ho
      clear hall hi
      refine wpOpIn_step rfl (fun K' hK'=>?_)
      have HK:=hI hK'
      clear hK'
      go_simp
      cases HV.out
      refine HK.out _ _ ⟨by simp[HJ.out.sz],⟨_,_,_,_,_,_,_,_,_,_,_,_,_,_,rfl,?_,?_,?_,?_,?_,?_,fun _=>rfl,?_,?_,?_,?_,?_,fun h0=>HV.out.n11 (Apj h0),fun h=>Aph hun (HV.out.qz (Api h)),fun h=>Aph hun (HV.out.q12 (Api h)),fun h=>Aph hun (HV.out.q13 (Api h)),HV.out.ce,HV.out.cb,fun h0=>HV.out.w0 (Apj h0),fun h0 h1=>HV.out.w1 (Api h0) (Apj h1),?_,?_⟩⟩
      all_goals exact Um (by assumption)
     ·simp at ho
      subst ho
      have h6x:L.getD 6 false=true:=hall {on:=6,ground:=Ground.data} (by simp) (by decide)
      have H6:=hI h6x
      clear hall hi h6x
      have e0:=HV.out.k6 H6.out
      subst e0
      refine wpOpIn_step rfl (fun K' hK'=>?_)
      have HK:=hI hK'
      clear hK'
      go_simp
      cases HV.out
      refine HK.out _ _ ⟨by simp[HJ.out.sz],⟨_,_,_,_,_,_,_,_,_,_,_,_,_,_,rfl,?_,?_,?_,?_,?_,?_,?_,fun _=>by rw[show IntKind.i64.wrap ((k:Int)+1)=(k:Int)+1 from by rw[IntKind.wrap_i64];omega],?_,?_,?_,?_,fun h0=>HV.out.n11 (Apj h0),fun h=>Aph hun (HV.out.qz (Api h)),fun h=>Aph hun (HV.out.q12 (Api h)),fun h=>Aph hun (HV.out.q13 (Api h)),HV.out.ce,HV.out.cb,fun h0=>HV.out.w0 (Apj h0),fun h0 h1=>HV.out.w1 (Api h0) (Apj h1),?_,?_⟩⟩
      all_goals exact Um (by assumption)
     ·simp at ho
      subst ho
      have h5x:L.getD 5 false=true:=hall {on:=5,ground:=Ground.data} (by simp) (by decide)
      have h7x:L.getD 7 false=true:=hall {on:=7,ground:=Ground.data} (by simp) (by decide)
      have H5:=hI h5x
      have H7:=hI h7x
      clear hall hi h5x h7x
      have e0:=HV.out.k5 H5.out
      subst e0
      have e1:=HV.out.k7 H7.out
      subst e1
      refine wpOpIn_step rfl (fun K' hK'=>?_)
      have HK:=hI hK'
      clear hK'
      go_simp
      cases HV.out
      refine HK.out _ _ ⟨by simp[HJ.out.sz],⟨_,_,_,_,_,_,_,_,_,_,_,_,_,_,rfl,?_,?_,?_,?_,?_,?_,?_,?_,fun _=>rfl,?_,?_,?_,fun h0=>HV.out.n11 (Apj h0),fun h=>Aph hun (HV.out.qz (Api h)),fun h=>Aph hun (HV.out.q12 (Api h)),fun h=>Aph hun (HV.out.q13 (Api h)),HV.out.ce,HV.out.cb,fun h0=>HV.out.w0 (Apj h0),fun h0 h1=>HV.out.w1 (Api h0) (Apj h1),?_,?_⟩⟩
      all_goals exact Um (by assumption)
     ·simp at ho
      subst ho
      have h8x:L.getD 8 false=true:=hall {on:=8,ground:=Ground.data} (by simp) (by decide)
      have H8:=hI h8x
      clear hall hi h8x
      have e0:=HV.out.k8 H8.out
      subst e0
      have cx:=HC.out _ HV.out.ce (k+1) y HY.out
      refine wpOpIn_step rfl (fun K' hK'=>?_)
      have HK:=hI hK'
      clear hK'
      go_simp
      cases HV.out
      refine HK.out _ _ ⟨by simp[HJ.out.sz],⟨_,_,_,_,_,_,_,_,_,_,_,_,_,_,rfl,?_,?_,?_,?_,?_,?_,?_,?_,?_,fun _=>rfl,?_,?_,fun h0=>HV.out.n11 (Apj h0),fun h=>Aph hun (HV.out.qz (Api h)),fun h=>Aph hun (HV.out.q12 (Api h)),fun h=>Aph hun (HV.out.q13 (Api h)),HV.out.ce,HV.out.cb,fun h0=>HV.out.w0 (Apj h0),fun h0 h1=>HV.out.w1 (Api h0) (Apj h1),?_,?_⟩⟩
      all_goals exact Um (by assumption)
     ·simp at ho
      subst ho
      have h4x:L.getD 4 false=true:=hall {on:=4,ground:=Ground.data} (by simp) (by decide)
      have h9x:L.getD 9 false=true:=hall {on:=9,ground:=Ground.data} (by simp) (by decide)
      have H4:=hI h4x
      have H9:=hI h9x
      clear hall hi h4x h9x
      have e0:=HV.out.k4 H4.out
      subst e0
      have e1:=HV.out.k9 H9.out
      subst e1
      refine wpOpIn_step rfl (fun K' hK'=>?_)
      have HK:=hI hK'
      clear hK'
      go_simp
      cases HV.out
      refine HK.out _ _ ⟨by simp[HJ.out.sz],⟨_,_,_,_,_,_,_,_,_,_,_,_,_,_,rfl,?_,?_,?_,?_,?_,?_,?_,?_,?_,?_,fun _=>rfl,?_,fun h0=>HV.out.n11 (Apj h0),fun h=>Aph hun (HV.out.qz (Api h)),fun h=>Aph hun (HV.out.q12 (Api h)),fun h=>Aph hun (HV.out.q13 (Api h)),HV.out.ce,HV.out.cb,fun h0=>HV.out.w0 (Apj h0),fun h0 h1=>HV.out.w1 (Api h0) (Apj h1),?_,?_⟩⟩
      all_goals exact Um (by assumption)
     ·simp at ho
      subst ho
      have h10x:L.getD 10 false=true:=hall {on:=10,ground:=Ground.data} (by simp) (by decide)
      have H10:=hI h10x
      clear hall hi h10x
      have e0:=HV.out.k10 H10.out
      subst e0
      refine wpOpIn_step rfl (fun K' hK'=>?_)
      have HK:=hI hK'
      clear hK'
      go_simp
      cases HV.out
      refine HK.out _ _ ⟨by simp[HJ.out.sz],⟨_,_,_,_,_,_,_,_,_,_,_,_,_,_,rfl,?_,?_,?_,?_,?_,?_,?_,?_,?_,?_,?_,fun _=>by rw[HV.out.w0 hoff],fun h0=>HV.out.n11 (Apj h0),fun h=>Aph hun (HV.out.qz (Api h)),fun h=>Aph hun (HV.out.q12 (Api h)),fun h=>Aph hun (HV.out.q13 (Api h)),Ase HV.out.ce _,Ase HV.out.cb _,fun h=>(Apk h (Ape hun)).elim,fun _ _=>by rw[HV.out.w0 hoff],fun h=>(Apk hoff (HV.out.q12 (Api h))).elim,fun h=>(Apk hoff (HV.out.q12 (HV.out.q13 (Api h)))).elim⟩⟩
      all_goals exact Um (by assumption)
     ·simp at ho
      subst ho
      have h0x:L.getD 0 false=true:=hall {on:=0,ground:=Ground.data} (by simp) (by decide)
      have h11x:L.getD 11 false=true:=hall {on:=11,ground:=Ground.data} (by simp) (by decide)
      have H0:=hI h0x
      have H11:=hI h11x
      clear hall hi h0x h11x
      have e0:=HV.out.k0 H0.out
      subst e0
      have e1:=HV.out.k11 H11.out
      subst e1
      have eW:=HV.out.w1 H11.out hoff
      obtain⟨g1,c1,wn,hrun,hLB⟩:=LB.app HB.out.drew HPX.out hq4 (by omega)
      rw[←eW] at hrun
      refine wpOpIn_step rfl (fun K' hK'=>?_)
      have HK:=hI hK'
      clear hK'
      refine Asc hrun rfl _ _ rfl rfl rfl rfl ?_
      go_simp
      cases HV.out
      refine HK.out _ _ ⟨by simp[HJ.out.sz],⟨_,_,_,_,_,_,_,_,_,_,_,_,_,_,rfl,?_,?_,?_,?_,?_,?_,?_,?_,?_,?_,?_,?_,fun h0=>HV.out.n11 (Apj h0),fun h=>Aph hun (HV.out.qz (Api h)),fun _=>Aph hun H11.out,fun h=>Aph hun (HV.out.q13 (Api h)),hLB.en,hLB.bx,fun h=>(Apk (Apj h) H11.out).elim,fun _ h=>(Apk h (Ape hun)).elim,fun _=>⟨_,_,rfl,hLB⟩,fun h=>(Apk hoff (HV.out.q13 (Api h))).elim⟩⟩
      all_goals exact Um (by assumption)
     ·simp at ho
      subst ho
      have h12x:L.getD 12 false=true:=hall {on:=12,ground:=Ground.data} (by simp) (by decide)
      have h0x:L.getD 0 false=true:=hall {on:=0,ground:=Ground.phase} (by simp) (by decide)
      have H12:=hI h12x
      have H0:=hI h0x
      clear hall hi h12x h0x
      refine wpOpIn_step rfl (fun K' hK'=>?_)
      have HK:=hI hK'
      clear hK'
      go_simp
      cases HV.out
      refine HK.out _ _ ⟨by simp[HJ.out.sz],⟨_,_,_,_,_,_,_,_,_,_,_,_,_,_,rfl,?_,?_,?_,?_,?_,?_,?_,?_,?_,?_,?_,?_,fun h=>(Apk h (Ape hun)).elim,fun _=>Aph hun H0.out,fun h=>Aph hun (HV.out.q12 (Api h)),fun _=>Aph hun H12.out,HV.out.ce,HV.out.cb,fun h0=>HV.out.w0 (Apj h0),fun h0 h1=>HV.out.w1 (Api h0) (Apj h1),?_,fun _=>HV.out.w2 H12.out⟩⟩
      all_goals exact Um (by assumption)
   ·have hcx:decide ((k:Int)<(q:Int))=false:=Aaw (by omega)
    obtain rfl:k=q:=by omega
    have c6:=HB.out.r6.cell
    have f6:=HB.out.r6.frozen
    have c7:=HB.out.r7.cell
    have f7:=HB.out.r7.frozen
    gi_wp2
    have hK':=((KeepsOthers.setCell wr ⟨w.heap.size+1,0,none⟩ (.slice A0 k c0)).trans (KeepsOthers.setCell _ ⟨w.heap.size+1+1,0,none⟩ (.int .i64 0))).same D _ HB.out.dk rfl
    refine⟨by simp,.inl ⟨_,_,rfl,run_takeDeferred hK',?_⟩⟩
    have e6:Boxed ((wr.setCell ⟨w.heap.size+1,0,none⟩ (.slice A0 k c0)).setCell ⟨w.heap.size+1+1,0,none⟩ (.int .i64 0)) (w.heap.size+1) 55 (.slice A0 k c0):=(HB.out.r6.set _).other (by omega) _
    have e7:Boxed ((wr.setCell ⟨w.heap.size+1,0,none⟩ (.slice A0 k c0)).setCell ⟨w.heap.size+1+1,0,none⟩ (.int .i64 0)) (w.heap.size+1+1) 30 (.int .i64 0):=(HB.out.r7.other (by omega) (.slice A0 k c0)).set _
    have c6':=cell_kept e6.cell (grownBy_putObj' _ D (.deferred none)) (fun r e=>by cases e;exact⟨_,hK',rfl⟩)
    have c7':=cell_kept e7.cell (grownBy_putObj' _ D (.deferred none)) (fun r e=>by cases e;exact⟨_,hK',rfl⟩)
    have hB2:Below w.heap.size w ((wr.setCell ⟨w.heap.size+1,0,none⟩ (.slice A0 k c0)).setCell ⟨w.heap.size+1+1,0,none⟩ (.int .i64 0)):=(HB.out.be.setCell (p:=⟨w.heap.size+1,0,none⟩) (by simp) _).setCell (p:=⟨w.heap.size+1+1,0,none⟩) (by simp;omega) _
    have hrw:=HB.out.out
    rw[Aai (by omega)] at hrw
    have r1:=hrw.kept (grownBy_setCell' wr (w.heap.size+1) (.slice A0 k c0)) (.inr (Asa HB.out.r6 (by decide) hrw))
    have r2:=r1.kept (grownBy_setCell' _ (w.heap.size+1+1) (.int .i64 0)) (.inr (Asa (HB.out.r7.other (by omega) (.slice A0 k c0)) (by decide) r1))
    refine⟨.tuple #[.slice A0 k c0,.int .i64 0],?_,hB2.trans (belowK_b (w:=w) (Aad _) _ D _ _ (by omega) hK' rfl rfl),.inr ⟨hlen,_,rfl,?_⟩⟩
    ·simp[results,Tryz.results84,go_sem,c6',c7']
    ·rw[hq]
     exact ownsRow_putObj r2 _ hK' rfl
end Go.Proofs.YtcnmoobojdopgaaGreatDoor
