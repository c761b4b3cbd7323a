/-
  The walks of trancheref09.CheckPeriod,options,Build.
-/
import Derived.Test.YtcnmoobojdopgaaGreatDoorT34
import Derived.Laws.OwnMore
import Derived.Lib.AppendZeros
set_option linter.unusedVariables false
set_option linter.unusedSimpArgs false
set_option maxHeartbeats 16000000
set_option maxRecDepth 100000
namespace Go.Proofs.YtcnmoobojdopgaaGreatDoor
open Go.RowKit Tr Go.Shelf
theorem Awk(a b:Int)(ha:okDay a)(hb:okDay b)(hab:a<b)(w:World):Calls Tryz.prog 233 #[.agg #[.int .i64 a,.int .i64 b]] w fun e w'=>e=.returned (.int .i64 0)∧Below w.heap.size w w':=by
 have HA:=hI (fun W=>Ak7 a ha W)
 have HB:=hI (fun W=>Ak7 b hb W)
 have hB0:Below w.heap.size w (w.alloc (.cells #[.int .i64 a,.int .i64 b] 60)):=(Below.refl _ w).alloc (Aad _) _
 have hk:=Aaz w (.cells #[.int .i64 a,.int .i64 b] 60)
 obtain⟨c0,c1⟩:=Atb hk
 have t:decide (a≥b)=false:=Aay (by omega)
 have t':decide (b≤a)=false:=Aay (by omega)
 have HB0:=hI hB0
 clear ha hb hab hk hB0
 go_enter Tryz.func233,Tryz.ntmps233
 go_wp2_with fail
 refine (HA.out _).mono ?_
 rintro e w1 ⟨rfl,rfl⟩
 go_wp2_with fail
 refine (HB.out _).mono ?_
 rintro e w1 ⟨rfl,rfl⟩
 go_wp2_with fail
 go_ret
 exact⟨rfl,HB0.out⟩
theorem Awm(mo:Int)(h0:1≤mo)(h1:mo≤4800)(w:World):Calls Tryz.prog 234 #[.int .i64 mo,.int .i64 1] w fun e w'=>e=.returned (.int .i64 0)∧w=w':=by
 have c1:decide (mo<1)=false:=Aay (by omega)
 have c2:decide (mo > 4800)=false:=Aay (by omega)
 have c2':decide (4800<mo)=false:=Aay (by omega)
 clear h0 h1
 go_enter Tryz.func234,Tryz.ntmps234
 go_wp2_with fail
 go_ret
 exact⟨rfl,rfl⟩
structure RBI(w:World)(B:Nat)(a b f t:Int)(v:Value)(n:Nat)(xs:List Value)(W:World):Prop where
 p:W.heap[w.heap.size]?=some (.cells #[.int .i64 a,.int .i64 b] 60 (0,0))
 q:W.heap[B]?=some (.cells #[.int .i64 f,.int .i64 t] 60 (0,0))
 be:Below w.heap.size w W
 hB:w.heap.size<B
 row:W.ownsRow (w.heap.size+1) 60 2 v n xs
 ne:v.ownBlock≠some B
section
variable {w W:World} {B:Nat} {a b f t:Int} {v:Value} {n:Nat} {xs:List Value}
theorem RBI.lt(h:RBI w B a b f t v n xs W):B<W.heap.size:=(Aab.1 h.q).1
theorem Awn(W:World)(b:Nat)(u:Value):W.grownBy (W.setCell ⟨b,1,none⟩ u) (some b) :=
 ⟨rfl,rfl,rfl,by simp[World.setCell],fun k _ hne=>Below.heap_setCell _ _ _ k (fun e=>hne (by rw[e]))⟩
theorem RBI.setF(h:RBI w B a b f t v n xs W)(f':Int):RBI w B a b f' t v n xs (W.setCell ⟨B,0,none⟩ (.int .i64 f')):=by
 have hB:=h.hB
 refine⟨?_,?_,h.be.setCell (p:=⟨B,0,none⟩) (by show w.heap.size≤B;omega) _,hB,h.row.kept (grownBy_setCell' W B _) (.inr h.ne),h.ne⟩
 ·rw[Below.heap_setCell _ _ _ _ (by show w.heap.size≠B;omega)];exact h.p
 ·simp[World.setCell,Array.getElem?_modify,h.q]
theorem RBI.setT(h:RBI w B a b f t v n xs W)(t':Int):RBI w B a b f t' v n xs (W.setCell ⟨B,1,none⟩ (.int .i64 t')):=by
 have hB:=h.hB
 refine⟨?_,?_,h.be.setCell (p:=⟨B,1,none⟩) (by show w.heap.size≤B;omega) _,hB,h.row.kept (Awn W B _) (.inr h.ne),h.ne⟩
 ·rw[Below.heap_setCell _ _ _ _ (by show w.heap.size≠B;omega)];exact h.p
 ·simp[World.setCell,Array.getElem?_modify,h.q]
theorem Awp(l:List (Int×Int)):∀u∈persV l,u.oneCell'=true:=by
 intro u hu
 unfold persV at hu
 rw[List.mem_flatMap] at hu
 obtain⟨p,_,hp⟩:=hu
 simp[perV] at hp
 rcases hp with rfl|rfl<;>rfl
theorem RBI.app{g k c:Nat}{l:List (Int×Int)}(h:RBI w B a b f t (.slice (some ⟨g,0,none⟩) k c) k (persV l) W)(hk:k≤1000):
 ∃(g' c':Nat) (W':World),(Builtin.append_ #[55,55] 55 #[.slice (some ⟨W.heap.size,0,none⟩) 1 1,.slice (some ⟨g,0,none⟩) k c]).run Tryz.prog (W.alloc (.cells #[.int .i64 f,.int .i64 t] 60))=.ok (.slice (some ⟨g',0,none⟩) (k+1) c') W' ∧
  RBI w B a b f t (.slice (some ⟨g',0,none⟩) (k+1) c') (k+1) (persV ((f,t)::l)) W':=by
 obtain⟨i0,hi0,hz0,hz1,hz2⟩:=info_parts Tryz.infoPer
 have hlt:=h.lt
 have hwB:=h.hB
 have h1:(W.alloc (.cells #[.int .i64 f,.int .i64 t] 60)).ownsRow W.heap.size 60 2 (.slice (some ⟨W.heap.size,0,none⟩) 1 1) 1 [.int .i64 f,.int .i64 t]:=World.ownsRow_lit W #[.int .i64 f,.int .i64 t] 1 (Aad _) (by unfold maxLen;omega) rfl
 have h2:=h.row.alloc (.cells #[.int .i64 f,.int .i64 t] 60)
 obtain⟨v',W',r1,r2,r3,_⟩:=run_append_own (P:=Tryz.prog) (W.alloc (.cells #[.int .i64 f,.int .i64 t] 60)) W.heap.size 55 55 60 i0 _ 2 16 Tryz.underlying55 hi0 hz0 hz1 hz2 rfl (by decide) _ 1 _ h1 ⟨g,0,none⟩ k c (persV l) h2.1 (h2.cells rfl) (Awp l) (by unfold maxLen;omega) (by omega) (by simp)
 have hp1:(W.alloc (.cells #[.int .i64 f,.int .i64 t] 60)).heap[w.heap.size]?=some (.cells #[.int .i64 a,.int .i64 b] 60 (0,0)):=Arp h.p _
 have hq1:(W.alloc (.cells #[.int .i64 f,.int .i64 t] 60)).heap[B]?=some (.cells #[.int .i64 f,.int .i64 t] 60 (0,0)):=Arp h.q _
 have hs:(W.alloc (.cells #[.int .i64 f,.int .i64 t] 60)).heap.size=W.heap.size+1:=by simp
 have hgr:∀j,j<W.heap.size→W'.heap[j]?=(W.alloc (.cells #[.int .i64 f,.int .i64 t] 60)).heap[j]?:=fun j hj=>r3.block j (by omega) (fun e=>by simp[Value.ownBlock] at e;omega)
 have hb1:Below w.heap.size w (W.alloc (.cells #[.int .i64 f,.int .i64 t] 60)):=h.be.alloc h.be.size _
 rw[Nat.add_comm 1 k] at r2
 obtain⟨g',c',rfl⟩:=ownsRow_succ r2
 have hg':=(r2.lt g' rfl).1
 refine⟨g',c',W',r1,⟨(hgr _ (by omega)).trans hp1,(hgr _ (by omega)).trans hq1,hb1.grown r3 hb1.size (fun j hj=>by simp[Value.ownBlock] at hj;omega),hwB,Atq r2 (by omega),fun e=>by simp[Value.ownBlock] at e;omega⟩⟩
end
theorem Awq(a b mo:Int)(ha:okDay a)(hb:okDay b)(hab:a<b)(hm1:1≤mo)(hm2:mo≤12)(w:World):
 Calls Tryz.prog 175 #[.agg #[.int .i64 a,.int .i64 b],.int .i64 mo,.int .i64 1] w (Atj w a b mo):=by
 have HCP:=hI (fun W=>Awk a b ha hb hab W)
 have HOP:=hI (fun W=>Awm mo hm1 (by omega) W)
 have HAM:=hI (fun (n:Int) (h0:-100000000≤n) (h1:n≤100000000) W=>Av9 b n hb h0 h1 W)
 have HMO:=hI (And.intro hm1 hm2)
 obtain⟨Q,hQ⟩:∃Q,Atj w a b mo=Q:=⟨_,rfl⟩
 rw[hQ]
 have HQ:=hI hQ
 obtain⟨W0,hW0⟩:∃W0,w.alloc (.cells #[.int .i64 a,.int .i64 b] 60)=W0:=⟨_,rfl⟩
 have hB0:Below w.heap.size w W0:=by rw[←hW0];exact (Below.refl _ w).alloc (Aad _) _
 have hk0:W0.heap[w.heap.size]?=some (.cells #[.int .i64 a,.int .i64 b] 60 (0,0)):=by rw[←hW0];exact Aaz w _
 obtain⟨c0,c1⟩:=Atb hk0
 clear hQ ha hb hab hm1 hm2
 go_enter Tryz.func175,Tryz.ntmps175
 go_wp2_with fail
 try rw[hW0]
 refine (HCP.out _).mono ?_
 rintro e w1 ⟨rfl,x1⟩
 have hk1:=bkeep x1 hk0
 have hB1:=hB0.trans (x1.mono hB0.size)
 have hs1:w.heap.size<w1.heap.size:=(Aab.1 hk1).1
 have hne1:w1.heap.size≠w.heap.size:=by omega
 clear c0 c1 x1 hk0 hB0 hW0 HCP
 go_wp2_with fail
 refine (HOP.out _).mono ?_
 rintro e w2 ⟨rfl,rfl⟩
 obtain⟨c0,c1⟩:=Atb hk1
 have hR0:RBI w (w1.heap.size+1) a b a (headL a b mo 0) (.slice (some ⟨w1.heap.size,0,none⟩) 0 0) 0 (persV (pairs (backL a b mo 0))) ((w1.alloc (.cells #[] 60)).alloc (.cells #[.int .i64 a,.int .i64 b] 60)):=by
  have hs:(w1.alloc (.cells #[] 60)).heap.size=w1.heap.size+1:=by simp
  refine⟨Arp (Arp hk1 _) _,?_,?_,by omega,?_,?_⟩
  ·have:=Aaz (w1.alloc (.cells #[] 60)) (.cells #[.int .i64 a,.int .i64 b] 60)
   rw[hs] at this
   exact this
  ·have h1:Below w.heap.size w (w1.alloc (.cells #[] 60)):=hB1.alloc hB1.size _
   exact h1.alloc h1.size _
  ·have h1:(w1.alloc (.cells #[] 60)).ownsRow (w.heap.size+1) 60 2 (.slice (some ⟨w1.heap.size,0,none⟩) 0 0) 0 []:=World.ownsRow_made w1 #[] 0 (by omega) (by unfold maxLen;omega) rfl
   exact h1.alloc _
  ·intro e;simp[Value.ownBlock] at e
 have HR0:=hI hR0
 obtain⟨B,hBB⟩:∃B,w1.heap.size+1=B:=⟨_,rfl⟩
 clear hR0 hk1 hB1
 go_wp2_with fail
 rw[hBB] at HR0
 try simp only[hBB]
 generalize (w1.alloc (.cells #[] 60)).alloc (.cells #[.int .i64 a,.int .i64 b] 60)=W1 at HR0 ⊢
 generalize w1.heap.size=g0 at HR0 ⊢
 clear hs1 hne1 c0 c1 HOP hBB
 go_loopw [9,11] (fun v9 v11 wr=>∃j:Nat,v11=.int .i64 ((j+1:Nat):Int)∧j≤(cuts a b mo).length∧j≤400∧(∃g c,v9=.slice (some ⟨g,0,none⟩) j c)∧∃f,RBI w B a b f (headL a b mo j) v9 j (persV (pairs (backL a b mo j))) wr) (fun _ v11 _=>402-(intOf v11).toNat)
 case atStart=>exact⟨0,rfl,Nat.zero_le _,by omega,⟨_,_,rfl⟩,_,HR0.out⟩
 case round =>
  obtain⟨j,rfl,hj,hj4,⟨g,c,rfl⟩,f,hR⟩:=hrel
  have HR:=hI hR
  have HJ:=hI hj
  clear hR HR0 hj
  obtain⟨K,hK⟩:∃K:Int,((j+1:Nat):Int)=K:=⟨_,rfl⟩
  rw[hK]
  obtain⟨Y,hY⟩:∃Y,K*mo=Y:=⟨_,rfl⟩
  have hn2:-K*mo=-Y:=by rw[Int.neg_mul,hY]
  have hYb:0≤Y∧Y≤5000:=by
   obtain⟨m1,m2⟩:=HMO.out
   have h1:K*mo≤K*12:=Int.mul_le_mul_of_nonneg_left m2 (by omega)
   have h2:0≤K*mo:=Int.mul_nonneg (by omega) (by omega)
   omega
  have hst:=Auf a b mo (j+1)
  rw[hK,hY] at hst
  obtain⟨x,hx⟩:∃x,addX b (-Y)=x:=⟨_,rfl⟩
  obtain⟨cc,hcc⟩:∃cc,addC b (-Y)=cc:=⟨_,rfl⟩
  have HA1:=hI (fun W=>HAM.out (-Y) (by omega) (by omega) W)
  rw[hx,hcc] at hst HA1
  have HKK:=hI hK
  have hK4:1≤K∧K≤401:=by omega
  obtain⟨k4a,k4b⟩:=hK4
  obtain⟨yb0,yb1⟩:=hYb
  obtain⟨D,hD⟩:∃D,cutC a b mo (j+1)=D:=⟨_,rfl⟩
  have hst2:(cutAt a b mo (j+1)=some x∧cc=0∧a<x∧D=x)∨(cutAt a b mo (j+1)=none∧(cc≠0∨(cc=0∧x≤a))∧D=a):=by
   rcases hst with⟨h1,h2,h3⟩|⟨h1,h2⟩
   ·exact .inl ⟨h1,h2,h3,by rw[←hD];exact (Aud h1).1⟩
   ·refine .inr ⟨h1,?_,by rw[←hD];exact Aue h1⟩
    by_cases hc:cc=0
    ·exact .inr ⟨hc,h2.resolve_left (fun h=>h hc)⟩
    ·exact .inl hc
  have HST:=hI hst2
  obtain⟨xb,hxb⟩:∃xb:Bool,(xb=false∧cc=0∧a<x∧D=x)∨(xb=true∧(cc≠0∨(cc=0∧x≤a))∧D=a):=by
   rcases hst2 with⟨_,h2,h3,h4⟩|⟨_,h2,h3⟩
   ·exact⟨false,.inl ⟨rfl,h2,h3,h4⟩⟩
   ·exact⟨true,.inr ⟨rfl,h2,h3⟩⟩
  obtain⟨c0,c1⟩:=Atb HR.out.p
  clear hst hst2 hx hcc hD HAM hK
  go_wp2_with fail
  refine (HA1.out _).mono ?_
  rintro e w4 ⟨rfl,rfl⟩
  go_upto_region 12 with fail
  go_cut [48] (fun v48 wx=>v48=.bool xb∧wr=wx)
  case first =>
   rcases hxb with⟨rfl,rfl,hlt,rfl⟩|⟨rfl,hc|⟨rfl,hle⟩,rfl⟩
   ·have t1:decide (D≤a)=false:=Aay (by omega)
    go_wp2_with fail
    go_meet
    exact⟨rfl,rfl⟩
   ·have t1:(cc==0)=false:=Aaj.2 hc
    have t2:(cc != 0)=true:=by rw[bne,t1];rfl
    clear hc
    go_wp2_with fail
    go_meet
    exact⟨rfl,rfl⟩
   ·have t1:decide (x≤D)=true:=Aax hle
    go_wp2_with fail
    go_meet
    exact⟨rfl,rfl⟩
  case rest =>
  obtain⟨rfl,rfl⟩:=hcut
  go_upto_if 48 with fail
  go_cut [12] (fun v12 wx=>v12=.int .i64 D∧wr=wx)
  case first =>
   rcases hxb with⟨rfl,rfl,hlt,rfl⟩|⟨rfl,_,rfl⟩
   all_goals
    go_wp2_with fail
    go_meet
    exact⟨rfl,rfl⟩
  case rest =>
  obtain⟨rfl,rfl⟩:=hcut
  clear c0 c1 HA1 hn2 hY hxb
  have f0:=Aaf HR.out.q 0
  have q0:=Aaa HR.out.q 0
  simp at f0 q0
  go_upto_region 15 with fail
  obtain⟨W2,hW2⟩:∃W2,wr.setCell ⟨B,0,none⟩ (.int .i64 D)=W2:=⟨_,rfl⟩
  have HR2:Hid (RBI w B a b D (headL a b mo j) (.slice (some ⟨g,0,none⟩) j c) j (persV (pairs (backL a b mo j))) W2):=by rw[←hW2];exact HR.out.setF D
  rw[hW2]
  clear hW2 HR f0 q0
  obtain⟨q0,q1⟩:=Atb HR2.out.q
  obtain⟨t,ht⟩:∃t,headL a b mo j=t:=⟨_,rfl⟩
  rw[ht] at HR2 q1
  obtain⟨g',c',W3,r1,hR3⟩:=HR2.out.app (by omega)
  have HPR:Hid (pairs (D::backL a b mo j)=(D,t)::pairs (backL a b mo j)):=by show _=_;rw[Aui,ht]
  rw[←HPR.out] at hR3
  have HR3:=hI hR3
  obtain⟨M,hM⟩:∃M,j+1=M:=⟨_,rfl⟩
  rw[hM] at r1 HR3
  obtain⟨p0,p1⟩:=Atb HR3.out.p
  have f1:=Aaf HR3.out.q 1
  have s1:=Aaa HR3.out.q 1
  simp at f1 s1
  clear hR3 HPR
  rcases HST.out with⟨hcs,_,hlt,rfl⟩|⟨hcn,_,rfl⟩
  ·have hnx:=Akf (a:=a) (b:=b) HMO.out.1 HJ.out
   rw[hcs] at hnx
   have hjl:j<(cuts a b mo).length:=(Aak.1 hnx).1
   have t1:(D==a)=false:=Aaj.2 (by omega)
   have HBK:Hid (backL a b mo M=D::backL a b mo j∧headL a b mo M=D):=by rw[←hM];exact⟨Aug hnx,Auh hnx⟩
   have HJL:=hI hjl
   have HW4:Hid (RBI w B a b D D (.slice (some ⟨g',0,none⟩) M c') M (persV (pairs (D::backL a b mo j))) (W3.setCell ⟨B,1,none⟩ (.int .i64 D))):=HR3.out.setT D
   clear hcs hlt hnx hjl
   by_cases h4:M≤400
   ·have t2:decide ((M:Int) > 400)=false:=Aay (by omega)
    have t3:decide ((400:Int)<(M:Int))=false:=Aay (by omega)
    have t4:decide (400<M)=false:=Aay (by omega)
    clear ht
    go_wp2_with (at_builtin;refine Lib.wpList_append_run _ rfl _ _ _ _ rfl _ _ rfl rfl _ _ r1 ?_)
    go_roundw
    case rel =>
     refine⟨M,by rw[←HKK.out,←hM];go_num,by have:=HJL.out;omega,h4,⟨_,_,rfl⟩,D,?_⟩
     rw[HBK.out.1,HBK.out.2]
     exact HW4.out
    case measure=>simp[intOf];omega
   ·have t2:decide ((M:Int) > 400)=true:=Aax (by omega)
    have t3:decide ((400:Int)<(M:Int))=true:=Aax (by omega)
    have t4:decide (400<M)=true:=Aax (by omega)
    clear ht
    go_wp2_with (at_builtin;refine Lib.wpList_append_run _ rfl _ _ _ _ rfl _ _ rfl rfl _ _ r1 ?_)
    rw[←HQ.out]
    exact⟨HW4.out.be,.inl ⟨by have:=HJL.out;omega,rfl⟩⟩
  ·have hnx:=Akf (a:=D) (b:=b) HMO.out.1 HJ.out
   rw[hcn] at hnx
   have hjl:j=(cuts D b mo).length:=by
    have h1:=List.getElem?_eq_none_iff.1 hnx
    have h2:=HJ.out
    omega
   have HJL:=hI hjl
   have HPE:Hid (pairs (D::backL D b mo j)=pers D b mo):=by rw[hjl];exact Auj D b mo
   have HLE:Hid ((pers D b mo).length=M):=by show _=_;rw[Akk,←hjl,hM]
   clear hcn hnx hjl
   by_cases h4:M≤400
   ·have t2:decide ((M:Int) > 400)=false:=Aay (by omega)
    have t3:decide ((400:Int)<(M:Int))=false:=Aay (by omega)
    have t4:decide (400<M)=false:=Aay (by omega)
    clear ht
    go_wp2_with (at_builtin;refine Lib.wpList_append_run _ rfl _ _ _ _ rfl _ _ rfl rfl _ _ r1 ?_)
    rw[←HQ.out]
    refine⟨HR3.out.be,.inr ⟨by have:=HJL.out;omega,_,rfl,?_⟩⟩
    have h5:=HR3.out.row
    rw[HPE.out] at h5
    rw[HLE.out]
    exact Atq h5 (by omega)
   ·have t2:decide ((M:Int) > 400)=true:=Aax (by omega)
    have t3:decide ((400:Int)<(M:Int))=true:=Aax (by omega)
    have t4:decide (400<M)=true:=Aax (by omega)
    clear ht
    go_wp2_with (at_builtin;refine Lib.wpList_append_run _ rfl _ _ _ _ rfl _ _ rfl rfl _ _ r1 ?_)
    rw[←HQ.out]
    exact⟨HR3.out.be,.inl ⟨by have:=HJL.out;omega,rfl⟩⟩
end Go.Proofs.YtcnmoobojdopgaaGreatDoor
