/-
  The walk of lot.Total.
-/
import Derived.Test.YtcmgmemffncbhabGreatDoorT20
set_option linter.unusedVariables false
set_option linter.unusedSimpArgs false
set_option maxHeartbeats 16000000
set_option maxRecDepth 100000
namespace Go.Proofs.YtcmgmemffncbhabGreatDoor
open Go.RowKit Tr Go.Shelf
attribute [local go_sem] Oper.semAt_some
def sumBy(f:SLot→Int)(ls:List SLot):Int:=ls.foldl (fun n l=>n+f l) 0
theorem sumBy_snoc(f:SLot→Int)(ls:List SLot)(x:SLot):sumBy f (ls++[x])=sumBy f ls+f x:=by simp[sumBy]
def qtyOf(x:SLot):Int:=vl x.1.qty
def costOf(x:SLot):Int:=vl x.1.cost
theorem sumBy_bd{f:SLot→Int}{K:Nat}(hf:∀x,(f x).natAbs<K)(ls:List SLot):(sumBy f ls).natAbs≤ls.length*K:=by
 have:∀(ls:List SLot) (n:Int),(ls.foldl (fun n l=>n+f l) n).natAbs≤n.natAbs+ls.length*K:=by
  intro ls
  induction ls with
  | nil=>intro n;simp
  | cons x r ih =>
    intro n
    simp only[List.foldl_cons,Aa0]
    have h1:=ih (n+f x)
    have h2:=hf x
    rw[Nat.add_mul]
    omega
 simpa[sumBy] using this ls 0
theorem sumBy_size{f:SLot→Int}{K:Nat}(hf:∀x,(f x).natAbs<10^K)(ls:List SLot)(hl:ls.length<10^7):(I (sumBy f ls)).size≤7+K+1:=by
 refine Aen (k:=7+K) ?_
 have h:=sumBy_bd hf ls
 refine Nat.lt_of_le_of_lt h ?_
 rw[Nat.pow_add]
 exact Nat.mul_lt_mul_of_pos_right hl (Nat.pow_pos (by omega))
theorem qty_lt{K:Nat}(hK:K=1000)(x:SLot):(qtyOf x).natAbs<10^K:=Aah (vl_lt _) (Aep (by rw[hK];exact x.2.2.2.1))
theorem cost_lt{K:Nat}(hK:K=1000)(x:SLot):(costOf x).natAbs<10^K:=Aah (vl_lt _) (Aep (by rw[hK];exact x.2.2.2.2.1))
structure TotJ(W:World)(Bq Bc Bx:Nat)(q c xq xc:ByteArray)(v0 v1 v11 v12:Value)(L:Array Bool)(a:Act)(w:World):Prop where
 sz:L.size=10
 fr:∃s13 s14 s15 s16 s17 s18 s19 s20:Value,a={tmps:=#[v0,v1,undef,undef,Value.string {data:=#[]},Value.string {data:=#[]},Value.pointer (some {block:=Bq,off:=0}),Value.pointer (some {block:=Bc,off:=0}),Value.pointer (some {block:=Bx,off:=0}),v0,v1,v11,v12,s13,s14,s15,s16,s17,s18,s19,s20,undef,undef],defers:=[]}∧(L.getD 0 false=true→s13=.string q)∧(L.getD 1 false=true→s14=.pointer (some ⟨Bx,4,none⟩))∧(L.getD 2 false=true→s15=.string xq)∧(L.getD 3 false=true→s16=.string (I (vl q+vl xq)))∧(L.getD 4 false=true→s17=.string c)∧(L.getD 5 false=true→s18=.pointer (some ⟨Bx,5,none⟩))∧(L.getD 6 false=true→s19=.string xc)∧(L.getD 7 false=true→s20=.string (I (vl c+vl xc)))
 d7:L.getD 7 false=true→L.getD 0 false=true∧L.getD 2 false=true∧L.getD 3 false=true∧L.getD 4 false=true∧L.getD 6 false=true
 d8:L.getD 8 false=true→L.getD 7 false=true
 d9:L.getD 9 false=true→L.getD 8 false=true
 d3:L.getD 3 false=true→L.getD 0 false=true∧L.getD 2 false=true
 wa:L.getD 8 false=false→Below W.heap.size W w
 wb:L.getD 8 false=true→L.getD 9 false=false→∃wn,Below W.heap.size W wn∧w=wn.setCell ⟨Bq,0,none⟩ (.string (I (vl q+vl xq)))
 wc:L.getD 9 false=true→∃wn,Below W.heap.size W wn∧w=(wn.setCell ⟨Bq,0,none⟩ (.string (I (vl q+vl xq)))).setCell ⟨Bc,0,none⟩ (.string (I (vl c+vl xc)))
theorem lTotal_any(n₀:Nat)(A:Option Addr)(ls:List SLot)(c:Nat)(s:ByteArray)(w:World)(hlen:ls.length≤1000000)(hR:RdB n₀ w A ls)(hnw:n₀≤w.heap.size)(ht:Tabs w):
 Calls Tryz.prog 40 #[.slice A ls.length c,.string s] w fun e w'=>e=.returned (.tuple #[.string (I (sumBy qtyOf (ownL ls s))),.string (I (sumBy costOf (ownL ls s)))])∧Below w.heap.size w w':=by
 have HT:=hI ht
 clear ht
 refine (callsIn_wide (n:=6)).1 ?_
 refine callsIn_of_wp_marks Tryz.func40 rfl trivial ?_ rfl
 simp only[Tryz.ntmps40,List.size_toArray,Aa0,List.length_nil,Nat.reduceAdd,Nat.reduceSub,Array.replicate_succ,Array.replicate_zero,List.push_toArray,List.append_toArray,List.nil_append,List.cons_append]
 gi_wp2_with fail
 refine⟨trivial,?_⟩
 refine (callsIn_wide.2 (Aka A ls.length c s _)).mono ?_
 rintro e w1 ⟨rfl,hw1⟩
 gi_wp2_with fail
 have b1:Below w.heap.size w w1:=by rw[hw1];exact ((((Below.refl _ w).alloc (Aad _) _).alloc (by simp) _).alloc (by simp;omega) _).alloc (by simp;omega) _
 have hsz:w1.heap.size=w.heap.size+4:=by rw[hw1];simp
 have kq:Boxed w1 w.heap.size 23 (.string (I 0)):=by rw[hw1];exact (((Boxed.new w _ _).alloc _).alloc _).alloc _
 have kc:Boxed w1 (w.heap.size+1) 23 (.string (I 0)):=by
  rw[hw1]
  have:=Boxed.new (w.alloc (.cells #[.string ⟨#[]⟩] 23)) 23 (.string ⟨#[]⟩)
  rw[World.size_alloc] at this
  exact (this.alloc _).alloc _
 have k0:Boxed w1 (w.heap.size+1+1) 22 (.slice A ls.length c):=by
  rw[hw1]
  have:=Boxed.new ((w.alloc (.cells #[.string ⟨#[]⟩] 23)).alloc (.cells #[.string ⟨#[]⟩] 23)) 22 (.slice A ls.length c)
  rw[World.size_alloc,World.size_alloc] at this
  exact this.alloc _
 have k1:Boxed w1 (w.heap.size+1+1+1) 9 (.string s):=by
  rw[hw1]
  have:=Boxed.new (((w.alloc (.cells #[.string ⟨#[]⟩] 23)).alloc (.cells #[.string ⟨#[]⟩] 23)).alloc (.cells #[.slice A ls.length c] 22)) 9 (.string s)
  rw[World.size_alloc,World.size_alloc,World.size_alloc] at this
  exact this
 rw[←hw1]
 clear hw1
 obtain⟨K,hK⟩:∃K,K=1000:=⟨_,rfl⟩
 refine wpIn_rangeFunc_ownH rfl (by omega) (gf:=118) (lb:=#[.pointer (some ⟨w.heap.size+1+1,0,none⟩),.pointer (some ⟨w.heap.size+1+1+1,0,none⟩)]) rfl trivial (enters_of Tryz.func118 (by kernel_rfl) rfl)
  (Aj9 (6-1) n₀ (w.heap.size+1+1) (w.heap.size+1+1+1) A ls c s w1 (by omega) hlen k0 k1 (hR.below (b1.mono hnw)) (by omega)) KpB.trans (fun W l o o' hl h _ _=>KpB.put (N:=w1.heap.size) (by omega) (by omega) W l o o' hl h) (Below.refl _ _) (fun _=>rfl)
  (fun pre W=>(Boxed W w.heap.size 23 (.string (I (sumBy qtyOf pre)))∧Boxed W (w.heap.size+1) 23 (.string (I (sumBy costOf pre))))∧Below w.heap.size w W) (fun _ _ _=>False)
  (OwnFrom.and (OwnFrom.and ((boxed_own _ _ _).from _) ((boxed_own _ _ _).from _)) (ownFrom_below (Aad _) (by omega)))
  (fun _=>ownFrom_pure _ _) ⟨⟨kq,kc⟩,b1⟩
  (fun x a' W=>∃Bx,w.heap.size+1<Bx∧LotBox W Bx x.1∧a'={tmps:=#[Value.slice A ls.length c,Value.string s,undef,undef,Value.string {data:=#[]},Value.string {data:=#[]},Value.pointer (some {block:=w.heap.size,off:=0}),Value.pointer (some {block:=w.heap.size+1,off:=0}),Value.pointer (some {block:=Bx,off:=0}),Value.slice A ls.length c,Value.string s,Value.func (Fn.func 118) #[] #[Value.pointer (some {block:=w.heap.size+1+1,off:=0}),Value.pointer (some {block:=w.heap.size+1+1+1,off:=0})],x.1.enc,undef,undef,undef,undef,undef,undef,undef,undef,undef,undef],defers:=[]})
  (fun x a'=>?hAx) ?assign ?body ?done ?stop
 case hAx =>
  rintro _ X Y row ⟨Bx,hB,hx,rfl⟩ hg hr
  refine⟨Bx,hB,(hg.block Bx hx.lt (fun e=>?_)).trans hx,rfl⟩
  obtain⟨_,o,ho,hc⟩:=hr Bx e.symm
  rw[show X.heap[Bx]?=_ from hx] at ho;cases ho;cases hc
 case assign =>
  rintro l pre x W K ⟨⟨hq,hc⟩,hB⟩ hK
  have hlt:=hc.lt
  obtain⟨W5,hW5⟩:∃W5,W.alloc (.cells x.1.cells 38)=W5:=⟨_,rfl⟩
  have b5:Below W.heap.size W W5:=by rw[←hW5];exact (Below.refl _ W).alloc (Aad _) _
  have HF:Hid (LotBox W5 W.heap.size x.1∧KeepsFrom w1.heap.size W W5∧KpB n₀ (w.heap.size+1+1+1) W W5∧Boxed W5 w.heap.size 23 (.string (I (sumBy qtyOf pre)))∧Boxed W5 (w.heap.size+1) 23 (.string (I (sumBy costOf pre)))∧Below w.heap.size w W5):=by
   refine⟨by rw[←hW5];exact Aa5 W _,by rw[←hW5];exact (KeepsOthers.alloc _ _).from _,KpB.below b5 (by have:=hB.size;omega),(b5.block _ hq.lt).trans hq,(b5.block _ hc.lt).trans hc,hB.trans (b5.mono hB.size)⟩
  clear b5
  dsimp only[encL,Lot.enc,Lot.cells] at hW5 ⊢
  gi_wp2
  obtain⟨f1,f2,f3,f4,f5,f6⟩:=HF.out
  exact hK _ _ f2 f3 ⟨⟨f4,f5⟩,f6⟩ ⟨W.heap.size,hlt,f1,rfl⟩
 case body =>
  rintro l pre x a' W hl ⟨r,hr⟩ ⟨⟨hq,hc⟩,hB⟩ ⟨Bx,hBx,bX,rfl⟩ hlt
  have mixed:Tryz.prog.follows .mixedOrders=true:=by kernel_rfl
  have hpl:pre.length<10^7:=by omega
  have zq:=sumBy_size (qty_lt hK) pre hpl
  have zc:=sumBy_size (cost_lt hK) pre hpl
  have zxq:x.1.qty.size≤1000:=x.2.2.2.1
  have zxc:x.1.cost.size≤1000:=x.2.2.2.2.1
  have HQ:=hI hq
  have HC:=hI hc
  have HX:=hI bX
  have HB:=hI hB
  have cq:W.drew.cell? ⟨w.heap.size,0,none⟩=some (.string (I (sumBy qtyOf pre))):=hq.cell
  have cc:W.drew.cell? ⟨w.heap.size+1,0,none⟩=some (.string (I (sumBy costOf pre))):=hc.cell
  have x4:W.drew.cell? ⟨Bx,4,none⟩=some (.string x.1.qty):=Aaa (show W.drew.heap[Bx]?=_ from bX) 4
  have x5:W.drew.cell? ⟨Bx,5,none⟩=some (.string x.1.cost):=Aaa (show W.drew.heap[Bx]?=_ from bX) 5
  have hN:Below W.heap.size W W.drew:=(Below.refl _ W).drew
  have HADD:Hid (∀(a b:ByteArray) (W':World),a.size≤2000→b.size≤2000→Below W.heap.size W W'→CallsIn (Fence.wide.inRound l) (6-1-1-1) Tryz.prog 29 #[.string a,.string b] W' fun e wn=>e=.returned (.string (I (vl a+vl b)))∧Below W.heap.size W wn∧wn.cell? ⟨w.heap.size,0,none⟩=some (.string (I (sumBy qtyOf pre)))∧wn.cell? ⟨w.heap.size+1,0,none⟩=some (.string (I (sumBy costOf pre)))∧wn.frozen? ⟨w.heap.size,0,none⟩=false∧wn.frozen? ⟨w.heap.size+1,0,none⟩=false∧wn.cell? ⟨Bx,4,none⟩=some (.string x.1.qty)∧wn.cell? ⟨Bx,5,none⟩=some (.string x.1.cost)):=by
   intro a b W' ha hb hN
   refine (CallsIn.inRound l (callsIn_wide.2 (Agj a b W' (by omega) (by omega) (HT.out.below (HB.out.trans (hN.mono HB.out.size)))))).mono ?_
   rintro e wn ⟨rfl,bn⟩
   have hN:=hN.trans (bn.mono hN.size)
   have gq:=(hN.block _ HQ.out.lt).trans HQ.out
   have gc:=(hN.block _ HC.out.lt).trans HC.out
   have gx:LotBox wn Bx x.1:=(hN.block _ HX.out.lt).trans HX.out
   exact⟨rfl,hN,Boxed.cell gq,Boxed.cell gc,Boxed.frozen gq,Boxed.frozen gc,Aaa gx 4,Aaa gx 5⟩
  have y1:(I (sumBy qtyOf pre)).size≤2000:=by omega
  have y2:(I (sumBy costOf pre)).size≤2000:=by omega
  have y3:x.1.qty.size≤2000:=by omega
  have y4:x.1.cost.size≤2000:=by omega
  have HQS:=hI (sumBy_snoc qtyOf pre x)
  have HCS:=hI (sumBy_snoc costOf pre x)
  have hne:w.heap.size≠w.heap.size+1:=by omega
  clear hq hc bX hB hr hR k0 k1 kq kc zq zc zxq zxc hpl hK b1
  dsimp only[Lot.enc,Lot.cells]
  gi_wp2
  generalize Value.func (Fn.func 118) #[] #[Value.pointer (some {block:=w.heap.size+1+1,off:=0}),Value.pointer (some {block:=w.heap.size+1+1+1,off:=0})]=v11
  generalize Value.agg #[Value.string x.val.id,Value.string x.val.inst,Value.int IntKind.i64 x.val.acq,Value.int IntKind.i64 x.val.opn,Value.string x.val.qty,Value.string x.val.cost,Value.string x.val.used]=v12
  generalize Value.slice A ls.length c=v0
  generalize Value.string s=v1
  refine wpIn_region_any mixed (Akh (TotJ W w.heap.size (w.heap.size+1) Bx (I (sumBy qtyOf pre)) (I (sumBy costOf pre)) x.1.qty x.1.cost v0 v1 v11 v12) ?st ?dn _ _ _ _ ?h0 (by decide))
  case h0 =>
   refine⟨by simp,⟨_,_,_,_,_,_,_,_,rfl,?_,?_,?_,?_,?_,?_,?_,?_⟩,?_,?_,?_,?_,fun _=>hN,?_,?_⟩<;>intro h<;>simp at h
  case dn =>
   intro L a w' hj hr
   have all:=Akv hr hj.sz (by kernel_rfl)
   obtain⟨wn,hWn,rfl⟩:=hj.wc (all 9 (by omega))
   clear hr hj all
   have hWw:w.heap.size≤W.heap.size:=HB.out.size
   have g1:Boxed wn w.heap.size 23 (.string (I (sumBy qtyOf pre))):=(hWn.block _ HQ.out.lt).trans HQ.out
   have g2:Boxed wn (w.heap.size+1) 23 (.string (I (sumBy costOf pre))):=(hWn.block _ HC.out.lt).trans HC.out
   have q1:Boxed ((wn.setCell ⟨w.heap.size,0,none⟩ (.string (I (vl (I (sumBy qtyOf pre))+vl x.1.qty)))).setCell ⟨w.heap.size+1,0,none⟩ (.string (I (vl (I (sumBy costOf pre))+vl x.1.cost)))) w.heap.size 23 (.string (I (sumBy qtyOf (pre++[x])))):=by
    rw[HQS.out,vl_I]
    exact (g1.set _).other (by omega) _
   have q2:Boxed ((wn.setCell ⟨w.heap.size,0,none⟩ (.string (I (vl (I (sumBy qtyOf pre))+vl x.1.qty)))).setCell ⟨w.heap.size+1,0,none⟩ (.string (I (vl (I (sumBy costOf pre))+vl x.1.cost)))) (w.heap.size+1) 23 (.string (I (sumBy costOf (pre++[x])))):=by
    rw[HCS.out,vl_I (sumBy costOf pre)]
    exact (g2.other (by omega) _).set _
   have q3:Below w.heap.size W ((wn.setCell ⟨w.heap.size,0,none⟩ (.string (I (vl (I (sumBy qtyOf pre))+vl x.1.qty)))).setCell ⟨w.heap.size+1,0,none⟩ (.string (I (vl (I (sumBy costOf pre))+vl x.1.cost)))) :=
    ((hWn.mono hWw).setCell (p:=⟨w.heap.size,0,none⟩) (Aad _) _).setCell (p:=⟨w.heap.size+1,0,none⟩) (by simp) _
   refine⟨?_,⟨q3.mono hnw,fun hb=>?_⟩,⟨q1,q2⟩,HB.out.trans q3⟩
   ·refine KeepsFrom.trans ⟨hWn.size,fun k o _ hk _=>(hWn.block k (Aab.1 hk).1).trans hk⟩ (KeepsFrom.trans ((KeepsOthers.setCell _ _ _).from _) ((KeepsOthers.setCell _ _ _).from _))
   ·exact ((Below.heap_setCell _ _ _ _ (by simp;omega)).trans (Below.heap_setCell _ _ _ _ (by simp;omega))).trans (hWn.block _ hb)
  case st =>
   intro L a w' hj i hi
   obtain⟨hun,o,ho,hall⟩:=mem_ready.1 hi
   have hoff:=Akk hun
   have hlt:=(Aab.1 ho).1
   simp at hlt
   obtain⟨s13,s14,s15,s16,s17,s18,s19,s20,rfl,p⟩:=hj.fr
   have HP:=hI p
   have HJ:=hI hj
   clear p hj cq cc x4 x5 hN
   rcases (show i=0∨i=1∨i=2∨i=3∨i=4∨i=5∨i=6∨i=7∨i=8∨i=9 from by omega) with rfl|rfl|rfl|rfl|rfl|rfl|rfl|rfl|rfl|rfl
   ·simp at ho
    subst ho
    clear hall hi
    have h8:L.getD 8 false=false:=(Akr L 8).resolve_right fun h=>Akq hoff (HJ.out.d7 (HJ.out.d8 h)).1
    have hNw:=HJ.out.wa h8
    have cq:w'.cell? ⟨w.heap.size,0,none⟩=some (.string (I (sumBy qtyOf pre))):=Boxed.cell (show Boxed w' _ 23 _ from (hNw.block _ HQ.out.lt).trans HQ.out)
    refine wpOpIn_step rfl (fun K' hK'=>?_)
    have HK:=hI hK'
    clear hK'
    go_simp
    exact HK.out _ _ ⟨by simp[HJ.out.sz],⟨_,_,_,_,_,_,_,_,rfl,fun _=>rfl,fun h=>HP.out.2.1 (Akn h),fun h=>HP.out.2.2.1 (Akn h),fun h=>HP.out.2.2.2.1 (Akn h),fun h=>HP.out.2.2.2.2.1 (Akn h),fun h=>HP.out.2.2.2.2.2.1 (Akn h),fun h=>HP.out.2.2.2.2.2.2.1 (Akn h),fun h=>HP.out.2.2.2.2.2.2.2 (Akn h)⟩,fun h=>let k:=HJ.out.d7 (Akn h);⟨Akm hun k.1,Akm hun k.2.1,Akm hun k.2.2.1,Akm hun k.2.2.2.1,Akm hun k.2.2.2.2⟩,fun h=>Akm hun (HJ.out.d8 (Akn h)),fun h=>Akm hun (HJ.out.d9 (Akn h)),fun h=>let k:=HJ.out.d3 (Akn h);⟨Akm hun k.1,Akm hun k.2⟩,fun h=>HJ.out.wa (Akp h),fun h h'=>HJ.out.wb (Akn h) (Akp h'),fun h=>HJ.out.wc (Akn h)⟩
   ·simp at ho
    subst ho
    clear hall hi
    refine wpOpIn_step rfl (fun K' hK'=>?_)
    have HK:=hI hK'
    clear hK'
    go_simp
    exact HK.out _ _ ⟨by simp[HJ.out.sz],⟨_,_,_,_,_,_,_,_,rfl,fun h=>HP.out.1 (Akn h),fun _=>rfl,fun h=>HP.out.2.2.1 (Akn h),fun h=>HP.out.2.2.2.1 (Akn h),fun h=>HP.out.2.2.2.2.1 (Akn h),fun h=>HP.out.2.2.2.2.2.1 (Akn h),fun h=>HP.out.2.2.2.2.2.2.1 (Akn h),fun h=>HP.out.2.2.2.2.2.2.2 (Akn h)⟩,fun h=>let k:=HJ.out.d7 (Akn h);⟨Akm hun k.1,Akm hun k.2.1,Akm hun k.2.2.1,Akm hun k.2.2.2.1,Akm hun k.2.2.2.2⟩,fun h=>Akm hun (HJ.out.d8 (Akn h)),fun h=>Akm hun (HJ.out.d9 (Akn h)),fun h=>let k:=HJ.out.d3 (Akn h);⟨Akm hun k.1,Akm hun k.2⟩,fun h=>HJ.out.wa (Akp h),fun h h'=>HJ.out.wb (Akn h) (Akp h'),fun h=>HJ.out.wc (Akn h)⟩
   ·simp at ho
    subst ho
    have h1x:L.getD 1 false=true:=hall {on:=1,ground:=Ground.data} (by simp) (by decide)
    have HALL:=hI h1x
    clear hall hi h1x
    have h8:L.getD 8 false=false:=(Akr L 8).resolve_right fun h=>Akq hoff (HJ.out.d7 (HJ.out.d8 h)).2.1
    have hNw:=HJ.out.wa h8
    have e14:=HP.out.2.1 HALL.out
    subst e14
    have x4:w'.cell? ⟨Bx,4,none⟩=some (.string x.1.qty):=Aaa ((hNw.block _ HX.out.lt).trans HX.out) 4
    refine wpOpIn_step rfl (fun K' hK'=>?_)
    have HK:=hI hK'
    clear hK'
    go_simp
    exact HK.out _ _ ⟨by simp[HJ.out.sz],⟨_,_,_,_,_,_,_,_,rfl,fun h=>HP.out.1 (Akn h),fun h=>HP.out.2.1 (Akn h),fun _=>rfl,fun h=>HP.out.2.2.2.1 (Akn h),fun h=>HP.out.2.2.2.2.1 (Akn h),fun h=>HP.out.2.2.2.2.2.1 (Akn h),fun h=>HP.out.2.2.2.2.2.2.1 (Akn h),fun h=>HP.out.2.2.2.2.2.2.2 (Akn h)⟩,fun h=>let k:=HJ.out.d7 (Akn h);⟨Akm hun k.1,Akm hun k.2.1,Akm hun k.2.2.1,Akm hun k.2.2.2.1,Akm hun k.2.2.2.2⟩,fun h=>Akm hun (HJ.out.d8 (Akn h)),fun h=>Akm hun (HJ.out.d9 (Akn h)),fun h=>let k:=HJ.out.d3 (Akn h);⟨Akm hun k.1,Akm hun k.2⟩,fun h=>HJ.out.wa (Akp h),fun h h'=>HJ.out.wb (Akn h) (Akp h'),fun h=>HJ.out.wc (Akn h)⟩
   ·simp at ho
    subst ho
    have h0x:L.getD 0 false=true:=hall {on:=0,ground:=Ground.data} (by simp) (by decide)
    have h2x:L.getD 2 false=true:=hall {on:=2,ground:=Ground.data} (by simp) (by decide)
    have HALL:=hI (And.intro h0x h2x)
    clear hall hi h0x h2x
    have h8:L.getD 8 false=false:=(Akr L 8).resolve_right fun h=>Akq hoff (HJ.out.d7 (HJ.out.d8 h)).2.2.1
    have hNw:=HJ.out.wa h8
    have e13:=HP.out.1 HALL.out.1
    have e15:=HP.out.2.2.1 HALL.out.2
    subst e13 e15
    refine wpOpIn_step rfl (fun K' hK'=>?_)
    have HK:=hI hK'
    clear hK'
    go_simp
    refine⟨trivial,?_⟩
    refine (HADD.out (I (sumBy qtyOf pre)) x.1.qty _ y1 y3 hNw).mono ?_
    rintro e wn ⟨rfl,hNn,_⟩
    exact HK.out _ _ ⟨by simp[HJ.out.sz],⟨_,_,_,_,_,_,_,_,rfl,fun h=>HP.out.1 (Akn h),fun h=>HP.out.2.1 (Akn h),fun h=>HP.out.2.2.1 (Akn h),fun _=>rfl,fun h=>HP.out.2.2.2.2.1 (Akn h),fun h=>HP.out.2.2.2.2.2.1 (Akn h),fun h=>HP.out.2.2.2.2.2.2.1 (Akn h),fun h=>HP.out.2.2.2.2.2.2.2 (Akn h)⟩,fun h=>let k:=HJ.out.d7 (Akn h);⟨Akm hun k.1,Akm hun k.2.1,Akm hun k.2.2.1,Akm hun k.2.2.2.1,Akm hun k.2.2.2.2⟩,fun h=>Akm hun (HJ.out.d8 (Akn h)),fun h=>Akm hun (HJ.out.d9 (Akn h)),fun _=>⟨Akm hun HALL.out.1,Akm hun HALL.out.2⟩,fun _=>hNn,fun h _=>(Akq hoff (HJ.out.d7 (HJ.out.d8 (Akn h))).2.2.1).elim,fun h=>(Akq hoff (HJ.out.d7 (HJ.out.d8 (HJ.out.d9 (Akn h)))).2.2.1).elim⟩
   ·simp at ho
    subst ho
    clear hall hi
    have h8:L.getD 8 false=false:=(Akr L 8).resolve_right fun h=>Akq hoff (HJ.out.d7 (HJ.out.d8 h)).2.2.2.1
    have hNw:=HJ.out.wa h8
    have cc:w'.cell? ⟨w.heap.size+1,0,none⟩=some (.string (I (sumBy costOf pre))):=Boxed.cell (show Boxed w' _ 23 _ from (hNw.block _ HC.out.lt).trans HC.out)
    refine wpOpIn_step rfl (fun K' hK'=>?_)
    have HK:=hI hK'
    clear hK'
    go_simp
    exact HK.out _ _ ⟨by simp[HJ.out.sz],⟨_,_,_,_,_,_,_,_,rfl,fun h=>HP.out.1 (Akn h),fun h=>HP.out.2.1 (Akn h),fun h=>HP.out.2.2.1 (Akn h),fun h=>HP.out.2.2.2.1 (Akn h),fun _=>rfl,fun h=>HP.out.2.2.2.2.2.1 (Akn h),fun h=>HP.out.2.2.2.2.2.2.1 (Akn h),fun h=>HP.out.2.2.2.2.2.2.2 (Akn h)⟩,fun h=>let k:=HJ.out.d7 (Akn h);⟨Akm hun k.1,Akm hun k.2.1,Akm hun k.2.2.1,Akm hun k.2.2.2.1,Akm hun k.2.2.2.2⟩,fun h=>Akm hun (HJ.out.d8 (Akn h)),fun h=>Akm hun (HJ.out.d9 (Akn h)),fun h=>let k:=HJ.out.d3 (Akn h);⟨Akm hun k.1,Akm hun k.2⟩,fun h=>HJ.out.wa (Akp h),fun h h'=>HJ.out.wb (Akn h) (Akp h'),fun h=>HJ.out.wc (Akn h)⟩
   ·simp at ho
    subst ho
    clear hall hi
    refine wpOpIn_step rfl (fun K' hK'=>?_)
    have HK:=hI hK'
    clear hK'
    go_simp
    exact HK.out _ _ ⟨by simp[HJ.out.sz],⟨_,_,_,_,_,_,_,_,rfl,fun h=>HP.out.1 (Akn h),fun h=>HP.out.2.1 (Akn h),fun h=>HP.out.2.2.1 (Akn h),fun h=>HP.out.2.2.2.1 (Akn h),fun h=>HP.out.2.2.2.2.1 (Akn h),fun _=>rfl,fun h=>HP.out.2.2.2.2.2.2.1 (Akn h),fun h=>HP.out.2.2.2.2.2.2.2 (Akn h)⟩,fun h=>let k:=HJ.out.d7 (Akn h);⟨Akm hun k.1,Akm hun k.2.1,Akm hun k.2.2.1,Akm hun k.2.2.2.1,Akm hun k.2.2.2.2⟩,fun h=>Akm hun (HJ.out.d8 (Akn h)),fun h=>Akm hun (HJ.out.d9 (Akn h)),fun h=>let k:=HJ.out.d3 (Akn h);⟨Akm hun k.1,Akm hun k.2⟩,fun h=>HJ.out.wa (Akp h),fun h h'=>HJ.out.wb (Akn h) (Akp h'),fun h=>HJ.out.wc (Akn h)⟩
   ·simp at ho
    subst ho
    have h5x:L.getD 5 false=true:=hall {on:=5,ground:=Ground.data} (by simp) (by decide)
    have HALL:=hI h5x
    clear hall hi h5x
    have h8:L.getD 8 false=false:=(Akr L 8).resolve_right fun h=>Akq hoff (HJ.out.d7 (HJ.out.d8 h)).2.2.2.2
    have hNw:=HJ.out.wa h8
    have e18:=HP.out.2.2.2.2.2.1 HALL.out
    subst e18
    have x5:w'.cell? ⟨Bx,5,none⟩=some (.string x.1.cost):=Aaa ((hNw.block _ HX.out.lt).trans HX.out) 5
    refine wpOpIn_step rfl (fun K' hK'=>?_)
    have HK:=hI hK'
    clear hK'
    go_simp
    exact HK.out _ _ ⟨by simp[HJ.out.sz],⟨_,_,_,_,_,_,_,_,rfl,fun h=>HP.out.1 (Akn h),fun h=>HP.out.2.1 (Akn h),fun h=>HP.out.2.2.1 (Akn h),fun h=>HP.out.2.2.2.1 (Akn h),fun h=>HP.out.2.2.2.2.1 (Akn h),fun h=>HP.out.2.2.2.2.2.1 (Akn h),fun _=>rfl,fun h=>HP.out.2.2.2.2.2.2.2 (Akn h)⟩,fun h=>let k:=HJ.out.d7 (Akn h);⟨Akm hun k.1,Akm hun k.2.1,Akm hun k.2.2.1,Akm hun k.2.2.2.1,Akm hun k.2.2.2.2⟩,fun h=>Akm hun (HJ.out.d8 (Akn h)),fun h=>Akm hun (HJ.out.d9 (Akn h)),fun h=>let k:=HJ.out.d3 (Akn h);⟨Akm hun k.1,Akm hun k.2⟩,fun h=>HJ.out.wa (Akp h),fun h h'=>HJ.out.wb (Akn h) (Akp h'),fun h=>HJ.out.wc (Akn h)⟩
   ·simp at ho
    subst ho
    have h4x:L.getD 4 false=true:=hall {on:=4,ground:=Ground.data} (by simp) (by decide)
    have h6x:L.getD 6 false=true:=hall {on:=6,ground:=Ground.data} (by simp) (by decide)
    have h3x:L.getD 3 false=true:=hall {on:=3,ground:=Ground.chain} (by simp) (by decide)
    have HALL:=hI (And.intro h4x (And.intro h6x h3x))
    clear hall hi h4x h6x h3x
    have h8:L.getD 8 false=false:=(Akr L 8).resolve_right fun h=>Akq hoff (HJ.out.d8 h)
    have hNw:=HJ.out.wa h8
    have e17:=HP.out.2.2.2.2.1 HALL.out.1
    have e19:=HP.out.2.2.2.2.2.2.1 HALL.out.2.1
    subst e17 e19
    refine wpOpIn_step rfl (fun K' hK'=>?_)
    have HK:=hI hK'
    clear hK'
    go_simp
    refine⟨trivial,?_⟩
    refine (HADD.out (I (sumBy costOf pre)) x.1.cost _ y2 y4 hNw).mono ?_
    rintro e wn ⟨rfl,hNn,_⟩
    exact HK.out _ _ ⟨by simp[HJ.out.sz],⟨_,_,_,_,_,_,_,_,rfl,fun h=>HP.out.1 (Akn h),fun h=>HP.out.2.1 (Akn h),fun h=>HP.out.2.2.1 (Akn h),fun h=>HP.out.2.2.2.1 (Akn h),fun h=>HP.out.2.2.2.2.1 (Akn h),fun h=>HP.out.2.2.2.2.2.1 (Akn h),fun h=>HP.out.2.2.2.2.2.2.1 (Akn h),fun _=>rfl⟩,fun _=>⟨Akm hun (HJ.out.d3 HALL.out.2.2).1,Akm hun (HJ.out.d3 HALL.out.2.2).2,Akm hun HALL.out.2.2,Akm hun HALL.out.1,Akm hun HALL.out.2.1⟩,fun h=>Akm hun (HJ.out.d8 (Akn h)),fun h=>Akm hun (HJ.out.d9 (Akn h)),fun h=>let k:=HJ.out.d3 (Akn h);⟨Akm hun k.1,Akm hun k.2⟩,fun _=>hNn,fun h _=>(Akq hoff (HJ.out.d8 (Akn h))).elim,fun h=>(Akq hoff (HJ.out.d8 (HJ.out.d9 (Akn h)))).elim⟩
   ·simp at ho
    subst ho
    have h3x:L.getD 3 false=true:=hall {on:=3,ground:=Ground.data} (by simp) (by decide)
    have h7x:L.getD 7 false=true:=hall {on:=7,ground:=Ground.chain} (by simp) (by decide)
    have HALL:=hI (And.intro h3x h7x)
    clear hall hi h3x h7x
    have H7:=hI HALL.out.2
    have H3:=hI HALL.out.1
    have HW:=hI (HJ.out.wa hoff)
    have e16:=HP.out.2.2.2.1 H3.out
    subst e16
    have gq:Boxed w' w.heap.size 23 (.string (I (sumBy qtyOf pre))):=(HW.out.block _ HQ.out.lt).trans HQ.out
    have cq:=gq.cell
    have fq:=gq.frozen
    clear gq
    refine wpOpIn_step rfl (fun K' hK'=>?_)
    have HK:=hI hK'
    clear hK'
    go_simp
    exact HK.out _ _ ⟨by simp[HJ.out.sz],⟨_,_,_,_,_,_,_,_,rfl,fun h=>HP.out.1 (Akn h),fun h=>HP.out.2.1 (Akn h),fun h=>HP.out.2.2.1 (Akn h),fun h=>HP.out.2.2.2.1 (Akn h),fun h=>HP.out.2.2.2.2.1 (Akn h),fun h=>HP.out.2.2.2.2.2.1 (Akn h),fun h=>HP.out.2.2.2.2.2.2.1 (Akn h),fun h=>HP.out.2.2.2.2.2.2.2 (Akn h)⟩,fun h=>let k:=HJ.out.d7 (Akn h);⟨Akm hun k.1,Akm hun k.2.1,Akm hun k.2.2.1,Akm hun k.2.2.2.1,Akm hun k.2.2.2.2⟩,fun _=>Akm hun H7.out,fun h=>Akm hun (HJ.out.d9 (Akn h)),fun h=>let k:=HJ.out.d3 (Akn h);⟨Akm hun k.1,Akm hun k.2⟩,fun h=>(Akq h (Aki hun)).elim,fun _ _=>⟨_,HW.out,rfl⟩,fun h=>(Akq hoff (HJ.out.d9 (Akn h))).elim⟩
   ·simp at ho
    subst ho
    have h7x:L.getD 7 false=true:=hall {on:=7,ground:=Ground.data} (by simp) (by decide)
    have h8x:L.getD 8 false=true:=hall {on:=8,ground:=Ground.chain} (by simp) (by decide)
    have HALL:=hI (And.intro h7x h8x)
    clear hall hi h7x h8x
    have H8:=hI HALL.out.2
    have H7:Hid (L.getD 7 false=true):=HJ.out.d8 H8.out
    obtain⟨wn,hWn,rfl⟩:=HJ.out.wb H8.out hoff
    have HW:=hI hWn
    have e20:=HP.out.2.2.2.2.2.2.2 H7.out
    subst e20
    have gc:Boxed (wn.setCell ⟨w.heap.size,0,none⟩ (.string (I (vl (I (sumBy qtyOf pre))+vl x.1.qty)))) (w.heap.size+1) 23 (.string (I (sumBy costOf pre))):=Boxed.other ((hWn.block _ HC.out.lt).trans HC.out) (by omega) _
    have cc:=gc.cell
    have fc:=gc.frozen
    clear gc hWn
    refine wpOpIn_step rfl (fun K' hK'=>?_)
    have HK:=hI hK'
    clear hK'
    go_simp
    exact HK.out _ _ ⟨by simp[HJ.out.sz],⟨_,_,_,_,_,_,_,_,rfl,fun h=>HP.out.1 (Akn h),fun h=>HP.out.2.1 (Akn h),fun h=>HP.out.2.2.1 (Akn h),fun h=>HP.out.2.2.2.1 (Akn h),fun h=>HP.out.2.2.2.2.1 (Akn h),fun h=>HP.out.2.2.2.2.2.1 (Akn h),fun h=>HP.out.2.2.2.2.2.2.1 (Akn h),fun h=>HP.out.2.2.2.2.2.2.2 (Akn h)⟩,fun h=>let k:=HJ.out.d7 (Akn h);⟨Akm hun k.1,Akm hun k.2.1,Akm hun k.2.2.1,Akm hun k.2.2.2.1,Akm hun k.2.2.2.2⟩,fun h=>Akm hun (HJ.out.d8 (Akn h)),fun _=>Akm hun H8.out,fun h=>let k:=HJ.out.d3 (Akn h);⟨Akm hun k.1,Akm hun k.2⟩,fun h=>(Akq (Akp h) H8.out).elim,fun _ h'=>(Akq h' (Aki hun)).elim,fun _=>⟨_,HW.out,rfl⟩⟩
 case done =>
  rintro D xs W hD rfl ⟨⟨hq,hc⟩,hB⟩ hK
  have cq:=hq.cell
  have cc:=hc.cell
  gi_wp2
  gi_region
  all_goals gi_wp2
  all_goals refine⟨by simp,.inl ⟨_,_,rfl,run_takeDeferred hK,?_⟩⟩
  all_goals exact⟨_,results_tmp2 rfl _ _ _,rfl,hB.trans ((Below.refl _ W).drew.trans (belowK_b (w:=w) (Aad _) W.drew D _ _ (by omega) hK rfl rfl))⟩
 case stop =>
  rintro D c pre W _ _ h _
  exact h.elim
end Go.Proofs.YtcmgmemffncbhabGreatDoor
