/-
  The walk of lot.CheckAll on valid lots with different ids.
-/
import Derived.Test.YtcmgmemffncbhabGreatDoorT19
import Derived.Maps.Own
import Derived.Maps.Views
import Derived.Deep.DeepCutAuto
import Derived.Deep.RegionHeld3
set_option linter.unusedVariables false
set_option linter.unusedSimpArgs false
set_option maxHeartbeats 16000000
set_option maxRecDepth 100000
namespace Go.Proofs.YtcmgmemffncbhabGreatDoor
open Go.RowKit Tr Go.Shelf Go.Maps Go.WideMaps
structure LotAt(w:World)(p:Addr)(l:Lot):Prop where
 c0:w.cell? p=some (.string l.id)
 c1:w.cell? ⟨p.block,p.off+1,none⟩=some (.string l.inst)
 c2:w.cell? ⟨p.block,p.off+2,none⟩=some (.int .i64 l.acq)
 c3:w.cell? ⟨p.block,p.off+3,none⟩=some (.int .i64 l.opn)
 c4:w.cell? ⟨p.block,p.off+4,none⟩=some (.string l.qty)
 c5:w.cell? ⟨p.block,p.off+5,none⟩=some (.string l.cost)
 c6:w.cell? ⟨p.block,p.off+6,none⟩=some (.string l.used)
theorem LotAt.below{w w':World}{p:Addr}{l:Lot}{B:Nat}(h:LotAt w p l)(hb:Below B w w')(hp:p.block<B):LotAt w' p l :=
 ⟨(hb.cell hp).trans h.c0,(hb.cell (p:=⟨p.block,p.off+1,none⟩) hp).trans h.c1,(hb.cell (p:=⟨p.block,p.off+2,none⟩) hp).trans h.c2,(hb.cell (p:=⟨p.block,p.off+3,none⟩) hp).trans h.c3,(hb.cell (p:=⟨p.block,p.off+4,none⟩) hp).trans h.c4,(hb.cell (p:=⟨p.block,p.off+5,none⟩) hp).trans h.c5,(hb.cell (p:=⟨p.block,p.off+6,none⟩) hp).trans h.c6⟩
def RdL(w:World)(A:Option Addr)(ls:List Lot):Prop :=
 ls≠[]→∃ad:Addr,A=some ad∧ad.block<w.heap.size∧∀(j:Nat) (l:Lot),ls[j]?=some l→LotAt w (ad.add (j*7)) l
theorem RdL.nil(w:World)(A:Option Addr):RdL w A []:=fun h=>absurd rfl h
theorem RdL.below{w w':World}{A:Option Addr}{ls:List Lot}(h:RdL w A ls)(hb:Below w.heap.size w w'):RdL w' A ls:=by
 intro hl
 obtain⟨ad,rfl,h1,h2⟩:=h hl
 exact⟨ad,rfl,Aah h1 hb.size,fun j l hj=>(h2 j l hj).below hb (by rw[Acv];exact h1)⟩
structure LotsOk(ls:List Lot):Prop where
 len:ls.length≤1000
 ok:∀l,l∈ls→l.sized∧l.ok
 ids:(ls.map Lot.id).Nodup
theorem strKeyed:Keyed Tryz.prog 9:=string_keyed Tryz.underlying9
def idKey(l:Lot):Lit:=.string l.id.data.toList
def seenD(ls:List Lot):DataW Unit:=setOf (.lit (.bool true)) (ls.map idKey)
theorem Aj1(ls:List Lot)(l:Lot):seenD (ls++[l])=(seenD ls).put (idKey l) (.lit (.bool true)):=by
 unfold seenD;rw[List.map_append];exact setOf_snoc _ _ _
theorem Aj2(w:World):(zeroValue 4).run Tryz.prog w=.ok (.bool false) w:=by kernel_rfl
theorem Aj3{P:Program}{e:TypeId}(he:P.underlying e=some .bool){v:Value}{z:DataW Unit×List MemPlace}(h:plainElem P e v=some z):∃a,v=.bool a∧z=(.lit (.bool a),[]):=by
 unfold plainElem at h
 rw[he] at h
 cases v<;>simp at h
 exact⟨_,rfl,h.symm⟩
theorem Aj4{w:World}{b n:Nat}{ls:List Lot}{l:Lot}(h:w.ownsMap Tryz.prog 9 (plainElem Tryz.prog 4) b n (seenD ls))(hs:l.id.size≤maxLen)(hn:∀x∈ls,x.id≠l.id):
 (Instr.lookup 74 (.map (some b)) (.string l.id) false).run Tryz.prog w=.ok (.bool false) w:=by
 obtain⟨v,ps,hrun,hv⟩:=h.lookup strKeyed Tryz.underlying74 (Aj2 w) (plainElem_bool Tryz.underlying4 false) (keyOf_string_mk Tryz.underlying9 hs)
 have hh:has (seenD ls) (.string l.id.data.toList)=false:=by
  unfold seenD
  rw[has_setOf _ _ _ (by intro x hx;obtain⟨y,_,rfl⟩:=List.mem_map.1 hx;exact trivial)]
  rw[List.any_eq_false]
  intro x hx
  obtain⟨y,hy,rfl⟩:=List.mem_map.1 hx
  rw[sameKey_ne]
  ·simp
  ·intro e
   injection e with e
   exact hn y hy (by rw[←bs_of y.id,←bs_of l.id,e])
 rw[atKey_of_not_has hh] at hv
 obtain⟨a,rfl,ha⟩:=Aj3 Tryz.underlying4 hv
 simp at ha
 rw[hrun,←ha.1]
theorem Aj5{w w':World}{P:Program}{k:TypeId}{R:Value→Option (DataW Unit×List MemPlace)}{b n:Nat}{D:DataW Unit}(h:w.ownsMap P k R b n D)(hb:Below w.heap.size w w'):w'.ownsMap P k R b n D:=by
 have hlt:=h.lt
 obtain⟨es,clock,e,F,hs,hD⟩:=h
 exact⟨es,clock,(hb.block b hlt).trans e,F,hs,hD⟩
end Go.Proofs.YtcmgmemffncbhabGreatDoor
namespace Go.Proofs.YtcmgmemffncbhabGreatDoor
open Go.RowKit Tr Go.Shelf
attribute [local go_sem] Oper.semAt_some
abbrev SLot:={l:Lot // l.sized}
def encL(x:SLot):Array Value:=#[x.1.enc]
def ownL(ls:List SLot)(s:ByteArray):List SLot:=ls.filter fun l=>decide (l.1.inst=s)
theorem Aj6{ls:List SLot}{s:ByteArray}{k:Nat}{l:SLot}(hl:ls[k]?=some l):ownL (ls.take (k+1)) s=ownL (ls.take k) s++(if l.1.inst=s then [l] else []):=by
 have hk:k<ls.length:=(Aak.1 hl).1
 have e:ls[k]=l:=by rw[Aae hk] at hl;exact Option.some.inj hl
 unfold ownL
 rw[List.take_succ_eq_append_getElem hk,List.filter_append,e]
 by_cases h:l.1.inst=s<;>simp[h]
theorem Aj7(ls:List SLot)(s:ByteArray)(k:Nat):(ownL (ls.take k) s).length≤k:=Aap (List.length_filter_le _ _) (List.length_take_le _ _)
def KpB(n₀ b:Nat)(W W':World):Prop:=Below n₀ W W'∧(b<W.heap.size→W'.heap[b]?=W.heap[b]?)
theorem KpB.trans{n₀ b:Nat}{A B C:World}(h:KpB n₀ b A B)(k:KpB n₀ b B C):KpB n₀ b A C :=
 ⟨h.1.trans k.1,fun hb=>(k.2 (Aah hb h.1.size)).trans (h.2 hb)⟩
theorem KpB.put{n₀ b N:Nat}(hn:n₀≤N)(hb:b<N)(W:World)(l:Nat)(o o':Obj)(hl:N≤l)(h:W.heap[l]?=some o):KpB n₀ b W (W.putObj l o') :=
 ⟨(Below.refl n₀ W).grown (grownBy_putObj' W l o') (by have:=(Aab.1 h).1;omega) (fun k e=>by cases e;omega),fun _=>World.putObj_heap_other (by omega)⟩
theorem KpB.below{n₀ b:Nat}{A B:World}(h:Below A.heap.size A B)(hn:n₀≤A.heap.size):KpB n₀ b A B:=⟨h.mono hn,fun hb=>h.block b hb⟩
def RdB(n₀:Nat)(w:World)(A:Option Addr)(ls:List SLot):Prop :=
 ls≠[]→∃ad:Addr,A=some ad∧ad.block<n₀∧∀(j:Nat) (l:SLot),ls[j]?=some l→LotAt w (ad.add (j*7)) l.1
theorem RdB.below{n₀:Nat}{w w':World}{A:Option Addr}{ls:List SLot}(h:RdB n₀ w A ls)(hb:Below n₀ w w'):RdB n₀ w' A ls:=by
 intro hl
 obtain⟨ad,rfl,h1,h2⟩:=h hl
 exact⟨ad,rfl,h1,fun j l hj=>(h2 j l hj).below hb (by rw[Acv];exact h1)⟩
theorem Aj8(a b:ByteArray):(a.toList==b.toList)=decide (a=b):=by
 by_cases h:a=b
 ·subst h;simp
 ·rw[Aes h];simp[h]
theorem Aj9(n n₀ bl bi:Nat)(A:Option Addr)(ls:List SLot)(c:Nat)(s:ByteArray)(w:World)(hn:1≤n)(hlen:ls.length≤1000000)
 (hbl:Boxed w bl 22 (.slice A ls.length c)) (hbi:Boxed w bi 9 (.string s)) (hR:RdB n₀ w A ls) (hnw:n₀≤w.heap.size) :
 SeqStopsK Fence.wide n Tryz.prog 118 #[.pointer (some ⟨bl,0,none⟩),.pointer (some ⟨bi,0,none⟩)] encL (KpB n₀ bi) (fun xs=>xs=ownL ls s) (fun _=>True) (ls.length+1) w:=by
 intro l J Jx W hW hJ hJx hY hJ0
 have HJ:=Aac hJ
 have HY:=Aac hY
 have hbl':Boxed W bl 22 (.slice A ls.length c):=(hW.block bl hbl.lt).trans hbl
 have hbi':Boxed W bi 9 (.string s):=(hW.block bi hbi.lt).trans hbi
 have HBI:=Aac hbi'
 have HR:=Aac (hR.below (hW.mono hnw))
 have cl:=hbl'.cell
 have hWs:w.heap.size≤W.heap.size:=hW.size
 clear hJ hJx hY hbl hbi hbl' hbi' hR hW
 refine callsIn_of_wp Tryz.func118 rfl trivial ?_ rfl
 simp only[Tryz.ntmps118,List.size_toArray,Aa0,List.length_nil,Nat.reduceAdd,Nat.reduceSub,Array.replicate_succ,Array.replicate_zero,List.push_toArray,List.append_toArray,List.nil_append,List.cons_append]
 gi_wp2
 gi_loopw [8] (fun v wr=>∃k:Nat,v=.int .i64 (k:Int)∧k≤ls.length∧Boxed wr bi 9 (.string s)∧RdB n₀ wr A ls∧n₀≤wr.heap.size∧J (ownL (ls.take k) s) wr) (fun v _=>ls.length-(intOf v).toNat)
 case atStart=>exact⟨0,rfl,by omega,HBI.out,HR.out,Aap hnw hWs,hJ0⟩
 case round =>
  obtain⟨k,rfl,hk,hb,hr,hnr,hj⟩:=hrel
  clear HBI HR cl hJ0
  rcases Aam k ls.length with hlt|hge
  ·obtain⟨x,hl⟩:∃x,ls[k]?=some x:=⟨_,Aae hlt⟩
   obtain⟨ad,rfl,had,hcell⟩:=hr (by intro e;rw[e] at hlt;cases hlt)
   have hcx:decide ((k:Int)<(ls.length:Int))=true:=by simp;omega
   obtain⟨c0,c1,c2,c3,c4,c5,c6⟩:=hcell k x hl
   have HOS:=Aac (Aj6 (s:=s) hl)
   have HOL:=Aac (Aj7 ls s k)
   obtain⟨W5,hW5⟩:∃W5,wr.alloc (.cells x.1.cells 38)=W5:=⟨_,rfl⟩
   have k5:LotBox W5 wr.heap.size x.1:=by rw[←hW5];exact Aa5 wr _
   have b5:Below wr.heap.size wr W5:=by rw[←hW5];exact (Below.refl _ wr).alloc (Aad _) _
   have hj5:J (ownL (ls.take k) s) W5:=by rw[←hW5];exact HJ.out _ _ _ none hj (World.grownBy_alloc wr _ none) (fun r e=>by cases e)
   have hb5:Boxed W5 bi 9 (.string s):=(b5.block bi hb.lt).trans hb
   have hr5:RdB n₀ W5 (some ad) ls:=hr.below (b5.mono hnr)
   have hn5:n₀≤W5.heap.size:=Aap hnr b5.size
   obtain⟨m0,m1,m2,m3,m4,m5,m6⟩:=Ac0 k5
   have cb:=hb5.cell
   have hse:=Aj8 x.1.inst s
   have HBB:=Aac hb5
   have HRR:=Aac hr5
   have HJJ:=Aac hj5
   clear hb hr hj k5 b5 hb5 hr5 hj5 hcell hl
   unfold Lot.cells at hW5
   by_cases he:x.1.inst=s
   ·rw[Aa3 he] at hse
    obtain⟨fn,tmps,assign,body,hy,hR⟩:=HY.out _ x W5 HJJ.out (by have:=HOL.out;omega)
    dsimp only[encL,Lot.enc,Lot.cells] at hy
    have HE:=Aac he
    have HRD:=Aac hR
    clear he hR
    gi_wp2
    refine HRD.out.mono ?_
    rintro e W6 (⟨rfl,hj6,hk6⟩|⟨rfl,hjx⟩)
    ·have HB6:Hid (Boxed W6 bi 9 (.string s)):=(hk6.2 HBB.out.lt).trans HBB.out
     have HR6:=Aac (HRR.out.below hk6.1)
     have hn6:n₀≤W6.heap.size:=Aap hn5 hk6.1.size
     have HJ6:Hid (J (ownL (ls.take (k+1)) s) W6):=by rw[Hid,HOS.out,if_pos HE.out];exact hj6
     clear hj6 hk6
     gi_wp2
     go_roundw
     case rel=>exact⟨k+1,by go_num,by omega,HB6.out,HR6.out,hn6,HJ6.out⟩
     case measure=>simp[intOf];omega
    ·gi_wp2
     refine bodyPost_ret (results_none rfl _ _ _) rfl ?_
     exact⟨⟨_,rfl⟩,.inr ⟨_,trivial,hjx⟩⟩
   ·rw[Aa4 he] at hse
    have HE:=Aac he
    clear he
    gi_wp2
    refine⟨fun _ h=>(by cases h),?_⟩
    gi_wp2
    go_roundw
    case rel=>exact⟨k+1,by go_num,by omega,HBB.out,HRR.out,hn5,by rw[HOS.out,if_neg HE.out,List.append_nil];exact HJJ.out⟩
    case measure=>simp[intOf];omega
  ·have hcx:decide ((k:Int)<(ls.length:Int))=false:=by simp;omega
   gi_wp2
   go_end0
   refine⟨⟨_,rfl⟩,.inl ⟨_,rfl,?_⟩⟩
   rw[Aai (by omega)] at hj
   exact hj
theorem Aka(A:Option Addr)(k c:Nat)(s:ByteArray)(w:World):
 Calls Tryz.prog 78 #[.slice A k c,.string s] w fun e w'=>e=.returned (.func (.func 118) #[] #[.pointer (some ⟨w.heap.size,0,none⟩),.pointer (some ⟨w.heap.size+1,0,none⟩)])∧w'=(w.alloc (.cells #[.slice A k c] 22)).alloc (.cells #[.string s] 9):=by
 go_enter Tryz.func78,Tryz.ntmps78
 go_wp2_with fail
 go_ret
 exact⟨rfl,rfl⟩
end Go.Proofs.YtcmgmemffncbhabGreatDoor
namespace Go.Proofs.YtcmgmemffncbhabGreatDoor
open Go.RowKit Tr Go.Shelf
attribute [local go_sem] Oper.semAt_some
theorem Tryz.infoLot:(Tryz.prog.info? 38).map (fun i=>(i.zero,i.size,i.bytes))=some (some (.agg #[.string ⟨#[]⟩,.string ⟨#[]⟩,.int .i64 0,.int .i64 0,.string ⟨#[]⟩,.string ⟨#[]⟩,.string ⟨#[]⟩]),7,96):=by kernel_rfl
def flatL(ls:List SLot):List Value:=ls.flatMap fun x=>x.1.cells.toList
theorem Akb(ls:List SLot)(x:SLot):flatL (ls++[x])=flatL ls++x.1.cells.toList:=by simp[flatL]
theorem Akc(w:World)(cs:Array Value)(t:TypeId):∀j u,cs.toList[j]?=some u→(w.alloc (.cells cs t)).cell? ((⟨w.heap.size,0,none⟩:Addr).add j)=some u:=by
 intro j u hj
 have h:=Aa5 w (.cells cs t)
 have e:(⟨w.heap.size,0,none⟩:Addr).add j=⟨w.heap.size,j,none⟩:=by unfold Addr.add;split<;>simp_all
 rw[e,Aaa h j]
 simpa using hj
theorem Akd(n bl bi n₀:Nat)(A:Option Addr)(ls:List SLot)(c:Nat)(s:ByteArray)(w:World)(hn:3≤n)(hlen:ls.length≤1000000)
 (hbl:Boxed w bl 22 (.slice A ls.length c)) (hbi:Boxed w bi 9 (.string s)) (hR:RdB n₀ w A ls) (hnw:n₀≤w.heap.size) :
 CallsIn Fence.wide n Tryz.prog 119 #[.slice none 0 0,.func (.func 118) #[] #[.pointer (some ⟨bl,0,none⟩),.pointer (some ⟨bi,0,none⟩)]] w
  fun e w'=>∃v,e=.returned v∧w'.ownsRow w.heap.size 38 7 v (ownL ls s).length (flatL (ownL ls s))∧Below w.heap.size w w':=by
 have h1:1≤n:=by omega
 obtain⟨i0,hi,hz0,hz1,hz2⟩:=info_parts Tryz.infoLot
 refine callsIn_of_wp_marks Tryz.func119 rfl trivial ?_ rfl
 simp only[Tryz.ntmps119,List.size_toArray,Aa0,List.length_nil,Nat.reduceAdd,Nat.reduceSub,Array.replicate_succ,Array.replicate_zero,List.push_toArray,List.append_toArray,List.nil_append,List.cons_append]
 gi_wp2
 obtain⟨W0,hW0⟩:∃W0,w.alloc (.cells #[.slice none 0 0] 22)=W0:=⟨_,rfl⟩
 have hb0:Below w.heap.size w W0:=by rw[←hW0];exact (Below.refl _ w).alloc (Aad _) _
 have hbo:Boxed W0 w.heap.size 22 (.slice none 0 0):=by rw[←hW0];exact Boxed.new w _ _
 have hsz:W0.heap.size=w.heap.size+1:=by rw[←hW0];simp
 rw[hW0]
 have hbl0:Boxed W0 bl 22 (.slice A ls.length c):=(hb0.block bl hbl.lt).trans hbl
 have hbi0:Boxed W0 bi 9 (.string s):=(hb0.block bi hbi.lt).trans hbi
 have hlbi:=hbi.lt
 refine wpIn_rangeFunc_ownH rfl h1 (gf:=118) (lb:=#[.pointer (some ⟨bl,0,none⟩),.pointer (some ⟨bi,0,none⟩)]) rfl trivial (enters_of Tryz.func118 (by kernel_rfl) rfl)
  (Aj9 (n-1) n₀ bl bi A ls c s W0 (by omega) hlen hbl0 hbi0 (hR.below (hb0.mono hnw)) (by omega)) KpB.trans (fun W l o o' hl h _ _=>KpB.put (N:=W0.heap.size) (by omega) (by omega) W l o o' hl h) (Below.refl _ _) (fun _=>rfl)
  (fun pre W=>(∃v,Boxed W w.heap.size 22 v∧W.ownsRow w.heap.size 38 7 v pre.length (flatL pre)∧(∃A' k' c',v=.slice A' k' c'))∧Below w.heap.size w W) (fun _ _ _=>False)
  (OwnFrom.and ((holdsRow_own w.heap.size w.heap.size 22 38 7 (fun pre=>pre.length) (fun pre=>flatL pre) (fun _ v=>∃A' k' c',v=.slice A' k' c')).from _) (ownFrom_below (Aad _) (by omega)))
  (fun _=>ownFrom_pure _ _) ⟨⟨_,hbo,World.ownsRow_nil _ _ _ _,⟨_,_,_,rfl⟩⟩,hb0⟩
  (fun x a' W=>∃Bx,w.heap.size<Bx∧LotBox W Bx x.1∧a'={tmps:=#[Value.slice none 0 0,Value.func (Fn.func 118) #[] #[Value.pointer (some {block:=bl,off:=0}),Value.pointer (some {block:=bi,off:=0})],Value.pointer (some {block:=w.heap.size,off:=0}),undef,Value.slice none 0 0,Value.pointer (some {block:=Bx,off:=0}),Value.func (Fn.func 118) #[] #[Value.pointer (some {block:=bl,off:=0}),Value.pointer (some {block:=bi,off:=0})],x.1.enc,undef,undef,undef,undef,undef],defers:=[]})
  (fun x a'=>?hAx) ?assign ?body ?done ?stop
 case hAx =>
  rintro _ X Y row ⟨Bx,hB,hx,rfl⟩ hg hr
  refine⟨Bx,hB,(hg.block Bx hx.lt (fun e=>?_)).trans hx,rfl⟩
  obtain⟨_,o,ho,hc⟩:=hr Bx e.symm
  rw[show X.heap[Bx]?=_ from hx] at ho;cases ho;cases hc
 case assign =>
  rintro l pre x W K ⟨⟨v,hv,hrow,hvs⟩,hB⟩ hK
  have hlt:=hv.lt
  obtain⟨W5,hW5⟩:∃W5,W.alloc (.cells x.1.cells 38)=W5:=⟨_,rfl⟩
  have b5:Below W.heap.size W W5:=by rw[←hW5];exact (Below.refl _ W).alloc (Aad _) _
  have HF:Hid (LotBox W5 W.heap.size x.1∧KeepsFrom W0.heap.size W W5∧KpB n₀ bi W W5∧Boxed W5 w.heap.size 22 v∧W5.ownsRow w.heap.size 38 7 v pre.length (flatL pre)∧Below w.heap.size w W5):=by
   refine⟨by rw[←hW5];exact Aa5 W _,by rw[←hW5];exact (KeepsOthers.alloc _ _).from _,KpB.below b5 (by have:=hB.size;omega),(b5.block _ hlt).trans hv,by rw[←hW5];exact hrow.alloc _,hB.trans (b5.mono hB.size)⟩
  clear b5
  dsimp only[encL,Lot.enc,Lot.cells] at hW5 ⊢
  gi_wp2
  obtain⟨f1,f2,f3,f4,f5,f6⟩:=HF.out
  exact hK _ _ f2 f3 ⟨⟨v,f4,f5,hvs⟩,f6⟩ ⟨W.heap.size,hlt,f1,rfl⟩
 case body =>
  rintro l pre x a' W hl ⟨r,hr⟩ ⟨⟨v,hv,hrow,⟨A',k',c',rfl⟩⟩,hB⟩ ⟨Bx,hBx,bX,rfl⟩ hlt
  have hc:=hv.cell
  obtain⟨m0,m1,m2,m3,m4,m5,m6⟩:=Ac0 bX
  dsimp only[Lot.enc,Lot.cells]
  gi_wp2_with (gi_at_builtin;refine wpListIn_append_own _ rfl _ _ 22 rfl w.heap.size 38 i0 (.agg #[.string ⟨#[]⟩,.string ⟨#[]⟩,.int .i64 0,.int .i64 0,.string ⟨#[]⟩,.string ⟨#[]⟩,.string ⟨#[]⟩]) 7 96 Tryz.underlying22 hi hz0 hz1 hz2 rfl (by decide) _ _ _ rfl (hrow.alloc _) ⟨W.heap.size,0,none⟩ 1 1 x.1.cells.toList rfl rfl (Akc _ _ _) (by simp[Value.oneCell']) (by unfold maxLen;omega) (by omega) (by have:=hB.size;simp;omega) ?_;intro v' w1 hown' hgrow _;obtain⟨g',cap',rfl⟩:=ownsRow_succ hown';obtain⟨hv1,hv2,hr2,hk2,hb2⟩:=hv.appended (by decide) hrow hB.size (Aad _) hown' hgrow;have hc1:=hv1.cell;have hf1:=hv1.frozen)
  exact⟨hk2.from _,⟨hb2.mono hnw,fun _=>hb2.block bi hlbi⟩,⟨_,hv2,by rw[Akb,Aan];exact hr2,⟨_,_,_,rfl⟩⟩,hB.trans hb2⟩
 case done =>
  rintro D xs W hD rfl ⟨⟨v,hv,hrow,hvs⟩,hB⟩ hK
  have hc:=hv.cell
  obtain⟨A',k',c',rfl⟩:=hvs
  gi_wp2
  refine⟨by simp,.inl ⟨_,_,rfl,run_takeDeferred hK,?_⟩⟩
  exact⟨_,results_tmp rfl _ _ _,_,rfl,ownsRow_putObj hrow _ hK rfl,hB.trans (belowK_b (w:=w) (Aad _) W D _ _ (by omega) hK rfl rfl)⟩
 case stop =>
  rintro D c pre W _ _ h _
  exact h.elim
end Go.Proofs.YtcmgmemffncbhabGreatDoor
namespace Go.Proofs.YtcmgmemffncbhabGreatDoor
open Go.RowKit Tr Go.Shelf
attribute [local go_sem] Oper.semAt_some
theorem flatL_get:∀(ls:List SLot) (j:Nat) (l:SLot),ls[j]?=some l→∀f,f<7→(flatL ls)[j*7+f]?=l.1.cells[f]?
 | [],j,l,h,f,hf=>by simp at h
 | x::r,0,l,h,f,hf=>by
   simp at h
   subst h
   simp only[flatL,List.flatMap_cons]
   rw[List.getElem?_append_left (by simp;omega)]
   simp
 | x::r,j+1,l,h,f,hf=>by
   simp at h
   have:=flatL_get r j l h f hf
   simp only[flatL,List.flatMap_cons] at this ⊢
   rw[Aa1 (by simp;omega)]
   rw[←this]
   congr 1
   simp;omega
theorem Ake(g m:Nat):(⟨g,0,none⟩:Addr).add m=⟨g,m,none⟩:=by unfold Addr.add;split<;>simp_all
theorem RdB.of_own{w:World}{base:Nat}{v:Value}{ls:List SLot}(h:w.ownsRow base 38 7 v ls.length (flatL ls)):
 ∃A c,v=.slice A ls.length c∧ls.length≤c∧(∀ad,A=some ad→base≤ad.block)∧RdB w.heap.size w A ls:=by
 rcases h.2 with⟨rfl,h0⟩|⟨g,cap,cur,rfl,hb,hg,hnc,hcm,_⟩
 ·have:ls=[]:=Aag h0
  subst this
  exact⟨none,0,rfl,Aad _,(fun _ e=>by cases e),fun e=>absurd rfl e⟩
 ·refine⟨_,_,rfl,hnc,fun ad e=>by cases e;exact hb,fun _=>⟨_,rfl,(Aab.1 hg).1,fun j l hj=>?_⟩⟩
  have hc:=h.cells (g:=g) rfl
  have q:∀f,f<7→∀u,l.1.cells[f]?=some u→w.cell? ⟨g,j*7+f,none⟩=some u:=by
   intro f hf u hu
   have:=hc (j*7+f) u (by rw[flatL_get ls j l hj f hf];exact hu)
   rwa [Ake] at this
  rw[Ake]
  exact⟨q 0 (by omega) _ rfl,q 1 (by omega) _ rfl,q 2 (by omega) _ rfl,q 3 (by omega) _ rfl,q 4 (by omega) _ rfl,q 5 (by omega) _ rfl,q 6 (by omega) _ rfl⟩
def Akf(w:World)(ls:List SLot)(e:Ending)(w':World):Prop:=∃A c,e=.returned (.slice A ls.length c)∧ls.length≤c∧(∀ad,A=some ad→w.heap.size≤ad.block)∧RdB w'.heap.size w' A ls∧Below w.heap.size w w'
end Go.Proofs.YtcmgmemffncbhabGreatDoor
namespace Go.Proofs.YtcmgmemffncbhabGreatDoor
open Go.RowKit Tr Go.Shelf
def waits(L:List Bool):Nat:=(L.filter fun b=>!b).length
theorem waits_set:∀(L:List Bool) (i:Nat),L[i]?=some false→waits (L.set i true)<waits L
 | [],i,h=>by simp at h
 | b::r,0,h=>by simp at h;subst h;simp[waits]
 | b::r,i+1,h=>by
   simp at h
   have:=waits_set r i h
   unfold waits at *
   cases b<;>simp at*<;> omega
theorem waits_zero:∀(L:List Bool) (i:Nat),waits L=0→L[i]?≠some false
 | [],i,_=>by simp
 | b::r,0,h=>by cases b<;>simp[waits] at h ⊢
 | b::r,i+1,h=>by
   simp
   refine waits_zero r i ?_
   unfold waits at *
   cases b<;>simp at h ⊢<;>exact h
theorem Akg{L:Array Bool}{i:Nat}(h:L.getD i true=false):L.toList[i]?=some false:=by
 rw[Array.getD_eq_getD_getElem?] at h
 rw[Array.getElem?_toList]
 cases hh:L[i]? with
 | none=>rw[hh] at h;cases h
 | some b=>rw[hh] at h;simp at h;rw[h]
variable {F:Fence} {n:Nat} {P:Program} {md:Region.Mode} {ops:Array Oper} {Q:Exit→Act→World→Prop}
theorem Akh(J:Array Bool→Act→World→Prop)
 (hstep:∀L a w,J L a w→∀i∈Region.ready md ops L,wpOpIn F n P ops Q i (J (L.setIfInBounds i true)) a w)
 (hdone:∀L a w,J L a w→Region.ready md ops L=[]→Q .normal a w) :
 ∀(fuel:Nat) (L:Array Bool) (a:Act) (w:World),J L a w→waits L.toList≤fuel→wpAnyIn F n P md ops Q fuel L a w:=by
 intro fuel
 induction fuel with
 | zero =>
   intro L a w hj hw
   have hr:Region.ready md ops L=[]:=by
    refine List.eq_nil_iff_forall_not_mem.2 fun i hi=>?_
    exact waits_zero L.toList i (by omega) (Akg (mem_ready.1 hi).1)
   exact⟨hr,hdone L a w hj hr⟩
 | succ fuel ih =>
   intro L a w hj hw
   refine⟨fun hr=>hdone L a w hj hr,fun i hi=>wpOpIn_mono (fun a' w' h'=>ih _ a' w' h' ?_) (hstep L a w hj i hi)⟩
   have:=waits_set L.toList i (Akg (mem_ready.1 hi).1)
   rw[Array.toList_setIfInBounds]
   omega
theorem Aki{L:Array Bool}{i:Nat}(h:L.getD i true=false):(L.setIfInBounds i true).getD i false=true:=by
 have:=Akg h
 rw[Array.getElem?_toList] at this
 have hi:=(Aab.1 this).1
 simp[Array.getD_eq_getD_getElem?,hi]
theorem Akj{L:Array Bool}{i j:Nat}(h:i≠j):(L.setIfInBounds i true).getD j false=L.getD j false:=by
 simp[Array.getD_eq_getD_getElem?,Array.getElem?_setIfInBounds,h]
theorem Akk{L:Array Bool}{i:Nat}(h:L.getD i true=false):L.getD i false=false:=by
 have:=Akg h
 rw[Array.getElem?_toList] at this
 simp[Array.getD_eq_getD_getElem?,this]
theorem Akm{L:Array Bool}{i j:Nat}(hun:L.getD i true=false)(h:L.getD j false=true):(L.setIfInBounds i true).getD j false=true:=by
 by_cases e:i=j
 ·subst e;exact Aki hun
 ·rw[Akj e];exact h
theorem Akn{L:Array Bool}{i j:Nat}(h:(L.setIfInBounds i true).getD j false=true)(e:i≠j:=by decide):L.getD j false=true:=by rwa [Akj e] at h
theorem Akp{L:Array Bool}{i j:Nat}(h:(L.setIfInBounds i true).getD j false=false)(e:i≠j:=by decide):L.getD j false=false:=by rwa [Akj e] at h
theorem Akq{L:Array Bool}{i:Nat}(h:L.getD i false=false)(k:L.getD i false=true):False:=by rw[h] at k;cases k
theorem Akr(L:Array Bool)(i:Nat):L.getD i false=false∨L.getD i false=true:=by cases L.getD i false<;>simp
theorem Aks{L:Array Bool}{i:Nat}{o:Oper}(hsz:i<L.size)(hoff:L.getD i false=false)(ho:ops[i]?=some o)(ha:∀e∈o.after,Region.binds md e=true→L.getD e.on false=true):i∈Region.ready md ops L :=
 mem_ready.2 ⟨by rw[Array.getD_eq_getD_getElem?] at *;rw[Array.getElem?_eq_getElem hsz] at *;simpa using hoff,o,ho,ha⟩
theorem Uz{L:Array Bool}{i j:Nat}(h:(L.setIfInBounds i true).getD j false=true)(e:i≠j:=by decide):L.getD j false=true:=Akn h e
theorem Um{L:Array Bool}{i j:Nat}{X:Prop}(f:L.getD j false=true→X)(e:i≠j:=by decide):(L.setIfInBounds i true).getD j false=true→X:=fun h=>f (Akn h e)
theorem Dz{L:Array Bool}{i j:Nat}(h:(L.setIfInBounds i true).getD j false=false)(e:i≠j:=by decide):L.getD j false=false:=Akp h e
theorem hI{p:Prop}(h:p):Hid p:=h
theorem Hq{m:Region.Mode}{o:Oper}{L:Array Bool}(hall:∀e∈o.after,Region.binds m e=true→L.getD e.on false=true)(j:Nat)(h:(o.after.toList.any fun e=>Nat.beq e.on j&&Region.binds m e)=true:=by decide):Hid (L.getD j false=true):=by
 rw[List.any_eq_true] at h
 obtain⟨e,he,h2⟩:=h
 rw[Bool.and_eq_true] at h2
 rw[←Nat.eq_of_beq_eq_true h2.1]
 exact hall e (Array.mem_toList_iff.1 he) h2.2
theorem Akt{P:Program}{ops:Array Oper}{Q:Exit→Act→World→Prop}{i:Nat}{o:Oper}{K:Act→World→Prop}{a:Act}{w:World}(ho:ops[i]?=some o)(h:∀K':Act→World→Prop,Hid (∀a w,K a w→K' a w)→if Region.wanted o (yielded ops a.tmps)=true then Oper.wp P o a w K' Q else K' (a.put o.dst undef) w):wpOp P ops Q i K a w:=wpOp_step ho fun K' hK=>h K' hK
theorem Un{L:Array Bool}{i j k:Nat}{X:Prop}(f:L.getD j false=true→L.getD k false=false→X)(e:i≠j:=by decide)(d:i≠k:=by decide):(L.setIfInBounds i true).getD j false=true→(L.setIfInBounds i true).getD k false=false→X:=fun h g=>f (Akn h e) (Akp g d)
theorem Uf{L:Array Bool}{i k:Nat}{X:Prop}(f:L.getD k false=false→X)(d:i≠k:=by decide):(L.setIfInBounds i true).getD k false=false→X:=fun g=>f (Akp g d)
theorem U3{L:Array Bool}{i j k m:Nat}{X:Prop}(f:L.getD j false=true→L.getD k false=false→L.getD m false=true→X)(e:i≠j:=by decide)(d:i≠k:=by decide)(c:i≠m:=by decide):(L.setIfInBounds i true).getD j false=true→(L.setIfInBounds i true).getD k false=false→(L.setIfInBounds i true).getD m false=true→X:=fun h g l=>f (Akn h e) (Akp g d) (Akn l c)
theorem Uq{L:Array Bool}{i j k:Nat}(hun:L.getD i true=false)(f:L.getD j false=true→L.getD k false=true)(e:i≠j:=by decide):(L.setIfInBounds i true).getD j false=true→(L.setIfInBounds i true).getD k false=true:=fun h=>Akm hun (f (Akn h e))
theorem Uq2{L:Array Bool}{i j k m:Nat}(hun:L.getD i true=false)(f:L.getD j false=true→L.getD k false=true∧L.getD m false=true)(e:i≠j:=by decide):(L.setIfInBounds i true).getD j false=true→(L.setIfInBounds i true).getD k false=true∧(L.setIfInBounds i true).getD m false=true:=fun h=>⟨Akm hun (f (Akn h e)).1,Akm hun (f (Akn h e)).2⟩
theorem Uq3{L:Array Bool}{i j k m n:Nat}(hun:L.getD i true=false)(f:L.getD j false=true→L.getD k false=true∧L.getD m false=true∧L.getD n false=true)(e:i≠j:=by decide):(L.setIfInBounds i true).getD j false=true→(L.setIfInBounds i true).getD k false=true∧(L.setIfInBounds i true).getD m false=true∧(L.setIfInBounds i true).getD n false=true:=fun h=>⟨Akm hun (f (Akn h e)).1,Akm hun (f (Akn h e)).2.1,Akm hun (f (Akn h e)).2.2⟩
def Aku(md:Region.Mode)(ops:Array Oper)(n:Nat):Bool :=
 (List.range n).all fun i=>match ops[i]? with
   | none=>false
   | some o=>o.after.all fun e=>!Region.binds md e||Nat.blt e.on i
theorem Akv{md:Region.Mode}{ops:Array Oper}{L:Array Bool}{n:Nat}(hr:Region.ready md ops L=[])(hsz:L.size=n)(hc:Aku md ops n=true):∀i,i<n→L.getD i false=true:=by
 intro i
 induction i using Nat.strongRecOn with
 | ind i ih =>
   intro hi
   have hh:=List.all_eq_true.1 hc i (List.mem_range.2 hi)
   cases ho:ops[i]? with
   | none=>rw[ho] at hh;cases hh
   | some o =>
     rw[ho] at hh
     simp only[Array.all_eq_true_iff_forall_mem,Bool.or_eq_true,Bool.not_eq_true'] at hh
     refine (Akr L i).resolve_left fun h=>?_
     refine List.eq_nil_iff_forall_not_mem.1 hr i (Aks (by rw[hsz];exact hi) h ho (fun e he hbd=>?_))
     rcases hh e he with hb|hb
     ·rw[hb] at hbd;cases hbd
     ·rw[Nat.blt_eq] at hb
      exact ih e.on hb (Nat.lt_trans hb hi)
end Go.Proofs.YtcmgmemffncbhabGreatDoor
namespace Go.Proofs.YtcmgmemffncbhabGreatDoor
open Go.RowKit Tr Go.Shelf
variable {P:Program} {md:Region.Mode} {ops:Array Oper} {Q:Exit→Act→World→Prop}
theorem Akw(J:Array Bool→Act→World→Prop)
 (hstep:∀L a w,J L a w→∀i∈Region.ready md ops L,wpOp P ops Q i (J (L.setIfInBounds i true)) a w)
 (hdone:∀L a w,J L a w→Region.ready md ops L=[]→Q .normal a w) :
 ∀(fuel:Nat) (L:Array Bool) (a:Act) (w:World),J L a w→waits L.toList≤fuel→wpAny P md ops Q fuel L a w:=by
 intro fuel
 induction fuel with
 | zero =>
   intro L a w hj hw
   have hr:Region.ready md ops L=[]:=by
    refine List.eq_nil_iff_forall_not_mem.2 fun i hi=>?_
    exact waits_zero L.toList i (by omega) (Akg (mem_ready.1 hi).1)
   exact⟨hr,hdone L a w hj hr⟩
 | succ fuel ih =>
   intro L a w hj hw
   refine⟨fun hr=>hdone L a w hj hr,fun i hi=>wpOp_mono (fun a' w' h'=>ih _ a' w' h' ?_) (hstep L a w hj i hi)⟩
   have:=waits_set L.toList i (Akg (mem_ready.1 hi).1)
   rw[Array.toList_setIfInBounds]
   omega
end Go.Proofs.YtcmgmemffncbhabGreatDoor
namespace Go.Proofs.YtcmgmemffncbhabGreatDoor
open Go.RowKit Tr Go.Shelf
def Lot.tiny(l:Lot):Prop:=l.qty.size≤13∧l.cost.size≤13∧l.used.size≤13∧l.id.size≤40∧l.inst.size≤40
theorem Lot.tiny.sized{l:Lot}(h:l.tiny):l.sized:=by
 obtain⟨h1,h2,h3,h4,h5⟩:=h
 exact⟨by omega,by omega,by omega,by omega,by omega⟩
theorem Akx(d:Int)(w:World):
 Calls Tryz.prog 92 #[.int .i64 d] w fun e w'=>e=.returned (.bool (decide (okDay d)))∧w=w':=by
 go_enter Tryz.func92,Tryz.ntmps92
 go_wp2_with fail
 all_goals (go_ret;refine⟨?_,rfl⟩;first|(rw[Aa3 (p:=okDay d) (by unfold okDay;omega)];rfl)|(rw[Aa4 (p:=okDay d) (by unfold okDay;omega)];rfl)|(simp[okDay, *];done))
theorem lbox(l:Lot)(w:World):∃W0,w.alloc (.cells l.cells 38)=W0∧Below w.heap.size w W0∧W0.heap[w.heap.size]?=some (.cells l.cells 38) :=
 ⟨_,rfl,(Below.refl _ w).alloc (Aad _) _,Aa5 w _⟩
theorem Aky(l:Lot)(w:World):Calls Tryz.prog 34 #[l.enc] w (Ajz w l.tiny):=by
 obtain⟨W0,hW0,hB0,hk⟩:=lbox l w
 obtain⟨c0,c1,c2,c3,c4,c5,c6⟩:=Ac0 hk
 have HB:=Aac hB0
 clear hB0 hk
 go_enter Tryz.func34,Tryz.ntmps34
 go_wp2_with fail
 refine (Ahf l.qty _).mono ?_
 rintro e w1 ⟨rfl,rfl⟩
 by_cases h1:13<l.qty.size
 ·rw[Aa3 h1]
  go_wp2_with fail
  go_ret
  exact⟨true,rfl,fun h=>(by cases h),HB.out⟩
 rw[Aa4 h1]
 go_wp2_with fail
 refine (Ahf l.cost _).mono ?_
 rintro e w1 ⟨rfl,rfl⟩
 by_cases h2:13<l.cost.size
 ·rw[Aa3 h2]
  go_wp2_with fail
  go_ret
  exact⟨true,rfl,fun h=>(by cases h),HB.out⟩
 rw[Aa4 h2]
 go_wp2_with fail
 refine (Ahf l.used _).mono ?_
 rintro e w1 ⟨rfl,rfl⟩
 by_cases h3:13<l.used.size
 ·rw[Aa3 h3]
  go_wp2_with fail
  go_ret
  exact⟨true,rfl,fun h=>(by cases h),HB.out⟩
 rw[Aa4 h3]
 by_cases h4:40<l.id.size
 ·have t4:decide ((40:Int)<(l.id.size:Int))=true:=Aa3 (by omega)
  go_wp2_with fail
  go_ret
  exact⟨true,rfl,fun h=>(by cases h),HB.out⟩
 have t4:decide ((40:Int)<(l.id.size:Int))=false:=Aa4 (by omega)
 by_cases h5:40<l.inst.size
 ·have t5:decide ((40:Int)<(l.inst.size:Int))=true:=Aa3 (by omega)
  go_wp2_with fail
  go_ret
  exact⟨true,rfl,fun h=>(by cases h),HB.out⟩
 have t5:decide ((40:Int)<(l.inst.size:Int))=false:=Aa4 (by omega)
 go_wp2_with fail
 go_ret
 exact⟨false,rfl,fun _=>⟨by omega,by omega,by omega,by omega,by omega⟩,HB.out⟩
theorem Akz{z:Int}(h:0<z):decide (cmpI z 0≤0)=false:=Aa4 (by rw[Aet];omega)
theorem Ak0{z:Int}(h:¬ 0<z):decide (cmpI z 0≤0)=true:=Aa3 (by rw[Aet];omega)
theorem Ak1{z:Int}(h:z<0):decide (cmpI z 0<0)=true:=Aa3 (by rw[cmpI_lt];omega)
theorem Ak2{z:Int}(h:¬z<0):decide (cmpI z 0<0)=false:=Aa4 (by rw[cmpI_lt];omega)
theorem Ak3(a b:ByteArray):(a.toList==b.toList)=decide (a=b):=by
 by_cases h:a=b
 ·subst h;simp
 ·rw[Aa4 h];exact Aes h
def findR:List Lot→ByteArray→Nat→Nat×Bool
 | [],_,_=>(0,false)
 | l::r,id,k=>if l.id=id then (k,true) else findR r id (k+1)
theorem findR_skip:∀(a b:List Lot) (id:ByteArray) (k:Nat),(∀x∈a,x.id≠id)→findR (a++b) id k=findR b id (k+a.length)
 | [],b,id,k,_=>rfl
 | l::r,b,id,k,h=>by
   rw[List.cons_append,findR,if_neg (h l (Aaw ..)),findR_skip r b id (k+1) (fun x hx=>h x (Aax _ hx)),Aa0]
   congr 1
   omega
theorem Ak4{a:List Lot}{id:ByteArray}(h:∀x∈a,x.id≠id)(k:Nat):findR a id k=(0,false):=by
 have:=findR_skip a [] id k h
 rw[List.append_nil] at this
 rw[this];rfl
theorem findR_false:∀(a:List Lot) (id:ByteArray) (k:Nat),(findR a id k).2=false→∀x∈a,x.id≠id
 | [],_,_,_,_,hx=>by cases hx
 | l::r,id,k,h,x,hx=>by
   rw[findR] at h
   by_cases e:l.id=id
   ·rw[if_pos e] at h;cases h
   ·rw[if_neg e] at h
    rcases List.mem_cons.1 hx with rfl|hx
    ·exact e
    ·exact findR_false r id (k+1) h x hx
theorem Ak5{ls:List Lot}{m k:Nat}{l:Lot}{id:ByteArray}(hk:k<m)(hm:m≤ls.length)(hs:ls.take (k+1)=ls.take k++[l])(hn:∀x∈ls.take k,x.id≠id)(h:l.id=id):findR (ls.take m) id 0=(k,true):=by
 have e:ls.take m=ls.take k++(l::(ls.take m).drop (k+1)):=by
  have:=Aav (k+1) (ls.take m)
  rw[List.take_take,show min (k+1) m=k+1 by omega,hs] at this
  rw[List.append_assoc] at this
  exact this.symm
 rw[e,findR_skip _ _ _ _ hn,findR,if_pos h,Aat]
 congr 1
 omega
theorem Ak6(A:Option Addr)(ls:List Lot)(m c:Nat)(hm:m≤ls.length)(hl:ls.length≤1000000)(id:ByteArray)(w:World)(hR:RdL w A ls):
 Calls Tryz.prog 28 #[.slice A m c,.string id] w fun e w'=>e=.returned (.tuple #[.int .i64 ((findR (ls.take m) id 0).1:Int),.bool (findR (ls.take m) id 0).2])∧w=w':=by
 have HR:=Aac hR
 clear hR
 go_enter Tryz.func28,Tryz.ntmps28
 go_wp2_with fail
 go_loop [6] (fun v=>∃k:Nat,v=.int .i64 (k:Int)∧k≤m∧∀x∈ls.take k,x.id≠id) (fun v=>m-(intOf v).toNat)
 case atStart=>exact⟨0,rfl,by omega,fun x hx=>by simp at hx⟩
 case round =>
  obtain⟨k,rfl,hk,hx⟩:=hrel
  have HX:=Aac hx
  clear hx
  rcases Aam k m with hlt|hge
  ·have hlt':k<ls.length:=by omega
   obtain⟨l,hl'⟩:∃l,ls[k]?=some l:=⟨_,Aae hlt'⟩
   obtain⟨ad,rfl,had,hcell⟩:=HR.out (by intro e;rw[e] at hlt';cases hlt')
   have hcx:decide ((k:Int)<(m:Int))=true:=by simp;omega
   obtain⟨c0,c1,c2,c3,c4,c5,c6⟩:=hcell k l hl'
   have HSN:Hid (ls.take (k+1)=ls.take k++[l]):=by
    rw[Hid,List.take_succ_eq_append_getElem hlt']
    congr 2
    rw[Aae hlt'] at hl'
    exact Option.some.inj hl'
   clear hcell hl'
   have e2:=Ak3 l.id id
   by_cases h1:l.id=id
   ·rw[Aa3 h1] at e2
    have H1:=Aac h1
    clear h1
    go_wp2_with fail
    go_ret2
    refine⟨?_,rfl⟩
    rw[Ak5 hlt hm HSN.out HX.out H1.out]
    rfl
   ·rw[Aa4 h1] at e2
    have H1:=Aac h1
    clear h1
    go_wp2_with fail
    go_round
    case rel =>
     refine⟨k+1,by go_num,by omega,fun x hx=>?_⟩
     rw[HSN.out,List.mem_append] at hx
     rcases hx with hx|hx
     ·exact HX.out x hx
     ·rw[List.mem_singleton] at hx;subst hx;exact H1.out
    case measure=>simp[intOf];omega
  ·have hcx:decide ((k:Int)<(m:Int))=false:=by simp;omega
   have hkm:k=m:=by omega
   subst hkm
   go_wp2_with fail
   go_ret2
   refine⟨?_,rfl⟩
   rw[Ak4 HX.out]
   rfl
theorem Ak7{n:Nat}(h:0<n):Lib.itoa (n:Int)=digits n:=by
 unfold Lib.itoa
 rw[if_neg (by omega),Int.toNat_natCast]
 have:=Afx h
 unfold dec at this
 exact this
theorem Ak8{n:Nat}(h:0<n):(digits n).getD 0 0≠48:=by
 have h1:=(Ach (digits n) (all_digits n)).1
 rw[dval_digits] at h1
 have h2:=Ab3 h
 match hd:digits n,h2 with
 | b::r,_ =>
   rw[hd] at h1
   intro e
   have hb:b=48:=by simpa using e
   subst hb
   have h3:strip (48::r)=strip r:=rfl
   rw[h3] at h1
   have h4:(strip r).length≤r.length:=by unfold strip;exact (List.dropWhile_sublist _).length_le
   have h5:=congrArg List.length h1
   simp at h5
   omega
theorem Ak9{v:Int}{t:List UInt8}(h1:1≤v)(h2:v≤9999)(h:Lib.itoa v=t):numB t=true:=by
 obtain⟨n,rfl⟩:∃n:Nat,v=(n:Int):=⟨v.toNat,by omega⟩
 have hn:0<n:=by omega
 rw[Ak7 hn] at h
 subst h
 refine Aj0 ?_ ?_ (all_digits n) (Ak8 hn)
 ·exact List.length_pos_iff.2 (Ab3 hn)
 ·exact (digits_length_le_iff 4 n).2 (by omega)
theorem cut_len(s p:List UInt8):(Lib.cut s p).1.length≤s.length∧(Lib.cut s p).2.1.length≤s.length:=by
 unfold Lib.cut
 split
 ·exact⟨by simp only[Aat];omega,by simp only[List.length_drop];omega⟩
 ·exact⟨Aad _,by simp⟩
theorem isId_no(s:ByteArray)(hs:s.size≤1000)(h:idB s=false)(w:World)(ht:Tabs w):
 Calls Tryz.prog 82 #[.string s] w fun e w'=>e=.returned (.bool false)∧Below w.heap.size w w':=by
 obtain⟨m,hm⟩:=ht.maxLen
 have HC:=Aac (Tryz.strings_Cut s ⟨#[47]⟩ m w (by omega) hm)
 have hlc:(Lib.cut s.data.toList [47]).1.length≤1000∧(Lib.cut s.data.toList [47]).2.1.length≤1000:=by
  have hl:s.data.toList.length=s.size:=(Lib.size_eq s).symm
  have:=cut_len s.data.toList [47]
  omega
 unfold idB at h
 rw[Bool.and_eq_false_iff] at h
 rw[show (⟨#[47]⟩:ByteArray).data.toList=[47] from rfl] at HC
 generalize Lib.cut s.data.toList [47]=c at HC h hlc
 obtain⟨c1,c2,c3⟩:=c
 dsimp only at HC h hlc
 have hz:(bs c2).size=c2.length:=Aej _
 have hz1:(bs c1).size=c1.length:=Aej _
 have hd2:(bs c2).data.toList=c2:=by unfold bs;simp
 have H:=Aac h
 have HT:=Aac ht
 have HN:=Aac (fun W=>Ajq (bs c1) (by omega) W)
 rw[show (ByteArray.mk c1.toArray)=bs c1 from rfl,show (ByteArray.mk c2.toArray)=bs c2 from rfl] at HC
 have HL:=Aac (show (bs c2).size≤1000 by omega)
 have HD:=Aac hd2
 clear hm h ht hz hz1 hlc hd2
 go_enter Tryz.func82,Tryz.ntmps82
 go_wp2_with fail
 refine HC.out.mono ?_
 rintro e w1 ⟨rfl,k,hw1⟩
 have B1:Below w.heap.size w w1:=by rw[hw1];exact Acz (Below.refl _ _) k
 have HB1:=Aac B1
 clear hw1 B1 HC
 go_wp2_with fail
 cases hat:Lib.atoiAll (bs c2).data.toList with
 | range =>
   obtain⟨tp,p,hv⟩:=(HT.out.below HB1.out).rng
   have HA:=Aac (Tryz.strconv_Atoi_range_var (bs c2) (by have:=HL.out;omega) hat tp p w1 hv)
   clear hv hat
   refine HA.out.mono ?_
   rintro e w2 ⟨N,rfl,_,_,b2⟩
   have HB2:=Aac (HB1.out.trans (b2.mono HB1.out.size))
   clear b2 HA
   go_wp2_with fail
   go_ret
   exact⟨rfl,HB2.out⟩
 | ok v =>
   have HA:=Aac (Tryz.strconv_Atoi_ok (bs c2) (by have:=HL.out;omega) v hat w1)
   clear hat
   refine HA.out.mono ?_
   rintro e w2 ⟨rfl,hw2⟩
   have B2:Below w.heap.size w w2:=by
    rcases hw2 with rfl|⟨t,rfl⟩
    ·exact HB1.out
    ·exact HB1.out.trans ((Lib.bytesWorld_below _ _ _).mono HB1.out.size)
   have HB2:=Aac B2
   clear hw2 B2 HA HB1
   by_cases h1:1≤v
   case neg =>
    have t1:decide (1≤v)=false:=Aa4 h1
    clear h1
    go_wp2_with fail
    go_ret
    exact⟨rfl,HB2.out⟩
   by_cases h2:v≤9999
   case neg =>
    have t1:decide (1≤v)=true:=Aa3 h1
    have t2:decide (v≤9999)=false:=Aa4 h2
    clear h1 h2
    go_wp2_with fail
    go_ret
    exact⟨rfl,HB2.out⟩
   have t1:decide (1≤v)=true:=Aa3 h1
   have t2:decide (v≤9999)=true:=Aa3 h2
   have HI:=Aac (fun W hW=>Ajh v (by omega) (by omega) W hW)
   have HV:=Aac (And.intro h1 h2)
   clear h1 h2
   go_wp2_with fail
   refine (HI.out _ (HT.out.below HB2.out)).mono ?_
   rintro e w3 ⟨rfl,b3⟩
   have HB3:=Aac (HB2.out.trans (b3.mono HB2.out.size))
   clear b3 HB2
   by_cases h3:bs (Lib.itoa v)=bs c2
   case neg =>
    have t3:((bs (Lib.itoa v)).toList==(bs c2).toList)=false:=Aes h3
    clear h3
    go_wp2_with fail
    go_ret
    exact⟨rfl,HB3.out⟩
   have hnum:numB c2=true:=by
    refine Ak9 HV.out.1 HV.out.2 ?_
    have:=congrArg (fun b:ByteArray=>b.data.toList) h3
    simpa[bs] using this
   have hnm:Ajn (bs c1)=false:=by
    rcases H.out with h|h
    ·rw[hnum] at h;cases h
    ·exact h
   rw[hnm] at HN
   rw[h3]
   clear h3 hnum hnm H
   go_wp2_with fail
   refine (HN.out _).mono ?_
   rintro e w4 ⟨rfl,b4⟩
   have HB4:=Aac (HB3.out.trans (b4.mono HB3.out.size))
   clear b4 HB3
   go_wp2_with fail
   go_ret
   exact⟨rfl,HB4.out⟩
 | _ =>
   obtain⟨tp,p,hv⟩:=(HT.out.below HB1.out).syn
   have HA:=Aac (Tryz.strconv_Atoi_syntax_var (bs c2) (by have:=HL.out;omega) (fun v h=>by rw[hat] at h;cases h) (fun h=>by rw[hat] at h;cases h) tp p w1 hv)
   clear hv hat
   refine HA.out.mono ?_
   rintro e w2 ⟨N,rfl,_,_,b2⟩
   have HB2:=Aac (HB1.out.trans (b2.mono HB1.out.size))
   clear b2 HA
   go_wp2_with fail
   go_ret
   exact⟨rfl,HB2.out⟩
theorem Ama(s:ByteArray)(hs:s.size≤1000)(w:World)(ht:Tabs w):
 Calls Tryz.prog 82 #[.string s] w fun e w'=>e=.returned (.bool (idB s))∧Below w.heap.size w w':=by
 cases h:idB s
 ·exact isId_no s hs h w ht
 ·exact Ajv s hs h w ht
open Classical in
noncomputable def lchk(l:Lot):Int :=
 if idB l.id=false∨Ajn l.inst=false then 23
 else if ¬okDay l.acq∨¬okDay l.opn then 13
 else if l.opn<l.acq then 8
 else if ¬Can l.qty∨¬Can l.cost∨¬Can l.used then 1
 else if ¬ 0<vl l.qty∨vl l.cost<0∨(l.used≠⟨#[]⟩∧l.used≠l.qty) then 2 else 0
theorem lchk_zero{l:Lot}:lchk l=0↔l.ok:=by
 unfold lchk
 constructor
 ·intro h
  split at h
  ·cases h
  rename_i a1
  split at h
  ·cases h
  rename_i a2
  split at h
  ·cases h
  rename_i a3
  split at h
  ·cases h
  rename_i a4
  split at h
  ·cases h
  rename_i a5
  simp only[not_or,Bool.not_eq_false,Classical.not_not,not_and] at a1 a2 a4 a5
  refine⟨a1.1,a1.2,a2.1,a2.2,by omega,a4.1,a4.2.1,a4.2.2,a5.1,by omega,?_⟩
  rcases Classical.em (l.used=⟨#[]⟩) with h|h
  ·exact .inl h
  ·exact .inr (a5.2.2 h)
 ·intro h
  have b1:¬(idB l.id=false∨Ajn l.inst=false):=by rw[h.id,h.inst];simp
  have b2:¬(¬okDay l.acq∨¬okDay l.opn):=by intro x;rcases x with x|x;exact x h.acq;exact x h.opn
  have b3:¬l.opn<l.acq:=by have:=h.ord;omega
  have b4:¬(¬Can l.qty∨¬Can l.cost∨¬Can l.used):=by intro x;rcases x with x|x|x;exact x h.cq;exact x h.cc;exact x h.cu
  have b5:¬(¬ 0<vl l.qty∨vl l.cost<0∨(l.used≠⟨#[]⟩∧l.used≠l.qty)):=by
   intro x
   rcases x with x|x|x
   ·exact x h.pq
   ·have:=h.pc;omega
   ·rcases h.us with u|u
    ·exact x.1 u
    ·exact x.2 u
  rw[if_neg b1,if_neg b2,if_neg b3,if_neg b4,if_neg b5]
theorem Amb{l:Lot}(h:idB l.id=false∨Ajn l.inst=false):lchk l=23:=by unfold lchk;rw[if_pos h]
theorem Amc{l:Lot}(a:idB l.id=true)(b:Ajn l.inst=true)(h:¬okDay l.acq∨¬okDay l.opn):lchk l=13:=by unfold lchk;rw[if_neg (by rw[a,b];simp),if_pos h]
theorem Amd{l:Lot}(a:idB l.id=true)(b:Ajn l.inst=true)(c:okDay l.acq)(d:okDay l.opn)(h:l.opn<l.acq):lchk l=8:=by
 unfold lchk;rw[if_neg (by rw[a,b];simp),if_neg (by intro x;rcases x with x|x;exact x c;exact x d),if_pos h]
theorem Ame{l:Lot}(a:idB l.id=true)(b:Ajn l.inst=true)(c:okDay l.acq)(d:okDay l.opn)(e:l.acq≤l.opn)(h:¬Can l.qty∨¬Can l.cost∨¬Can l.used):lchk l=1:=by
 unfold lchk;rw[if_neg (by rw[a,b];simp),if_neg (by intro x;rcases x with x|x;exact x c;exact x d),if_neg (by omega),if_pos h]
theorem Amf{l:Lot}(a:idB l.id=true)(b:Ajn l.inst=true)(c:okDay l.acq)(d:okDay l.opn)(e:l.acq≤l.opn)(f:Can l.qty)(g:Can l.cost)(i:Can l.used)(h:¬ 0<vl l.qty∨vl l.cost<0∨(l.used≠⟨#[]⟩∧l.used≠l.qty)):lchk l=2:=by
 unfold lchk;rw[if_neg (by rw[a,b];simp),if_neg (by intro x;rcases x with x|x;exact x c;exact x d),if_neg (by omega),if_neg (by intro x;rcases x with x|x|x;exact x f;exact x g;exact x i),if_pos h]
theorem Amg(l:Lot)(hs:l.sized)(w:World)(ht:Tabs w):
 Calls Tryz.prog 47 #[l.enc] w fun e w'=>e=.returned (.int .i64 (lchk l))∧Below w.heap.size w w':=by
 obtain⟨W0,hW0⟩:∃W0,w.alloc (.cells l.cells 38)=W0:=⟨_,rfl⟩
 have hk:LotBox W0 w.heap.size l:=by rw[←hW0];exact Aa5 w _
 have HB:Hid (Below w.heap.size w W0):=by rw[←hW0];exact (Below.refl _ w).alloc (Aad _) _
 obtain⟨c0,c1,c2,c3,c4,c5,c6⟩:=Ac0 hk
 have HK0:=Aac hk
 have HT:=Aac ht
 obtain⟨z1,z2,z3,z4,z5⟩:=hs
 have S1:=Aac (fun W (hW:Tabs W)=>Ama l.id (by omega) W hW)
 have S2:=Aac (fun W=>Ajq l.inst (by omega) W)
 have Y1:=Aac (fun (h:Can l.qty) W=>Agq l.qty W (by omega) h)
 have X1:=Aac (fun (h:¬Can l.qty) W=>Agr l.qty W (by omega) h)
 have Y2:=Aac (fun (h:Can l.cost) W=>Agq l.cost W (by omega) h)
 have X2:=Aac (fun (h:¬Can l.cost) W=>Agr l.cost W (by omega) h)
 have Y3:=Aac (fun (h:Can l.used) W=>Agq l.used W (by omega) h)
 have X3:=Aac (fun (h:¬Can l.used) W=>Agr l.used W (by omega) h)
 have M1:=Aac (fun W=>Agu l.qty ⟨#[]⟩ W (by omega) (by show 0≤_;omega))
 have M2:=Aac (fun W=>Agu l.cost ⟨#[]⟩ W (by omega) (by show 0≤_;omega))
 rw[show vl (⟨#[]⟩:ByteArray)=0 from by rw[zero_eq,vl_I]] at M1 M2
 clear ht hk z1 z2 z3 z4 z5
 unfold Lot.enc Lot.cells at *
 go_enter Tryz.func47,Tryz.ntmps47
 go_wp2_with fail
 refine (S1.out W0 (HT.out.below HB.out)).mono ?_
 rintro e w1 ⟨rfl,b1⟩
 have hk1:=HK0.out.below b1
 replace HB:=Aac (HB.out.trans (b1.mono HB.out.size))
 clear c0 c1 c2 c3 c4 c5 c6
 obtain⟨c0,c1,c2,c3,c4,c5,c6⟩:=Ac0 hk1
 have HK1:=Aac hk1
 clear b1 S1 hk1 HK0 hW0
 cases hid:idB l.id
 ·have H:=Aac hid
  clear hid
  go_wp2_with fail
  go_ret
  exact⟨by rw[Amb (.inl H.out)];rfl,HB.out⟩
 have G1:=Aac hid
 clear hid
 go_wp2_with fail
 refine (S2.out w1).mono ?_
 rintro e w2 ⟨rfl,b2⟩
 have hk2:=HK1.out.below b2
 replace HB:=Aac (HB.out.trans (b2.mono HB.out.size))
 clear c0 c1 c2 c3 c4 c5 c6
 obtain⟨c0,c1,c2,c3,c4,c5,c6⟩:=Ac0 hk2
 have HK2:=Aac hk2
 clear b2 S2 hk2 HK1
 cases hnm:Ajn l.inst
 ·have H:=Aac hnm
  clear hnm
  go_wp2_with fail
  go_ret
  exact⟨by rw[Amb (.inr H.out)];rfl,HB.out⟩
 have G2:=Aac hnm
 clear hnm
 go_wp2_with fail
 refine (Ajw l.acq w2).mono ?_
 rintro e w3 ⟨rfl,rfl⟩
 by_cases h3:okDay l.acq
 case neg =>
  rw[Aa4 h3]
  have H:=Aac h3
  clear h3
  go_wp2_with fail
  go_ret
  exact⟨by rw[Amc G1.out G2.out (.inl H.out)];rfl,HB.out⟩
 rw[Aa3 h3]
 have G3:=Aac h3
 clear h3
 go_wp2_with fail
 refine (Ajw l.opn _).mono ?_
 rintro e w4 ⟨rfl,rfl⟩
 by_cases h4:okDay l.opn
 case neg =>
  rw[Aa4 h4]
  have H:=Aac h4
  clear h4
  go_wp2_with fail
  go_ret
  exact⟨by rw[Amc G1.out G2.out (.inr H.out)];rfl,HB.out⟩
 rw[Aa3 h4]
 have G4:=Aac h4
 clear h4
 by_cases h5:l.opn<l.acq
 ·have t5:decide (l.opn<l.acq)=true:=Aa3 h5
  have H:=Aac h5
  clear h5
  go_wp2_with fail
  go_ret
  exact⟨by rw[Amd G1.out G2.out G3.out G4.out H.out];rfl,HB.out⟩
 have t5:decide (l.opn<l.acq)=false:=Aa4 h5
 have G5:=Aac (show l.acq≤l.opn by omega)
 clear h5
 obtain⟨W5,hW5⟩:∃W5,w4.alloc (.cells (Ajx l) 23)=W5:=⟨_,rfl⟩
 have b5:Below w4.heap.size w4 W5:=by rw[←hW5];exact (Below.refl _ w4).alloc (Aad _) _
 have HS5:Hid (LLoop w w4.heap.size l W5):=⟨by rw[←hW5];exact Aa5 w4 _,HK2.out.below b5,HB.out.trans (b5.mono HB.out.size)⟩
 clear b5 HK2 HB
 unfold Ajx at hW5
 go_wp2_with fail
 go_loopw [38] (fun v wx=>∃k:Nat,v=.int .i64 (k:Int)∧k≤3∧(1≤k→Can l.qty)∧(2≤k→Can l.cost)∧(3≤k→Can l.used)∧LLoop w w4.heap.size l wx) (fun v _=>3-(intOf v).toNat)
 case atStart=>exact⟨0,rfl,by omega,fun h=>by omega,fun h=>by omega,fun h=>by omega,HS5.out⟩
 case round =>
  obtain⟨k,rfl,hk,k1,k2,k3,hL⟩:=hrel
  clear HS5 hW5
  clear c0 c1 c2 c3 c4 c5 c6
  have K1:=Aac k1
  have K2:=Aac k2
  have K3:=Aac k3
  clear k1 k2 k3
  have n0:=Aaa hL.ns 0
  have n1:=Aaa hL.ns 1
  have n2:=Aaa hL.ns 2
  simp[Ajx] at n0 n1 n2
  obtain⟨c0,c1,c2,c3,c4,c5,c6⟩:=Ac0 hL.ib
  have HL:=Aac hL
  clear hL
  rcases (show k=0∨k=1∨k=2∨k=3 from by omega) with rfl|rfl|rfl|rfl
  ·by_cases hc:Can l.qty
   ·have H:=Aac hc
    clear hc
    go_wp2_with fail
    refine (Y1.out H.out _).mono ?_
    rintro e w6 ⟨rfl,b6⟩
    have HL6:=Aac (HL.out.below b6)
    clear b6
    go_wp2_with fail
    go_roundw
    case rel=>exact⟨1,rfl,by omega,(fun _=>H.out),(fun h=>by omega),(fun h=>by omega),HL6.out⟩
    case measure=>simp[intOf]
   ·have H:=Aac hc
    clear hc
    go_wp2_with fail
    refine (X1.out H.out _).mono ?_
    rintro e w6 ⟨rfl,b6⟩
    have HB:=Aac (HL.out.below b6).be
    clear b6
    go_wp2_with fail
    go_ret
    exact⟨by rw[Ame G1.out G2.out G3.out G4.out G5.out (.inl H.out)];rfl,HB.out⟩
  ·by_cases hc:Can l.cost
   ·have H:=Aac hc
    clear hc
    go_wp2_with fail
    refine (Y2.out H.out _).mono ?_
    rintro e w6 ⟨rfl,b6⟩
    have HL6:=Aac (HL.out.below b6)
    clear b6
    go_wp2_with fail
    go_roundw
    case rel=>exact⟨2,rfl,by omega,(fun _=>K1.out (by omega)),(fun _=>H.out),(fun h=>by omega),HL6.out⟩
    case measure=>simp[intOf]
   ·have H:=Aac hc
    clear hc
    go_wp2_with fail
    refine (X2.out H.out _).mono ?_
    rintro e w6 ⟨rfl,b6⟩
    have HB:=Aac (HL.out.below b6).be
    clear b6
    go_wp2_with fail
    go_ret
    exact⟨by rw[Ame G1.out G2.out G3.out G4.out G5.out (.inr (.inl H.out))];rfl,HB.out⟩
  ·by_cases hc:Can l.used
   ·have H:=Aac hc
    clear hc
    go_wp2_with fail
    refine (Y3.out H.out _).mono ?_
    rintro e w6 ⟨rfl,b6⟩
    have HL6:=Aac (HL.out.below b6)
    clear b6
    go_wp2_with fail
    go_roundw
    case rel=>exact⟨3,rfl,by omega,(fun _=>K1.out (by omega)),(fun _=>K2.out (by omega)),(fun _=>H.out),HL6.out⟩
    case measure=>simp[intOf]
   ·have H:=Aac hc
    clear hc
    go_wp2_with fail
    refine (X3.out H.out _).mono ?_
    rintro e w6 ⟨rfl,b6⟩
    have HB:=Aac (HL.out.below b6).be
    clear b6
    go_wp2_with fail
    go_ret
    exact⟨by rw[Ame G1.out G2.out G3.out G4.out G5.out (.inr (.inr H.out))];rfl,HB.out⟩
  ·go_wp2_with fail
   refine (M1.out _).mono ?_
   rintro e w6 ⟨rfl,b6⟩
   have hL6:=HL.out.below b6
   clear c0 c1 c2 c3 c4 c5 c6
   clear n0 n1 n2
   obtain⟨c0,c1,c2,c3,c4,c5,c6⟩:=Ac0 hL6.ib
   have HL6:=Aac hL6
   clear b6 hL6 HL
   by_cases h9:0<vl l.qty
   case neg =>
    have t9:=Ak0 h9
    have H:=Aac h9
    clear h9
    go_wp2_with fail
    go_ret
    exact⟨by rw[Amf G1.out G2.out G3.out G4.out G5.out (K1.out (by omega)) (K2.out (by omega)) (K3.out (by omega)) (.inl (Int.not_lt.2 H.out))];rfl,HL6.out.be⟩
   have t9:=Akz h9
   have G9:=Aac h9
   clear h9
   go_wp2_with fail
   refine (M2.out _).mono ?_
   rintro e w7 ⟨rfl,b7⟩
   have hL7:=HL6.out.below b7
   clear c0 c1 c2 c3 c4 c5 c6
   obtain⟨c0,c1,c2,c3,c4,c5,c6⟩:=Ac0 hL7.ib
   have HL7:=Aac hL7
   clear b7 hL7 HL6
   by_cases h10:vl l.cost<0
   ·have t10:=Ak1 h10
    have H:=Aac h10
    clear h10
    go_wp2_with fail
    go_ret
    exact⟨by rw[Amf G1.out G2.out G3.out G4.out G5.out (K1.out (by omega)) (K2.out (by omega)) (K3.out (by omega)) (.inr (.inl H.out))];rfl,HL7.out.be⟩
   have t10:=Ak2 h10
   have G10:=Aac (show 0≤vl l.cost by omega)
   clear h10
   have e1:=Ak3 l.used ⟨#[]⟩
   rw[show (⟨#[]⟩:ByteArray).toList=[] from by rw[Lib.toList_data]] at e1
   have e2:=Ak3 l.used l.qty
   have OK:=Aac (fun (u:l.used=⟨#[]⟩∨l.used=l.qty)=>lchk_zero.2 (⟨G1.out,G2.out,G3.out,G4.out,G5.out,K1.out (by omega),K2.out (by omega),K3.out (by omega),G9.out,G10.out,u⟩:l.ok))
   by_cases h11:l.used=⟨#[]⟩
   ·have G11:=Aac h11
    rw[Aa3 h11] at e1
    clear h11 e2
    go_wp2_with fail
    go_ret
    exact⟨by rw[OK.out (.inl G11.out)];rfl,HL7.out.be⟩
   rw[Aa4 h11] at e1
   have H11:=Aac h11
   clear h11
   by_cases h12:l.used=l.qty
   ·have G12:=Aac h12
    rw[Aa3 h12] at e2
    clear h12
    go_wp2_with fail
    go_ret
    exact⟨by rw[OK.out (.inr G12.out)];rfl,HL7.out.be⟩
   rw[Aa4 h12] at e2
   have H12:=Aac h12
   clear h12
   go_wp2_with fail
   go_ret
   exact⟨by rw[Amf G1.out G2.out G3.out G4.out G5.out (K1.out (by omega)) (K2.out (by omega)) (K3.out (by omega)) (.inr (.inr ⟨H11.out,H12.out⟩))];rfl,HL7.out.be⟩
theorem Amh{t:List UInt8}(h:numB t=true):1≤t.length∧t.length≤4∧t.all Ab1=true∧t.getD 0 0≠48:=by
 obtain⟨h4,v,_,h1,h2,h3⟩:=Aju h
 obtain⟨n,rfl⟩:∃n:Nat,v=(n:Int):=⟨v.toNat,by omega⟩
 have hn:0<n:=by omega
 rw[Ak7 hn] at h3
 subst h3
 exact⟨List.length_pos_iff.2 (Ab3 hn),h4,all_digits n,Ak8 hn⟩
theorem Ami{t:List UInt8}(h:numB t=true→False):numB t=false:=by
 cases e:numB t
 ·rfl
 ·exact (h e).elim
theorem Amj{s:ByteArray}{i:Nat}(hi:i<s.size)(h47:byt s i=47)(hn:∀j,j<i→byt s j≠47):idB s=(numB (s.extract (i+1) s.size).data.toList&&Ajn (s.extract 0 i)):=by
 have hl:s.data.toList.length=s.size:=(Lib.size_eq s).symm
 have hx:Lib.indexB s ⟨#[47]⟩=(i:Int):=by
  refine index_slash _ i ?_ ?_
  ·have:s.data.toList.getD i 0=47:=h47
   rw[Aau,Aae (by omega),Option.getD_some] at this
   rw[Aae (by omega),this]
  ·intro j hj e
   refine hn j hj ?_
   unfold byt
   rw[Aau,e]
   rfl
 obtain⟨c1,c2,_⟩:=Lib.cutB_hit s ⟨#[47]⟩ i hx
 rw[show (⟨#[47]⟩:ByteArray).data.toList=[47] from rfl] at c1 c2
 rw[show (⟨#[47]⟩:ByteArray).size=1 from rfl] at c2
 unfold idB
 rw[←c2,←c1]
 unfold bs
 simp
theorem index_none:∀(l:List UInt8),(∀j,j<l.length→l[j]?≠some 47)→Lib.index l [47]=-1
 | [],_=>by simp[Lib.index]
 | b::r,hn=>by
   have hb:b≠47:=fun e=>hn 0 (by simp) (by simp[e])
   have hr:=index_none r (fun j hj=>by have:=hn (j+1) (by simpa using hj);simpa using this)
   unfold Lib.index
   rw[if_neg (by simpa using fun e=>hb e.symm),hr]
   rfl
theorem Amk{s:ByteArray}(hn:∀j,j<s.size→byt s j≠47):idB s=false:=by
 have hl:s.data.toList.length=s.size:=(Lib.size_eq s).symm
 have hx:Lib.index s.data.toList [47]=-1:=by
  refine index_none _ (fun j hj e=>hn j (by omega) ?_)
  unfold byt
  rw[Aau,e]
  rfl
 have hc:(Lib.cut s.data.toList [47]).2.1=[]:=by
  unfold Lib.cut
  rw[hx]
  rfl
 unfold idB
 rw[hc,Ami (fun h=>by have:=(Amh h).1;simp at this)]
 rfl
theorem Amm(s:ByteArray)(hs:s.size≤1000)(w:World):Calls Tryz.prog 129 #[.string s] w fun e w'=>e=.returned (.bool (numB s.data.toList))∧w=w':=by
 by_cases h1:s.size<1
 ·have t1:decide ((s.size:Int)<1)=true:=Aa3 (by omega)
  go_enter Tryz.func129,Tryz.ntmps129
  go_wp2_with fail
  go_ret
  exact⟨by rw[Ami (fun h=>by have:=(Amh h).1;rw[←Lib.size_eq] at this;omega)];rfl,rfl⟩
 have t1:decide ((s.size:Int)<1)=false:=Aa4 (by omega)
 by_cases h4:4<s.size
 ·have t2:decide ((4:Int)<(s.size:Int))=true:=Aa3 (by omega)
  go_enter Tryz.func129,Tryz.ntmps129
  go_wp2_with fail
  go_ret
  exact⟨by rw[Ami (fun h=>by have:=(Amh h).2.1;rw[←Lib.size_eq] at this;omega)];rfl,rfl⟩
 have t2:decide ((4:Int)<(s.size:Int))=false:=Aa4 (by omega)
 have hg0:(s[0]'(by omega)).toNat=(byt s 0).toNat:=by rw[Aev]
 by_cases h0:byt s 0=48
 ·have hz:(byt s 0).toNat=48:=by rw[h0];rfl
  rw[hz] at hg0
  have H0:=Aac h0
  have t3:(((s[0]'(by omega)).toNat:Int)==48)=true:=by rw[hg0];rfl
  go_enter Tryz.func129,Tryz.ntmps129
  go_wp2_with fail
  go_ret
  exact⟨by rw[Ami (fun h=>(Amh h).2.2.2 (show s.data.toList.getD 0 0=48 from H0.out))];rfl,rfl⟩
 have hz:(byt s 0).toNat≠48:=fun e=>h0 (UInt8.toNat_inj.1 (by simpa using e))
 have t3:(((s[0]'(by omega)).toNat:Int)==48)=false:=by rw[Aaj,hg0];omega
 have H0:=Aac h0
 clear h0 hz hg0
 go_enter Tryz.func129,Tryz.ntmps129
 go_wp2_with fail
 go_loop [3] (fun v=>∃j:Nat,v=.int .i64 (j:Int)∧j≤s.size∧(s.data.toList.take j).all Ab1=true) (fun v=>s.size-(intOf v).toNat)
 case atStart=>exact⟨0,rfl,by omega,rfl⟩
 case round =>
  clear t3
  obtain⟨j,rfl,hj,hall⟩:=hrel
  have HA:=Aac hall
  clear hall
  rcases Aam j s.size with hlt|hge
  ·have hb:=(byt s j).toNat_lt
   have hg:s[j].toNat=(byt s j).toNat:=by rw[Aev]
   generalize hbb:(byt s j).toNat=bb at hb hg
   have HCB:=Aac hbb
   clear hbb
   by_cases a1:bb<48
   ·have c1:decide ((bb:Int)<48)=true:=Aa3 (by omega)
    have HN:Hid (Ab1 (byt s j)=false):=by rw[Hid,←Bool.not_eq_true,Ab6,HCB.out];omega
    clear HCB
    go_wp2_with fail
    go_ret
    exact⟨by rw[Ami (fun h=>by have:=(Amh h).2.2.1;rw[Aex hlt HN.out] at this;cases this)];rfl,rfl⟩
   have c1:decide ((bb:Int)<48)=false:=Aa4 (by omega)
   by_cases a2:57<bb
   ·have c2:decide (57<(bb:Int))=true:=Aa3 (by omega)
    have HN:Hid (Ab1 (byt s j)=false):=by rw[Hid,←Bool.not_eq_true,Ab6,HCB.out];omega
    clear HCB
    go_wp2_with fail
    go_ret
    exact⟨by rw[Ami (fun h=>by have:=(Amh h).2.2.1;rw[Aex hlt HN.out] at this;cases this)];rfl,rfl⟩
   have c2:decide (57<(bb:Int))=false:=Aa4 (by omega)
   have HN:Hid (Ab1 (byt s j)=true):=by rw[Hid,Ab6,HCB.out];omega
   clear HCB a1 a2
   go_wp2_with fail
   go_round
   case rel=>exact⟨j+1,by go_num,by omega,Aew HA.out hlt HN.out⟩
   case measure=>simp[intOf];omega
  ·have hc:decide ((j:Int)<(s.size:Int))=false:=Aa4 (by omega)
   have HH:Hid (s.data.toList.all Ab1=true):=by
    have:=HA.out
    rw[Aai (by rw[←Lib.size_eq];omega)] at this
    exact this
   go_wp2_with fail
   go_ret
   exact⟨by rw[Aj0 (by rw[←Lib.size_eq];omega) (by rw[←Lib.size_eq];omega) HH.out H0.out];rfl,rfl⟩
theorem rId_ex(s:ByteArray)(hs:s.size≤1000)(w:World):Calls Tryz.prog 90 #[.string s] w fun e w'=>e=.returned (.bool (idB s))∧w=w':=by
 go_enter Tryz.func90,Tryz.ntmps90
 go_wp2_with fail
 go_loop [3] (fun v=>∃j:Nat,v=.int .i64 (j:Int)∧j≤s.size∧(∀k,k<j→byt s k≠47)) (fun v=>s.size-(intOf v).toNat)
 case atStart=>exact⟨0,rfl,by omega,fun k hk=>by omega⟩
 case round =>
  obtain⟨j,rfl,hj,hall⟩:=hrel
  have HA:=Aac hall
  clear hall
  rcases Aam j s.size with hlt|hge
  ·have hg:s[j].toNat=(byt s j).toNat:=by rw[Aev]
   have hbt:=(byt s j).toNat_lt
   by_cases a1:byt s j=47
   ·have HE:=Aac a1
    rw[a1] at hg
    have hg':s[j].toNat=47:=hg
    have z1:(s.extract 0 j).size=j:=by rw[ByteArray.size_extract];omega
    have z2:(s.extract (j+1) s.size).size≤1000:=by rw[ByteArray.size_extract];omega
    have HNM:=Aac (fun W=>Ajt (s.extract 0 j) (by omega) W)
    have HNU:=fun W=>Amm (s.extract (j+1) s.size) z2 W
    obtain⟨nb,hnb⟩:∃nb,numB (s.extract (j+1) s.size).data.toList=nb:=⟨_,rfl⟩
    rw[hnb] at HNU
    replace HNU:=Aac HNU
    have HNB:=Aac hnb
    clear hnb
    clear hg hbt a1
    go_wp2_with fail
    refine (HNM.out _).mono ?_
    rintro e w1 ⟨rfl,rfl⟩
    cases hnm:Ajn (s.extract 0 j)
    ·have HM:=Aac hnm
     clear hnm
     go_wp2_with fail
     go_ret
     exact⟨by rw[Amj hlt HE.out HA.out,HM.out,Bool.and_false];rfl,rfl⟩
    ·have HM:=Aac hnm
     clear hnm
     go_wp2_with fail
     refine (HNU.out _).mono ?_
     rintro e w2 ⟨rfl,rfl⟩
     go_wp2_with fail
     go_ret
     exact⟨by rw[Amj hlt HE.out HA.out,HM.out,Bool.and_true,HNB.out];rfl,rfl⟩
   ·have a2:(byt s j).toNat≠47:=fun e=>a1 (UInt8.toNat_inj.1 (by simpa using e))
    have HE:=Aac a1
    generalize (byt s j).toNat=bb at hg a2 hbt
    have c1:((bb:Int)==47)=false:=by rw[Aaj];omega
    clear a1 a2
    go_wp2_with fail
    go_round
    case rel =>
     refine⟨j+1,by go_num,by omega,fun k hk=>?_⟩
     rcases Aam k j with h|h
     ·exact HA.out k h
     ·have:k=j:=by omega
      subst this
      exact HE.out
    case measure=>simp[intOf];omega
  ·have hc:decide ((j:Int)<(s.size:Int))=false:=Aa4 (by omega)
   go_wp2_with fail
   go_ret
   exact⟨by rw[Amk (fun k hk=>HA.out k (by omega))];rfl,rfl⟩
theorem Amn(l:Lot)(hs:l.tiny)(w:World):Calls Tryz.prog 55 #[l.enc] w fun e w'=>e=.returned (.int .i64 (lchk l))∧Below w.heap.size w w':=by
 obtain⟨W0,hW0,hB0,hk⟩:=lbox l w
 obtain⟨z1,z2,z3,z4,z5⟩:=hs
 have N1:=Aac (fun W=>rId_ex l.id (by omega) W)
 have N2:=Aac (fun W=>Ajt l.inst (by omega) W)
 have Y1:=Aac (fun (h:Can l.qty) W=>Ag6 l.qty (by omega) h W)
 have X1:=Aac (fun (h:¬Can l.qty) W=>Ag7 l.qty (by omega) h W)
 have Y2:=Aac (fun (h:Can l.cost) W=>Ag6 l.cost (by omega) h W)
 have X2:=Aac (fun (h:¬Can l.cost) W=>Ag7 l.cost (by omega) h W)
 have Y3:=Aac (fun (h:Can l.used) W=>Ag6 l.used (by omega) h W)
 have X3:=Aac (fun (h:¬Can l.used) W=>Ag7 l.used (by omega) h W)
 have S1:=Aac (fun W=>Ahi l.qty (by omega) W)
 have S2:=Aac (fun W=>Ahi l.cost (by omega) W)
 clear z1 z2 z3 z4 z5
 obtain⟨c0,c1,c2,c3,c4,c5,c6⟩:=Ac0 hk
 have HB:=Aac hB0
 clear hB0 hk
 go_enter Tryz.func55,Tryz.ntmps55
 go_wp2_with fail
 refine (N1.out _).mono ?_
 rintro e w1 ⟨rfl,rfl⟩
 cases hg:idB l.id
 ·have H:=Aac hg
  clear hg
  go_wp2_with fail
  go_ret
  exact⟨by rw[Amb (.inl H.out)];rfl,HB.out⟩
 have G1:=Aac hg
 clear hg N1
 go_wp2_with fail
 refine (N2.out _).mono ?_
 rintro e w1 ⟨rfl,rfl⟩
 cases hn:Ajn l.inst
 ·have H:=Aac hn
  clear hn
  go_wp2_with fail
  go_ret
  exact⟨by rw[Amb (.inr H.out)];rfl,HB.out⟩
 have G2:=Aac hn
 clear hn N2
 go_wp2_with fail
 refine (Akx l.acq _).mono ?_
 rintro e w1 ⟨rfl,rfl⟩
 by_cases h3:okDay l.acq
 case neg =>
  rw[Aa4 h3]
  have H:=Aac h3
  clear h3
  go_wp2_with fail
  go_ret
  exact⟨by rw[Amc G1.out G2.out (.inl H.out)];rfl,HB.out⟩
 rw[Aa3 h3]
 have G3:=Aac h3
 clear h3
 go_wp2_with fail
 refine (Akx l.opn _).mono ?_
 rintro e w1 ⟨rfl,rfl⟩
 by_cases h4:okDay l.opn
 case neg =>
  rw[Aa4 h4]
  have H:=Aac h4
  clear h4
  go_wp2_with fail
  go_ret
  exact⟨by rw[Amc G1.out G2.out (.inr H.out)];rfl,HB.out⟩
 rw[Aa3 h4]
 have G4:=Aac h4
 clear h4
 by_cases h5:l.opn<l.acq
 ·have t5:decide (l.opn<l.acq)=true:=Aa3 h5
  have H:=Aac h5
  clear h5
  go_wp2_with fail
  go_ret
  exact⟨by rw[Amd G1.out G2.out G3.out G4.out H.out];rfl,HB.out⟩
 have t5:decide (l.opn<l.acq)=false:=Aa4 h5
 have G5:=Aac (show l.acq≤l.opn by omega)
 clear h5
 go_wp2_with fail
 by_cases h6:Can l.qty
 case neg =>
  refine (X1.out h6 _).mono ?_
  rintro e w1 ⟨rfl,rfl⟩
  have H:=Aac h6
  clear h6
  go_wp2_with fail
  go_ret
  exact⟨by rw[Ame G1.out G2.out G3.out G4.out G5.out (.inl H.out)];rfl,HB.out⟩
 refine (Y1.out h6 _).mono ?_
 rintro e w1 ⟨rfl,rfl⟩
 have G6:=Aac h6
 clear h6 Y1 X1
 go_wp2_with fail
 by_cases h7:Can l.cost
 case neg =>
  refine (X2.out h7 _).mono ?_
  rintro e w1 ⟨rfl,rfl⟩
  have H:=Aac h7
  clear h7
  go_wp2_with fail
  go_ret
  exact⟨by rw[Ame G1.out G2.out G3.out G4.out G5.out (.inr (.inl H.out))];rfl,HB.out⟩
 refine (Y2.out h7 _).mono ?_
 rintro e w1 ⟨rfl,rfl⟩
 have G7:=Aac h7
 clear h7 Y2 X2
 go_wp2_with fail
 by_cases h8:Can l.used
 case neg =>
  refine (X3.out h8 _).mono ?_
  rintro e w1 ⟨rfl,rfl⟩
  have H:=Aac h8
  clear h8
  go_wp2_with fail
  go_ret
  exact⟨by rw[Ame G1.out G2.out G3.out G4.out G5.out (.inr (.inr H.out))];rfl,HB.out⟩
 refine (Y3.out h8 _).mono ?_
 rintro e w1 ⟨rfl,rfl⟩
 have G8:=Aac h8
 clear h8 Y3 X3
 go_wp2_with fail
 refine (S1.out _).mono ?_
 rintro e w1 ⟨rfl,rfl⟩
 by_cases h9:0<vl l.qty
 case neg =>
  have t9:=Ak0 h9
  have H:=Aac h9
  clear h9
  go_wp2_with fail
  go_ret
  exact⟨by rw[Amf G1.out G2.out G3.out G4.out G5.out G6.out G7.out G8.out (.inl (by have:=H.out;omega))];rfl,HB.out⟩
 have t9:=Akz h9
 have G9:=Aac h9
 clear h9
 go_wp2_with fail
 refine (S2.out _).mono ?_
 rintro e w1 ⟨rfl,rfl⟩
 by_cases h10:vl l.cost<0
 ·have t10:=Ak1 h10
  have H:=Aac h10
  clear h10
  go_wp2_with fail
  go_ret
  exact⟨by rw[Amf G1.out G2.out G3.out G4.out G5.out G6.out G7.out G8.out (.inr (.inl H.out))];rfl,HB.out⟩
 have t10:=Ak2 h10
 have G10:=Aac (show 0≤vl l.cost by omega)
 clear h10
 have e1:=Ak3 l.used ⟨#[]⟩
 rw[show (⟨#[]⟩:ByteArray).toList=[] from by rw[Lib.toList_data]] at e1
 have e2:=Ak3 l.used l.qty
 by_cases h11:l.used=⟨#[]⟩
 ·have G11:=Aac h11
  rw[Aa3 h11] at e1
  clear h11 e2
  go_wp2_with fail
  go_ret
  exact⟨by rw[lchk_zero.2 ⟨G1.out,G2.out,G3.out,G4.out,G5.out,G6.out,G7.out,G8.out,G9.out,G10.out,.inl G11.out⟩];rfl,HB.out⟩
 rw[Aa4 h11] at e1
 have G11:=Aac h11
 clear h11
 by_cases h12:l.used=l.qty
 ·have G12:=Aac h12
  rw[Aa3 h12] at e2
  clear h12
  go_wp2_with fail
  go_ret
  exact⟨by rw[lchk_zero.2 ⟨G1.out,G2.out,G3.out,G4.out,G5.out,G6.out,G7.out,G8.out,G9.out,G10.out,.inr G12.out⟩];rfl,HB.out⟩
 rw[Aa4 h12] at e2
 have G12:=Aac h12
 clear h12
 go_wp2_with fail
 go_ret
 exact⟨by rw[Amf G1.out G2.out G3.out G4.out G5.out G6.out G7.out G8.out (.inr (.inr ⟨G11.out,G12.out⟩))];rfl,HB.out⟩
theorem Amp(q:Rat):q=Rat.divInt q.num q.den:=(Rat.num_divInt_den q).symm
theorem BdQ.add{p q:Rat}{a b:Nat}(hp:BdQ p a)(hq:BdQ q b):BdQ (p+q) (a+b+1):=by
 have h1:=p.den_pos
 have h2:=q.den_pos
 rw[Amp p,Amp q,Rat.divInt_add_divInt _ _ (by omega) (by omega)]
 refine BdQ.div ?_ ?_ (Int.mul_ne_zero (by omega) (by omega))
 ·have e1:=Aer (x:=p.num) (y:=(q.den:Int)) hp.1 (by simpa using hq.2)
  have e2:=Aer (x:=q.num) (y:=(p.den:Int)) hq.1 (by simpa using hp.2)
  rw[Nat.add_comm b a] at e2
  exact Aeq e1 e2 (by omega) (by omega)
 ·exact Aah (Aer (x:=(p.den:Int)) (y:=(q.den:Int)) (by simpa using hp.2) (by simpa using hq.2)) (Aep (by omega))
theorem BdQ.neg{q:Rat}{a:Nat}(hq:BdQ q a):BdQ (-q) a:=⟨by rw[Rat.neg_num,Int.natAbs_neg];exact hq.1,by rw[Rat.neg_den];exact hq.2⟩
theorem BdQ.sub{p q:Rat}{a b:Nat}(hp:BdQ p a)(hq:BdQ q b):BdQ (p-q) (a+b+1):=by
 rw[Rat.sub_eq_add_neg];exact hp.add hq.neg
theorem BdQ.int{z:Int}{k:Nat}(h:z.natAbs<10^k)(hk:1≤k):BdQ (z:Rat) k:=⟨h,Aah (show 1<10^1 by omega) (Aep hk)⟩
theorem BdQ.zero{k:Nat}(hk:1≤k):BdQ 0 k:=BdQ.int (z:=0) (Nat.pow_pos (by omega)) hk
def FBox(W:World)(B:Nat)(q:Rat):Prop:=W.heap[B]?=some (.cells #[.string (I q.num),.string (dn q)] 112 (0,0))
theorem FBox.below{W W':World}{B:Nat}{q:Rat}(h:FBox W B q)(hb:Below W.heap.size W W'):FBox W' B q:=(hb.block B (Aab.1 h).1).trans h
end Go.Proofs.YtcmgmemffncbhabGreatDoor
