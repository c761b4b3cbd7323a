/-
  What the walks of this seat share: magnitudes in memory.
-/
import Derived.Test.YtcnmoobojdopgaaGreatDoorProg
import Derived.Test.YtcnmoobojdopgaaGreatDoorI00
import Derived.WalkKit
import Derived.WalkSpells
import Derived.WalkLawsBesides
import Derived.Deep.QuietTactic
import Derived.BigQuiet
import Derived.Lib.Hide
import Derived.Deep.Draws
import Derived.KernelRfl
import Derived.Maps.AppendAt
set_option linter.unusedVariables false
set_option linter.unusedSimpArgs false
set_option maxHeartbeats 16000000
set_option maxRecDepth 100000
namespace Go.Proofs.YtcnmoobojdopgaaGreatDoor
open Go.RowKit Tr
theorem Ach(a:Addr)(n:Nat):(a.add n).block=a.block:=by unfold Addr.add;split<;>rfl
def gt(l:List Nat)(k:Nat):Nat:=l.getD k 0
def RdM(w:World)(A:Option Addr)(l:List Nat):Prop :=
 l≠[]→∃ad:Addr,A=some ad∧ad.block<w.heap.size∧∀j,j<l.length→w.cell? (ad.add j)=some (.int .u64 (gt l j))
theorem RdM.nil(w:World)(A:Option Addr):RdM w A []:=fun h=>absurd rfl h
theorem RdM.below{w w':World}{A:Option Addr}{l:List Nat}(h:RdM w A l)(hb:Below w.heap.size w w'):RdM w' A l:=by
 intro hl
 obtain⟨ad,rfl,h1,h2⟩:=h hl
 exact⟨ad,rfl,Nat.lt_of_lt_of_le h1 hb.size,fun j hj=>(hb.cell (by rw[Ach];exact h1)).trans (h2 j hj)⟩
theorem RdM.take{w:World}{A:Option Addr}{l:List Nat}(h:RdM w A l)(k:Nat):RdM w A (l.take k):=by
 intro hl
 obtain⟨ad,rfl,h1,h2⟩:=h (fun e=>hl (by rw[e];simp))
 refine⟨ad,rfl,h1,fun j hj=>?_⟩
 rw[List.length_take] at hj
 rw[h2 j (by omega)]
 unfold gt
 rw[List.getD_eq_getElem?_getD,List.getD_eq_getElem?_getD,List.getElem?_take_of_lt (by omega)]
def U(x:Nat):Value:=.int .u64 (x:Int)
def OwnM(w:World)(g:Nat)(l:List Nat)(sp:List Value):Prop:=w.heap[g]?=some (.cells (l.map U++sp).toArray 171 (0,0))
section
variable {w w':World} {g:Nat} {l:List Nat} {sp:List Value}
theorem OwnM.lt(h:OwnM w g l sp):g<w.heap.size:=by
 rcases Nat.lt_or_ge g w.heap.size with hlt|hge
 ·exact hlt
 ·unfold OwnM at h;rw[Array.getElem?_eq_none hge] at h;cases h
theorem OwnM.cell(h:OwnM w g l sp){k:Nat}(hk:k<l.length):w.cell? ⟨g,k,none⟩=some (.int .u64 (gt l k)):=by
 rw[cell_of_row w g k _ _ (0,0) h]
 simp only[List.getElem?_toArray]
 rw[List.getElem?_append_left (by simpa using hk)]
 simp[gt,U,hk]
theorem OwnM.frozen(h:OwnM w g l sp)(k:Nat):w.frozen? ⟨g,k,none⟩=false:=by
 unfold OwnM at h
 simp[World.frozen?,h]
theorem OwnM.drew(h:OwnM w g l sp):OwnM w.drew g l sp:=h
theorem OwnM.drewN(h:OwnM w g l sp)(n:Nat):OwnM (w.drewN n) g l sp:=h
theorem OwnM.alloc(h:OwnM w g l sp)(o:Obj):OwnM (w.alloc o) g l sp:=(Below.heap_alloc w o g h.lt).trans h
theorem OwnM.set(h:OwnM w g l sp){k:Nat}(hk:k<l.length)(x:Nat):OwnM (w.setCell ⟨g,k,none⟩ (.int .u64 (x:Int))) g (l.set k x) sp:=by
 unfold OwnM at h ⊢
 simp only[World.setCell,Array.getElem?_modify,h,if_true,Option.map_some]
 congr 2
 rw[List.setIfInBounds_toArray,List.set_append_left _ _ (by simpa using hk),List.map_set];rfl
theorem OwnM.set'(h:OwnM w g l sp){k:Nat}(hk:k<l.length){z:Int}(x:Nat)(hz:z=x):OwnM (w.setCell ⟨g,k,none⟩ (.int .u64 z)) g (l.set k x) sp:=by
 subst hz;exact h.set hk x
theorem OwnM.cell_sp{s:Value}(h:OwnM w g l (s::sp)):w.cell? ⟨g,l.length,none⟩=some s:=by
 rw[cell_of_row w g _ _ _ (0,0) h]
 simp
theorem OwnM.push{s:Value}(h:OwnM w g l (s::sp)){z:Int}(x:Nat)(hz:z=x):OwnM (w.setCell ⟨g,l.length,none⟩ (.int .u64 z)) g (l++[x]) sp:=by
 subst hz
 unfold OwnM at h ⊢
 simp only[World.setCell,Array.getElem?_modify,h,if_true,Option.map_some]
 congr 2
 rw[List.setIfInBounds_toArray]
 rw[List.set_append_right _ _ (by simp)]
 simp[U]
theorem OwnM.far(h:OwnM w g l sp){p:Addr}(hp:g≠p.block)(u:Value):OwnM (w.setCell p u) g l sp:=(Below.heap_setCell w p u g hp).trans h
theorem OwnM.below{B:Nat}(h:OwnM w g l sp)(hb:Below B w w')(hg:g<B):OwnM w' g l sp:=(hb.block g hg).trans h
theorem OwnM.rd(h:OwnM w g l sp):RdM w (some ⟨g,0,none⟩) l:=by
 intro _
 refine⟨_,rfl,h.lt,fun j hj=>?_⟩
 have:=h.cell hj
 unfold Addr.add
 split
 ·rename_i h0;subst h0;exact this
 ·simpa using this
end
theorem OwnM.owns{w:World}{g:Nat}{l:List Nat}{sp:List Value}(h:OwnM w g l sp){base cap:Nat}(hb:base≤g)(hc:l.length+sp.length=cap)(hm:cap≤maxLen):
 w.ownsRow base 171 1 (.slice (some ⟨g,0,none⟩) l.length cap) l.length (l.map U) :=
 ⟨by simp,.inr ⟨g,cap,_,rfl,hb,h,by omega,hm,by simp;omega,by simp⟩⟩
theorem RdM.of_own{w:World}{base:Nat}{e:TypeId}{A:Option Addr}{n c:Nat}{l:List Nat}(h:w.ownsRow base e 1 (.slice A n c) n (l.map U)):n=l.length∧n≤c∧RdM w A l:=by
 have hn:n=l.length:=by have:=h.1;simpa using this.symm
 refine⟨hn,?_,fun hl=>?_⟩
 ·rcases h.2 with⟨h',_⟩|⟨g',cap',cur,h',_,hg,hnc,_⟩
  ·simp at h';omega
  ·simp only[Value.slice.injEq] at h';omega
 ·rcases h.2 with⟨h',_⟩|⟨g',cap',cur,h',_,hg,_⟩
  ·exact absurd (List.eq_nil_of_length_eq_zero (by simp at h';omega)) hl
  ·simp only[Value.slice.injEq,true_and] at h'
   obtain⟨rfl,rfl⟩:=h'
   have hlt:g'<w.heap.size:=by
    rcases Nat.lt_or_ge g' w.heap.size with h|h
    ·exact h
    ·rw[Array.getElem?_eq_none h] at hg;cases hg
   refine⟨_,rfl,hlt,fun j hj=>?_⟩
   have hc:=h.cells (g:=g') rfl j (.int .u64 (gt l j)) (by simp[gt,U,hj])
   exact hc
theorem OwnM.of_owns{w:World}{base:Nat}{v:Value}{n:Nat}{l:List Nat}(h:w.ownsRow base 171 1 v n (l.map U))(hpos:0<l.length):
 ∃(g cap:Nat) (sp:List Value),v=.slice (some ⟨g,0,none⟩) l.length cap∧base≤g∧l.length≤cap∧cap≤maxLen∧OwnM w g l sp:=by
 have hn:n=l.length:=by have:=h.1;simpa using this.symm
 rcases h.2 with⟨h',h''⟩|⟨g',cap',cur,h',hb,hg,hnc,hcm,hcs,htake⟩
 ·omega
 ·subst hn
  refine⟨g',cap',cur.toList.drop l.length,h',hb,hnc,hcm,?_⟩
  unfold OwnM
  rw[hg,←htake,Nat.mul_one,List.take_append_drop]
def Fresh(w:World)(A:Option Addr)(c:Nat):Prop:=(A=none→c=0)∧∀ad:Addr,A=some ad→w.heap.size≤ad.block
theorem Fresh.some_{w:World}{g o c:Nat}(h:w.heap.size≤g):Fresh w (some ⟨g,o,none⟩) c:=⟨(fun h=>by cases h),fun ad e=>by injection e with e;rw[←e];exact h⟩
theorem RdM.far{w:World}{A:Option Addr}{l:List Nat}(h:RdM w A l){p:Addr}(hp:∀ad:Addr,A=some ad→ad.block≠p.block)(u:Value):RdM (w.setCell p u) A l:=by
 intro hl
 obtain⟨ad,rfl,h1,h2⟩:=h hl
 refine⟨ad,rfl,by simpa[World.setCell] using h1,fun j hj=>?_⟩
 rw[World.cell?_setCell_other _ _ _ _ (fun e=>hp ad rfl (by rw[←Ach ad j,←e]))]
 exact h2 j hj
def Aci(w:World)(P:List Nat→Prop)(e:Ending)(w':World):Prop :=
 ∃(A:Option Addr) (r:List Nat) (c:Nat),e=.returned (.slice A r.length c)∧r.length≤c∧P r∧Fresh w A c∧RdM w' A r∧Below w.heap.size w w'
def OwnPost(w:World)(P:List Nat→Prop)(e:Ending)(w':World):Prop :=
 ∃(g:Nat) (r:List Nat) (sp:List Value),e=.returned (.slice (some ⟨g,0,none⟩) r.length (r.length+sp.length))∧r.length+sp.length≤2147483648∧P r∧OwnM w' g r sp∧w.heap.size≤g∧Below w.heap.size w w'
theorem OwnPost.mag{w:World}{P:List Nat→Prop}{e:Ending}{w':World}(h:OwnPost w P e w'):Aci w P e w':=by
 obtain⟨g,r,sp,rfl,_,hp,ho,hg,hb⟩:=h
 exact⟨_,r,_,rfl,by omega,hp,Fresh.some_ hg,ho.rd,hb⟩
theorem Acj{p l:List Nat}{k:Nat}(h:p.length=k)(hk:k<l.length)(z:Nat):(p++l.drop k).set k z=(p++[z])++l.drop (k+1):=by
 rw[List.drop_eq_getElem_cons hk,Abm _ _ _ _ _ h];simp
theorem Ack(l:List Nat)(k x y:Nat):(l.set k x).set k y=l.set k y:=by simp
def lenOf:Value→Nat|.slice _ n _=>n|_=>0
theorem Acm{B:Nat}{a w:World}(h:Below B a w)(n:Nat):Below B a (w.drewN n):=⟨h.os,h.tape,h.output,h.size,h.block⟩
theorem Acn{W:World}{b:Nat}{x0 x1 x2 x3 x4 x5 x6 x7 x8 x9 x10 x11 x12 x13 x14:Value}{t:TypeId}{m:Nat×Nat}(h:W.heap[b]?=some (.cells #[x0,x1,x2,x3,x4,x5,x6,x7,x8,x9,x10,x11,x12,x13,x14] t m)):W.cell? ⟨b,0,none⟩=some x0∧W.cell? ⟨b,1,none⟩=some x1∧W.cell? ⟨b,2,none⟩=some x2∧W.cell? ⟨b,3,none⟩=some x3∧W.cell? ⟨b,4,none⟩=some x4∧W.cell? ⟨b,5,none⟩=some x5∧W.cell? ⟨b,6,none⟩=some x6∧W.cell? ⟨b,7,none⟩=some x7∧W.cell? ⟨b,8,none⟩=some x8∧W.cell? ⟨b,9,none⟩=some x9∧W.cell? ⟨b,10,none⟩=some x10∧W.cell? ⟨b,11,none⟩=some x11∧W.cell? ⟨b,12,none⟩=some x12∧W.cell? ⟨b,13,none⟩=some x13∧W.cell? ⟨b,14,none⟩=some x14:=by
 refine⟨?_,?_,?_,?_,?_,?_,?_,?_,?_,?_,?_,?_,?_,?_,?_⟩<;>simp[World.cell?,h]
theorem Acp{W:World}{b:Nat}{x0 x1 x2 x3 x4 x5 x6:Value}{t:TypeId}{m:Nat×Nat}(h:W.heap[b]?=some (.cells #[x0,x1,x2,x3,x4,x5,x6] t m)):W.cell? ⟨b,0,none⟩=some x0∧W.cell? ⟨b,1,none⟩=some x1∧W.cell? ⟨b,2,none⟩=some x2∧W.cell? ⟨b,3,none⟩=some x3∧W.cell? ⟨b,4,none⟩=some x4∧W.cell? ⟨b,5,none⟩=some x5∧W.cell? ⟨b,6,none⟩=some x6:=by
 refine⟨?_,?_,?_,?_,?_,?_,?_⟩<;>simp[World.cell?,h]
theorem Acq{W:World}{b:Nat}{o:Array Value}{t:TypeId}(h:W.heap[b]?=some (.cells o t (0,0))):W.frozen? ⟨b,0,none⟩=false∧W.frozen? ⟨b,1,none⟩=false∧W.frozen? ⟨b,2,none⟩=false∧W.frozen? ⟨b,3,none⟩=false∧W.frozen? ⟨b,4,none⟩=false∧W.frozen? ⟨b,5,none⟩=false∧W.frozen? ⟨b,6,none⟩=false:=by
 refine⟨?_,?_,?_,?_,?_,?_,?_⟩<;>simp[World.frozen?,h]
end Go.Proofs.YtcnmoobojdopgaaGreatDoor
namespace Go.Proofs.YtcnmoobojdopgaaGreatDoor
open Go.RowKit Tr
theorem Acr{l:List Nat}{k:Nat}(hk:k<l.length)(h:gt l k=0):cutz (l.take (k+1))=cutz (l.take k):=by
 rw[Abp l k hk,show l.getD k 0=0 from h,Aa7]
theorem Acs{l:List Nat}{k:Nat}(hk:k<l.length)(h:gt l k≠0):cutz (l.take (k+1))=l.take (k+1):=by
 refine Aa8 ?_
 rw[Abp l k hk];exact Aa9 h
theorem Acu(A:Option Addr)(l:List Nat)(c:Nat)(w:World)(hm:l.length≤1073741824)(hc:l.length≤c)(hr:RdM w A l):
 Calls Tryz.prog 190 #[.slice A l.length c] w fun e w'=>e=.returned (.slice A (cutz l).length c)∧w=w':=by
 have HR:=Lib.hid hr
 clear hr
 go_enter Tryz.func190,Tryz.ntmps190
 go_wp2_with fail
 go_loop [0] (fun v=>∃k:Nat,k≤l.length∧v=.slice A k c∧Hid (cutz (l.take k)=cutz l)) (fun v=>lenOf v)
 case atStart=>exact⟨_,Nat.le_refl _,rfl,by simp[Hid]⟩
 case round =>
  obtain⟨k,hk,rfl,HC⟩:=hrel
  rcases Nat.eq_zero_or_pos k with h0|h0
  ·subst h0
   have HC':Hid ((cutz l).length=0):=by have:=HC.out;simp only[List.take_zero] at this;rw[Hid,←this];rfl
   clear HC
   go_wp2
   go_ret
   exact⟨by rw[HC'.out];rfl,rfl⟩
  ·obtain⟨j,rfl⟩:∃j,k=j+1:=⟨k-1,by omega⟩
   obtain⟨ad,rfl,_,hcell⟩:=HR.out (by rintro rfl;simp at hk)
   have hcj:=hcell j (by omega)
   clear hcell HR
   by_cases hz:gt l j=0
   ·have HC':Hid (cutz (l.take j)=cutz l):=by rw[Hid,←HC.out,Acr (by omega) hz]
    rw[hz] at hcj
    have HZ:=Lib.hid hz
    clear hz HC
    go_wp2
    go_round
    case rel=>exact⟨j,by omega,by go_num,HC'⟩
    case measure=>simp[lenOf]
   ·have HC':Hid ((cutz l).length=j+1):=by rw[Hid,←HC.out,Acs (by omega) hz];simp;omega
    have hz':((gt l j:Int)==0)=false:=by simpa using hz
    have HZ:=Lib.hid hz
    clear hz HC
    go_wp2
    go_ret
    exact⟨by rw[HC'.out];rfl,rfl⟩
def RdN(w:World)(A:Option Addr)(l:List Nat):Prop :=
 l≠[]→∃ad:Addr,A=some ad∧ad.block<w.heap.size∧∀j,j<l.length→w.cell? (ad.add j)=some (.int .i64 (gt l j))
theorem RdN.nil(w:World)(A:Option Addr):RdN w A []:=fun h=>absurd rfl h
theorem RdN.below{w w':World}{A:Option Addr}{l:List Nat}(h:RdN w A l)(hb:Below w.heap.size w w'):RdN w' A l:=by
 intro hl
 obtain⟨ad,rfl,h1,h2⟩:=h hl
 exact⟨ad,rfl,Nat.lt_of_lt_of_le h1 hb.size,fun j hj=>(hb.cell (by rw[Ach];exact h1)).trans (h2 j hj)⟩
theorem RdN.take{w:World}{A:Option Addr}{l:List Nat}(h:RdN w A l)(k:Nat):RdN w A (l.take k):=by
 intro hl
 obtain⟨ad,rfl,h1,h2⟩:=h (fun e=>hl (by rw[e];simp))
 refine⟨ad,rfl,h1,fun j hj=>?_⟩
 rw[List.length_take] at hj
 rw[h2 j (by omega)]
 unfold gt
 rw[List.getD_eq_getElem?_getD,List.getD_eq_getElem?_getD,List.getElem?_take_of_lt (by omega)]
theorem Acv(l:List Nat):cutz l=l.take (cutz l).length:=by
 unfold cutz
 have h:=List.dropWhile_suffix (l:=l.reverse) (·==0)
 obtain⟨t,ht⟩:=h
 have:l=(l.reverse.dropWhile (·==0)).reverse++t.reverse:=by
  rw[←List.reverse_append,ht,List.reverse_reverse]
 have h2:((l.reverse.dropWhile (·==0)).reverse++t.reverse).take (l.reverse.dropWhile (·==0)).reverse.length=(l.reverse.dropWhile (·==0)).reverse:=List.take_left
 rw[←this] at h2
 exact h2.symm
theorem RdN.cutz{w:World}{A:Option Addr}{l:List Nat}(h:RdN w A l):RdN w A (cutz l):=by
 rw[Acv];exact h.take _
theorem Acw(A:Option Addr)(l:List Nat)(c:Nat)(w:World)(hm:l.length≤1073741824)(hc:l.length≤c)(hr:RdN w A l):
 Calls Tryz.prog 242 #[.slice A l.length c] w fun e w'=>e=.returned (.slice A (Tr.cutz l).length c)∧w=w':=by
 have HR:=Lib.hid hr
 clear hr
 go_enter Tryz.func242,Tryz.ntmps242
 go_wp2_with fail
 go_loop [0] (fun v=>∃k:Nat,k≤l.length∧v=.slice A k c∧Hid (Tr.cutz (l.take k)=Tr.cutz l)) (fun v=>lenOf v)
 case atStart=>exact⟨_,Nat.le_refl _,rfl,by simp[Hid]⟩
 case round =>
  obtain⟨k,hk,rfl,HC⟩:=hrel
  rcases Nat.eq_zero_or_pos k with h0|h0
  ·subst h0
   have HC':Hid ((Tr.cutz l).length=0):=by have:=HC.out;simp only[List.take_zero] at this;rw[Hid,←this];rfl
   clear HC
   go_wp2
   go_ret
   exact⟨by rw[HC'.out];rfl,rfl⟩
  ·obtain⟨j,rfl⟩:∃j,k=j+1:=⟨k-1,by omega⟩
   obtain⟨ad,rfl,_,hcell⟩:=HR.out (by rintro rfl;simp at hk)
   have hcj:=hcell j (by omega)
   clear hcell HR
   by_cases hz:gt l j=0
   ·have HC':Hid (Tr.cutz (l.take j)=Tr.cutz l):=by rw[Hid,←HC.out,Acr (by omega) hz]
    rw[hz] at hcj
    have HZ:=Lib.hid hz
    clear hz HC
    go_wp2
    go_round
    case rel=>exact⟨j,by omega,by go_num,HC'⟩
    case measure=>simp[lenOf]
   ·have HC':Hid ((Tr.cutz l).length=j+1):=by rw[Hid,←HC.out,Acs (by omega) hz];simp;omega
    have hz':((gt l j:Int)==0)=false:=by simpa using hz
    have HZ:=Lib.hid hz
    clear hz HC
    go_wp2
    go_ret
    exact⟨by rw[HC'.out];rfl,rfl⟩
theorem Acx(A:Option Addr)(l:List Nat)(c k:Nat)(w:World)(hm:l.length≤1073741824)(hk:k≤1073741824)(hc:l.length≤c)(hr:RdN w A l):
 Calls Tryz.prog 241 #[.slice A l.length c,.int .i64 (k:Int)] w fun e w'=>e=.returned (.int .i64 (gt l k:Nat))∧w=w':=by
 rcases Nat.lt_or_ge k l.length with h|h
 ·obtain⟨ad,rfl,_,hcell⟩:=hr (by rintro rfl;simp at h)
  have hcj:=hcell k h
  clear hcell hr
  go_enter Tryz.func241,Tryz.ntmps241
  go_wp2
  go_ret
  exact⟨rfl,rfl⟩
 ·have HZ:Hid (gt l k=0):=by
   unfold gt;rw[Hid,List.getD_eq_getElem?_getD,List.getElem?_eq_none h];rfl
  clear hr
  go_enter Tryz.func241,Tryz.ntmps241
  go_wp2
  go_ret
  exact⟨by rw[HZ.out];rfl,rfl⟩
def Sgn(r:Int)(a b:Nat):Prop:=(r<0↔a<b)∧(0<r↔b<a)∧-2147483648≤r∧r≤2147483648
def CmpPost(w:World)(a b:Nat)(e:Ending)(w':World):Prop:=∃r:Int,e=.returned (.int .i64 r)∧Sgn r a b∧∃q,w'=w.drewN q
theorem sgn_len{l m:List Nat}(hl:Dig l)(hm:Dig m)(nl:Norm l)(nm:Norm m)(h:l.length≠m.length)(b1:l.length≤1073741824)(b2:m.length≤1073741824):
 Sgn ((l.length:Int)-m.length) (mval l) (mval m):=by
 rcases Nat.lt_or_ge l.length m.length with h1|h1
 ·have:=Abh hl nm h1
  refine⟨?_,?_,?_,?_⟩<;>omega
 ·have:=Abh hm nl (show m.length<l.length by omega)
  refine⟨?_,?_,?_,?_⟩<;>omega
theorem Acy{l m:List Nat}{k:Nat}(hk:k<l.length)(hlen:l.length=m.length)(h:l.drop (k+1)=m.drop (k+1))(e:gt l k=gt m k):l.drop k=m.drop k:=by
 rw[List.drop_eq_getElem_cons hk,List.drop_eq_getElem_cons (show k<m.length by omega),h]
 have e':l.getD k 0=m.getD k 0:=e
 rw[Aaz hk,Aaz (show k<m.length by omega)] at e'
 rw[e']
theorem Acz(A A':Option Addr)(l m:List Nat)(c c':Nat)(w:World)(b1:l.length≤1073741824)(b2:m.length≤1073741824)
 (hl:Dig l) (hm:Dig m) (nl:Norm l) (nm:Norm m) (hr:RdM w A l) (hr':RdM w A' m) :
 Calls Tryz.prog 82 #[.slice A l.length c,.slice A' m.length c'] w (CmpPost w (mval l) (mval m)):=by
 have HR:=Lib.hid hr
 have HR':=Lib.hid hr'
 have HL:=Lib.hid hl
 have HM:=Lib.hid hm
 by_cases hlen:l.length=m.length
 ·have hne:(l.length != m.length)=false:=by simp[hlen]
  have hne':((l.length:Int) != (m.length:Int))=false:=by simp[hlen]
  have HLEN:=Lib.hid hlen
  clear hlen hr hr' nl nm hl hm
  go_enter Tryz.func82,Tryz.ntmps82
  go_wp2_with fail
  go_loopw [5] (fun i wr=>∃k:Nat,k≤l.length∧i=.int .i64 ((k:Int)-1)∧Hid (l.drop k=m.drop k)∧∃q,wr=w.drewN q) (fun i _=>(intOf i+1).toNat)
  case atStart=>exact⟨l.length,Nat.le_refl _,rfl,by simp[Hid,HLEN.out],0,rfl⟩
  case round =>
   obtain⟨k,hk,rfl,HD,q,rfl⟩:=hrel
   rcases Nat.eq_zero_or_pos k with h0|h0
   ·subst h0
    go_wp2_with fail
    go_ret
    refine⟨0,rfl,?_,q,rfl⟩
    have h:=HD.out
    simp only[List.drop_zero] at h
    subst h
    exact⟨by omega,by omega,by omega,by omega⟩
   ·obtain⟨j,rfl⟩:∃j,k=j+1:=⟨k-1,by omega⟩
    obtain⟨ad,rfl,_,hcell⟩:=HR.out (by rintro rfl;simp at hk)
    have hlen:=HLEN.out
    obtain⟨ad',rfl,_,hcell'⟩:=HR'.out (by rintro rfl;simp only[List.length_nil] at hlen;omega)
    have hcj:=hcell j (by omega)
    have hcj':=hcell' j (by omega)
    have b3:j<m.length:=by omega
    clear hcell hcell' HR HR' hlen
    have hi:((j+1:Nat):Int)-1=(j:Int):=by omega
    rw[hi]
    rcases Nat.lt_trichotomy (gt l j) (gt m j) with ht|ht|ht
    ·have h1:decide (gt l j<gt m j)=true:=by simp;omega
     go_wp2_with fail
     go_quiet (fail)
     go_wp2_with fail
     go_ret
     refine⟨-1,rfl,?_,_,World.drewN_drewN _ _ _⟩
     have:=Abk (HL.out) j (by omega) HLEN.out HD.out ht
     exact⟨by omega,by omega,by omega,by omega⟩
    ·have h1:decide (gt l j<gt m j)=false:=by simp;omega
     have h2:decide (gt m j<gt l j)=false:=by simp;omega
     have HT:=Lib.hid ht
     clear ht
     go_wp2_with fail
     go_quiet (fail)
     go_wp2_with fail
     go_quiet (fail)
     go_wp2_with fail
     go_roundw
     case rel=>exact⟨j,by omega,by go_num,by have:=HLEN.out;exact Acy (by omega) this HD.out HT.out,_,rfl⟩
     case measure=>simp[intOf]
    ·have h1:decide (gt l j<gt m j)=false:=by simp;omega
     have h2:decide (gt m j<gt l j)=true:=by simp;omega
     go_wp2_with fail
     go_quiet (fail)
     go_wp2_with fail
     go_quiet (fail)
     go_wp2_with fail
     go_ret
     refine⟨1,rfl,?_,_,by rw[World.drewN_drewN,World.drewN_drewN]⟩
     have hlen:=HLEN.out
     have:=Abk (HM.out) j (by omega) HLEN.out.symm HD.out.symm ht
     exact⟨by omega,by omega,by omega,by omega⟩
 ·have hne:(l.length != m.length)=true:=by simp[hlen]
  have hne':((l.length:Int) != (m.length:Int))=true:=by simp;omega
  have HS:=Lib.hid (sgn_len hl hm nl nm hlen b1 b2)
  clear hlen hr hr' nl nm hl hm
  go_enter Tryz.func82,Tryz.ntmps82
  go_wp2_with fail
  go_ret
  exact⟨_,rfl,HS.out,0,rfl⟩
abbrev Aaa:=@Lib.cell_of_heap
abbrev Aab:=@Array.getElem?_eq_some_iff
abbrev Aac:=@Lib.hid
abbrev Aad:=@Nat.le_refl
abbrev Aae:=@List.getElem?_eq_getElem
abbrev Aaf:=@Lib.frozen_of_heap
abbrev Aag:=@List.eq_nil_of_length_eq_zero
abbrev Aah:=@Nat.lt_of_lt_of_le
abbrev Aai:=@List.take_of_length_le
abbrev Aaj:=@beq_eq_false_iff_ne
abbrev Aak:=@List.getElem?_eq_some_iff
abbrev Aam:=@Nat.lt_or_ge
abbrev Aan:=@List.length_append
abbrev Aap:=@Nat.le_trans
abbrev Aaq:=@Nat.eq_zero_or_pos
abbrev Aar:=@List.mem_of_getElem?
abbrev Aas:=@List.length_take
abbrev Aat:=@List.getD_eq_getElem?_getD
abbrev Aau:=@List.length_cons
abbrev Aav:=@decide_eq_true
abbrev Aaw:=@decide_eq_false
abbrev Aax:=@heap_alloc_new
end Go.Proofs.YtcnmoobojdopgaaGreatDoor
