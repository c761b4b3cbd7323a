/-
  What the walks of this seat share: magnitudes in memory.
-/
import Derived.Test.YtcmgmemffncbhabGreatDoorProg
import Derived.Test.YtcmgmemffncbhabGreatDoorT00
import Derived.WalkKit
import Derived.WalkSpells
import Derived.WalkLawsBesides
import Derived.Deep.QuietTactic
import Derived.BigQuiet
import Derived.Lib.Hide
import Derived.Deep.Draws
import Derived.KernelRfl
import Derived.Maps.AppendAt
set_option linter.unusedVariables false
set_option linter.unusedSimpArgs false
set_option maxHeartbeats 16000000
set_option maxRecDepth 100000
namespace Go.Proofs.YtcmgmemffncbhabGreatDoor
open Go.RowKit Tr
theorem Acv(a:Addr)(n:Nat):(a.add n).block=a.block:=by unfold Addr.add;split<;>rfl
def gt(l:List Nat)(k:Nat):Nat:=l.getD k 0
def RdM(w:World)(A:Option Addr)(l:List Nat):Prop :=
 l≠[]→∃ad:Addr,A=some ad∧ad.block<w.heap.size∧∀j,j<l.length→w.cell? (ad.add j)=some (.int .u64 (gt l j))
theorem RdM.nil(w:World)(A:Option Addr):RdM w A []:=fun h=>absurd rfl h
theorem RdM.below{w w':World}{A:Option Addr}{l:List Nat}(h:RdM w A l)(hb:Below w.heap.size w w'):RdM w' A l:=by
 intro hl
 obtain⟨ad,rfl,h1,h2⟩:=h hl
 exact⟨ad,rfl,Nat.lt_of_lt_of_le h1 hb.size,fun j hj=>(hb.cell (by rw[Acv];exact h1)).trans (h2 j hj)⟩
theorem RdM.take{w:World}{A:Option Addr}{l:List Nat}(h:RdM w A l)(k:Nat):RdM w A (l.take k):=by
 intro hl
 obtain⟨ad,rfl,h1,h2⟩:=h (fun e=>hl (by rw[e];simp))
 refine⟨ad,rfl,h1,fun j hj=>?_⟩
 rw[List.length_take] at hj
 rw[h2 j (by omega)]
 unfold gt
 rw[List.getD_eq_getElem?_getD,List.getD_eq_getElem?_getD,List.getElem?_take_of_lt (by omega)]
def U(x:Nat):Value:=.int .u64 (x:Int)
def OwnM(w:World)(g:Nat)(l:List Nat)(sp:List Value):Prop:=w.heap[g]?=some (.cells (l.map U++sp).toArray 117 (0,0))
section
variable {w w':World} {g:Nat} {l:List Nat} {sp:List Value}
theorem OwnM.lt(h:OwnM w g l sp):g<w.heap.size:=by
 rcases Nat.lt_or_ge g w.heap.size with hlt|hge
 ·exact hlt
 ·unfold OwnM at h;rw[Array.getElem?_eq_none hge] at h;cases h
theorem OwnM.cell(h:OwnM w g l sp){k:Nat}(hk:k<l.length):w.cell? ⟨g,k,none⟩=some (.int .u64 (gt l k)):=by
 rw[cell_of_row w g k _ _ (0,0) h]
 simp only[List.getElem?_toArray]
 rw[List.getElem?_append_left (by simpa using hk)]
 simp[gt,U,hk]
theorem OwnM.frozen(h:OwnM w g l sp)(k:Nat):w.frozen? ⟨g,k,none⟩=false:=by
 unfold OwnM at h
 simp[World.frozen?,h]
theorem OwnM.drew(h:OwnM w g l sp):OwnM w.drew g l sp:=h
theorem OwnM.drewN(h:OwnM w g l sp)(n:Nat):OwnM (w.drewN n) g l sp:=h
theorem OwnM.alloc(h:OwnM w g l sp)(o:Obj):OwnM (w.alloc o) g l sp:=(Below.heap_alloc w o g h.lt).trans h
theorem OwnM.set(h:OwnM w g l sp){k:Nat}(hk:k<l.length)(x:Nat):OwnM (w.setCell ⟨g,k,none⟩ (.int .u64 (x:Int))) g (l.set k x) sp:=by
 unfold OwnM at h ⊢
 simp only[World.setCell,Array.getElem?_modify,h,if_true,Option.map_some]
 congr 2
 rw[List.setIfInBounds_toArray,List.set_append_left _ _ (by simpa using hk),List.map_set];rfl
theorem OwnM.set'(h:OwnM w g l sp){k:Nat}(hk:k<l.length){z:Int}(x:Nat)(hz:z=x):OwnM (w.setCell ⟨g,k,none⟩ (.int .u64 z)) g (l.set k x) sp:=by
 subst hz;exact h.set hk x
theorem OwnM.cell_sp{s:Value}(h:OwnM w g l (s::sp)):w.cell? ⟨g,l.length,none⟩=some s:=by
 rw[cell_of_row w g _ _ _ (0,0) h]
 simp
theorem OwnM.push{s:Value}(h:OwnM w g l (s::sp)){z:Int}(x:Nat)(hz:z=x):OwnM (w.setCell ⟨g,l.length,none⟩ (.int .u64 z)) g (l++[x]) sp:=by
 subst hz
 unfold OwnM at h ⊢
 simp only[World.setCell,Array.getElem?_modify,h,if_true,Option.map_some]
 congr 2
 rw[List.setIfInBounds_toArray]
 rw[List.set_append_right _ _ (by simp)]
 simp[U]
theorem OwnM.far(h:OwnM w g l sp){p:Addr}(hp:g≠p.block)(u:Value):OwnM (w.setCell p u) g l sp:=(Below.heap_setCell w p u g hp).trans h
theorem OwnM.below{B:Nat}(h:OwnM w g l sp)(hb:Below B w w')(hg:g<B):OwnM w' g l sp:=(hb.block g hg).trans h
theorem OwnM.rd(h:OwnM w g l sp):RdM w (some ⟨g,0,none⟩) l:=by
 intro _
 refine⟨_,rfl,h.lt,fun j hj=>?_⟩
 have:=h.cell hj
 unfold Addr.add
 split
 ·rename_i h0;subst h0;exact this
 ·simpa using this
end
theorem OwnM.owns{w:World}{g:Nat}{l:List Nat}{sp:List Value}(h:OwnM w g l sp){base cap:Nat}(hb:base≤g)(hc:l.length+sp.length=cap)(hm:cap≤maxLen):
 w.ownsRow base 117 1 (.slice (some ⟨g,0,none⟩) l.length cap) l.length (l.map U) :=
 ⟨by simp,.inr ⟨g,cap,_,rfl,hb,h,by omega,hm,by simp;omega,by simp⟩⟩
theorem RdM.of_own{w:World}{base:Nat}{e:TypeId}{A:Option Addr}{n c:Nat}{l:List Nat}(h:w.ownsRow base e 1 (.slice A n c) n (l.map U)):n=l.length∧n≤c∧RdM w A l:=by
 have hn:n=l.length:=by have:=h.1;simpa using this.symm
 refine⟨hn,?_,fun hl=>?_⟩
 ·rcases h.2 with⟨h',_⟩|⟨g',cap',cur,h',_,hg,hnc,_⟩
  ·simp at h';omega
  ·simp only[Value.slice.injEq] at h';omega
 ·rcases h.2 with⟨h',_⟩|⟨g',cap',cur,h',_,hg,_⟩
  ·exact absurd (List.eq_nil_of_length_eq_zero (by simp at h';omega)) hl
  ·simp only[Value.slice.injEq,true_and] at h'
   obtain⟨rfl,rfl⟩:=h'
   have hlt:g'<w.heap.size:=by
    rcases Nat.lt_or_ge g' w.heap.size with h|h
    ·exact h
    ·rw[Array.getElem?_eq_none h] at hg;cases hg
   refine⟨_,rfl,hlt,fun j hj=>?_⟩
   have hc:=h.cells (g:=g') rfl j (.int .u64 (gt l j)) (by simp[gt,U,hj])
   exact hc
theorem OwnM.of_owns{w:World}{base:Nat}{v:Value}{n:Nat}{l:List Nat}(h:w.ownsRow base 117 1 v n (l.map U))(hpos:0<l.length):
 ∃(g cap:Nat) (sp:List Value),v=.slice (some ⟨g,0,none⟩) l.length cap∧base≤g∧l.length≤cap∧cap≤maxLen∧OwnM w g l sp:=by
 have hn:n=l.length:=by have:=h.1;simpa using this.symm
 rcases h.2 with⟨h',h''⟩|⟨g',cap',cur,h',hb,hg,hnc,hcm,hcs,htake⟩
 ·omega
 ·subst hn
  refine⟨g',cap',cur.toList.drop l.length,h',hb,hnc,hcm,?_⟩
  unfold OwnM
  rw[hg,←htake,Nat.mul_one,List.take_append_drop]
def Fresh(w:World)(A:Option Addr)(c:Nat):Prop:=(A=none→c=0)∧∀ad:Addr,A=some ad→w.heap.size≤ad.block
theorem Fresh.some_{w:World}{g o c:Nat}(h:w.heap.size≤g):Fresh w (some ⟨g,o,none⟩) c:=⟨(fun h=>by cases h),fun ad e=>by injection e with e;rw[←e];exact h⟩
theorem RdM.far{w:World}{A:Option Addr}{l:List Nat}(h:RdM w A l){p:Addr}(hp:∀ad:Addr,A=some ad→ad.block≠p.block)(u:Value):RdM (w.setCell p u) A l:=by
 intro hl
 obtain⟨ad,rfl,h1,h2⟩:=h hl
 refine⟨ad,rfl,by simpa[World.setCell] using h1,fun j hj=>?_⟩
 rw[World.cell?_setCell_other _ _ _ _ (fun e=>hp ad rfl (by rw[←Acv ad j,←e]))]
 exact h2 j hj
def Acw(w:World)(P:List Nat→Prop)(e:Ending)(w':World):Prop :=
 ∃(A:Option Addr) (r:List Nat) (c:Nat),e=.returned (.slice A r.length c)∧r.length≤c∧P r∧Fresh w A c∧RdM w' A r∧Below w.heap.size w w'
def OwnPost(w:World)(P:List Nat→Prop)(e:Ending)(w':World):Prop :=
 ∃(g:Nat) (r:List Nat) (sp:List Value),e=.returned (.slice (some ⟨g,0,none⟩) r.length (r.length+sp.length))∧r.length+sp.length≤2147483648∧P r∧OwnM w' g r sp∧w.heap.size≤g∧Below w.heap.size w w'
theorem OwnPost.mag{w:World}{P:List Nat→Prop}{e:Ending}{w':World}(h:OwnPost w P e w'):Acw w P e w':=by
 obtain⟨g,r,sp,rfl,_,hp,ho,hg,hb⟩:=h
 exact⟨_,r,_,rfl,by omega,hp,Fresh.some_ hg,ho.rd,hb⟩
theorem Acx{p l:List Nat}{k:Nat}(h:p.length=k)(hk:k<l.length)(z:Nat):(p++l.drop k).set k z=(p++[z])++l.drop (k+1):=by
 rw[List.drop_eq_getElem_cons hk,Abw _ _ _ _ _ h];simp
theorem Acy(l:List Nat)(k x y:Nat):(l.set k x).set k y=l.set k y:=by simp
def lenOf:Value→Nat|.slice _ n _=>n|_=>0
theorem Acz{B:Nat}{a w:World}(h:Below B a w)(n:Nat):Below B a (w.drewN n):=⟨h.os,h.tape,h.output,h.size,h.block⟩
theorem cells15{W:World}{b:Nat}{x0 x1 x2 x3 x4 x5 x6 x7 x8 x9 x10 x11 x12 x13 x14:Value}{t:TypeId}{m:Nat×Nat}(h:W.heap[b]?=some (.cells #[x0,x1,x2,x3,x4,x5,x6,x7,x8,x9,x10,x11,x12,x13,x14] t m)):W.cell? ⟨b,0,none⟩=some x0∧W.cell? ⟨b,1,none⟩=some x1∧W.cell? ⟨b,2,none⟩=some x2∧W.cell? ⟨b,3,none⟩=some x3∧W.cell? ⟨b,4,none⟩=some x4∧W.cell? ⟨b,5,none⟩=some x5∧W.cell? ⟨b,6,none⟩=some x6∧W.cell? ⟨b,7,none⟩=some x7∧W.cell? ⟨b,8,none⟩=some x8∧W.cell? ⟨b,9,none⟩=some x9∧W.cell? ⟨b,10,none⟩=some x10∧W.cell? ⟨b,11,none⟩=some x11∧W.cell? ⟨b,12,none⟩=some x12∧W.cell? ⟨b,13,none⟩=some x13∧W.cell? ⟨b,14,none⟩=some x14:=by
 refine⟨?_,?_,?_,?_,?_,?_,?_,?_,?_,?_,?_,?_,?_,?_,?_⟩<;>simp[World.cell?,h]
theorem Ac0{W:World}{b:Nat}{x0 x1 x2 x3 x4 x5 x6:Value}{t:TypeId}{m:Nat×Nat}(h:W.heap[b]?=some (.cells #[x0,x1,x2,x3,x4,x5,x6] t m)):W.cell? ⟨b,0,none⟩=some x0∧W.cell? ⟨b,1,none⟩=some x1∧W.cell? ⟨b,2,none⟩=some x2∧W.cell? ⟨b,3,none⟩=some x3∧W.cell? ⟨b,4,none⟩=some x4∧W.cell? ⟨b,5,none⟩=some x5∧W.cell? ⟨b,6,none⟩=some x6:=by
 refine⟨?_,?_,?_,?_,?_,?_,?_⟩<;>simp[World.cell?,h]
theorem frozen7{W:World}{b:Nat}{o:Array Value}{t:TypeId}(h:W.heap[b]?=some (.cells o t (0,0))):W.frozen? ⟨b,0,none⟩=false∧W.frozen? ⟨b,1,none⟩=false∧W.frozen? ⟨b,2,none⟩=false∧W.frozen? ⟨b,3,none⟩=false∧W.frozen? ⟨b,4,none⟩=false∧W.frozen? ⟨b,5,none⟩=false∧W.frozen? ⟨b,6,none⟩=false:=by
 refine⟨?_,?_,?_,?_,?_,?_,?_⟩<;>simp[World.frozen?,h]
end Go.Proofs.YtcmgmemffncbhabGreatDoor
namespace Go.Proofs.YtcmgmemffncbhabGreatDoor
section
variable {α:Type} (lt:α→α→Bool)
structure Weak:Prop where
 irr:∀a,lt a a=false
 inc:∀a b c,lt a b=false→lt b c=false→lt a c=false
 asy:∀a b,lt a b=true→lt b a=false
theorem Weak.tr{lt:α→α→Bool}(h:Weak lt){a b c:α}(h1:lt a b=true)(h2:lt b c=true):lt a c=true:=by
 cases h3:lt a c
 ·have:=h.inc a c b h3 (h.asy b c h2)
  rw[h1] at this;cases this
 ·rfl
theorem Weak.lt_le{lt:α→α→Bool}(h:Weak lt){a b c:α}(h1:lt a b=true)(h2:lt c b=false):lt a c=true:=by
 cases h3:lt a c
 ·have:=h.inc a c b h3 h2
  rw[h1] at this;cases this
 ·rfl
theorem Weak.le_lt{lt:α→α→Bool}(h:Weak lt){a b c:α}(h1:lt b a=false)(h2:lt b c=true):lt a c=true:=by
 cases h3:lt a c
 ·have:=h.inc b a c h1 h3
  rw[h2] at this;cases this
 ·rfl
def insB(x:α):List α→List α
 | []=>[x]
 | y::r=>if lt x y=true then x::y::r else y::insB x r
def ssort(l:List α):List α:=l.foldl (fun acc x=>insB lt x acc) []
theorem ssort_nil:ssort lt ([]:List α)=[]:=rfl
theorem Ac1(l:List α)(x:α):ssort lt (l++[x])=insB lt x (ssort lt l):=by unfold ssort;rw[List.foldl_append];rfl
def mrg:List α→List α→List α
 | [],r=>r
 | x::l,[]=>x::l
 | x::l,y::r=>if lt y x=true then y::mrg (x::l) r else x::mrg l (y::r)
theorem Ac2(l:List α):mrg lt l []=l:=by cases l<;>simp[mrg]
theorem Ac3(r:List α):mrg lt [] r=r:=by simp[mrg]
theorem Ac4(x y:α)(l r:List α):mrg lt (x::l) (y::r)=if lt y x=true then y::mrg lt (x::l) r else x::mrg lt l (y::r):=by rw[mrg]
theorem Ac5(l:List α)(x:α):mrg lt l [x]=insB lt x l:=by
 induction l with
 | nil=>simp[mrg,insB]
 | cons y l ih =>
   rw[Ac4,insB]
   split
   ·rw[Ac2]
   ·rw[ih]
theorem Ac6(hw:Weak lt)(x:α):∀(l r:List α),insB lt x (mrg lt l r)=mrg lt l (insB lt x r)
 | [],r=>by rw[Ac3,Ac3]
 | a::l,[]=>by rw[Ac2,insB,Ac5]
 | a :: l, b :: r => by
   rw[Ac4]
   cases hba:lt b a
   ·rw[if_neg Bool.false_ne_true,insB]
    cases hxa:lt x a
    ·rw[if_neg Bool.false_ne_true,Ac6 hw x l (b::r),insB]
     cases hxb:lt x b
     ·rw[if_neg Bool.false_ne_true,Ac4,hba,if_neg Bool.false_ne_true]
     ·rw[if_pos rfl,Ac4,hxa,if_neg Bool.false_ne_true]
    ·rw[if_pos rfl,insB]
     have hxb:lt x b=true:=hw.lt_le hxa hba
     rw[hxb,if_pos rfl,Ac4,hxa,if_pos rfl,Ac4,hba,if_neg Bool.false_ne_true]
   ·rw[if_pos rfl,insB,insB]
    cases hxb:lt x b
    ·rw[if_neg Bool.false_ne_true,if_neg Bool.false_ne_true,Ac6 hw x (a::l) r,Ac4,hba,if_pos rfl]
    ·rw[if_pos rfl,if_pos rfl,Ac4,hw.tr hxb hba,if_pos rfl,Ac4,hba,if_pos rfl]
termination_by l r=>l.length+r.length
theorem Ac7(hw:Weak lt)(l r:List α):ssort lt (l++r)=mrg lt (ssort lt l) (ssort lt r):=by
 have h:∀n (r:List α),r.length=n→ssort lt (l++r)=mrg lt (ssort lt l) (ssort lt r):=by
  intro n
  induction n with
  | zero=>intro r h;rw[List.eq_nil_of_length_eq_zero h,List.append_nil,ssort_nil,Ac2]
  | succ n ih =>
    intro r h
    have hne:r≠[]:=by intro e;rw[e] at h;cases h
    rw[←List.dropLast_concat_getLast hne,←List.append_assoc,Ac1,Ac1,ih _ (by rw[List.length_dropLast,h];rfl),Ac6 lt hw]
 exact h _ r rfl
def AscS(l:List α):Prop:=l.Pairwise fun a b=>lt b a=false
theorem Ac8(x:α)(l:List α):(insB lt x l).Perm (x::l):=by
 induction l with
 | nil=>exact List.Perm.refl _
 | cons y l ih =>
   rw[insB]
   split
   ·exact List.Perm.refl _
   ·exact (List.Perm.cons y ih).trans (List.Perm.swap x y l)
theorem Ac9(l:List α):(ssort lt l).Perm l:=by
 have h:∀n (l:List α),l.length=n→(ssort lt l).Perm l:=by
  intro n
  induction n with
  | zero=>intro l h;rw[List.eq_nil_of_length_eq_zero h];exact List.Perm.refl _
  | succ n ih =>
    intro l h
    have hne:l≠[]:=by intro e;rw[e] at h;cases h
    rw[←List.dropLast_concat_getLast hne,Ac1]
    exact (Ac8 lt _ _).trans ((List.Perm.cons _ (ih _ (by rw[List.length_dropLast,h];rfl))).trans (List.perm_append_singleton _ _).symm)
 exact h _ l rfl
theorem Ada{x y:α}{l:List α}:y∈insB lt x l↔y=x∨y∈l:=by rw[(Ac8 lt x l).mem_iff,List.mem_cons]
theorem Adb(hw:Weak lt){x:α}{l:List α}(h:AscS lt l):AscS lt (insB lt x l):=by
 unfold AscS at *
 induction l with
 | nil=>exact List.pairwise_singleton _ _
 | cons y l ih =>
   rw[List.pairwise_cons] at h
   rw[insB]
   cases hxy:lt x y
   ·rw[if_neg Bool.false_ne_true,List.pairwise_cons]
    refine⟨fun z hz=>?_,ih h.2⟩
    rcases (Ada lt).1 hz with rfl|hz
    ·exact hxy
    ·exact h.1 z hz
   ·rw[if_pos rfl,List.pairwise_cons]
    refine⟨fun z hz=>?_,List.pairwise_cons.2 h⟩
    rcases List.mem_cons.1 hz with rfl|hz
    ·exact hw.asy _ _ hxy
    ·exact hw.inc z y x (h.1 z hz) (hw.asy _ _ hxy)
theorem Adc(hw:Weak lt)(l:List α):AscS lt (ssort lt l):=by
 have h:∀(l acc:List α),AscS lt acc→AscS lt (l.foldl (fun acc x=>insB lt x acc) acc):=by
  intro l
  induction l with
  | nil=>intro acc h;exact h
  | cons x l ih=>intro acc h;exact ih _ (Adb lt hw h)
 exact h l [] List.Pairwise.nil
theorem mrg_split:∀(l1 l2 r1 r2:List α),(∀x∈l1,∀y∈r2,lt y x=false)→(∀x∈l2,∀y∈r1,lt y x=true)→mrg lt (l1++l2) (r1++r2)=mrg lt l1 r1++mrg lt l2 r2
 | [],l2,[],r2,_,_=>by rw[Ac3];rfl
 | [],l2,b::r1,r2,h1,h2=>by
   rw[Ac3,List.nil_append,List.cons_append]
   have ih:=mrg_split [] l2 r1 r2 h1 (fun x hx y hy=>h2 x hx y (List.mem_cons_of_mem _ hy))
   rw[Ac3,List.nil_append] at ih
   cases l2 with
   | nil=>rw[Ac3,Ac3] ;rfl
   | cons c l2=>rw[Ac4,h2 c (List.mem_cons_self ..) b (List.mem_cons_self ..),if_pos rfl,ih];rfl
 | a::l1,l2,[],r2,h1,h2=>by
   rw[Ac2,List.nil_append,List.cons_append]
   have ih:=mrg_split l1 l2 [] r2 (fun x hx y hy=>h1 x (List.mem_cons_of_mem _ hx) y hy) h2
   rw[Ac2,List.nil_append] at ih
   cases r2 with
   | nil=>rw[Ac2,Ac2];rfl
   | cons d r2=>rw[Ac4,h1 a (List.mem_cons_self ..) d (List.mem_cons_self ..),if_neg Bool.false_ne_true,ih];rfl
 | a::l1,l2,b::r1,r2,h1,h2=>by
   rw[List.cons_append,List.cons_append,Ac4,Ac4]
   cases hba:lt b a
   ·rw[if_neg Bool.false_ne_true,if_neg Bool.false_ne_true,List.cons_append]
    have ih:=mrg_split l1 l2 (b::r1) r2 (fun x hx y hy=>h1 x (List.mem_cons_of_mem _ hx) y hy) h2
    rw[List.cons_append] at ih
    rw[ih]
   ·rw[if_pos rfl,if_pos rfl,List.cons_append]
    have ih:=mrg_split (a::l1) l2 r1 r2 h1 (fun x hx y hy=>h2 x hx y (List.mem_cons_of_mem _ hy))
    rw[List.cons_append] at ih
    rw[ih]
termination_by l1 _ r1 _=>l1.length+r1.length
theorem mrg_len:∀(l r:List α),(mrg lt l r).length=l.length+r.length
 | [],r=>by rw[Ac3];simp
 | a::l,[]=>by rw[Ac2];simp
 | a::l,b::r=>by
   rw[Ac4]
   split
   ·rw[List.length_cons,mrg_len (a::l) r];simp;omega
   ·rw[List.length_cons,mrg_len l (b::r)];simp;omega
termination_by l r=>l.length+r.length
theorem Ade(x:α):∀(r1 r2:List α),(∀y∈r1,lt y x=true)→(∀y∈r2,lt y x=false)→mrg lt [x] (r1++r2)=r1++x::r2
 | [],[],_,_=>by rw[List.nil_append,Ac2];rfl
 | [],b::r2,_,h2=>by rw[List.nil_append,Ac4,h2 b (List.mem_cons_self ..),if_neg Bool.false_ne_true,Ac3];rfl
 | a::r1,r2,h1,h2=>by
   rw[List.cons_append,Ac4,h1 a (List.mem_cons_self ..),if_pos rfl,Ade x r1 r2 (fun y hy=>h1 y (List.mem_cons_of_mem _ hy)) h2];rfl
theorem Adf(x:α):∀(l1 l2:List α),(∀y∈l1,lt x y=false)→(∀y,l2.head? = some y→lt x y=true)→insB lt x (l1++l2)=l1++x::l2
 | [],[],_,_=>rfl
 | [],b::l2,_,h2=>by rw[List.nil_append,insB,h2 b rfl,if_pos rfl];rfl
 | a::l1,l2,h1,h2=>by
   rw[List.cons_append,insB,h1 a (List.mem_cons_self ..),if_neg Bool.false_ne_true,Adf x l1 l2 (fun y hy=>h1 y (List.mem_cons_of_mem _ hy)) h2];rfl
end
end Go.Proofs.YtcmgmemffncbhabGreatDoor
namespace Go.Proofs.YtcmgmemffncbhabGreatDoor
section
variable {α:Type}
def swp(D:List α)(i j:Nat):List α :=
 match D[i]?,D[j]? with
 | some x,some y=>(D.set i y).set j x
 | _,_=>D
theorem Adg(D:List α)(i j:Nat):(swp D i j).length=D.length:=by unfold swp;split<;>simp
theorem Adh{D:List α}{i j:Nat}{x y:α}(hx:D[i]?=some x)(hy:D[j]?=some y):swp D i j=(D.set i y).set j x:=by unfold swp;rw[hx,hy]
theorem Adi{P Q:List α}{x:α}{k:Nat}(h:P.length=k):(P++x::Q)[k]?=some x:=by subst h;simp
theorem Adj{P Q:List α}{x:α}{k:Nat}(h:P.length=k)(y:α):(P++x::Q).set k y=P++y::Q:=by
 subst h;rw[List.set_append_right _ _ (Nat.le_refl _),Nat.sub_self];rfl
theorem Adk(P M Q:List α)(x y:α){i j:Nat}(hi:P.length=i)(hj:i+1+M.length=j):swp (P++x::(M++y::Q)) i j=P++y::(M++x::Q):=by
 have e:∀z:α,P++z::(M++y::Q)=(P++z::M)++y::Q:=fun z=>by simp
 have l:∀z:α,(P++z::M).length=j:=fun z=>by simp;omega
 have h1:(P++x::(M++y::Q))[i]?=some x:=Adi hi
 have h2:(P++x::(M++y::Q))[j]?=some y:=by rw[e];exact Adi (l x)
 rw[Adh h1 h2,Adj hi,e,Adj (l y)]
 simp
theorem swp_rev(P M Q:List α)(x y:α){i j:Nat}(hi:P.length=i)(hj:i+1+M.length=j):swp (P++x::(M++y::Q)) j i=P++y::(M++x::Q):=by
 have e:∀z:α,P++z::(M++y::Q)=(P++z::M)++y::Q:=fun z=>by simp
 have l:∀z:α,(P++z::M).length=j:=fun z=>by simp;omega
 have h1:(P++x::(M++y::Q))[i]?=some x:=Adi hi
 have h2:(P++x::(M++y::Q))[j]?=some y:=by rw[e];exact Adi (l x)
 rw[Adh h2 h1,e,Adj (l x),show (P++x::M)++x::Q=P++x::(M++x::Q) from by simp,Adj hi]
def Sh(X S:List α)(x:α)(Y:List α)(k:Nat)(D:List α)(p:α→Prop):Prop :=
 ∃U V,D=X++(U++x::(V++Y))∧U++V=S∧X.length+U.length=k∧∀y∈V,p y
theorem Sh.at{X S Y D:List α}{x:α}{k:Nat}{p:α→Prop}(h:Sh X S x Y k D p):D[k]?=some x:=by
 obtain⟨U,V,rfl,_,hk,_⟩:=h
 rw[←List.append_assoc]
 exact Adi (by simp;omega)
theorem Sh.down{X S Y D:List α}{x y:α}{k:Nat}{p:α→Prop}(h:Sh X S x Y k D p)(hk:X.length<k)(hy:D[k-1]?=some y)(hp:p y):Sh X S x Y (k-1) (swp D k (k-1)) p:=by
 obtain⟨U,V,rfl,rfl,hl,hV⟩:=h
 have hne:U≠[]:=by intro e;subst e;simp at hl;omega
 obtain⟨U',z,rfl⟩:∃U' z,U=U'++[z]:=⟨_,_,(List.dropLast_concat_getLast hne).symm⟩
 simp at hl
 have e:X++((U'++[z])++x::(V++Y))=(X++U')++z::([]++x::(V++Y)):=by simp
 have hl':(X++U').length=k-1:=by simp;omega
 rw[e] at hy ⊢
 rw[Adi hl'] at hy
 injection hy with hy
 subst hy
 rw[swp_rev (X++U') [] (V++Y) z x hl' (by simp;omega)]
 refine⟨U',z::V,by simp,by simp,by omega,fun w hw=>?_⟩
 rcases List.mem_cons.1 hw with rfl|hw
 ·exact hp
 ·exact hV w hw
theorem Sh.prev{X S Y D:List α}{x:α}{k:Nat}{p:α→Prop}(h:Sh X S x Y k D p)(hk:X.length<k):∃y,D[k-1]?=some y∧y∈S:=by
 obtain⟨U,V,rfl,rfl,hl,hV⟩:=h
 have hne:U≠[]:=by intro e;subst e;simp at hl;omega
 obtain⟨U',z,rfl⟩:∃U' z,U=U'++[z]:=⟨_,_,(List.dropLast_concat_getLast hne).symm⟩
 simp at hl
 refine⟨z,?_,by simp⟩
 rw[show X++((U'++[z])++x::(V++Y))=(X++U')++z::([]++x::(V++Y)) from by simp]
 exact Adi (by simp;omega)
theorem Sh.up{X S Y D:List α}{x:α}{k:Nat}(h:Sh X S x Y k D (fun _=>True))(hk:k<X.length+S.length):Sh X S x Y (k+1) (swp D k (k+1)) (fun _=>True):=by
 obtain⟨U,V,rfl,rfl,hl,hV⟩:=h
 have hne:V≠[]:=by intro e;subst e;simp at hk;omega
 obtain⟨z,V',rfl⟩:∃z V',V=z::V':=by cases V with|nil=>exact absurd rfl hne|cons a b=>exact⟨a,b,rfl⟩
 have e:X++(U++x::((z::V')++Y))=(X++U)++x::([]++z::(V'++Y)):=by simp
 rw[e,Adk (X++U) [] (V'++Y) x z (by simp;omega) (by simp)]
 exact⟨U++[z],V',by simp,by simp,by simp;omega,fun _ _=>trivial⟩
theorem Sh.bot{X S Y D:List α}{x:α}{k:Nat}{p:α→Prop}(h:Sh X S x Y k D p)(hk:k=X.length):D=X++(x::(S++Y)):=by
 obtain⟨U,V,rfl,rfl,hl,hV⟩:=h
 obtain rfl:U=[]:=List.eq_nil_of_length_eq_zero (by omega)
 rfl
theorem Sh.top{X S Y D:List α}{x:α}{k:Nat}{p:α→Prop}(h:Sh X S x Y k D p)(hk:k=X.length+S.length):D=X++(S++x::Y):=by
 obtain⟨U,V,rfl,rfl,hl,hV⟩:=h
 obtain rfl:V=[]:=List.eq_nil_of_length_eq_zero (by simp at hk;omega)
 simp
def swR(D:List α)(a b:Nat):Nat→List α
 | 0=>D
 | n+1=>swp (swR D a b n) (a+n) (b+n)
theorem Adm(D:List α)(a b:Nat):∀n,(swR D a b n).length=D.length
 | 0=>rfl
 | n+1=>by rw[swR,Adg,Adm]
theorem Adn(P A M B Q:List α)(hab:A.length=B.length){a b:Nat}(ha:P.length=a)(hb:a+A.length+M.length=b):∀n,n≤A.length →
 swR (P++(A++(M++(B++Q)))) a b n=P++(B.take n++(A.drop n++(M++(A.take n++(B.drop n++Q)))))
 | 0,_=>by simp[swR]
 | n+1,hn=>by
   rw[swR,Adn P A M B Q hab ha hb n (by omega)]
   have e1:A.drop n=A[n]::A.drop (n+1):=List.drop_eq_getElem_cons (by omega)
   have e2:B.drop n=B[n]::B.drop (n+1):=List.drop_eq_getElem_cons (by omega)
   have e3:A.take (n+1)=A.take n++[A[n]]:=List.take_succ_eq_append_getElem (by omega)
   have e4:B.take (n+1)=B.take n++[B[n]]:=List.take_succ_eq_append_getElem (by omega)
   rw[e1,e2,e3,e4]
   generalize hA2:A.drop (n+1)=A2
   generalize hB2:B.drop (n+1)=B2
   generalize hA1:A.take n=A1
   generalize hB1:B.take n=B1
   generalize A[n]=x
   generalize B[n]=y
   have l1:A2.length=A.length-(n+1):=by rw[←hA2,List.length_drop]
   have l2:A1.length=n:=by rw[←hA1,List.length_take];omega
   have l3:B1.length=n:=by rw[←hB1,List.length_take];omega
   have e:P++(B1++(x::A2++(M++(A1++(y::B2++Q)))))=(P++B1)++x::((A2++(M++A1))++y::(B2++Q)):=by simp
   rw[e,Adk (P++B1) (A2++(M++A1)) (B2++Q) x y (by simp;omega) (by simp;omega)]
   simp
theorem Adp(P A M B Q:List α)(hab:A.length=B.length){a b n:Nat}(ha:P.length=a)(hb:a+A.length+M.length=b)(hn:A.length=n):
 swR (P++(A++(M++(B++Q)))) a b n=P++(B++(M++(A++Q))):=by
 rw[Adn P A M B Q hab ha hb n (by omega),List.take_of_length_le (by omega),List.drop_eq_nil_of_le (by omega),List.take_of_length_le (by omega),List.drop_eq_nil_of_le (by omega)]
 simp
def RotSt(T:List α)(m i j:Nat)(D:List α):Prop :=
 ∃X A B Y,D=X++(A++(B++Y))∧T=X++(B++(A++Y))∧A.length=i∧B.length=j∧X.length+i=m∧0<i∧0<j
theorem RotSt.left{T D:List α}{m i j:Nat}(h:RotSt T m i j D)(hij:j<i):RotSt T m (i-j) j (swR D (m-i) m j):=by
 obtain⟨X,A,B,Y,rfl,rfl,hA,hB,hX,h1,h2⟩:=h
 obtain⟨A1,A2,rfl,l1⟩:∃A1 A2,A=A1++A2∧A1.length=j:=⟨A.take j,A.drop j,(List.take_append_drop _ _).symm,by rw[List.length_take];omega⟩
 simp at hA
 rw[show X++(A1++A2++(B++Y))=X++(A1++(A2++(B++Y))) from by simp,Adp X A1 A2 B Y (by omega) (by omega) (by omega) l1]
 exact⟨X++B,A2,A1,Y,by simp,by simp,by omega,l1,by simp;omega,by omega,h2⟩
theorem RotSt.right{T D:List α}{m i j:Nat}(h:RotSt T m i j D)(hij:i<j):RotSt T m i (j-i) (swR D (m-i) (m+j-i) i):=by
 obtain⟨X,A,B,Y,rfl,rfl,hA,hB,hX,h1,h2⟩:=h
 obtain⟨B1,B2,rfl,l1⟩:∃B1 B2,B=B1++B2∧B1.length=j-i:=⟨B.take (j-i),B.drop (j-i),(List.take_append_drop _ _).symm,by rw[List.length_take];omega⟩
 simp at hB
 rw[show X++(A++(B1++B2++Y))=X++(A++(B1++(B2++Y))) from by simp,Adp X A B1 B2 Y (by omega) (by omega) (by omega) hA]
 exact⟨X,B2,B1,A++Y,by simp,by simp,by omega,by omega,hX,h1,by omega⟩
theorem RotSt.done{T D:List α}{m i:Nat}(h:RotSt T m i i D):swR D (m-i) m i=T:=by
 obtain⟨X,A,B,Y,rfl,rfl,hA,hB,hX,h1,h2⟩:=h
 have h:=Adp X A [] B Y (by omega) (a:=m-i) (b:=m) (n:=i) (by omega) (by simp;omega) hA
 simpa using h
structure BSt(p:Nat→Bool)(lo hi i j:Nat):Prop where
 l:lo≤i
 m:i≤j
 r:j≤hi
 pl:i=lo∨p (i-1)=true
 pr:j=hi∨p j=false
theorem BSt.start{p:Nat→Bool}{lo hi:Nat}(h:lo≤hi):BSt p lo hi lo hi:=⟨Nat.le_refl _,h,Nat.le_refl _,.inl rfl,.inl rfl⟩
theorem BSt.yes{p:Nat→Bool}{lo hi i j h:Nat}(s:BSt p lo hi i j)(h1:i≤h)(h2:h<j)(hp:p h=true):BSt p lo hi (h+1) j :=
 ⟨by have:=s.l;omega,h2,s.r,.inr (by rw[Nat.add_sub_cancel];exact hp),s.pr⟩
theorem BSt.no{p:Nat→Bool}{lo hi i j h:Nat}(s:BSt p lo hi i j)(h1:i≤h)(h2:h<j)(hp:p h=false):BSt p lo hi i h :=
 ⟨s.l,h1,by have:=s.r;omega,s.pl,.inr hp⟩
variable (lt:α→α→Bool)
def ltAt(D:List α)(u v:Nat):Bool:=match D[u]?,D[v]? with|some x,some y=>lt x y|_,_=>false
theorem Adq{D:List α}{u v:Nat}{x y:α}(hx:D[u]?=some x)(hy:D[v]?=some y):ltAt lt D u v=lt x y:=by unfold ltAt;rw[hx,hy]
theorem Adr{l1 l2:List α}:AscS lt (l1++l2)↔AscS lt l1∧AscS lt l2∧∀x∈l1,∀y∈l2,lt y x=false:=by unfold AscS;rw[List.pairwise_append]
theorem Ads{l:List α}{z:α}(h:AscS lt (l++[z])):∀y∈l,lt z y=false:=fun y hy=>((Adr lt).1 h).2.2 y hy z (by simp)
theorem Sh.stop(hw:Weak lt){X S Y D:List α}{x:α}{k:Nat}(ha:AscS lt S)(h:Sh X S x Y k D (fun y=>lt x y=true))(hs:k=X.length∨ltAt lt D k (k-1)=false):D=X++(insB lt x S++Y):=by
 have hat:=h.at
 have hpv:=h.prev
 obtain⟨U,V,rfl,rfl,hl,hV⟩:=h
 have hins:insB lt x (U++V)=U++x::V:=by
  refine Adf lt x U V (fun y hy=>?_) (fun y hy=>hV y (List.mem_of_head? hy))
  have hne:U≠[]:=by intro e;rw[e] at hy;cases hy
  have hk:X.length<k:=by have:=List.length_pos_iff.2 hne;omega
  rcases hs with hs|hs
  ·omega
  obtain⟨z,hz,_⟩:=hpv hk
  rw[Adq lt hat hz] at hs
  obtain⟨U',z',rfl⟩:∃U' z,U=U'++[z]:=⟨_,_,(List.dropLast_concat_getLast hne).symm⟩
  have hz':(X++((U'++[z'])++x::(V++Y)))[k-1]?=some z':=by
   rw[show X++((U'++[z'])++x::(V++Y))=(X++U')++z'::(x::(V++Y)) from by simp]
   simp at hl
   exact Adi (by simp;omega)
  rw[hz'] at hz
  injection hz with hz
  subst hz
  rcases List.mem_append.1 hy with hy|hy
  ·refine hw.inc x z' y hs ?_
   rw[Adr] at ha
   exact Ads lt ha.1 y hy
  ·rw[List.mem_singleton] at hy;subst hy;exact hs
 rw[hins]
 simp
def Adt(D:List α)(a b:Nat):List α:=D.take a++(ssort lt ((D.take b).drop a)++D.drop b)
theorem Adu(D:List α)(a:Nat):Adt lt D a a=D:=by
 unfold Adt
 rw[List.drop_eq_nil_of_le (by rw[List.length_take];omega),ssort_nil,List.nil_append,List.take_append_drop]
theorem Adv{D:List α}{a:Nat}(h:a<D.length):Adt lt D a (a+1)=D:=by
 unfold Adt
 have e:(D.take (a+1)).drop a=[D[a]]:=by
  rw[List.take_succ_eq_append_getElem h,List.drop_append_of_le_length (by rw[List.length_take];omega),List.drop_eq_nil_of_le (by rw[List.length_take];omega),List.nil_append]
 rw[e,show ssort lt [D[a]]=[D[a]] from rfl]
 rw[List.singleton_append,←List.drop_eq_getElem_cons h,List.take_append_drop]
theorem Adw(D:List α){a b:Nat}(h:a≤b)(hb:b≤D.length):(Adt lt D a b).length=D.length:=by
 unfold Adt
 rw[List.length_append,List.length_append,(Ac9 lt _).length_eq,List.length_take,List.length_drop,List.length_drop,List.length_take];omega
theorem Adx{D:List α}{a i:Nat}{x:α}(hai:a≤i)(hi:D[i]?=some x):
 Sh (D.take a) (ssort lt ((D.take i).drop a)) x (D.drop (i+1)) i (Adt lt D a i) (fun y=>lt x y=true):=by
 have hlt:i<D.length:=(List.getElem?_eq_some_iff.1 hi).1
 have hd:D.drop i=x::D.drop (i+1):=by
  rw[List.drop_eq_getElem_cons hlt];congr 1
  rw[List.getElem?_eq_getElem hlt] at hi;exact Option.some.inj hi
 refine⟨ssort lt ((D.take i).drop a),[],?_,by simp,?_,fun y hy=>by cases hy⟩
 ·unfold Adt;rw[hd];rfl
 ·rw[(Ac9 lt _).length_eq,List.length_take,List.length_drop,List.length_take];omega
theorem Ady{D:List α}{a i:Nat}{x:α}(hai:a≤i)(hi:D[i]?=some x):
 D.take a++(insB lt x (ssort lt ((D.take i).drop a))++D.drop (i+1))=Adt lt D a (i+1):=by
 have hlt:i<D.length:=(List.getElem?_eq_some_iff.1 hi).1
 unfold Adt
 have e:(D.take (i+1)).drop a=(D.take i).drop a++[x]:=by
  rw[List.take_succ_eq_append_getElem hlt,List.drop_append_of_le_length (by rw[List.length_take];omega)]
  congr 2
  rw[List.getElem?_eq_getElem hlt] at hi;exact Option.some.inj hi
 rw[e,Ac1]
theorem Adz(hw:Weak lt){P R Q D:List α}{x:α}{a m b i:Nat}(hD:D=P++([x]++(R++Q)))(ha:P.length=a)(hm:a+1=m)(hb:m+R.length=b)(hR:AscS lt R)
 (hs:BSt (fun h=>ltAt lt D h a) m b i i):∃r1 r2,R=r1++r2∧mrg lt [x] R=r1++x::r2∧m+r1.length=i∧Sh P r1 x (r2++Q) a D (fun _=>True):=by
 have hx:D[a]?=some x:=by rw[hD];exact Adi ha
 have hat:∀k,m≤k→k<b→∃y,R[k-m]?=some y∧D[k]?=some y:=fun k h1 h2=>by
  obtain⟨y,hy⟩:∃y,R[k-m]?=some y:=⟨_,List.getElem?_eq_getElem (by omega)⟩
  refine⟨y,hy,?_⟩
  rw[hD,←List.append_assoc,List.getElem?_append_right (by simp;omega),List.getElem?_append_left (by simp;omega)]
  rw[←hy];congr 1;simp;omega
 have h1:=hs.l
 have h2:=hs.r
 refine⟨R.take (i-m),R.drop (i-m),(List.take_append_drop _ _).symm,?_,by rw[List.length_take];omega,?_⟩
 ·have hR':=hR
  rw[←List.take_append_drop (i-m) R,Adr] at hR'
  have h:=Ade lt x (R.take (i-m)) (R.drop (i-m)) (fun y hy=>?_) (fun y hy=>?_)
  ·rw[List.take_append_drop] at h;exact h
  ·rcases hs.pl with h|h
   ·rw[h,Nat.sub_self,List.take_zero] at hy;cases hy
   ·by_cases hi:i=m
    ·rw[hi,Nat.sub_self,List.take_zero] at hy;cases hy
    obtain⟨z,hz,hzD⟩:=hat (i-1) (by omega) (by omega)
    have h:lt z x=true:=by rw[←Adq lt hzD hx];exact h
    obtain⟨k,hk⟩:=List.getElem?_of_mem hy
    have hkl:=(List.getElem?_eq_some_iff.1 hk).1
    rw[List.length_take] at hkl
    rw[List.getElem?_take,if_pos (by omega)] at hk
    rcases Nat.lt_or_ge k (i-1-m) with hlt|hge
    ·have hzy:lt z y=false:=by
      have:=(List.pairwise_iff_getElem.1 hR) k (i-1-m) (by omega) (by omega) hlt
      rw[List.getElem?_eq_getElem (by omega)] at hk hz
      injection hk with hk;injection hz with hz
      rw[hk,hz] at this;exact this
     exact hw.le_lt hzy h
    ·obtain rfl:k=i-1-m:=by omega
     rw[hk] at hz;injection hz with hz
     rw[hz];exact h
  ·rcases hs.pr with h|h
   ·rw[List.drop_eq_nil_of_le (by omega)] at hy;cases hy
   ·by_cases hi:i=b
    ·rw[List.drop_eq_nil_of_le (by omega)] at hy;cases hy
    obtain⟨z,hz,hzD⟩:=hat i (by omega) (by omega)
    have h:lt z x=false:=by rw[←Adq lt hzD hx];exact h
    obtain⟨k,hk⟩:=List.getElem?_of_mem hy
    rw[List.getElem?_drop] at hk
    rcases Nat.eq_zero_or_pos k with rfl|hpos
    ·rw[Nat.add_zero,hz] at hk;injection hk with hk
     rw[←hk];exact h
    ·have hkl:=(List.getElem?_eq_some_iff.1 hk).1
     have hyz:lt y z=false:=by
      have:=(List.pairwise_iff_getElem.1 hR) (i-m) (i-m+k) (by omega) hkl (by omega)
      rw[List.getElem?_eq_getElem (by omega)] at hk hz
      injection hk with hk;injection hz with hz
      rw[hk,hz] at this;exact this
     exact hw.inc y z x hyz h
 ·refine⟨[],R.take (i-m),?_,rfl,by simp;omega,fun _ _=>trivial⟩
  rw[hD]
  simp[←List.append_assoc]
theorem Ad0(hw:Weak lt){P L Q D:List α}{x:α}{a m i:Nat}(hD:D=P++(L++([x]++Q)))(ha:P.length=a)(hm:a+L.length=m)(hL:AscS lt L)
 (hs:BSt (fun h=>!ltAt lt D m h) a m i i):∃l1 l2,L=l1++l2∧mrg lt L [x]=l1++x::l2∧a+l1.length=i∧Sh (P++l1) l2 x Q m D (fun _=>True):=by
 have hx:D[m]?=some x:=by rw[hD,←List.append_assoc];exact Adi (by simp;omega)
 have hat:∀k,a≤k→k<m→∃y,L[k-a]?=some y∧D[k]?=some y:=fun k h1 h2=>by
  obtain⟨y,hy⟩:∃y,L[k-a]?=some y:=⟨_,List.getElem?_eq_getElem (by omega)⟩
  refine⟨y,hy,?_⟩
  rw[hD,List.getElem?_append_right (by omega),List.getElem?_append_left (by omega)]
  rw[←hy];congr 1;omega
 have h1:=hs.l
 have h2:=hs.r
 refine⟨L.take (i-a),L.drop (i-a),(List.take_append_drop _ _).symm,?_,by rw[List.length_take];omega,?_⟩
 ·rw [Ac5]
  have h:=Adf lt x (L.take (i-a)) (L.drop (i-a)) (fun y hy=>?_) (fun y hy=>?_)
  ·rw[List.take_append_drop] at h;exact h
  ·rcases hs.pl with h|h
   ·rw[h,Nat.sub_self,List.take_zero] at hy;cases hy
   ·by_cases hi:i=a
    ·rw[hi,Nat.sub_self,List.take_zero] at hy;cases hy
    obtain⟨z,hz,hzD⟩:=hat (i-1) (by omega) (by omega)
    have h:lt x z=false:=by
     rw[←Adq lt hx hzD]
     simpa using h
    obtain⟨k,hk⟩:=List.getElem?_of_mem hy
    have hkl:=(List.getElem?_eq_some_iff.1 hk).1
    rw[List.length_take] at hkl
    rw[List.getElem?_take,if_pos (by omega)] at hk
    rcases Nat.lt_or_ge k (i-1-a) with hlt|hge
    ·have hzy:lt z y=false:=by
      have:=(List.pairwise_iff_getElem.1 hL) k (i-1-a) (by omega) (by omega) hlt
      rw[List.getElem?_eq_getElem (by omega)] at hk hz
      injection hk with hk;injection hz with hz
      rw[hk,hz] at this;exact this
     exact hw.inc x z y h hzy
    ·obtain rfl:k=i-1-a:=by omega
     rw[hk] at hz;injection hz with hz
     rw[hz];exact h
  ·by_cases hi:i=m
   ·rw[List.drop_eq_nil_of_le (by omega)] at hy;cases hy
   rcases hs.pr with h|h
   ·exact absurd h hi
   obtain⟨z,hz,hzD⟩:=hat i (by omega) (by omega)
   rw[List.head?_drop,hz] at hy
   injection hy with hy
   subst hy
   rw[←Adq lt hx hzD]
   simpa using h
 ·refine⟨L.drop (i-a),[],?_,by simp,by simp;omega,fun _ hy=>by cases hy⟩
  rw[hD]
  show P++(L++x::Q)=(P++L.take (i-a))++(L.drop (i-a)++x::Q)
  rw[List.append_assoc P,←List.append_assoc (L.take _),List.take_append_drop]
theorem sym_cut(hw:Weak lt){P L R Q D:List α}{a m b mid n lo hi s:Nat}(hD:D=P++(L++(R++Q)))(ha:P.length=a)(hm:a+L.length=m)(hb:m+R.length=b)(hL:AscS lt L)(hR:AscS lt R)
 (hmid:mid=(a+b) / 2) (hn:n=mid+m) (hlo:mid<m∧lo=n-b∧hi=mid∨m≤mid∧lo=a∧hi=m) (h0:a<m) (h1:m<b)
 (hs:BSt (fun c=>!ltAt lt D (n-1-c) c) lo hi s s) :
 ∃L1 L2 R1 R2,L=L1++L2∧R=R1++R2∧a+L1.length=s∧m+R1.length=n-s∧s≤mid∧s≤m∧m≤n-s∧n-s≤b∧a≤s∧mrg lt L R=mrg lt L1 R1++mrg lt L2 R2:=by
 have hl:=hs.l
 have hr:=hs.r
 have hsm:s≤m:=by omega
 have hsmid:s≤mid:=by omega
 have has:a≤s:=by omega
 have hns:n-s≤b:=by omega
 have hmn:m≤n-s:=by omega
 have hatL:∀k,a≤k→k<m→∃y,L[k-a]?=some y∧D[k]?=some y:=fun k h1 h2=>by
  obtain⟨y,hy⟩:∃y,L[k-a]?=some y:=⟨_,List.getElem?_eq_getElem (by omega)⟩
  refine⟨y,hy,?_⟩
  rw[hD,List.getElem?_append_right (by omega),List.getElem?_append_left (by omega)]
  rw[←hy];congr 1;omega
 have hatR:∀k,m≤k→k<b→∃y,R[k-m]?=some y∧D[k]?=some y:=fun k h1 h2=>by
  obtain⟨y,hy⟩:∃y,R[k-m]?=some y:=⟨_,List.getElem?_eq_getElem (by omega)⟩
  refine⟨y,hy,?_⟩
  rw[hD,←List.append_assoc,List.getElem?_append_right (by simp;omega),List.getElem?_append_left (by simp;omega)]
  rw[←hy];congr 1;simp;omega
 have pwL:=List.pairwise_iff_getElem.1 hL
 have pwR:=List.pairwise_iff_getElem.1 hR
 have leL:∀i j x y,i≤j→L[i]?=some x→L[j]?=some y→lt y x=false:=fun i j x y hij hx hy=>by
  rcases Nat.eq_or_lt_of_le hij with rfl|hlt
  ·rw[hx] at hy;injection hy with hy;rw[hy];exact hw.irr _
  ·have h2:=(List.getElem?_eq_some_iff.1 hy).1
   have:=pwL i j (by omega) h2 hlt
   rw[List.getElem?_eq_getElem (by omega)] at hx hy
   injection hx with hx;injection hy with hy
   rw[hx,hy] at this;exact this
 have leR:∀i j x y,i≤j→R[i]?=some x→R[j]?=some y→lt y x=false:=fun i j x y hij hx hy=>by
  rcases Nat.eq_or_lt_of_le hij with rfl|hlt
  ·rw[hx] at hy;injection hy with hy;rw[hy];exact hw.irr _
  ·have h2:=(List.getElem?_eq_some_iff.1 hy).1
   have:=pwR i j (by omega) h2 hlt
   rw[List.getElem?_eq_getElem (by omega)] at hx hy
   injection hx with hx;injection hy with hy
   rw[hx,hy] at this;exact this
 refine⟨L.take (s-a),L.drop (s-a),R.take (n-s-m),R.drop (n-s-m),(List.take_append_drop _ _).symm,(List.take_append_drop _ _).symm,by rw[List.length_take];omega,by rw[List.length_take];omega,hsmid,hsm,hmn,hns,has,?_⟩
 have h:=mrg_split lt (L.take (s-a)) (L.drop (s-a)) (R.take (n-s-m)) (R.drop (n-s-m)) (fun x hx y hy=>?_) (fun x hx y hy=>?_)
 ·rw[List.take_append_drop,List.take_append_drop] at h;exact h
 ·-- L1,R2
  obtain⟨k,hk⟩:=List.getElem?_of_mem hx
  have hkl:=(List.getElem?_eq_some_iff.1 hk).1
  rw[List.length_take] at hkl
  rw[List.getElem?_take,if_pos (by omega)] at hk
  obtain⟨k2,hk2⟩:=List.getElem?_of_mem hy
  have hkl2:=(List.getElem?_eq_some_iff.1 hk2).1
  rw[List.length_drop] at hkl2
  rw[List.getElem?_drop] at hk2
  rcases hs.pl with h|h
  ·omega
  ·by_cases hsl:s=lo
   ·omega
   obtain⟨u,hu,huD⟩:=hatL (s-1) (by omega) (by omega)
   obtain⟨v,hv,hvD⟩:=hatR (n-s) (by omega) (by omega)
   have h:lt v u=false:=by
    rw[←Adq lt hvD huD]
    rw[show n-1-(s-1)=n-s from by omega] at h
    simpa using h
   have hxu:=leL k (s-1-a) x u (by omega) hk hu
   have hyv:=leR (n-s-m) (n-s-m+k2) v y (by omega) hv hk2
   exact hw.inc y v x hyv (hw.inc v u x h hxu)
 ·-- L2,R1
  obtain⟨k,hk⟩:=List.getElem?_of_mem hx
  have hkl:=(List.getElem?_eq_some_iff.1 hk).1
  rw[List.length_drop] at hkl
  rw[List.getElem?_drop] at hk
  obtain⟨k2,hk2⟩:=List.getElem?_of_mem hy
  have hkl2:=(List.getElem?_eq_some_iff.1 hk2).1
  rw[List.length_take] at hkl2
  rw[List.getElem?_take,if_pos (by omega)] at hk2
  by_cases hsl:s=hi
  ·omega
  rcases hs.pr with h|h
  ·exact absurd h hsl
  ·obtain⟨u,hu,huD⟩:=hatL s (by omega) (by omega)
   obtain⟨v,hv,hvD⟩:=hatR (n-s-1) (by omega) (by omega)
   have h:lt v u=true:=by
    rw[←Adq lt hvD huD]
    rw[show n-1-s=n-s-1 from by omega] at h
    simpa using h
   have hux:=leL (s-a) (s-a+k) u x (by omega) hu hk
   have hyv:=leR k2 (n-s-1-m) y v (by omega) hk2 hv
   exact hw.le_lt hyv (hw.lt_le h hux)
structure Chk(k:Nat)(D0:List α)(cs:List (List α))(R D:List α):Prop where
 orig:D0=cs.flatten++R
 now:D=(cs.map (ssort lt)).flatten++ssort lt R
 full:∀c∈cs,c.length=k
 rest:R.length<k
theorem Ad1{k:Nat}:∀ {cs:List (List α)},(∀c∈cs,c.length=k)→cs.flatten.length=k*cs.length
 | [],_=>by simp
 | c::cs,h=>by
   rw[List.flatten_cons,List.length_append,h c (List.mem_cons_self ..),Ad1 (fun x hx=>h x (List.mem_cons_of_mem _ hx)),List.length_cons,Nat.mul_add]
   omega
theorem Ad2{k:Nat}:∀ {cs:List (List α)},(∀c∈cs,c.length=k)→(cs.map (ssort lt)).flatten.length=k*cs.length
 | [],_=>by simp
 | c::cs,h=>by
   rw[List.map_cons,List.flatten_cons,List.length_append,(Ac9 lt c).length_eq,h c (List.mem_cons_self ..),Ad2 (fun x hx=>h x (List.mem_cons_of_mem _ hx)),List.length_cons,Nat.mul_add]
   omega
structure Fst(k:Nat)(D0:List α)(a:Nat)(D:List α):Prop where
 ex:∃(cs:List (List α)) (R:List α),D0=cs.flatten++R∧D=(cs.map (ssort lt)).flatten++R∧(∀c∈cs,c.length=k)∧a=k*cs.length
theorem Fst.start(k:Nat)(D0:List α):Fst lt k D0 0 D0:=⟨⟨[],D0,by simp,by simp,fun c h=>(by cases h),by simp⟩⟩
theorem Fst.step{k a:Nat}{D0 D:List α}(h:Fst lt k D0 a D)(hk:a+k≤D0.length):Fst lt k D0 (a+k) (Adt lt D a (a+k)):=by
 obtain⟨cs,R,rfl,rfl,hc,rfl⟩:=h.ex
 have l1:=Ad1 hc
 have l2:=Ad2 lt hc
 rw[List.length_append,l1] at hk
 refine⟨⟨cs++[R.take k],R.drop k,by simp,?_,fun c hm=>?_,by simp[Nat.mul_add]⟩⟩
 ·unfold Adt
  obtain⟨X,hX⟩:∃X,(cs.map (ssort lt)).flatten=X:=⟨_,rfl⟩
  rw[hX] at l2
  have e1:(X++R).take (k*cs.length)=X:=by rw[←l2];exact List.take_left
  have e2:((X++R).take (k*cs.length+k)).drop (k*cs.length)=R.take k:=by rw[←l2,List.take_append,List.take_of_length_le (by omega),List.drop_left];congr 1;omega
  have e3:(X++R).drop (k*cs.length+k)=R.drop k:=by rw[←l2,List.drop_append,List.drop_eq_nil_of_le (by omega),List.nil_append];congr 1;omega
  rw[hX,e1,e2,e3,List.map_append,List.flatten_append,hX]
  simp
 ·rcases List.mem_append.1 hm with hm|hm
  ·exact hc c hm
  ·rw[List.mem_singleton] at hm;subst hm;rw[List.length_take];omega
theorem Fst.last{k a:Nat}{D0 D:List α}(h:Fst lt k D0 a D)(hk:D0.length<a+k):∃cs R,Chk lt k D0 cs R (Adt lt D a D0.length):=by
 obtain⟨cs,R,rfl,rfl,hc,rfl⟩:=h.ex
 have l1:=Ad1 hc
 have l2:=Ad2 lt hc
 rw[List.length_append,l1] at hk ⊢
 refine⟨cs,R,rfl,?_,hc,by omega⟩
 unfold Adt
 generalize (cs.map (ssort lt)).flatten=X at l2
 have e1:(X++R).take (k*cs.length)=X:=by rw[←l2];exact List.take_left
 have e2:(X++R).take (k*cs.length+R.length)=X++R:=List.take_of_length_le (by rw[List.length_append];omega)
 have e3:(X++R).drop (k*cs.length)=R:=by rw[←l2];exact List.drop_left
 have e4:(X++R).drop (k*cs.length+R.length)=[]:=List.drop_eq_nil_of_le (by rw[List.length_append];omega)
 rw[e2,e1,e3,e4,List.append_nil]
structure Pas(k:Nat)(D0:List α)(R:List α)(a:Nat)(ds cs:List (List α))(D:List α):Prop where
 orig:D0=ds.flatten++(cs.flatten++R)
 now:D=(ds.map (ssort lt)).flatten++((cs.map (ssort lt)).flatten++ssort lt R)
 fd:∀c∈ds,c.length=2*k
 fc:∀c∈cs,c.length=k
 rest:R.length<k
 at_:a=2*k*ds.length
theorem Pas.start{k:Nat}{D0 R D:List α}{cs:List (List α)}(h:Chk lt k D0 cs R D):Pas lt k D0 R 0 [] cs D:=⟨by rw[h.orig];simp,by rw[h.now];simp,fun c hc=>(by cases hc),h.full,h.rest,by simp⟩
theorem Pas.len{k a:Nat}{D0 R D:List α}{ds cs:List (List α)}(h:Pas lt k D0 R a ds cs D):D0.length=a+k*cs.length+R.length:=by
 have h1:=h.at_
 rw[h.orig,List.length_append,List.length_append,Ad1 h.fd,Ad1 h.fc];omega
theorem Pas.alen{k a:Nat}{D0 R D:List α}{ds cs:List (List α)}(h:Pas lt k D0 R a ds cs D):(ds.map (ssort lt)).flatten.length=a:=by rw[Ad2 lt h.fd,h.at_]
theorem Pas.two{k a:Nat}{D0 R D:List α}{ds cs:List (List α)}(hw:Weak lt)(h:Pas lt k D0 R a ds cs D)(hk:a+2*k≤D0.length):
 ∃P L R' Q,D=P++(L++(R'++Q))∧P.length=a∧L.length=k∧R'.length=k∧AscS lt L∧AscS lt R'∧∃ds' cs',Pas lt k D0 R (a+2*k) ds' cs' (P++(mrg lt L R'++Q)):=by
 have hl:=h.len
 have hr:=h.rest
 match cs,h with
 | [],h=>simp at hl;omega
 | [c],h=>simp at hl;omega
 | c1::c2::cs,h =>
   have f1:=h.fc c1 (by simp)
   have f2:=h.fc c2 (by simp)
   refine⟨(ds.map (ssort lt)).flatten,ssort lt c1,ssort lt c2,(cs.map (ssort lt)).flatten++ssort lt R,by rw[h.now];simp,h.alen,by rw[(Ac9 lt c1).length_eq,f1],by rw[(Ac9 lt c2).length_eq,f2],Adc lt hw _,Adc lt hw _,ds++[c1++c2],cs,?_⟩
   refine⟨by rw[h.orig];simp,?_,fun c hc=>?_,fun c hc=>h.fc c (by simp[hc]),hr,by rw[h.at_,List.length_append];simp[Nat.mul_add]⟩
   ·rw[←Ac7 lt hw];simp
   ·rcases List.mem_append.1 hc with hc|hc
    ·exact h.fd c hc
    ·rw[List.mem_singleton] at hc;subst hc;rw[List.length_append];omega
theorem Pas.odd{k a:Nat}{D0 R D:List α}{ds cs:List (List α)}(hw:Weak lt)(h:Pas lt k D0 R a ds cs D)(hk:D0.length<a+2*k)(hm:a+k<D0.length):
 ∃P L R',D=P++(L++(R'++[]))∧P.length=a∧L.length=k∧0<R'.length∧a+k+R'.length=D0.length∧AscS lt L∧AscS lt R'∧∃cs' R'',Chk lt (2*k) D0 cs' R'' (P++(mrg lt L R'++[])):=by
 have hl:=h.len
 have hr:=h.rest
 match cs,h with
 | [],h=>simp at hl;omega
 | c1::c2::cs,h=>simp[Nat.mul_add] at hl;omega
 | [c],h =>
   have f1:=h.fc c (by simp)
   simp at hl
   refine⟨(ds.map (ssort lt)).flatten,ssort lt c,ssort lt R,by rw[h.now];simp,h.alen,by rw[(Ac9 lt c).length_eq,f1],by rw[(Ac9 lt R).length_eq];omega,by rw[(Ac9 lt R).length_eq];omega,Adc lt hw _,Adc lt hw _,ds,c++R,?_⟩
   refine⟨by rw[h.orig];simp,?_,h.fd,by rw[List.length_append];omega⟩
   rw[←Ac7 lt hw];simp
theorem Pas.even{k a:Nat}{D0 R D:List α}{ds cs:List (List α)}(h:Pas lt k D0 R a ds cs D)(hk:D0.length<a+2*k)(hm:D0.length≤a+k):∃cs' R'',Chk lt (2*k) D0 cs' R'' D:=by
 have hl:=h.len
 have hr:=h.rest
 match cs,h with
 | c1::c2::cs,h=>simp[Nat.mul_add] at hl;omega
 | [],h =>
   exact⟨ds,R,by rw[h.orig];simp,by rw[h.now];simp,h.fd,by omega⟩
 | [c],h =>
   simp at hl
   obtain rfl:R=[]:=List.eq_nil_of_length_eq_zero (by omega)
   have f1:=h.fc c (by simp)
   exact⟨ds,c,by rw[h.orig];simp,by rw[h.now];simp[ssort_nil],h.fd,by omega⟩
theorem Chk.end_{k:Nat}{D0 R D:List α}{cs:List (List α)}(h:Chk lt k D0 cs R D)(hk:D0.length≤k):D=ssort lt D0:=by
 have hl:D0.length=k*cs.length+R.length:=by rw[h.orig,List.length_append,Ad1 h.full]
 have hr:=h.rest
 match cs,h with
 | [],h=>rw[h.now,h.orig];simp
 | [c],h =>
   simp at hl
   obtain rfl:R=[]:=List.eq_nil_of_length_eq_zero (by omega)
   rw[h.now,h.orig];simp[ssort_nil]
 | c1::c2::cs,h=>simp[Nat.mul_add] at hl;omega
end
end Go.Proofs.YtcmgmemffncbhabGreatDoor
namespace Go.Proofs.YtcmgmemffncbhabGreatDoor
open Go.RowKit Tr
theorem Ad3{l:List Nat}{k:Nat}(hk:k<l.length)(h:gt l k=0):cutz (l.take (k+1))=cutz (l.take k):=by
 rw[Aby l k hk,show l.getD k 0=0 from h,Abf]
theorem Ad4{l:List Nat}{k:Nat}(hk:k<l.length)(h:gt l k≠0):cutz (l.take (k+1))=l.take (k+1):=by
 refine Abg ?_
 rw[Aby l k hk];exact Abh h
theorem Ad5(A:Option Addr)(l:List Nat)(c:Nat)(w:World)(hm:l.length≤1073741824)(hc:l.length≤c)(hr:RdM w A l):
 Calls Tryz.prog 102 #[.slice A l.length c] w fun e w'=>e=.returned (.slice A (cutz l).length c)∧w=w':=by
 have HR:=Lib.hid hr
 clear hr
 go_enter Tryz.func102,Tryz.ntmps102
 go_wp2_with fail
 go_loop [0] (fun v=>∃k:Nat,k≤l.length∧v=.slice A k c∧Hid (cutz (l.take k)=cutz l)) (fun v=>lenOf v)
 case atStart=>exact⟨_,Nat.le_refl _,rfl,by simp[Hid]⟩
 case round =>
  obtain⟨k,hk,rfl,HC⟩:=hrel
  rcases Nat.eq_zero_or_pos k with h0|h0
  ·subst h0
   have HC':Hid ((cutz l).length=0):=by have:=HC.out;simp only[List.take_zero] at this;rw[Hid,←this];rfl
   clear HC
   go_wp2
   go_ret
   exact⟨by rw[HC'.out];rfl,rfl⟩
  ·obtain⟨j,rfl⟩:∃j,k=j+1:=⟨k-1,by omega⟩
   obtain⟨ad,rfl,_,hcell⟩:=HR.out (by rintro rfl;simp at hk)
   have hcj:=hcell j (by omega)
   clear hcell HR
   by_cases hz:gt l j=0
   ·have HC':Hid (cutz (l.take j)=cutz l):=by rw[Hid,←HC.out,Ad3 (by omega) hz]
    rw[hz] at hcj
    have HZ:=Lib.hid hz
    clear hz HC
    go_wp2
    go_round
    case rel=>exact⟨j,by omega,by go_num,HC'⟩
    case measure=>simp[lenOf]
   ·have HC':Hid ((cutz l).length=j+1):=by rw[Hid,←HC.out,Ad4 (by omega) hz];simp;omega
    have hz':((gt l j:Int)==0)=false:=by simpa using hz
    have HZ:=Lib.hid hz
    clear hz HC
    go_wp2
    go_ret
    exact⟨by rw[HC'.out];rfl,rfl⟩
def Sgn(r:Int)(a b:Nat):Prop:=(r<0↔a<b)∧(0<r↔b<a)∧-2147483648≤r∧r≤2147483648
def Ad6(w:World)(a b:Nat)(e:Ending)(w':World):Prop:=∃r:Int,e=.returned (.int .i64 r)∧Sgn r a b∧∃q,w'=w.drewN q
theorem Ad7{l m:List Nat}(hl:Dig l)(hm:Dig m)(nl:Norm l)(nm:Norm m)(h:l.length≠m.length)(b1:l.length≤1073741824)(b2:m.length≤1073741824):
 Sgn ((l.length:Int)-m.length) (mval l) (mval m):=by
 rcases Nat.lt_or_ge l.length m.length with h1|h1
 ·have:=Abr hl nm h1
  refine⟨?_,?_,?_,?_⟩<;>omega
 ·have:=Abr hm nl (show m.length<l.length by omega)
  refine⟨?_,?_,?_,?_⟩<;>omega
theorem Ad8{l m:List Nat}{k:Nat}(hk:k<l.length)(hlen:l.length=m.length)(h:l.drop (k+1)=m.drop (k+1))(e:gt l k=gt m k):l.drop k=m.drop k:=by
 rw[List.drop_eq_getElem_cons hk,List.drop_eq_getElem_cons (show k<m.length by omega),h]
 have e':l.getD k 0=m.getD k 0:=e
 rw[Aa7 hk,Aa7 (show k<m.length by omega)] at e'
 rw[e']
theorem Ad9(A A':Option Addr)(l m:List Nat)(c c':Nat)(w:World)(b1:l.length≤1073741824)(b2:m.length≤1073741824)
 (hl:Dig l) (hm:Dig m) (nl:Norm l) (nm:Norm m) (hr:RdM w A l) (hr':RdM w A' m) :
 Calls Tryz.prog 67 #[.slice A l.length c,.slice A' m.length c'] w (Ad6 w (mval l) (mval m)):=by
 have HR:=Lib.hid hr
 have HR':=Lib.hid hr'
 have HL:=Lib.hid hl
 have HM:=Lib.hid hm
 by_cases hlen:l.length=m.length
 ·have hne:(l.length != m.length)=false:=by simp[hlen]
  have hne':((l.length:Int) != (m.length:Int))=false:=by simp[hlen]
  have HLEN:=Lib.hid hlen
  clear hlen hr hr' nl nm hl hm
  go_enter Tryz.func67,Tryz.ntmps67
  go_wp2_with fail
  go_loopw [5] (fun i wr=>∃k:Nat,k≤l.length∧i=.int .i64 ((k:Int)-1)∧Hid (l.drop k=m.drop k)∧∃q,wr=w.drewN q) (fun i _=>(intOf i+1).toNat)
  case atStart=>exact⟨l.length,Nat.le_refl _,rfl,by simp[Hid,HLEN.out],0,rfl⟩
  case round =>
   obtain⟨k,hk,rfl,HD,q,rfl⟩:=hrel
   rcases Nat.eq_zero_or_pos k with h0|h0
   ·subst h0
    go_wp2_with fail
    go_ret
    refine⟨0,rfl,?_,q,rfl⟩
    have h:=HD.out
    simp only[List.drop_zero] at h
    subst h
    exact⟨by omega,by omega,by omega,by omega⟩
   ·obtain⟨j,rfl⟩:∃j,k=j+1:=⟨k-1,by omega⟩
    obtain⟨ad,rfl,_,hcell⟩:=HR.out (by rintro rfl;simp at hk)
    have hlen:=HLEN.out
    obtain⟨ad',rfl,_,hcell'⟩:=HR'.out (by rintro rfl;simp only[List.length_nil] at hlen;omega)
    have hcj:=hcell j (by omega)
    have hcj':=hcell' j (by omega)
    have b3:j<m.length:=by omega
    clear hcell hcell' HR HR' hlen
    have hi:((j+1:Nat):Int)-1=(j:Int):=by omega
    rw[hi]
    rcases Nat.lt_trichotomy (gt l j) (gt m j) with ht|ht|ht
    ·have h1:decide (gt l j<gt m j)=true:=by simp;omega
     go_wp2_with fail
     go_quiet (fail)
     go_wp2_with fail
     go_ret
     refine⟨-1,rfl,?_,_,World.drewN_drewN _ _ _⟩
     have:=Abv (HL.out) j (by omega) HLEN.out HD.out ht
     exact⟨by omega,by omega,by omega,by omega⟩
    ·have h1:decide (gt l j<gt m j)=false:=by simp;omega
     have h2:decide (gt m j<gt l j)=false:=by simp;omega
     have HT:=Lib.hid ht
     clear ht
     go_wp2_with fail
     go_quiet (fail)
     go_wp2_with fail
     go_quiet (fail)
     go_wp2_with fail
     go_roundw
     case rel=>exact⟨j,by omega,by go_num,by have:=HLEN.out;exact Ad8 (by omega) this HD.out HT.out,_,rfl⟩
     case measure=>simp[intOf]
    ·have h1:decide (gt l j<gt m j)=false:=by simp;omega
     have h2:decide (gt m j<gt l j)=true:=by simp;omega
     go_wp2_with fail
     go_quiet (fail)
     go_wp2_with fail
     go_quiet (fail)
     go_wp2_with fail
     go_ret
     refine⟨1,rfl,?_,_,by rw[World.drewN_drewN,World.drewN_drewN]⟩
     have hlen:=HLEN.out
     have:=Abv (HM.out) j (by omega) HLEN.out.symm HD.out.symm ht
     exact⟨by omega,by omega,by omega,by omega⟩
 ·have hne:(l.length != m.length)=true:=by simp[hlen]
  have hne':((l.length:Int) != (m.length:Int))=true:=by simp;omega
  have HS:=Lib.hid (Ad7 hl hm nl nm hlen b1 b2)
  clear hlen hr hr' nl nm hl hm
  go_enter Tryz.func67,Tryz.ntmps67
  go_wp2_with fail
  go_ret
  exact⟨_,rfl,HS.out,0,rfl⟩
def RdN(w:World)(A:Option Addr)(l:List Nat):Prop :=
 l≠[]→∃ad:Addr,A=some ad∧ad.block<w.heap.size∧∀j,j<l.length→w.cell? (ad.add j)=some (.int .i64 (gt l j))
theorem RdN.nil(w:World)(A:Option Addr):RdN w A []:=fun h=>absurd rfl h
theorem RdN.below{w w':World}{A:Option Addr}{l:List Nat}(h:RdN w A l)(hb:Below w.heap.size w w'):RdN w' A l:=by
 intro hl
 obtain⟨ad,rfl,h1,h2⟩:=h hl
 exact⟨ad,rfl,Nat.lt_of_lt_of_le h1 hb.size,fun j hj=>(hb.cell (by rw[Acv];exact h1)).trans (h2 j hj)⟩
theorem RdN.take{w:World}{A:Option Addr}{l:List Nat}(h:RdN w A l)(k:Nat):RdN w A (l.take k):=by
 intro hl
 obtain⟨ad,rfl,h1,h2⟩:=h (fun e=>hl (by rw[e];simp))
 refine⟨ad,rfl,h1,fun j hj=>?_⟩
 rw[List.length_take] at hj
 rw[h2 j (by omega)]
 unfold gt
 rw[List.getD_eq_getElem?_getD,List.getD_eq_getElem?_getD,List.getElem?_take_of_lt (by omega)]
theorem Aea(l:List Nat):cutz l=l.take (cutz l).length:=by
 unfold cutz
 have h:=List.dropWhile_suffix (l:=l.reverse) (·==0)
 obtain⟨t,ht⟩:=h
 have:l=(l.reverse.dropWhile (·==0)).reverse++t.reverse:=by
  rw[←List.reverse_append,ht,List.reverse_reverse]
 have h2:((l.reverse.dropWhile (·==0)).reverse++t.reverse).take (l.reverse.dropWhile (·==0)).reverse.length=(l.reverse.dropWhile (·==0)).reverse:=List.take_left
 rw[←this] at h2
 exact h2.symm
theorem RdN.cutz{w:World}{A:Option Addr}{l:List Nat}(h:RdN w A l):RdN w A (cutz l):=by
 rw[Aea];exact h.take _
theorem Aeb(A:Option Addr)(l:List Nat)(c:Nat)(w:World)(hm:l.length≤1073741824)(hc:l.length≤c)(hr:RdN w A l):
 Calls Tryz.prog 148 #[.slice A l.length c] w fun e w'=>e=.returned (.slice A (Tr.cutz l).length c)∧w=w':=by
 have HR:=Lib.hid hr
 clear hr
 go_enter Tryz.func148,Tryz.ntmps148
 go_wp2_with fail
 go_loop [0] (fun v=>∃k:Nat,k≤l.length∧v=.slice A k c∧Hid (Tr.cutz (l.take k)=Tr.cutz l)) (fun v=>lenOf v)
 case atStart=>exact⟨_,Nat.le_refl _,rfl,by simp[Hid]⟩
 case round =>
  obtain⟨k,hk,rfl,HC⟩:=hrel
  rcases Nat.eq_zero_or_pos k with h0|h0
  ·subst h0
   have HC':Hid ((Tr.cutz l).length=0):=by have:=HC.out;simp only[List.take_zero] at this;rw[Hid,←this];rfl
   clear HC
   go_wp2
   go_ret
   exact⟨by rw[HC'.out];rfl,rfl⟩
  ·obtain⟨j,rfl⟩:∃j,k=j+1:=⟨k-1,by omega⟩
   obtain⟨ad,rfl,_,hcell⟩:=HR.out (by rintro rfl;simp at hk)
   have hcj:=hcell j (by omega)
   clear hcell HR
   by_cases hz:gt l j=0
   ·have HC':Hid (Tr.cutz (l.take j)=Tr.cutz l):=by rw[Hid,←HC.out,Ad3 (by omega) hz]
    rw[hz] at hcj
    have HZ:=Lib.hid hz
    clear hz HC
    go_wp2
    go_round
    case rel=>exact⟨j,by omega,by go_num,HC'⟩
    case measure=>simp[lenOf]
   ·have HC':Hid ((Tr.cutz l).length=j+1):=by rw[Hid,←HC.out,Ad4 (by omega) hz];simp;omega
    have hz':((gt l j:Int)==0)=false:=by simpa using hz
    have HZ:=Lib.hid hz
    clear hz HC
    go_wp2
    go_ret
    exact⟨by rw[HC'.out];rfl,rfl⟩
theorem Aec(A:Option Addr)(l:List Nat)(c k:Nat)(w:World)(hm:l.length≤1073741824)(hk:k≤1073741824)(hc:l.length≤c)(hr:RdN w A l):
 Calls Tryz.prog 147 #[.slice A l.length c,.int .i64 (k:Int)] w fun e w'=>e=.returned (.int .i64 (gt l k:Nat))∧w=w':=by
 rcases Nat.lt_or_ge k l.length with h|h
 ·obtain⟨ad,rfl,_,hcell⟩:=hr (by rintro rfl;simp at h)
  have hcj:=hcell k h
  clear hcell hr
  go_enter Tryz.func147,Tryz.ntmps147
  go_wp2
  go_ret
  exact⟨rfl,rfl⟩
 ·have HZ:Hid (gt l k=0):=by
   unfold gt;rw[Hid,List.getD_eq_getElem?_getD,List.getElem?_eq_none h];rfl
  clear hr
  go_enter Tryz.func147,Tryz.ntmps147
  go_wp2
  go_ret
  exact⟨by rw[HZ.out];rfl,rfl⟩
abbrev Aaa:=@Lib.cell_of_heap
abbrev Aab:=@Array.getElem?_eq_some_iff
abbrev Aac:=@Lib.hid
abbrev Aad:=@Nat.le_refl
abbrev Aae:=@List.getElem?_eq_getElem
abbrev Aaf:=@Lib.frozen_of_heap
abbrev Aag:=@List.eq_nil_of_length_eq_zero
abbrev Aah:=@Nat.lt_of_lt_of_le
abbrev Aai:=@List.take_of_length_le
abbrev Aaj:=@beq_eq_false_iff_ne
abbrev Aak:=@List.getElem?_eq_some_iff
abbrev Aam:=@Nat.lt_or_ge
abbrev Aan:=@List.length_append
abbrev Aap:=@Nat.le_trans
abbrev Aaq:=@Nat.eq_zero_or_pos
abbrev Aar:=@List.length_map
abbrev Aas:=@List.mem_of_getElem?
abbrev Aat:=@List.length_take
abbrev Aau:=@List.getD_eq_getElem?_getD
abbrev Aav:=@List.take_append_drop
abbrev Aaw:=@List.mem_cons_self
abbrev Aax:=@List.mem_cons_of_mem
abbrev Aay:=@IntKind.wrap_i64
abbrev Aaz:=@Bool.false_ne_true
abbrev Aa0:=@List.length_cons
abbrev Aa1:=@List.getElem?_append_right
abbrev Aa2:=@List.drop_eq_getElem_cons
abbrev Aa3:=@decide_eq_true
abbrev Aa4:=@decide_eq_false
abbrev Aa5:=@heap_alloc_new
end Go.Proofs.YtcmgmemffncbhabGreatDoor
