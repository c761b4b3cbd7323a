/-
  A lot put into a list behind the last one whose instrument is not greater: plainly.
-/
import Derived.Test.YtcmgmemffncbhabGreatDoorT31
import Derived.Sort.Walk0
import Derived.Deep.RegionWith
set_option linter.unusedVariables false
set_option linter.unusedSimpArgs false
set_option maxHeartbeats 16000000
set_option maxRecDepth 100000
namespace Go.Proofs.YtcmgmemffncbhabGreatDoor
open Go.RowKit Tr Go.Shelf
def bl(a b:ByteArray):Bool:=Op.bytesLess a.toList b.toList
structure UpPl(ls:List Lot)(s:ByteArray)(n k:Nat):Prop where
 le:k≤n
 hi:∀i y,k≤i→i<n→ls[i]?=some y→bl s y.inst=true
 lo:∀y,0<k→ls[k-1]?=some y→bl s y.inst=false
theorem UpPl.yes{ls:List Lot}{s:ByteArray}{n:Nat}{y:Lot}(hy:ls[n]?=some y)(h:bl s y.inst=false):UpPl ls s (n+1) (n+1) :=
 ⟨Aad _,fun i z h1 h2=>by omega,fun z _ hz=>by rw[Nat.add_sub_cancel,hy] at hz;injection hz with hz;rw[←hz];exact h⟩
theorem UpPl.no{ls:List Lot}{s:ByteArray}{n k:Nat}{y:Lot}(hu:UpPl ls s n k)(hy:ls[n]?=some y)(h:bl s y.inst=true):UpPl ls s (n+1) k :=
 ⟨Nat.le_succ_of_le hu.le,fun i z h1 h2 hz=>by
   rcases Aam i n with h3|h3
   ·exact hu.hi i z h1 h3 hz
   ·obtain rfl:i=n:=by omega
    rw[hy] at hz;injection hz with hz;rw[←hz];exact h,hu.lo⟩
def insAt{α:Type}(ls:List α)(k:Nat)(x:α):List α:=ls.take k++x::ls.drop k
theorem Apv{α:Type}{ls:List α}{k:Nat}(x:α)(hk:k≤ls.length):(insAt ls k x).length=ls.length+1:=by unfold insAt;simp;omega
theorem Apw(ls:List SLot)(k:Nat)(hk:k≤ls.length):(flatL ls).take (k*7)=flatL (ls.take k):=by
 have h:=Anu (ls.take k) (ls.drop k)
 rw[Aav] at h
 have hl:(flatL (ls.take k)).length=k*7:=by rw[Ans,Aat,Nat.min_eq_left hk]
 rw[h,List.take_append_of_le_length (by omega),Aai (by omega)]
theorem Apx(ls:List SLot)(k:Nat)(hk:k≤ls.length):(flatL ls).drop (k*7)=flatL (ls.drop k):=by
 have h:=Anu (ls.take k) (ls.drop k)
 rw[Aav] at h
 have hl:(flatL (ls.take k)).length=k*7:=by rw[Ans,Aat,Nat.min_eq_left hk]
 rw[h,←hl,List.drop_left]
theorem Apy(ls:List SLot)(k:Nat)(x:SLot)(hk:k≤ls.length):(flatL ls).take (k*7)++(x.1.cells.toList++(flatL ls).drop (k*7))=flatL (insAt ls k x):=by
 rw[Apw ls k hk,Apx ls k hk];unfold insAt;rw[Anu];rfl
structure AllOk(ls:List Lot):Prop where
 len:ls.length≤1000
 ok:∀l∈ls,lchk l=0
 nd:(ls.map Lot.id).Nodup
theorem lallF_zero:∀(r pre:List Lot),lallF pre r=0↔(∀l∈r,lchk l=0)∧(r.map Lot.id).Nodup∧∀l∈r,l.id ∉ pre.map Lot.id
 | [],pre=>by unfold lallF;simp
 | l :: r, pre => by
   unfold lallF
   by_cases h1:lchk l=0
   ·rw [if_neg (fun x => x h1)]
    by_cases h2:l.id∈pre.map Lot.id
    ·rw[if_pos h2]
     exact⟨fun h=>absurd h (by decide),fun h=>absurd h2 (h.2.2 l (Aaw ..))⟩
    ·rw[if_neg h2,lallF_zero r (pre++[l])]
     constructor
     ·rintro⟨a,b,c⟩
      refine⟨fun x hx=>?_,?_,fun x hx=>?_⟩
      ·rcases List.mem_cons.1 hx with rfl|hx
       ·exact h1
       ·exact a x hx
      ·rw[List.map_cons,List.nodup_cons]
       refine⟨fun hm=>?_,b⟩
       obtain⟨y,hy,e⟩:=List.mem_map.1 hm
       exact c y hy (by rw[List.map_append,List.mem_append];exact .inr (by rw[e];simp))
      ·rcases List.mem_cons.1 hx with rfl|hx
       ·exact h2
       ·exact fun hm=>c x hx (by rw[List.map_append,List.mem_append];exact .inl hm)
     ·rintro⟨a,b,c⟩
      rw[List.map_cons,List.nodup_cons] at b
      refine⟨fun x hx=>a x (Aax _ hx),b.2,fun x hx hm=>?_⟩
      rw[List.map_append,List.mem_append] at hm
      rcases hm with hm|hm
      ·exact c x (Aax _ hx) hm
      ·simp at hm
       exact b.1 (List.mem_map.2 ⟨x,hx,hm⟩)
   ·rw[if_pos h1]
    exact⟨fun h=>absurd h h1,fun h=>absurd (h.1 l (Aaw ..)) h1⟩
theorem Apz(ls:List Lot):lall ls=0↔AllOk ls:=by
 unfold lall
 by_cases h:1000<ls.length
 ·rw[if_pos h];exact⟨fun x=>absurd x (by decide),fun x=>absurd x.len (by omega)⟩
 ·rw[if_neg h,lallF_zero]
  exact⟨fun x=>⟨by omega,x.1,x.2.1⟩,fun x=>⟨x.ok,x.nd,by simp⟩⟩
section
variable {α:Type} (lt:α→α→Bool)
theorem Ap0(hw:Weak lt)(x:α):∀(S:List α),AscS lt S→∃S1 S2,S=S1++S2∧insB lt x S=S1++x::S2∧(∀y∈S1,lt x y=false)∧∀y∈S2,lt x y=true
 | [],_=>⟨[],[],rfl,rfl,(fun _ h=>by cases h),(fun _ h=>by cases h)⟩
 | y::l,h=>by
   unfold AscS at h
   rw[List.pairwise_cons] at h
   cases hxy:lt x y
   ·obtain⟨S1,S2,e,ei,h1,h2⟩:=Ap0 hw x l h.2
    refine⟨y::S1,S2,by rw[e];rfl,by rw[insB,hxy,if_neg Aaz,ei];rfl,fun z hz=>?_,h2⟩
    rcases List.mem_cons.1 hz with rfl|hz
    ·exact hxy
    ·exact h1 z hz
   ·refine⟨[],y::l,rfl,by rw[insB,hxy,if_pos rfl];rfl,(fun _ h=>by cases h),fun z hz=>?_⟩
    rcases List.mem_cons.1 hz with rfl|hz
    ·exact hxy
    ·exact hw.lt_le hxy (h.1 z hz)
def insW(p:α→Bool)(x:α)(l:List α):List α:=l.takeWhile p++x::l.dropWhile p
theorem Ap1(x:α):∀l:List α,insW (fun y=>!lt x y) x l=insB lt x l
 | []=>rfl
 | y::l=>by
   have ih:=Ap1 x l
   unfold insW at ih ⊢
   cases h:lt x y
   ·rw[insB,h,if_neg Aaz,←ih,List.takeWhile_cons_of_pos (by simp[h]),List.dropWhile_cons_of_pos (by simp[h])];rfl
   ·rw[insB,h,if_pos rfl,List.takeWhile_cons_of_neg (by simp[h]),List.dropWhile_cons_of_neg (by simp[h])];rfl
theorem Ap2(hw:Weak lt)(x:α)(S:List α)(h:AscS lt S):insW (fun y=>lt x y) x S.reverse=(insB lt x S).reverse:=by
 obtain⟨S1,S2,e,ei,h1,h2⟩:=Ap0 lt hw x S h
 rw[ei,e]
 unfold insW
 rw[List.reverse_append,List.takeWhile_append_of_pos (fun y hy=>h2 y (List.mem_reverse.1 hy)),List.dropWhile_append_of_pos (fun y hy=>h2 y (List.mem_reverse.1 hy))]
 have ht:S1.reverse.takeWhile (fun y=>lt x y)=[]:=by
  cases hs:S1.reverse with
  | nil=>rfl
  | cons y r=>rw[List.takeWhile_cons_of_neg (by rw[h1 y (List.mem_reverse.1 (by rw[hs];exact Aaw ..))];exact Aaz)]
 have hd:S1.reverse.dropWhile (fun y=>lt x y)=S1.reverse:=by
  cases hs:S1.reverse with
  | nil=>rfl
  | cons y r=>rw[List.dropWhile_cons_of_neg (by rw[h1 y (List.mem_reverse.1 (by rw[hs];exact Aaw ..))];exact Aaz)]
 rw[ht,hd]
 simp
theorem Ap3{p q:α→Bool}(x:α){l:List α}(h:∀y∈l,p y=q y):insW p x l=insW q x l:=by
 have:l.takeWhile p=l.takeWhile q∧l.dropWhile p=l.dropWhile q:=by
  induction l with
  | nil=>exact⟨rfl,rfl⟩
  | cons y l ih =>
    have h0:=h y (Aaw ..)
    obtain⟨i1,i2⟩:=ih (fun z hz=>h z (Aax _ hz))
    simp[List.takeWhile_cons,List.dropWhile_cons,h0,i1,i2]
 unfold insW
 rw[this.1,this.2]
theorem Ap4(p:α→Bool)(x:α)(l:List α):(insW p x l).Perm (x::l):=by
 unfold insW
 refine List.perm_middle.trans ?_
 rw[List.takeWhile_append_dropWhile]
end
def qpos(a:Lot):Int:=if 0<vl a.qty then vl a.qty else 1
theorem Ap5(a:Lot):0<qpos a:=by unfold qpos;split<;>omega
theorem Ap6{a:Lot}(h:0<vl a.qty):qpos a=vl a.qty:=by unfold qpos;rw[if_pos h]
def ltF(a b:Lot):Bool:=decide (a.acq<b.acq)
def ltK(n:Lot→Int)(a b:Lot):Bool:=decide (n a*qpos b<n b*qpos a∨n a*qpos b=n b*qpos a∧a.acq<b.acq)
def ltL:Lot→Lot→Bool:=ltK (fun a=>vl a.cost)
def ltH:Lot→Lot→Bool:=ltK (fun a=>- vl a.cost)
def ltM(m:Int):Lot→Lot→Bool:=if m=3 then ltH else if m=4 then ltL else ltF
theorem ltF_weak:Weak ltF:=⟨fun a=>by unfold ltF;simp,fun a b c h1 h2=>by unfold ltF at *;simp at *;omega,fun a b h=>by unfold ltF at *;simp at *;omega⟩
theorem Ap7{a p b q c r:Int}(hp:0<p)(hq:0<q)(hr:0<r)(h1:b*p≤a*q)(h2:c*q≤b*r):c*p≤a*r:=by
 refine Int.le_of_mul_le_mul_right ?_ hq
 have e1:c*p*q=c*q*p:=by rw[Int.mul_assoc,Int.mul_comm p q,←Int.mul_assoc]
 have e2:b*r*p=b*p*r:=by rw[Int.mul_assoc,Int.mul_comm r p,←Int.mul_assoc]
 have e3:a*q*r=a*r*q:=by rw[Int.mul_assoc,Int.mul_comm q r,←Int.mul_assoc]
 rw[e1,←e3]
 refine Int.le_trans (Int.mul_le_mul_of_nonneg_right h2 (Int.le_of_lt hp)) ?_
 rw[e2]
 exact Int.mul_le_mul_of_nonneg_right h1 (Int.le_of_lt hr)
theorem Ap8{a p b q c r:Int}(hp:0<p)(hq:0<q)(hr:0<r)(h1:b*p<a*q)(h2:c*q≤b*r):c*p<a*r:=by
 refine Int.lt_of_mul_lt_mul_right ?_ (Int.le_of_lt hq)
 have e1:c*p*q=c*q*p:=by rw[Int.mul_assoc,Int.mul_comm p q,←Int.mul_assoc]
 have e2:b*r*p=b*p*r:=by rw[Int.mul_assoc,Int.mul_comm r p,←Int.mul_assoc]
 have e3:a*q*r=a*r*q:=by rw[Int.mul_assoc,Int.mul_comm q r,←Int.mul_assoc]
 rw[e1,←e3]
 refine Int.lt_of_le_of_lt (Int.mul_le_mul_of_nonneg_right h2 (Int.le_of_lt hp)) ?_
 rw[e2]
 exact Int.mul_lt_mul_of_pos_right h1 hr
theorem Ap9{a p b q c r:Int}(hp:0<p)(hq:0<q)(hr:0<r)(h1:b*p≤a*q)(h2:c*q<b*r):c*p<a*r:=by
 refine Int.lt_of_mul_lt_mul_right ?_ (Int.le_of_lt hq)
 have e1:c*p*q=c*q*p:=by rw[Int.mul_assoc,Int.mul_comm p q,←Int.mul_assoc]
 have e2:b*r*p=b*p*r:=by rw[Int.mul_assoc,Int.mul_comm r p,←Int.mul_assoc]
 have e3:a*q*r=a*r*q:=by rw[Int.mul_assoc,Int.mul_comm q r,←Int.mul_assoc]
 rw[e1,←e3]
 refine Int.lt_of_lt_of_le (Int.mul_lt_mul_of_pos_right h2 hp) ?_
 rw[e2]
 exact Int.mul_le_mul_of_nonneg_right h1 (Int.le_of_lt hr)
theorem Aqa(n:Lot→Int):Weak (ltK n):=by
 have key:∀a b c,ltK n a c=true→ltK n a b=true∨ltK n b c=true:=by
  intro a b c h
  unfold ltK at *
  simp only[decide_eq_true_eq] at *
  have pa:=Ap5 a
  have pb:=Ap5 b
  have pc:=Ap5 c
  rcases Int.lt_trichotomy (n a*qpos b) (n b*qpos a) with h1|h1|h1
  ·exact .inl (.inl h1)
  ·rcases Int.lt_trichotomy (n b*qpos c) (n c*qpos b) with h2|h2|h2
   ·exact .inr (.inl h2)
   ·have e1:=Ap7 pa pb pc (Int.le_of_eq h1.symm) (Int.le_of_eq h2.symm)
    have e2:=Ap7 pc pb pa (Int.le_of_eq h2) (Int.le_of_eq h1)
    rcases h with h|⟨_,h⟩
    ·omega
    ·by_cases hab:a.acq<b.acq
     ·exact .inl (.inr ⟨h1,hab⟩)
     ·exact .inr (.inr ⟨h2,by omega⟩)
   ·have e1:=Ap9 pa pb pc (Int.le_of_eq h1.symm) h2
    omega
  ·rcases Int.lt_or_le (n b*qpos c) (n c*qpos b) with h2|h2
   ·exact .inr (.inl h2)
   ·have e1:=Ap8 pa pb pc h1 h2
    omega
 refine⟨fun a=>?_,fun a b c h1 h2=>?_,fun a b h=>?_⟩
 ·unfold ltK;simp
 ·cases h:ltK n a c
  ·rfl
  ·rcases key a b c h with h|h
   ·rw[h1] at h;cases h
   ·rw[h2] at h;cases h
 ·cases h2:ltK n b a
  ·rfl
  ·rcases key a a b h with h3|h3
   ·exfalso;unfold ltK at h3;simp at h3
   ·unfold ltK at *
    simp only[decide_eq_true_eq] at *
    omega
theorem Aqb(m:Int):Weak (ltM m):=by
 unfold ltM
 split
 ·exact Aqa _
 ·split
  ·exact Aqa _
  ·exact ltF_weak
def ordP(m:Int)(ls:List Lot):List Lot:=if m=2 then (ssort ltF ls).reverse else ssort (ltM m) ls
theorem Aqc(m:Int)(ls:List Lot):(ordP m ls).Perm ls:=by
 unfold ordP
 split
 ·exact (List.reverse_perm _).trans (Ac9 _ _)
 ·exact Ac9 _ _
def bfr(m:Int)(a b:Lot):Bool :=
 if m=3∧cmpI (vl a.cost*vl b.qty) (vl b.cost*vl a.qty)≠0 then decide (0<cmpI (vl a.cost*vl b.qty) (vl b.cost*vl a.qty))
 else if m=4∧cmpI (vl a.cost*vl b.qty) (vl b.cost*vl a.qty)≠0 then decide (cmpI (vl a.cost*vl b.qty) (vl b.cost*vl a.qty)<0)
 else if m=2 then decide (b.acq<a.acq) else decide (a.acq≤b.acq)
def Aqd(m:Int)(ls:List Lot):List Lot:=ls.foldl (fun acc x=>insW (fun y=>bfr m y x) x acc) []
theorem Aqe(a x:Lot):bfr 2 a x=ltF x a:=by unfold bfr ltF;simp
theorem bfr_ltM{m:Int}(hm:m≠2){a x:Lot}(ha:0<vl a.qty)(hx:0<vl x.qty):bfr m a x=!ltM m x a:=by
 have hH:ltH x a=decide (vl a.cost*vl x.qty<vl x.cost*vl a.qty∨vl a.cost*vl x.qty=vl x.cost*vl a.qty∧x.acq<a.acq):=by
  unfold ltH ltK
  rw[Ap6 ha,Ap6 hx]
  refine decide_eq_decide.2 ?_
  dsimp only
  rw[Int.neg_mul,Int.neg_mul]
  omega
 have hL:ltL x a=decide (vl x.cost*vl a.qty<vl a.cost*vl x.qty∨vl a.cost*vl x.qty=vl x.cost*vl a.qty∧x.acq<a.acq):=by
  unfold ltL ltK
  rw[Ap6 ha,Ap6 hx]
  refine decide_eq_decide.2 ?_
  dsimp only
  omega
 have hF:ltF x a=decide (x.acq<a.acq):=rfl
 have hM:ltM m x a=if m=3 then ltH x a else if m=4 then ltL x a else ltF x a:=by unfold ltM;split<;>(try split)<;>rfl
 unfold bfr
 rw[hM,hH,hL,hF]
 generalize vl a.cost*vl x.qty=u
 generalize vl x.cost*vl a.qty=v
 have c1:cmpI u v<0↔u<v:=cmpI_lt
 have c2:0<cmpI u v↔v<u:=cmpI_gt
 have c3:cmpI u v=0↔u=v:=cmpI_eq
 generalize cmpI u v=c at c1 c2 c3
 rw[Bool.eq_iff_iff]
 by_cases h3:m=3
 ·subst h3
  by_cases h0:c=0
  ·simp only[h0,ne_eq,not_true_eq_false,and_false,if_false,if_true,hm,reduceCtorEq,decide_eq_true_eq,Bool.not_eq_true',decide_eq_false_iff_not]
   simp
   omega
  ·simp only[h0,ne_eq,not_false_eq_true,and_self,if_true,decide_eq_true_eq,Bool.not_eq_true',decide_eq_false_iff_not]
   omega
 ·by_cases h4:m=4
  ·subst h4
   by_cases h0:c=0
   ·simp[h0]
    omega
   ·simp[h0]
    omega
  ·simp[h3,h4,hm]
theorem Aqf(m:Int)(ls:List Lot)(h:∀l∈ls,0<vl l.qty):Aqd m ls=ordP m ls:=by
 have key:∀n (ls:List Lot),ls.length=n→(∀l∈ls,0<vl l.qty)→Aqd m ls=ordP m ls:=by
  intro n
  induction n with
  | zero =>
    intro ls hn _
    rw[Aag hn]
    unfold Aqd ordP
    split<;>rfl
  | succ n ih =>
    intro ls hn h
    have hne:ls≠[]:=by intro e;rw[e] at hn;cases hn
    obtain⟨l,x,rfl⟩:∃l x,ls=l++[x]:=⟨_,_,(List.dropLast_concat_getLast hne).symm⟩
    have hl:∀y∈l,0<vl y.qty:=fun y hy=>h y (List.mem_append.2 (.inl hy))
    have hx:0<vl x.qty:=h x (by simp)
    have e:Aqd m (l++[x])=insW (fun y=>bfr m y x) x (Aqd m l):=by unfold Aqd;rw[List.foldl_append];rfl
    rw[e,ih l (by simpa using hn) hl]
    by_cases hm:m=2
    ·subst hm
     have e2:∀L:List Lot,ordP 2 L=(ssort ltF L).reverse:=fun L=>by unfold ordP;rw[if_pos rfl]
     rw[e2,e2,Ac1,←Ap2 ltF ltF_weak x _ (Adc ltF ltF_weak _)]
     exact Ap3 x (fun y _=>Aqe y x)
    ·have e2:∀L:List Lot,ordP m L=ssort (ltM m) L:=fun L=>by unfold ordP;rw[if_neg hm]
     rw[e2,e2,Ac1,←Ap1]
     refine Ap3 x (fun y hy=>bfr_ltM hm (hl y ?_) hx)
     exact (Ac9 (ltM m) l).mem_iff.1 hy
 exact key _ ls rfl h
end Go.Proofs.YtcmgmemffncbhabGreatDoor
namespace Go.Proofs.YtcmgmemffncbhabGreatDoor
open Go.RowKit Tr Go.Shelf
structure Pk where
 lot:ByteArray
 qty:ByteArray
abbrev Pk.cells(p:Pk):Array Value:=#[.string p.lot,.string p.qty]
abbrev Pk.enc(p:Pk):Value:=.agg p.cells
abbrev Am:=List (ByteArray×Int)
def amt:Am→ByteArray→Int
 | [],_=>0
 | a::r,id=>if a.1=id then a.2 else amt r id
def addA:Am→ByteArray→Int→Am
 | [],id,n=>[(id,n)]
 | a::r,id,n=>if a.1=id then (a.1,a.2+n)::r else a::addA r id n
def sumA:Am→Int
 | []=>0
 | a::r=>a.2+sumA r
theorem amt_none:∀(out:Am) (id:ByteArray),(∀a∈out,a.1≠id)→amt out id=0
 | [],_,_=>rfl
 | a::r,id,h=>by rw[amt,if_neg (h a (Aaw ..)),amt_none r id (fun x hx=>h x (Aax _ hx))]
theorem amt_hit:∀(P Q:Am) (id:ByteArray) (k:Int),(∀a∈P,a.1≠id)→amt (P++(id,k)::Q) id=k
 | [],Q,id,k,_=>by rw[List.nil_append,amt,if_pos rfl]
 | a::P,Q,id,k,h=>by rw[List.cons_append,amt,if_neg (h a (Aaw ..)),amt_hit P Q id k (fun x hx=>h x (Aax _ hx))]
theorem addA_none:∀(out:Am) (id:ByteArray) (n:Int),(∀a∈out,a.1≠id)→addA out id n=out++[(id,n)]
 | [],_,_,_=>rfl
 | a::r,id,n,h=>by rw[addA,if_neg (h a (Aaw ..)),addA_none r id n (fun x hx=>h x (Aax _ hx))];rfl
theorem addA_hit:∀(P Q:Am) (id:ByteArray) (k n:Int),(∀a∈P,a.1≠id)→addA (P++(id,k)::Q) id n=P++(id,k+n)::Q
 | [],Q,id,k,n,_=>by rw[List.nil_append,addA,if_pos rfl];rfl
 | a::P,Q,id,k,n,h=>by rw[List.cons_append,addA,if_neg (h a (Aaw ..)),addA_hit P Q id k n (fun x hx=>h x (Aax _ hx))];rfl
theorem amt_addA:∀(out:Am) (id id':ByteArray) (n:Int),amt (addA out id n) id'=if id=id' then amt out id+n else amt out id'
 | [],id,id',n=>by rw[addA,amt];by_cases h:id=id'<;>simp[h,amt]
 | a::r,id,id',n=>by
   rw[addA]
   by_cases h1:a.1=id
   ·rw[if_pos h1,amt]
    by_cases h2:id=id'
    ·rw[if_pos (by rw[h1,h2]),if_pos h2,amt,if_pos h1]
    ·rw[if_neg (by rw[h1];exact h2),if_neg h2,amt,if_neg (by rw[h1];exact h2)]
   ·rw[if_neg h1,amt]
    by_cases h2:id=id'
    ·rw[if_neg (by rw[←h2];exact h1),amt_addA r,if_pos h2,if_pos h2,amt,if_neg h1]
    ·rw[amt_addA r,if_neg h2,if_neg h2,amt]
theorem sumA_addA:∀(out:Am) (id:ByteArray) (n:Int),sumA (addA out id n)=sumA out+n
 | [],id,n=>by show n+0=0+n;omega
 | a::r,id,n=>by
   rw[addA]
   split
   ·rw[sumA,sumA];omega
   ·rw[sumA,sumA,sumA_addA r];omega
theorem addA_sub:∀(out:Am) (id:ByteArray) (n:Int) (b:ByteArray),b∈(addA out id n).map Prod.fst→b=id∨b∈out.map Prod.fst
 | [],id,n,b,h=>by rw[addA] at h;simp at h;exact .inl h
 | a :: r, id, n, b, h => by
   rw[addA] at h
   rw[List.map_cons,List.mem_cons]
   split at h
   ·rw[List.map_cons,List.mem_cons] at h
    exact .inr h
   ·rw[List.map_cons,List.mem_cons] at h
    rcases h with h|h
    ·exact .inr (.inl h)
    ·rcases addA_sub r id n b h with h|h
     ·exact .inl h
     ·exact .inr (.inr h)
theorem addA_nd:∀(out:Am) (id:ByteArray) (n:Int),(out.map Prod.fst).Nodup→((addA out id n).map Prod.fst).Nodup
 | [],id,n,_=>by rw[addA];simp
 | a::r,id,n,h=>by
   rw[List.map_cons,List.nodup_cons] at h
   rw[addA]
   split
   ·rw[List.map_cons,List.nodup_cons];exact h
   ·rename_i hne
    rw[List.map_cons,List.nodup_cons]
    refine⟨fun hm=>?_,addA_nd r id n h.2⟩
    rcases addA_sub r id n a.1 hm with e|e
    ·exact hne e
    ·exact h.1 e
theorem Aqg{out:Am}{id:ByteArray}{n:Int}{a:ByteArray×Int}(hd:(out.map Prod.fst).Nodup)(h:a∈addA out id n):(a.1≠id∧a∈out)∨a=(id,amt out id+n):=by
 induction out with
 | nil=>rw[addA] at h;rw[List.mem_singleton] at h;rw[h,amt];right;simp
 | cons b r ih =>
   rw[List.map_cons,List.nodup_cons] at hd
   rw[addA] at h
   rw[amt]
   by_cases hb:b.1=id
   ·rw[if_pos hb] at h ⊢
    rcases List.mem_cons.1 h with h|h
    ·right;rw[h,hb]
    ·left
     refine⟨fun e=>hd.1 ?_,Aax _ h⟩
     rw[hb,←e]
     exact List.mem_map.2 ⟨a,h,rfl⟩
   ·rw[if_neg hb] at h ⊢
    rcases List.mem_cons.1 h with h|h
    ·left;rw[h];exact⟨hb,Aaw ..⟩
    ·rcases ih hd.2 h with h|h
     ·exact .inl ⟨h.1,Aax _ h.2⟩
     ·exact .inr h
theorem Aqh{out:Am}{a:ByteArray×Int}(hd:(out.map Prod.fst).Nodup)(h:a∈out):amt out a.1=a.2:=by
 induction out with
 | nil=>cases h
 | cons b r ih =>
   rw[List.map_cons,List.nodup_cons] at hd
   rw[amt]
   rcases List.mem_cons.1 h with h|h
   ·rw[h,if_pos rfl]
   ·rw[if_neg (fun e=>hd.1 (by rw[e];exact List.mem_map.2 ⟨a,h,rfl⟩)),ih hd.2 h]
theorem nd_inj:∀ {own:List Lot},(own.map Lot.id).Nodup→∀ {x y:Lot},x∈own→y∈own→x.id=y.id→x=y
 | [],_,x,y,hx,_,_=>by cases hx
 | z::r,h,x,y,hx,hy,e=>by
   rw[List.map_cons,List.nodup_cons] at h
   rcases List.mem_cons.1 hx with hx|hx<;>rcases List.mem_cons.1 hy with hy|hy
   ·rw[hx,hy]
   ·exact absurd (List.mem_map.2 ⟨y,hy,by rw[←e,hx]⟩) h.1
   ·exact absurd (List.mem_map.2 ⟨x,hx,by rw[e,hy]⟩) h.1
   ·exact nd_inj h.2 hx hy e
def tkN(st:Am×Int)(x:Lot)(most:Int):Int:=min (min most (vl x.qty-amt st.1 x.id)) st.2
def tk(st:Am×Int)(x:Lot)(most:Int):Am×Int:=if 0<tkN st x most then (addA st.1 x.id (tkN st x most),st.2-tkN st x most) else st
theorem Aqi{st:Am×Int}{x:Lot}{most:Int}(h:0<tkN st x most):tk st x most=(addA st.1 x.id (tkN st x most),st.2-tkN st x most):=by unfold tk;rw[if_pos h]
theorem tk_no{st:Am×Int}{x:Lot}{most:Int}(h:¬ 0<tkN st x most):tk st x most=st:=by unfold tk;rw[if_neg h]
def tkP(own:List Lot)(st:Am×Int)(p:Pk):Am×Int :=
 match own.find? (fun x=>decide (x.id=p.lot)) with
 | some x=>tk st x (vl p.qty)
 | none=>st
def tkAll(S:List Lot)(st:Am×Int):Am×Int:=S.foldl (fun st x=>tk st x (vl x.qty)) st
def chsSt(own:List Lot)(m q:Int)(ps:List Pk):Am×Int:=tkAll (ordP m own) (if m=5 then ps.foldl (tkP own) ([],q) else ([],q))
def pksOf(out:Am):List Pk:=out.map fun a=>⟨a.1,I a.2⟩
def totQ(own:List Lot):Int:=(own.map fun x=>vl x.qty).sum
structure InvA(own:List Lot)(q0:Int)(st:Am×Int):Prop where
 nd:(st.1.map Prod.fst).Nodup
 pos:∀a∈st.1,0<a.2
 sub:∀a∈st.1,∃x∈own,x.id=a.1
 le:∀x∈own,amt st.1 x.id≤vl x.qty
 nn:∀id,0≤amt st.1 id
 q:0≤st.2
 sum:sumA st.1+st.2=q0
theorem InvA.start{own:List Lot}{q0:Int}(hq:0≤q0)(ho:∀x∈own,0<vl x.qty):InvA own q0 ([],q0) :=
 ⟨List.nodup_nil,(fun a h=>by cases h),(fun a h=>by cases h),(fun x hx=>by have:=ho x hx;show (0:Int)≤_;omega),(fun _=>Int.le_refl _),hq,(by show (0:Int)+_=_;omega)⟩
theorem Aqj{st:Am×Int}{x:Lot}{most:Int}:tkN st x most≤most∧tkN st x most≤vl x.qty-amt st.1 x.id∧tkN st x most≤st.2:=by unfold tkN;omega
theorem Aqk{own:List Lot}{q0:Int}{st:Am×Int}{x:Lot}{most:Int}(h:InvA own q0 st)(hx:x∈own)(hm:0≤most):0≤tkN st x most:=by
 have h1:=h.le x hx
 have h2:=h.q
 unfold tkN;omega
theorem InvA.tk{own:List Lot}{q0:Int}{st:Am×Int}(hid:(own.map Lot.id).Nodup)(h:InvA own q0 st){x:Lot}(hx:x∈own)(most:Int):InvA own q0 (tk st x most):=by
 by_cases hn:0<tkN st x most
 ·rw[Aqi hn]
  have hle:=@Aqj st x most
  generalize tkN st x most=n at hn hle
  refine⟨?_,fun a ha=>?_,fun a ha=>?_,fun y hy=>?_,fun id=>?_,?_,?_⟩
  ·exact addA_nd st.1 x.id n h.nd
  ·rcases Aqg h.nd ha with⟨_,h2⟩|h2
   ·exact h.pos a h2
   ·rw[h2];have:=h.nn x.id;show 0<_+n;omega
  ·rcases Aqg h.nd ha with⟨_,h2⟩|h2
   ·exact h.sub a h2
   ·exact⟨x,hx,by rw[h2]⟩
  ·show amt (addA st.1 x.id n) y.id≤_
   rw[amt_addA]
   split
   ·rename_i e
    have exy:x=y:=nd_inj hid hx hy e
    subst exy
    omega
   ·exact h.le y hy
  ·show 0≤amt (addA st.1 x.id n) id
   rw[amt_addA]
   split
   ·have:=h.nn x.id;omega
   ·exact h.nn id
  ·show 0≤st.2-n;omega
  ·show sumA (addA st.1 x.id n)+(st.2-n)=q0
   rw[sumA_addA];have:=h.sum;omega
 ·rw[tk_no hn];exact h
theorem InvA.tkP{own:List Lot}{q0:Int}{st:Am×Int}(hid:(own.map Lot.id).Nodup)(h:InvA own q0 st)(p:Pk):InvA own q0 (tkP own st p):=by
 unfold Go.Proofs.YtcmgmemffncbhabGreatDoor.tkP
 split
 ·rename_i x hf;exact h.tk hid (List.mem_of_find?_eq_some hf) _
 ·exact h
theorem InvA.tkPs{own:List Lot}{q0:Int}(hid:(own.map Lot.id).Nodup):∀(ps:List Pk) {st:Am×Int},InvA own q0 st→InvA own q0 (ps.foldl (Go.Proofs.YtcmgmemffncbhabGreatDoor.tkP own) st)
 | [],_,h=>h
 | p::ps,_,h=>InvA.tkPs hid ps (h.tkP hid p)
theorem InvA.tkAll{own:List Lot}{q0:Int}(hid:(own.map Lot.id).Nodup):∀(S:List Lot) {st:Am×Int},(∀x∈S,x∈own)→InvA own q0 st→InvA own q0 (Go.Proofs.YtcmgmemffncbhabGreatDoor.tkAll S st)
 | [],_,_,h=>h
 | x::S,_,hs,h=>InvA.tkAll hid S (fun y hy=>hs y (Aax _ hy)) (h.tk hid (hs x (Aaw ..)) _)
theorem InvA.chs{own:List Lot}{q:Int}(hid:(own.map Lot.id).Nodup)(ho:∀x∈own,0<vl x.qty)(hq:0≤q)(m:Int)(ps:List Pk):InvA own q (chsSt own m q ps):=by
 unfold chsSt
 refine InvA.tkAll hid _ (fun x hx=>(Aqc m own).mem_iff.1 hx) ?_
 split
 ·exact InvA.tkPs hid ps (InvA.start hq ho)
 ·exact InvA.start hq ho
def greedy:List Lot→Int→Am
 | [],_=>[]
 | x::r,q=>if q≤0 then [] else if q≤vl x.qty then [(x.id,q)] else (x.id,vl x.qty)::greedy r (q-vl x.qty)
theorem tkAll_none:∀(S:List Lot) (out:Am),tkAll S (out,0)=(out,0)
 | [],_=>rfl
 | x::S,out=>by
   have:tk (out,0) x (vl x.qty)=(out,0):=tk_no (by unfold tkN;show ¬ 0<min _ 0;omega)
   show tkAll S (tk (out,0) x (vl x.qty))=_
   rw[this,tkAll_none S]
theorem tkAll_greedy:∀(S:List Lot) (out:Am) (q:Int),(S.map Lot.id).Nodup→(∀x∈S,0<vl x.qty)→(∀x∈S,∀a∈out,a.1≠x.id)→0≤q→(tkAll S (out,q)).1=out++greedy S q
 | [],out,q,_,_,_,_=>by show out=out++[];simp
 | x :: S, out, q, hid, ho, hd, hq => by
   rw[List.map_cons,List.nodup_cons] at hid
   have hx:=ho x (Aaw ..)
   have h0:amt out x.id=0:=amt_none out x.id (hd x (Aaw ..))
   have hn:tkN (out,q) x (vl x.qty)=min (vl x.qty) q:=by unfold tkN;show min (min _ (_-amt out x.id)) q=_;rw[h0];omega
   show (tkAll S (tk (out,q) x (vl x.qty))).1=_
   rw[greedy]
   by_cases h1:q≤0
   ·obtain rfl:q=0:=by omega
    rw[tk_no (by rw[hn];omega),if_pos h1,tkAll_none];simp
   ·rw [if_neg h1, Aqi (by rw [hn]; omega), hn]
    have ha:addA out x.id (min (vl x.qty) q)=out++[(x.id,min (vl x.qty) q)]:=addA_none _ _ _ (hd x (Aaw ..))
    show (tkAll S (addA out x.id (min (vl x.qty) q),q-min (vl x.qty) q)).1=_
    rw[ha]
    by_cases h2:q≤vl x.qty
    ·rw[if_pos h2,show min (vl x.qty) q=q from by omega,show q-q=0 from by omega,tkAll_none]
    ·rw[if_neg h2,show min (vl x.qty) q=vl x.qty from by omega,
      tkAll_greedy S _ _ hid.2 (fun y hy=>ho y (Aax _ hy)) (fun y hy a ha=>?_) (by omega)]
     ·simp
     ·rcases List.mem_append.1 ha with ha|ha
      ·exact hd y (Aax _ hy) a ha
      ·rw[List.mem_singleton] at ha
       subst ha
       exact fun e=>hid.1 (List.mem_map.2 ⟨y,hy,e.symm⟩)
theorem Aqm{own:List Lot}{q:Int}(hid:(own.map Lot.id).Nodup)(ho:∀x∈own,0<vl x.qty)(hq:0≤q){m:Int}(hm:m≠5)(ps:List Pk):(chsSt own m q ps).1=greedy (ordP m own) q:=by
 have hp:=Aqc m own
 unfold chsSt
 rw[if_neg hm,tkAll_greedy _ _ _ ((hp.map Lot.id).nodup_iff.2 hid) (fun x hx=>ho x (hp.mem_iff.1 hx)) (fun x _ a ha=>by cases ha) hq]
 rfl
def lotOf(ls:List Lot)(id:ByteArray):Option Lot:=ls.find? fun x=>decide (x.id=id)
theorem lotOf_none{ls:List Lot}{id:ByteArray}:lotOf ls id=none↔∀x∈ls,x.id≠id:=by
 unfold lotOf;rw[List.find?_eq_none];simp
theorem lotOf_split:∀ {ls:List Lot} {id:ByteArray} {x:Lot},lotOf ls id=some x→∃A B,ls=A++x::B∧x.id=id∧∀y∈A,y.id≠id
 | [],_,_,h=>by cases h
 | y::r,id,x,h=>by
   by_cases e:y.id=id
   ·unfold lotOf at h
    rw[List.find?_cons_of_pos (by simp[e])] at h
    injection h with h
    subst h
    exact⟨[],r,rfl,e,fun z hz=>by cases hz⟩
   ·unfold lotOf at h
    rw[List.find?_cons_of_neg (by simp[e])] at h
    obtain⟨A,B,h1,h2,h3⟩:=lotOf_split (ls:=r) h
    refine⟨y::A,B,by rw[h1];rfl,h2,fun z hz=>?_⟩
    rcases List.mem_cons.1 hz with hz|hz
    ·rw[hz];exact e
    ·exact h3 z hz
theorem Aqn{ls:List Lot}{id:ByteArray}{x:Lot}(h:lotOf ls id=some x):x∈ls∧x.id=id:=by
 obtain⟨A,B,h1,h2,_⟩:=lotOf_split h
 exact⟨by rw[h1];simp,h2⟩
theorem Aqp{ls:List Lot}{x:Lot}(hid:(ls.map Lot.id).Nodup)(h:x∈ls):lotOf ls x.id=some x:=by
 cases hl:lotOf ls x.id with
 | none=>exact absurd rfl (lotOf_none.1 hl x h)
 | some y =>
   have hy:=Aqn hl
   rw[nd_inj hid hy.1 h hy.2]
theorem Aqq{ls:List Lot}{id:ByteArray}{x:Lot}(h:lotOf ls id=some x):(findR ls id 0).2=true∧ls[(findR ls id 0).1]?=some x:=by
 obtain⟨A,B,rfl,h2,h3⟩:=lotOf_split h
 rw[findR_skip A (x::B) id 0 h3,findR,if_pos h2]
 refine⟨rfl,?_⟩
 show (A++x::B)[0+A.length]?=some x
 rw[Nat.zero_add,Aa1 (Aad _),Nat.sub_self];rfl
theorem Aqr{ls:List Lot}{id:ByteArray}(h:lotOf ls id=none):findR ls id 0=(0,false):=Ak4 (lotOf_none.1 h) 0
def pkOf(ps:List Pk)(id:ByteArray):Option Pk:=ps.find? fun p=>decide (p.lot=id)
theorem pkOf_none{ps:List Pk}{id:ByteArray}:pkOf ps id=none↔∀p∈ps,p.lot≠id:=by
 unfold pkOf;rw[List.find?_eq_none];simp
theorem Aqs{ps:List Pk}{p:Pk}{id:ByteArray}(h:p.lot≠id):pkOf (ps++[p]) id=pkOf ps id:=by
 unfold pkOf
 rw[List.find?_append,List.find?_cons_of_neg (by simp[h])]
 cases List.find? (fun p=>decide (p.lot=id)) ps<;>rfl
theorem Aqt{ps:List Pk}{p:Pk}{id:ByteArray}(h:p.lot=id)(hn:pkOf ps id=none):pkOf (ps++[p]) id=some p:=by
 unfold pkOf at *
 rw[List.find?_append,hn,List.find?_cons_of_pos (by simp[h])];rfl
theorem Aqu{ps:List Pk}{id:ByteArray}{p:Pk}(h:pkOf ps id=some p):p∈ps∧p.lot=id:=by
 unfold pkOf at h
 exact⟨List.mem_of_find?_eq_some h,by simpa using List.find?_some h⟩
def leftO(ps:List Pk)(x:Lot):Option Lot :=
 match pkOf ps x.id with
 | none=>some x
 | some p=>if x.qty=p.qty then none else some (cutB x p.qty)
theorem Aqv{ps:List Pk}{x:Lot}(h:pkOf ps x.id=none):leftO ps x=some x:=by unfold leftO;rw[h]
theorem Aqw{ps:List Pk}{x:Lot}{p:Pk}(h:pkOf ps x.id=some p):leftO ps x=if x.qty=p.qty then none else some (cutB x p.qty):=by unfold leftO;rw[h]
theorem Aqx{ps:List Pk}{x y:Lot}(h:leftO ps x=some y):y.id=x.id:=by
 unfold leftO at h
 split at h
 ·injection h with h;rw[h]
 ·split at h
  ·cases h
  ·injection h with h;rw[←h];rfl
def restR(ls:List Lot)(ps:List Pk):List Lot:=ls.filterMap (leftO ps)
def tknO(ls:List Lot)(p:Pk):Lot :=
 match lotOf ls p.lot with
 | some x=>if x.qty=p.qty then x else cutA x p.qty
 | none=>zeroLot
theorem Aqy{ls:List Lot}{p:Pk}{x:Lot}(h:lotOf ls p.lot=some x):tknO ls p=if x.qty=p.qty then x else cutA x p.qty:=by unfold tknO;rw[h]
def Aqz(ls:List Lot)(ps:List Pk):List Lot:=ps.map (tknO ls)
theorem Aq0(ls:List Lot):restR ls []=ls:=by
 unfold restR
 have:leftO []=some:=funext fun x=>Aqv rfl
 rw[this,List.filterMap_some]
theorem Aq1{ls:List Lot}{ps:List Pk}{p:Pk}(h:∀x∈ls,p.lot≠x.id):restR ls (ps++[p])=restR ls ps:=by
 unfold restR
 induction ls with
 | nil=>rfl
 | cons x r ih =>
   have e:leftO (ps++[p]) x=leftO ps x:=by unfold leftO;rw[Aqs (h x (Aaw ..))]
   rw[List.filterMap_cons,List.filterMap_cons,e,ih (fun y hy=>h y (Aax _ hy))]
theorem Aq2{ls:List Lot}{ps:List Pk}{y:Lot}(h:y∈restR ls ps):∃x∈ls,y.id=x.id:=by
 obtain⟨x,hx,e⟩:=List.mem_filterMap.1 h
 exact⟨x,hx,Aqx e⟩
theorem Aq3(ls:List Lot)(ps:List Pk):(restR ls ps).length≤ls.length:=List.length_filterMap_le _ _
theorem Aq4{A B:List Lot}{x:Lot}(hid:((A++x::B).map Lot.id).Nodup):(∀y∈A,x.id≠y.id)∧∀y∈B,x.id≠y.id:=by
 rw[List.map_append,List.map_cons,List.nodup_append,List.nodup_cons] at hid
 exact⟨fun y hy e=>hid.2.2 y.id (List.mem_map.2 ⟨y,hy,rfl⟩) x.id (Aaw ..) e.symm,fun y hy e=>hid.2.1.1 (by rw[e];exact List.mem_map.2 ⟨y,hy,rfl⟩)⟩
theorem Aq5{ls:List Lot}{ps:List Pk}{p:Pk}{x:Lot}(hid:(ls.map Lot.id).Nodup)(hx:lotOf ls p.lot=some x)(hn:p.lot ∉ ps.map Pk.lot):
 ∃P Q,restR ls ps=P++x::Q∧findR (restR ls ps) p.lot 0=(P.length,true)∧restR ls (ps++[p])=P++(if x.qty=p.qty then [] else [cutB x p.qty])++Q:=by
 obtain⟨A,B,rfl,e,_⟩:=lotOf_split hx
 obtain⟨hA,hB⟩:=Aq4 hid
 have hA':∀y∈A,p.lot≠y.id:=fun y hy=>by rw[←e];exact hA y hy
 have hB':∀y∈B,p.lot≠y.id:=fun y hy=>by rw[←e];exact hB y hy
 have hp:pkOf ps x.id=none:=pkOf_none.2 fun q hq e2=>hn (by rw[←e,←e2];exact List.mem_map.2 ⟨q,hq,rfl⟩)
 have e1:restR (A++x::B) ps=restR A ps++x::restR B ps:=by
  unfold restR;rw[List.filterMap_append,List.filterMap_cons_some (Aqv hp)]
 refine⟨restR A ps,restR B ps,e1,?_,?_⟩
 ·rw[e1,findR_skip _ _ _ _ (fun y hy=>?_),findR,if_pos e,Nat.zero_add]
  obtain⟨z,hz,e3⟩:=Aq2 hy
  rw[e3]
  exact (hA' z hz).symm
 ·have h1:=Aq1 (ps:=ps) hA'
  have h2:=Aq1 (ps:=ps) hB'
  have h3:leftO (ps++[p]) x=if x.qty=p.qty then none else some (cutB x p.qty):=Aqw (Aqt e.symm hp)
  unfold restR at h1 h2 ⊢
  rw[List.filterMap_append,h1]
  by_cases hq:x.qty=p.qty
  ·rw[if_pos hq] at h3 ⊢
   rw[List.filterMap_cons_none h3,h2];simp
  ·rw[if_neg hq] at h3 ⊢
   rw[List.filterMap_cons_some h3,h2];simp
open Classical in
noncomputable def posE(ls:List Lot)(io:Option ByteArray):List Pk→List Pk→Int
 | _,[]=>0
 | pre,p::r =>
   match lotOf ls p.lot with
   | none=>6
   | some x =>
     if (∃s,io=some s∧x.inst≠s) then 9
     else if p.lot∈pre.map Pk.lot then 5
     else if ¬Can p.qty then 1
     else if vl p.qty≤0 then 2
     else if vl x.qty<vl p.qty then 15
     else posE ls io (pre++[p]) r
structure PkOk(ls:List Lot)(io:Option ByteArray)(p:Pk)(x:Lot):Prop where
 lot:lotOf ls p.lot=some x
 inst:∀s,io=some s→x.inst=s
 can:Can p.qty
 pos:0<vl p.qty
 le:vl p.qty≤vl x.qty
theorem Aq6{ls:List Lot}{io:Option ByteArray}{pre r:List Pk}{p:Pk}(h:lotOf ls p.lot=none):posE ls io pre (p::r)=6:=by rw[posE,h]
theorem Aq7{ls:List Lot}{io:Option ByteArray}{pre r:List Pk}{p:Pk}{x:Lot}(h:lotOf ls p.lot=some x){s:ByteArray}(hs:io=some s)(h1:x.inst≠s):posE ls io pre (p::r)=9:=by rw[posE,h];exact if_pos ⟨s,hs,h1⟩
theorem Aq8{ls:List Lot}{io:Option ByteArray}{pre r:List Pk}{p:Pk}{x:Lot}(h:lotOf ls p.lot=some x)(h1:∀s,io=some s→x.inst=s)(h2:p.lot∈pre.map Pk.lot):posE ls io pre (p::r)=5:=by
 rw[posE,h];dsimp only;rw[if_neg (fun ⟨s,e,n⟩=>n (h1 s e)),if_pos h2]
theorem Aq9{ls:List Lot}{io:Option ByteArray}{pre r:List Pk}{p:Pk}{x:Lot}(h:lotOf ls p.lot=some x)(h1:∀s,io=some s→x.inst=s)(h2:p.lot ∉ pre.map Pk.lot)(h3:¬Can p.qty):posE ls io pre (p::r)=1:=by
 rw[posE,h];dsimp only;rw[if_neg (fun ⟨s,e,n⟩=>n (h1 s e)),if_neg h2,if_pos h3]
theorem Ara{ls:List Lot}{io:Option ByteArray}{pre r:List Pk}{p:Pk}{x:Lot}(h:lotOf ls p.lot=some x)(h1:∀s,io=some s→x.inst=s)(h2:p.lot ∉ pre.map Pk.lot)(h3:Can p.qty)(h4:vl p.qty≤0):posE ls io pre (p::r)=2:=by
 rw[posE,h];dsimp only;rw[if_neg (fun ⟨s,e,n⟩=>n (h1 s e)),if_neg h2,if_neg (fun n=>n h3),if_pos h4]
theorem Arb{ls:List Lot}{io:Option ByteArray}{pre r:List Pk}{p:Pk}{x:Lot}(h:lotOf ls p.lot=some x)(h1:∀s,io=some s→x.inst=s)(h2:p.lot ∉ pre.map Pk.lot)(h3:Can p.qty)(h4:0<vl p.qty)(h5:vl x.qty<vl p.qty):posE ls io pre (p::r)=15:=by
 rw[posE,h];dsimp only;rw[if_neg (fun ⟨s,e,n⟩=>n (h1 s e)),if_neg h2,if_neg (fun n=>n h3),if_neg (by omega),if_pos h5]
theorem Arc{ls:List Lot}{io:Option ByteArray}{pre r:List Pk}{p:Pk}{x:Lot}(h:PkOk ls io p x)(h2:p.lot ∉ pre.map Pk.lot):posE ls io pre (p::r)=posE ls io (pre++[p]) r:=by
 rw[posE,h.lot];dsimp only;rw[if_neg (fun ⟨s,e,n⟩=>n (h.inst s e)),if_neg h2,if_neg (fun n=>n h.can),if_neg (by have:=h.pos;omega),if_neg (by have:=h.le;omega)]
structure PksOk(ls:List Lot)(io:Option ByteArray)(ps:List Pk):Prop where
 nd:(ps.map Pk.lot).Nodup
 ok:∀p∈ps,∃x,PkOk ls io p x
theorem posE_zero:∀(ls:List Lot) (io:Option ByteArray) (r pre:List Pk),posE ls io pre r=0↔(∀p∈r,p.lot ∉ pre.map Pk.lot)∧PksOk ls io r
 | ls,io,[],pre=>by rw[posE];exact⟨fun _=>⟨(fun p h=>by cases h),⟨List.nodup_nil,(fun p h=>by cases h)⟩⟩,fun _=>rfl⟩
 | ls, io, p :: r, pre => by
   constructor
   ·intro h
    cases hl:lotOf ls p.lot with
    | none=>rw[Aq6 hl] at h;exact absurd h (by decide)
    | some x =>
      have h1:∀s,io=some s→x.inst=s:=fun s hs=>Classical.byContradiction fun n=>by rw[Aq7 hl hs n] at h;exact absurd h (by decide)
      have h2:p.lot ∉ pre.map Pk.lot:=fun n=>by rw[Aq8 hl h1 n] at h;exact absurd h (by decide)
      have h3:Can p.qty:=Classical.byContradiction fun n=>by rw[Aq9 hl h1 h2 n] at h;exact absurd h (by decide)
      have h4:0<vl p.qty:=Int.not_le.1 fun n=>by rw[Ara hl h1 h2 h3 n] at h;exact absurd h (by decide)
      have h5:vl p.qty≤vl x.qty:=Int.not_lt.1 fun n=>by rw[Arb hl h1 h2 h3 h4 n] at h;exact absurd h (by decide)
      have hk:PkOk ls io p x:=⟨hl,h1,h3,h4,h5⟩
      rw[Arc hk h2,posE_zero] at h
      obtain⟨i1,i2⟩:=h
      refine⟨fun q hq=>?_,⟨?_,fun q hq=>?_⟩⟩
      ·rcases List.mem_cons.1 hq with rfl|hq
       ·exact h2
       ·exact fun n=>i1 q hq (by rw[List.map_append,List.mem_append];exact .inl n)
      ·rw[List.map_cons,List.nodup_cons]
       refine⟨fun hm=>?_,i2.nd⟩
       obtain⟨q,hq,e⟩:=List.mem_map.1 hm
       exact i1 q hq (by rw[List.map_append,List.mem_append];right;rw[e];simp)
      ·rcases List.mem_cons.1 hq with rfl|hq
       ·exact⟨x,hk⟩
       ·exact i2.ok q hq
   ·rintro⟨i1,i2⟩
    obtain⟨x,hk⟩:=i2.ok p (Aaw ..)
    rw[Arc hk (i1 p (Aaw ..)),posE_zero]
    have hd:=i2.nd
    rw[List.map_cons,List.nodup_cons] at hd
    refine⟨fun q hq n=>?_,⟨hd.2,fun q hq=>i2.ok q (Aax _ hq)⟩⟩
    rw[List.map_append,List.mem_append] at n
    rcases n with n|n
    ·exact i1 q (Aax _ hq) n
    ·simp at n
     exact hd.1 (by rw[←n];exact List.mem_map.2 ⟨q,hq,rfl⟩)
theorem greedy_whole:∀(S:List Lot) (q:Int) (i:Nat) (a:ByteArray×Int),(greedy S q)[i]?=some a→i+1<(greedy S q).length→∃x∈S,a=(x.id,vl x.qty)
 | [],q,i,a,h,_=>by rw[greedy] at h;simp at h
 | x :: r, q, i, a, h, hl => by
   rw[greedy] at h hl
   split at h
   ·simp at h
   ·rename_i h1
    rw[if_neg h1] at hl
    split at h
    ·rename_i h2
     rw[if_pos h2] at hl
     simp at hl
    ·rename_i h2
     rw[if_neg h2] at hl
     cases i with
     | zero=>simp at h;exact⟨x,Aaw ..,h.symm⟩
     | succ i =>
       obtain⟨y,hy,e⟩:=greedy_whole r _ i a (by simpa using h) (by simpa using hl)
       exact⟨y,Aax _ hy,e⟩
theorem Ard(out:Am):(pksOf out).map Pk.lot=out.map Prod.fst:=by unfold pksOf;rw[List.map_map];rfl
theorem can_I(z:Int):Can (I z):=by unfold Can;rw[vl_I]
theorem InvA.pks{ls:List Lot}{s:ByteArray}(hid:(ls.map Lot.id).Nodup){own:List Lot}(hown:∀x∈own,x∈ls∧x.inst=s){q0:Int}{st:Am×Int}(h:InvA own q0 st)(io:Option ByteArray)(hio:∀t,io=some t→t=s):PksOk ls io (pksOf st.1):=by
 refine⟨by rw[Ard];exact h.nd,fun p hp=>?_⟩
 obtain⟨a,ha,rfl⟩:=List.mem_map.1 hp
 obtain⟨x,hx,e⟩:=h.sub a ha
 have hl:=Aqp hid (hown x hx).1
 rw[e] at hl
 refine⟨x,hl,fun t ht=>by rw[hio t ht];exact (hown x hx).2,can_I _,by show 0<vl (I a.2);rw[vl_I];exact h.pos a ha,?_⟩
 show vl (I a.2)≤_
 rw[vl_I,←Aqh h.nd ha,←e]
 exact h.le x hx
def ownB(ls:List Lot)(s:ByteArray):List Lot:=ls.filter fun l=>decide (l.inst=s)
theorem Are(ls:List SLot)(s:ByteArray):(ownL ls s).map Subtype.val=ownB (ls.map Subtype.val) s:=by unfold ownL ownB;rw[List.filter_map];rfl
theorem ownB_mem{ls:List Lot}{s:ByteArray}{x:Lot}:x∈ownB ls s↔x∈ls∧x.inst=s:=by unfold ownB;rw[List.mem_filter];simp
theorem Arf{ls:List Lot}(s:ByteArray)(h:(ls.map Lot.id).Nodup):((ownB ls s).map Lot.id).Nodup:=List.Nodup.sublist (List.Sublist.map _ List.filter_sublist) h
theorem Arg(ls:List SLot):totQ (ls.map Subtype.val)=sumBy qtyOf ls:=by
 induction ls with
 | nil=>rfl
 | cons x r ih =>
   unfold totQ sumBy at *
   rw[List.map_cons,List.map_cons,List.sum_cons,ih,List.foldl_cons]
   have:=An2 qtyOf [x] r
   unfold sumBy at this
   rw[List.singleton_append,List.foldl_cons,List.foldl_cons,List.foldl_nil] at this
   rw[this]
   show vl x.1.qty+_=0+vl x.1.qty+_
   omega
theorem Arh(l:Lot){x:ByteArray}{k:Nat}(hx:x.size≤k):(cutU l x).size≤k:=by
 unfold cutU
 split
 ·exact Nat.zero_le _
 ·exact hx
theorem Ari{l:Lot}{q:ByteArray}(h:l.ok)(q0:0<vl q)(q2:vl q<vl l.qty):0≤cutZ l q∧cutZ l q≤vl l.cost :=
 Am4 (t:=vl l.cost) (p:=vl q) (a:=vl l.qty) h.pc (by omega) h.pq (by omega)
def Lot.mid(l:Lot):Prop:=l.qty.size≤14∧l.cost.size≤14∧l.used.size≤14∧l.id.size≤40∧l.inst.size≤40
theorem Lot.mid.sized{l:Lot}(h:l.mid):l.sized:=by
 obtain⟨h1,h2,h3,h4,h5⟩:=h
 exact⟨by omega,by omega,by omega,by omega,by omega⟩
theorem Lot.tiny.mid{l:Lot}(h:l.tiny):l.mid:=by
 obtain⟨h1,h2,h3,h4,h5⟩:=h
 exact⟨by omega,by omega,by omega,by omega,by omega⟩
theorem Arj{l:Lot}{q:ByteArray}(hti:l.tiny)(h:l.ok)(q1:q.size≤13)(q0:0<vl q)(q2:vl q<vl l.qty):(cutA l q).mid∧(cutB l q).mid:=by
 obtain⟨z1,z2⟩:=Ari h q0 q2
 have hbc:(vl l.cost).natAbs<10^13:=Aah (vl_lt l.cost) (Aep hti.2.1)
 have hbq:(vl l.qty).natAbs<10^13:=Aah (vl_lt l.qty) (Aep hti.1)
 have s1:(I (cutZ l q)).size≤14:=Aen (k:=13) (by omega)
 have s2:(I (vl l.qty-vl q)).size≤14:=Aen (k:=13) (by omega)
 have s3:(I (vl l.cost-cutZ l q)).size≤14:=Aen (k:=13) (by omega)
 obtain⟨t1,t2,t3,t4,t5⟩:=hti
 exact⟨⟨by show q.size≤_;omega,s1,Arh l (by omega),t4,t5⟩,⟨s2,s3,Arh l s2,t4,t5⟩⟩
def sumL(f:Lot→Int)(ls:List Lot):Int:=(ls.map f).sum
theorem Ark(f:Lot→Int)(a b:List Lot):sumL f (a++b)=sumL f a+sumL f b:=by unfold sumL;rw[List.map_append,List.sum_append]
theorem Arm(f:Lot→Int)(x:Lot)(b:List Lot):sumL f (x::b)=f x+sumL f b:=by unfold sumL;rw[List.map_cons,List.sum_cons]
theorem Arn(f:Lot→Int):sumL f []=0:=rfl
theorem Arp(g:Lot→Int)(ls:List SLot):sumBy (fun x=>g x.1) ls=sumL g (ls.map Subtype.val):=by
 induction ls with
 | nil=>rfl
 | cons x r ih =>
   have:=An2 (fun x=>g x.1) [x] r
   rw[List.singleton_append] at this
   have e:sumBy (fun x=>g x.1) [x]=g x.1:=by show 0+g x.1=g x.1;omega
   rw[this,ih,List.map_cons,Arm,e]
theorem Arq(ls:List Lot)(ps:List Pk)(p:Pk):Aqz ls (ps++[p])=Aqz ls ps++[tknO ls p]:=by unfold Aqz;rw[List.map_append];rfl
theorem pk_lt{ls:List Lot}{io:Option ByteArray}{p:Pk}{x:Lot}(hx:x.ok)(h:PkOk ls io p x)(hq:x.qty≠p.qty):vl p.qty<vl x.qty:=by
 have h1:=h.le
 have h2:vl p.qty≠vl x.qty:=fun e=>hq (by
  have a:=h.can
  have b:=hx.cq
  unfold Can at a b
  rw[←a,←b,e])
 omega
theorem Arr{ls:List Lot}{io:Option ByteArray}{ps:List Pk}(ha:AllOk ls)(hti:∀l∈ls,l.tiny)(h:PksOk ls io ps)(h13:∀p∈ps,p.qty.size≤13){y:Lot}(hy:y∈Aqz ls ps):y.mid:=by
 obtain⟨p,hpm,rfl⟩:=List.mem_map.1 hy
 obtain⟨x,hp⟩:=h.ok p hpm
 have hx:=(Aqn hp.lot).1
 rw[Aqy hp.lot]
 split
 ·exact (hti x hx).mid
 ·rename_i hq
  have ho:=lchk_zero.1 (ha.ok x hx)
  exact (Arj (hti x hx) ho (h13 p hpm) hp.pos (pk_lt ho hp hq)).1
theorem PksOk.any{ls:List Lot}{io:Option ByteArray}{ps:List Pk}(h:PksOk ls io ps):PksOk ls none ps :=
 ⟨h.nd,fun p hp=>by obtain⟨x,hx⟩:=h.ok p hp;exact⟨x,hx.lot,(fun _ e=>by cases e),hx.can,hx.pos,hx.le⟩⟩
theorem RdB'.below{n₀:Nat}{w w':World}{A:Option Addr}{ls:List Lot}(h:RdB' n₀ w A ls)(hb:Below n₀ w w'):RdB' n₀ w' A ls:=by
 intro hl
 obtain⟨ad,rfl,h1,h2⟩:=h hl
 exact⟨ad,rfl,h1,fun j l hj=>(h2 j l hj).below hb (by rw[Acv];exact h1)⟩
theorem RdB'.rdl{n₀:Nat}{w:World}{A:Option Addr}{ls:List Lot}(h:RdB' n₀ w A ls)(hn:n₀≤w.heap.size):RdL w A ls:=by
 intro hl
 obtain⟨ad,rfl,h1,h2⟩:=h hl
 exact⟨ad,rfl,Aah h1 hn,h2⟩
theorem Ars(id:ByteArray)(B:Nat)(l:Lot)(w:World)(h:w.heap[B]?=some (.cells #[.string id] 9 (0,0))):
 Calls Tryz.prog 50 #[l.enc,.pointer (some ⟨B,0,none⟩)] w fun e w'=>e=.returned (.bool (decide (l.id=id)))∧Below w.heap.size w w':=by
 have hBl:=(Aab.1 h).1
 obtain⟨W0,hW0⟩:∃W0,w.alloc (.cells l.cells 38)=W0:=⟨_,rfl⟩
 have hb:Below w.heap.size w W0:=by rw[←hW0];exact (Below.refl _ w).alloc (Aad _) _
 have k1:LotBox W0 w.heap.size l:=by rw[←hW0];exact Aa5 w _
 have k0:W0.heap[B]?=some (.cells #[.string id] 9 (0,0)):=(hb.block B hBl).trans h
 have c0:=Aaa k0 0
 have d0:=Aaa k1 0
 simp[Lot.cells] at c0 d0
 have hse:=Aj8 l.id id
 have HB:=hI hb
 clear k0 k1 h hb hBl
 unfold Lot.cells at hW0
 unfold Lot.enc Lot.cells
 go_enter Tryz.func50,Tryz.ntmps50
 go_wp2_with fail
 go_ret
 exact⟨rfl,HB.out⟩
theorem Art(n₀:Nat)(A:Option Addr)(ls:List Lot)(c B:Nat)(id:ByteArray)(hlen:ls.length≤1000000)(w:World)(hR:RdB' n₀ w A ls)(hn:n₀≤w.heap.size)(hx:w.heap[B]?=some (.cells #[.string id] 9 (0,0))):
 Calls Tryz.prog 49 #[.slice A ls.length c,.func (.func 50) #[] #[.pointer (some ⟨B,0,none⟩)]] w fun e w'=>(∃z:Int,e=.returned (.int .i64 z)∧((findR ls id 0).2=true→z=((findR ls id 0).1:Int))∧((findR ls id 0).2=false→z=-1))∧Below w.heap.size w w':=by
 have hBl:=(Aab.1 hx).1
 have HR:=hI hR
 have HX:=hI (And.intro hBl hx)
 clear hR hx hBl
 go_enter Tryz.func49,Tryz.ntmps49
 go_wp2_with fail
 go_loopw [5,8] (fun _ v wr=>∃k:Nat,v=.int .i64 (k:Int)∧k≤ls.length∧(∀x∈ls.take k,x.id≠id)∧Below w.heap.size w wr) (fun _ v _=>ls.length-(intOf v).toNat)
 case atStart=>exact⟨0,rfl,by omega,fun p hp=>by simp at hp,Below.refl _ _⟩
 case round =>
  obtain⟨k,rfl,hk,hno,hb⟩:=hrel
  have HNO:=hI hno
  have HB:=hI hb
  clear hno hb
  rcases Aam k ls.length with hlt|hge
  ·obtain⟨l,hl⟩:∃l,ls[k]?=some l:=⟨_,Aae hlt⟩
   obtain⟨ad,rfl,had,hcell⟩:=HR.out (by intro e;rw[e] at hlt;cases hlt)
   have hcx:decide ((k:Int)<(ls.length:Int))=true:=by simp;omega
   obtain⟨c0,c1,c2,c3,c4,c5,c6⟩:=(hcell k l hl).below (HB.out.mono hn) (by rw[Acv];exact had)
   have HTK:=hI (Amq hl)
   have hcl:=fun W (hW:Below w.heap.size w W)=>Ars id B l W ((hW.block B HX.out.1).trans HX.out.2)
   unfold Lot.enc Lot.cells at hcl
   have HCL:=hI hcl
   clear hcell hcl
   have HL:=hI hl
   clear hl
   go_wp2_with fail
   refine (HCL.out _ HB.out).mono ?_
   rintro e w1 ⟨rfl,b1⟩
   have HB1:=hI (HB.out.trans (b1.mono HB.out.size))
   clear b1 HCL c0 c1 c2 c3 c4 c5 c6
   by_cases he:l.id=id
   ·rw[Aa3 he]
    have HF:Hid (findR ls id 0=(k,true)):=by
     have h:=Ak5 (ls:=ls) (m:=ls.length) hlt (Aad _) HTK.out HNO.out he
     rwa [Aai (Aad _)] at h
    clear he
    go_wp2_with fail
    go_ret
    exact⟨⟨_,rfl,(fun _=>by rw[HF.out]),(fun h=>by rw[HF.out] at h;cases h)⟩,HB1.out⟩
   ·rw[Aa4 he]
    have HE:=hI he
    clear he
    go_wp2_with fail
    go_roundw
    case rel =>
     refine⟨k+1,by go_num,by omega,fun x hx=>?_,HB1.out⟩
     rw[HTK.out,List.mem_append] at hx
     rcases hx with hx|hx
     ·exact HNO.out x hx
     ·rw[List.mem_singleton] at hx;subst hx;exact HE.out
    case measure=>simp[intOf];omega
  ·have hcx:decide ((k:Int)<(ls.length:Int))=false:=by simp;omega
   have HF:Hid (findR ls id 0=(0,false)):=Ak4 (fun x hx=>HNO.out x (by rw[Aai hge];exact hx)) 0
   go_wp2_with fail
   go_ret
   exact⟨⟨_,rfl,(fun h=>by rw[HF.out] at h;cases h),(fun _=>rfl)⟩,HB.out⟩
theorem Aru(n₀:Nat)(A:Option Addr)(ls:List Lot)(c:Nat)(id:ByteArray)(hlen:ls.length≤1000000)(w:World)(hR:RdB' n₀ w A ls)(hn:n₀≤w.heap.size):
 Calls Tryz.prog 22 #[.slice A ls.length c,.string id] w fun e w'=>e=.returned (.tuple #[.int .i64 ((findR ls id 0).1:Int),.bool (findR ls id 0).2])∧Below w.heap.size w w':=by
 obtain⟨W0,hW0⟩:∃W0,w.alloc (.cells #[.string id] 9)=W0:=⟨_,rfl⟩
 have hb:Below w.heap.size w W0:=by rw[←hW0];exact (Below.refl _ w).alloc (Aad _) _
 have k1:W0.heap[w.heap.size]?=some (.cells #[.string id] 9 (0,0)):=by rw[←hW0];exact Aa5 w _
 have HI:=hI (Art n₀ A ls c w.heap.size id hlen W0 (hR.below (hb.mono hn)) (Aap hn hb.size) k1)
 have HB:=hI hb
 have HZ:Hid ((findR ls id 0).2=false→(findR ls id 0).1=0):=fun h=>by rw[Ak4 (findR_false ls id 0 h)]
 clear hR k1 hb
 go_enter Tryz.func22,Tryz.ntmps22
 go_wp2_with fail
 refine HI.out.mono ?_
 rintro e w1 ⟨⟨z,rfl,hz1,hz2⟩,b1⟩
 have HB1:=hI (HB.out.trans (b1.mono HB.out.size))
 clear b1
 generalize hf:findR ls id 0=fr at hz1 hz2 HZ
 obtain⟨k,b⟩:=fr
 have HFR:=hI hf
 clear hf
 cases b
 ·obtain rfl:=hz2 rfl
  obtain rfl:k=0:=HZ.out rfl
  go_wp2_with fail
  go_ret2
  exact⟨by rw[HFR.out];rfl,HB1.out⟩
 ·obtain rfl:=hz1 rfl
  have t1:decide ((0:Int)≤(k:Int))=true:=Aa3 (by omega)
  have t2:decide ((k:Int)≥0)=true:=t1
  go_wp2_with fail
  go_ret2
  exact⟨by rw[HFR.out];rfl,HB1.out⟩
structure PkAt(w:World)(p:Addr)(x:Pk):Prop where
 c0:w.cell? p=some (.string x.lot)
 c1:w.cell? ⟨p.block,p.off+1,none⟩=some (.string x.qty)
theorem PkAt.below{w w':World}{p:Addr}{x:Pk}{B:Nat}(h:PkAt w p x)(hb:Below B w w')(hp:p.block<B):PkAt w' p x :=
 ⟨(hb.cell hp).trans h.c0,(hb.cell (p:=⟨p.block,p.off+1,none⟩) hp).trans h.c1⟩
def RdK(n₀:Nat)(w:World)(A:Option Addr)(ps:List Pk):Prop :=
 ps≠[]→∃ad:Addr,A=some ad∧ad.block<n₀∧∀(j:Nat) (p:Pk),ps[j]?=some p→PkAt w (ad.add (j*2)) p
theorem RdK.nil(n₀:Nat)(w:World)(A:Option Addr):RdK n₀ w A []:=fun h=>absurd rfl h
theorem RdK.below{n₀:Nat}{w w':World}{A:Option Addr}{ps:List Pk}(h:RdK n₀ w A ps)(hb:Below n₀ w w'):RdK n₀ w' A ps:=by
 intro hl
 obtain⟨ad,rfl,h1,h2⟩:=h hl
 exact⟨ad,rfl,h1,fun j l hj=>(h2 j l hj).below hb (by rw[Acv];exact h1)⟩
theorem RdK.mono{n₀ n₁:Nat}{w:World}{A:Option Addr}{ps:List Pk}(h:RdK n₀ w A ps)(hn:n₀≤n₁):RdK n₁ w A ps:=by
 intro hl
 obtain⟨ad,rfl,h1,h2⟩:=h hl
 exact⟨ad,rfl,Aah h1 hn,h2⟩
theorem RdK.take{n:Nat}{w:World}{A:Option Addr}{ps:List Pk}(h:RdK n w A ps)(k:Nat):RdK n w A (ps.take k):=by
 intro hl
 obtain⟨ad,e,h1,h2⟩:=h (by intro e;rw[e] at hl;simp at hl)
 exact⟨ad,e,h1,fun j l hj=>h2 j l (by rw[List.getElem?_take] at hj;split at hj;exact hj;cases hj)⟩
def PkBox(W:World)(B:Nat)(p:Pk):Prop:=W.heap[B]?=some (.cells p.cells 43 (0,0))
theorem PkBox.below{W W':World}{B:Nat}{p:Pk}(h:PkBox W B p)(hb:Below W.heap.size W W'):PkBox W' B p:=(hb.block B (Aab.1 h).1).trans h
def flatK(ps:List Pk):List Value:=ps.flatMap fun x=>x.cells.toList
theorem Arv(a b:List Pk):flatK (a++b)=flatK a++flatK b:=by simp[flatK]
theorem Arw(x:Pk)(a:List Pk):flatK (x::a)=x.cells.toList++flatK a:=by simp[flatK]
theorem Arx(ps:List Pk):(flatK ps).length=ps.length*2:=by
 induction ps with
 | nil=>rfl
 | cons x r ih=>rw[Arw,Aan,ih,Aa0];simp;omega
theorem Ary(x:Pk):∀u∈x.cells.toList,u.oneCell'=true:=by
 intro u hu
 simp[Pk.cells] at hu
 rcases hu with rfl|rfl<;>rfl
theorem Arz(ps:List Pk):∀u∈flatK ps,u.oneCell'=true:=by
 intro u hu
 obtain⟨x,_,hx⟩:=List.mem_flatMap.1 hu
 exact Ary x u hx
theorem Ar0(a:ByteArray)(ha:a.size≤1000000)(w:World):Calls Tryz.prog 38 #[.string a] w fun e w'=>e=.returned (.bool (decide (0<vl a)))∧Below w.heap.size w w':=by
 have HC:=hI (fun W=>Agu a ⟨#[]⟩ W (by omega) (by decide))
 have HZ:Hid (vl ⟨#[]⟩=0):=by show vl ⟨#[]⟩=0;kernel_rfl
 go_enter Tryz.func38,Tryz.ntmps38
 go_wp2_with fail
 refine (HC.out _).mono ?_
 rintro e w1 ⟨rfl,b1⟩
 have HB:=hI b1
 clear b1
 rw[HZ.out]
 by_cases h:0<vl a
 ·have t1:decide (cmpI (vl a) 0 > 0)=true:=Aa3 (cmpI_gt.2 h)
  have t2:decide (0<cmpI (vl a) 0)=true:=t1
  have HD:=hI (Aa3 h)
  clear h
  go_wp2_with fail
  go_ret
  exact⟨by rw[HD.out];rfl,HB.out⟩
 ·have t1:decide (cmpI (vl a) 0 > 0)=false:=Aa4 (fun x=>h (cmpI_gt.1 x))
  have t2:decide (0<cmpI (vl a) 0)=false:=t1
  have HD:=hI (Aa4 h)
  clear h
  go_wp2_with fail
  go_ret
  exact⟨by rw[HD.out];rfl,HB.out⟩
theorem Ar1(a b:ByteArray)(ha:a.size≤1000000)(hb:b.size≤1000000)(w:World):Calls Tryz.prog 45 #[.string a,.string b] w fun e w'=>e=.returned (.string (if vl a<vl b then a else b))∧Below w.heap.size w w':=by
 have HC:=hI (fun W=>Agu a b W (by omega) (by omega))
 obtain⟨r,hr⟩:∃r,(if vl a<vl b then a else b)=r:=⟨_,rfl⟩
 rw[hr]
 have HR:=hI hr
 clear hr
 go_enter Tryz.func45,Tryz.ntmps45
 go_wp2_with fail
 refine (HC.out _).mono ?_
 rintro e w1 ⟨rfl,b1⟩
 have HB:=hI b1
 clear b1
 by_cases h:vl a<vl b
 ·have t1:decide (cmpI (vl a) (vl b)<0)=true:=Aa3 (cmpI_lt.2 h)
  have HD:Hid (a=r):=(if_pos h).symm.trans HR.out
  clear h
  go_wp2_with fail
  go_ret
  exact⟨by rw[←HD.out];rfl,HB.out⟩
 ·have t1:decide (cmpI (vl a) (vl b)<0)=false:=Aa4 (fun x=>h (cmpI_lt.1 x))
  have HD:Hid (b=r):=(if_neg h).symm.trans HR.out
  clear h
  go_wp2_with fail
  go_ret
  exact⟨by rw[←HD.out];rfl,HB.out⟩
theorem Ar2(x y:Int)(hx:(I x).size≤1000000)(hy:(I y).size≤1000000)(w:World):Calls Tryz.prog 45 #[.string (I x),.string (I y)] w fun e w'=>e=.returned (.string (I (min x y)))∧Below w.heap.size w w':=by
 refine (Ar1 (I x) (I y) hx hy w).mono ?_
 rintro e w1 ⟨rfl,b1⟩
 refine⟨?_,b1⟩
 rw[vl_I,vl_I]
 split
 ·rw[show min x y=x from by omega]
 ·rw[show min x y=y from by omega]
structure PkClo(P:Pk→Bool)(f:Nat)(bd:Array Value)(w:World)(ps:List Pk):Prop where
 en:∀args w,(callFunc f args).run Tryz.prog w=.ok (.enter f args) w
 run:∀W,Below w.heap.size w W→∀p∈ps,Calls Tryz.prog f (#[p.enc]++bd) W fun e w'=>e=.returned (.bool (P p))∧Below W.heap.size W w'
def IdxIs(P:Pk→Bool)(ps:List Pk)(z:Int):Prop:=(∃(k:Nat) (p:Pk),z=(k:Int)∧ps[k]?=some p∧P p=true∧∀q∈ps.take k,P q=false)∨(z=-1∧∀q∈ps,P q=false)
theorem Ar3(P:Pk→Bool)(f:Nat)(bd:Array Value)(n₀:Nat)(A:Option Addr)(ps:List Pk)(c:Nat)(hlen:ps.length≤1000000)(w:World)(hR:RdK n₀ w A ps)(hn:n₀≤w.heap.size)(hC:PkClo P f bd w ps):
 Calls Tryz.prog 35 #[.slice A ps.length c,.func (.func f) #[] bd] w fun e w'=>(∃z:Int,e=.returned (.int .i64 z)∧IdxIs P ps z)∧Below w.heap.size w w':=by
 have HR:=hI hR
 have HC:=hI hC
 have hen:=hC.en
 clear hR hC
 go_enter Tryz.func35,Tryz.ntmps35
 go_wp2_with fail
 go_loopw [5,8] (fun _ v wr=>∃k:Nat,v=.int .i64 (k:Int)∧k≤ps.length∧(∀x∈ps.take k,P x=false)∧Below w.heap.size w wr) (fun _ v _=>ps.length-(intOf v).toNat)
 case atStart=>exact⟨0,rfl,by omega,fun p hp=>by simp at hp,Below.refl _ _⟩
 case round =>
  obtain⟨k,rfl,hk,hno,hb⟩:=hrel
  have HNO:=hI hno
  have HB:=hI hb
  clear hno hb
  rcases Aam k ps.length with hlt|hge
  ·obtain⟨p,hp⟩:∃p,ps[k]?=some p:=⟨_,Aae hlt⟩
   obtain⟨ad,rfl,had,hcell⟩:=HR.out (by intro e;rw[e] at hlt;cases hlt)
   have hcx:decide ((k:Int)<(ps.length:Int))=true:=by simp;omega
   obtain⟨c0,c1⟩:=(hcell k p hp).below (HB.out.mono hn) (by rw[Acv];exact had)
   have HTK:=hI (Amq hp)
   have HP:=hI hp
   have hcl:=HC.out.run _ HB.out p (Aas hp)
   unfold Pk.enc Pk.cells at hcl
   have HCL:=hI hcl
   clear hcell hp hcl
   go_wp2_with fail
   refine HCL.out.mono ?_
   rintro e w1 ⟨rfl,b1⟩
   have HB1:=hI (HB.out.trans (b1.mono HB.out.size))
   clear b1 HCL c0 c1
   cases hpp:P p
   case true =>
    have HF:Hid (IdxIs P ps (k:Int)):=.inl ⟨k,p,rfl,HP.out,hpp,HNO.out⟩
    clear hpp
    go_wp2_with fail
    go_ret
    exact⟨⟨_,rfl,HF.out⟩,HB1.out⟩
   case false =>
    have HE:=hI hpp
    clear hpp
    go_wp2_with fail
    go_roundw
    case rel =>
     refine⟨k+1,by go_num,by omega,fun x hx=>?_,HB1.out⟩
     rw[HTK.out,List.mem_append] at hx
     rcases hx with hx|hx
     ·exact HNO.out x hx
     ·rw[List.mem_singleton] at hx;subst hx;exact HE.out
    case measure=>simp[intOf];omega
  ·have hcx:decide ((k:Int)<(ps.length:Int))=false:=by simp;omega
   have HF:Hid (IdxIs P ps (-1)):=.inr ⟨rfl,fun x hx=>HNO.out x (by rw[Aai hge];exact hx)⟩
   go_wp2_with fail
   go_ret
   exact⟨⟨_,rfl,HF.out⟩,HB.out⟩
theorem Ar4(P:Pk→Bool)(f:Nat)(bd:Array Value)(n₀:Nat)(A:Option Addr)(ps:List Pk)(c:Nat)(hlen:ps.length≤1000000)(w:World)(hR:RdK n₀ w A ps)(hn:n₀≤w.heap.size)(hC:PkClo P f bd w ps):
 Calls Tryz.prog 16 #[.slice A ps.length c,.func (.func f) #[] bd] w fun e w'=>e=.returned (.bool (ps.any P))∧Below w.heap.size w w':=by
 have HI:=hI (Ar3 P f bd n₀ A ps c hlen w hR hn hC)
 clear hR hC
 go_enter Tryz.func16,Tryz.ntmps16
 go_wp2_with fail
 refine HI.out.mono ?_
 rintro e w1 ⟨⟨z,rfl,hz⟩,b1⟩
 have HB1:=hI b1
 clear b1 HI
 rcases hz with⟨k,p,rfl,h1,h2,_⟩|⟨rfl,h⟩
 ·have t1:decide ((0:Int)≤(k:Int))=true:=Aa3 (by omega)
  have t2:decide ((k:Int)≥0)=true:=t1
  have HA:Hid (ps.any P=true):=List.any_eq_true.2 ⟨p,Aas h1,h2⟩
  clear h1 h2
  go_wp2_with fail
  go_ret
  exact⟨by rw[HA.out];rfl,HB1.out⟩
 ·have HA:Hid (ps.any P=false):=List.any_eq_false.2 fun q hq=>by rw[h q hq];exact Aaz
  clear h
  go_wp2_with fail
  go_ret
  exact⟨by rw[HA.out];rfl,HB1.out⟩
theorem Ar5(x:Lot)(Bx:Nat)(p:Pk)(w:World)(h:LotBox w Bx x):
 Calls Tryz.prog 43 #[p.enc,.pointer (some ⟨Bx,0,none⟩)] w fun e w'=>e=.returned (.bool (decide (p.lot=x.id)))∧Below w.heap.size w w':=by
 obtain⟨W0,hW0⟩:∃W0,w.alloc (.cells p.cells 43)=W0:=⟨_,rfl⟩
 have hb:Below w.heap.size w W0:=by rw[←hW0];exact (Below.refl _ w).alloc (Aad _) _
 have k1:PkBox W0 w.heap.size p:=by rw[←hW0];exact Aa5 w _
 have k0:LotBox W0 Bx x:=h.below hb
 have c0:=Aaa k0 0
 have d0:=Aaa k1 0
 simp[Lot.cells,Pk.cells] at c0 d0
 have hse:=Aj8 p.lot x.id
 have HB:=hI hb
 clear k0 k1 h hb
 unfold Pk.cells at hW0
 unfold Pk.enc Pk.cells
 go_enter Tryz.func43,Tryz.ntmps43
 go_wp2_with fail
 go_ret
 exact⟨rfl,HB.out⟩
theorem Ar6(x:Lot)(Bx:Nat)(w:World)(ps:List Pk)(h:LotBox w Bx x):PkClo (fun p=>decide (p.lot=x.id)) 43 #[.pointer (some ⟨Bx,0,none⟩)] w ps :=
 ⟨enters_of Tryz.func43 (by kernel_rfl) rfl,fun W hW p _=>Ar5 x Bx p W (h.below hW)⟩
theorem Ar7{P:Program}{ops:Array Oper}{o:Oper}{a:Act}{K:Act→World→Prop}{Q:Exit→Act→World→Prop}{E:Prop}{t:TypeId}{pv xv:Value}{w w':World}(hr:(Instr.storeAt t pv xv).run P w=.ok () w')(hgd:o.guard=none)(p x:Operand)
 (ho:o.op=.store t p x) (hp:a.eval p=pv) (hx:a.eval x=xv) (h:K (a.put o.dst undef) w') :
 if Region.wanted o (yielded ops a.tmps)=true then Oper.wp P o a w K Q else E:=by
 have hw:Region.wanted o (yielded ops a.tmps)=true:=by simp[Region.wanted,hgd]
 rw[if_pos hw]
 unfold Oper.wp execOp
 simp only[ho,hp,hx,Sem.run_bind,Sem.run_pure,Result.andThen_ok,hr]
 exact h
def flatV(ls:List Lot):List Value:=ls.flatMap fun x=>x.cells.toList
theorem flatV_nil:flatV []=[]:=rfl
theorem Ar8(a b:List Lot):flatV (a++b)=flatV a++flatV b:=by simp[flatV]
theorem Ar9(x:Lot)(a:List Lot):flatV (x::a)=x.cells.toList++flatV a:=by simp[flatV]
theorem Asa(ls:List Lot):(flatV ls).length=ls.length*7:=by
 induction ls with
 | nil=>rfl
 | cons x r ih=>rw[Ar9,Aan,ih,Aa0];simp;omega
theorem Asb(ls:List Lot):∀u∈flatV ls,u.oneCell'=true:=by
 intro u hu
 obtain⟨x,_,hx⟩:=List.mem_flatMap.1 hu
 exact Apt x u hx
theorem Asc(ls:List SLot):flatV (ls.map Subtype.val)=flatL ls:=by unfold flatV flatL;rw[List.flatMap_map]
theorem Asd{α:Type}{D:List α}{k:Nat}{x:α}(h:D[k]?=some x):∃P Q,D=P++x::Q∧P.length=k:=by
 obtain⟨hk,he⟩:=Aak.1 h
 refine⟨D.take k,D.drop (k+1),?_,by rw[Aat];omega⟩
 rw[←he,←Aa2 hk,Aav]
structure SRow(V:Lot→Prop)(w0:World)(g:Nat)(sp:List Value)(D:List Lot)(W:World):Prop where
 row:W.heap[g]?=some (.cells (flatV D++sp).toArray 38 (0,0))
 ok:∀x∈D,V x
 gr:w0.grownBy W (some g)
 lt:g<w0.heap.size
section
variable {V:Lot→Prop} {w0 W W':World} {g k:Nat} {sp:List Value} {D:List Lot} {x:Lot}
theorem SRow.ltW(h:SRow V w0 g sp D W):g<W.heap.size:=Aah h.lt h.gr.size
theorem SRow.below(h:SRow V w0 g sp D W)(hb:Below W.heap.size W W'):SRow V w0 g sp D W' :=
 ⟨(hb.block g h.ltW).trans h.row,h.ok,⟨hb.os.trans h.gr.os,hb.tape.trans h.gr.tape,hb.output.trans h.gr.output,Aap h.gr.size hb.size,fun k hk hne=>(hb.block k (Aah hk h.gr.size)).trans (h.gr.block k hk hne)⟩,h.lt⟩
theorem SRow.drew(h:SRow V w0 g sp D W):SRow V w0 g sp D W.drew:=h.below (Below.refl _ _).drew
theorem SRow.at(h:SRow V w0 g sp D W)(hk:D[k]?=some x):LotAt W ⟨g,k*7,none⟩ x:=by
 obtain⟨P,Q,rfl,hP⟩:=Asd hk
 have hl:(flatV P).length=k*7:=by rw[Asa,hP]
 have hc:∀f u,f<7→x.cells.toList[f]?=some u→W.cell? ⟨g,k*7+f,none⟩=some u:=fun f u hf hu=>by
  rw[Aaa h.row (k*7+f),List.getElem?_toArray,Ar8,Ar9,List.append_assoc,Aa1 (by omega),hl,Nat.add_sub_cancel_left,List.append_assoc,List.getElem?_append_left (by exact hf)]
  exact hu
 exact⟨hc 0 _ (by omega) rfl,hc 1 _ (by omega) rfl,hc 2 _ (by omega) rfl,hc 3 _ (by omega) rfl,hc 4 _ (by omega) rfl,hc 5 _ (by omega) rfl,hc 6 _ (by omega) rfl⟩
theorem adk{ad:Addr}(had:ad=⟨g,0,none⟩)(n:Nat):ad.add n=⟨g,n,none⟩:=by
 rw[had,Anq _ rfl];simp
theorem SRow.at'{ad:Addr}(h:SRow V w0 g sp D W)(had:ad=⟨g,0,none⟩)(hk:D[k]?=some x):LotAt W (ad.add (k*7)) x:=by
 rw[adk had];exact h.at hk
theorem SRow.put(h:SRow V w0 g sp D W)(hk:D[k]?=some x){y:Lot}(hy:V y):SRow V w0 g sp (D.set k y) (W.setRow g (flatV (D.set k y)++sp).toArray):=by
 refine⟨setRow_heap _ g _ _ _ _ h.row,fun z hz=>?_,⟨h.gr.os,h.gr.tape,h.gr.output,by simp[World.setRow];exact h.gr.size,fun j hj hne=>?_⟩,h.lt⟩
 ·rcases List.mem_or_eq_of_mem_set hz with hz|rfl
  ·exact h.ok z hz
  ·exact hy
 ·rw[setRow_other _ g j _ (fun e=>hne (by rw[e]))]
  exact h.gr.block j hj hne
theorem SRow.st{ad:Addr}(h:SRow V w0 g sp D W)(had:ad=⟨g,0,none⟩)(hk:D[k]?=some x){y:Lot}(hy:V y):
 ∃wn,(Instr.storeAt 38 (.pointer (some (ad.add (k*7)))) (.agg #[.string y.id,.string y.inst,.int .i64 y.acq,.int .i64 y.opn,.string y.qty,.string y.cost,.string y.used])).run Tryz.prog W=.ok () wn∧SRow V w0 g sp (D.set k y) wn:=by
 refine⟨_,?_,h.put hk hy⟩
 have hz:(sizeOf 38).run Tryz.prog W=.ok 7 W:=by kernel_rfl
 have hkl:=(Aak.1 hk).1
 have hs:=run_storeCells_at Tryz.prog g (k*7) 38 y.cells.toList 0 _ W h.row (by simp[Asa];omega) (Apt y)
 rw[adk had]
 obtain⟨P,Q,hD,hP⟩:=Asd hk
 have hl:(flatV P).length=k*7:=by rw[Asa,hP]
 have e1:(flatV D++sp).take (k*7)=flatV P:=by
  rw[hD,Ar8,List.append_assoc,←hl,List.take_left]
 have e2:(flatV D++sp).drop (k*7+7)=flatV Q++sp:=by
  rw[hD,Ar8,Ar9,show flatV P++(x.cells.toList++flatV Q)++sp=(flatV P++x.cells.toList)++(flatV Q++sp) from by simp,show k*7+7=(flatV P++x.cells.toList).length from by rw[Aan,hl];rfl,List.drop_left]
 have e3:flatV (D.set k y)++sp=flatV P++y.cells.toList++(flatV Q++sp):=by
  rw[hD,Adj hP,Ar8,Ar9];simp
 rw[Nat.add_zero,show y.cells.toList.length=7 from rfl,e1,e2,←e3] at hs
 unfold Instr.storeAt storeVar
 simp only[Sem.run_bind,Instr.sureAddr,Sem.run_pure,Result.andThen_ok,hz]
 rw[if_neg (by show ¬(7:Nat)≠7;exact fun h=>h rfl)]
 exact hs
theorem SRow.same(h:SRow V w0 g sp D W){D':List Lot}(e:D=D'):SRow V w0 g sp D' W:=e▸h
end
structure CmpS(V:Lot→Prop)(cf:Lot→Lot→Int)(f:Nat)(bd:Array Value)(w0:World)(g:Nat):Prop where
 en:∀args w,(callFunc f args).run Tryz.prog w=.ok (.enter f args) w
 run:∀W,w0.grownBy W (some g)→∀a b,V a→V b→Calls Tryz.prog f (#[a.enc,b.enc]++bd) W fun e w'=>e=.returned (.int .i64 (cf a b))∧Below W.heap.size W w'
theorem CmpS.at{V:Lot→Prop}{cf:Lot→Lot→Int}{f:Nat}{bd:Array Value}{w0:World}{g:Nat}(h:CmpS V cf f bd w0 g){sp:List Value}{D:List Lot}{x y:Lot}(hx:V x)(hy:V y):∀W,SRow V w0 g sp D W →
 Calls Tryz.prog f (#[.agg #[.string x.id,.string x.inst,.int .i64 x.acq,.int .i64 x.opn,.string x.qty,.string x.cost,.string x.used],.agg #[.string y.id,.string y.inst,.int .i64 y.acq,.int .i64 y.opn,.string y.qty,.string y.cost,.string y.used]]++bd) W fun e w'=>e=.returned (.int .i64 (cf x y))∧Below W.heap.size W w' :=
 fun W hW=>h.run W hW.gr x y hx hy
structure SWV(V:Lot→Prop)(w0:World)(g:Nat)(sp:List Value)(D:List Lot)(ad:Addr)(N c:Nat)(f:Nat)(bd:Array Value)(a_ b_ n_ i_ u_ v_:Nat)(x y:Lot)  (L:Array Bool) (W:World) (s16 s17 s18 s19 s20 s21 s22 s23 s24 s25 s26 s27 s28 s29 s30 s31 s32 s33 s34 s35 s36 s37:Value):Prop where
 k0:L.getD 0 false=true→s16=.slice (some ad) N c
 k1:L.getD 1 false=true→s17=.int .i64 (a_:Int)
 k2:L.getD 2 false=true→s18=.int .i64 (i_:Int)
 k3:L.getD 3 false=true→s19=.int .i64 (u_:Int)
 k4:L.getD 4 false=true→s20=.slice (some ad) N c
 k5:L.getD 5 false=true→s21=.int .i64 (b_:Int)
 k6:L.getD 6 false=true→s22=.int .i64 (i_:Int)
 k7:L.getD 7 false=true→s23=.int .i64 (v_:Int)
 k8:L.getD 8 false=true→s24=.slice (some ad) N c
 k9:L.getD 9 false=true→s25=.int .i64 (b_:Int)
 k10:L.getD 10 false=true→s26=.int .i64 (i_:Int)
 k11:L.getD 11 false=true→s27=.int .i64 (v_:Int)
 k12:L.getD 12 false=true→s28=.pointer (some (ad.add (v_*7)))
 k13:L.getD 13 false=true→s29=.agg #[.string y.id,.string y.inst,.int .i64 y.acq,.int .i64 y.opn,.string y.qty,.string y.cost,.string y.used]
 k14:L.getD 14 false=true→s30=.slice (some ad) N c
 k15:L.getD 15 false=true→s31=.int .i64 (a_:Int)
 k16:L.getD 16 false=true→s32=.int .i64 (i_:Int)
 k17:L.getD 17 false=true→s33=.int .i64 (u_:Int)
 k18:L.getD 18 false=true→s34=.pointer (some (ad.add (u_*7)))
 k19:L.getD 19 false=true→s35=.agg #[.string x.id,.string x.inst,.int .i64 x.acq,.int .i64 x.opn,.string x.qty,.string x.cost,.string x.used]
 k20:L.getD 20 false=true→s36=.pointer (some (ad.add (u_*7)))
 k22:L.getD 22 false=true→s37=.pointer (some (ad.add (v_*7)))
 r0:L.getD 21 false=false→SRow V w0 g sp D W
 r1:L.getD 21 false=true→L.getD 23 false=false→SRow V w0 g sp (D.set u_ y) W
 r2:L.getD 23 false=true→SRow V w0 g sp ((D.set u_ y).set v_ x) W
 q1:L.getD 21 false=true→L.getD 19 false=true∧L.getD 13 false=true
 q2:L.getD 23 false=true→L.getD 21 false=true
structure SWJ(V:Lot→Prop)(w0:World)(g:Nat)(sp:List Value)(D:List Lot)(ad:Addr)(N c:Nat)(f:Nat)(bd:Array Value)(a_ b_ n_ i_ u_ v_:Nat)(x y:Lot)(x5 x6 x7 x8 x9 x11 x12 x13 x14 x15:Value)(L:Array Bool)(a:Act)(W:World):Prop where
 sz:L.size=24
 fr:∃s16 s17 s18 s19 s20 s21 s22 s23 s24 s25 s26 s27 s28 s29 s30 s31 s32 s33 s34 s35 s36 s37:Value,a={tmps:=#[.slice (some ad) N c,.int .i64 (a_:Int),.int .i64 (b_:Int),.int .i64 (n_:Int),.func (.func f) #[] bd,x5,x6,x7,x8,x9,.int .i64 (i_:Int),x11,x12,x13,x14,x15,s16,s17,s18,s19,s20,s21,s22,s23,s24,s25,s26,s27,s28,s29,s30,s31,s32,s33,s34,s35,s36,s37],defers:=[]}∧SWV V w0 g sp D ad N c f bd a_ b_ n_ i_ u_ v_ x y  L W s16 s17 s18 s19 s20 s21 s22 s23 s24 s25 s26 s27 s28 s29 s30 s31 s32 s33 s34 s35 s36 s37
theorem Ase(V:Lot→Prop)(w0:World)(g N c a b n f:Nat)(bd:Array Value)(sp:List Value)(D0:List Lot)(hN:D0.length=N)(hm:N≤1000000)(ha:a+n≤N)(hb:b+n≤N)(hab:a+n≤b∨b+n≤a)(w:World)(hrow:SRow V w0 g sp D0 w):
 Calls Tryz.prog 213 #[.slice (some ⟨g,0,none⟩) N c,.int .i64 (a:Int),.int .i64 (b:Int),.int .i64 (n:Int),.func (.func f) #[] bd] w fun e w'=>e=.returned (.tuple #[])∧SRow V w0 g sp (swR D0 a b n) w':=by
 obtain⟨ad,had⟩:∃ad:Addr,ad=⟨g,0,none⟩:=⟨_,rfl⟩
 rw[←had]
 have HAD:=hI had
 have HROW:=hI hrow
 have HNN:=hI hN
 clear had hrow hN
 go_enter Tryz.func213,Tryz.ntmps213
 go_wp2_with fail
 go_loopw [10] (fun v wr=>∃(i:Nat) (D:List Lot),v=.int .i64 (i:Int)∧i≤n∧D=swR D0 a b i∧SRow V w0 g sp D wr) (fun v _=>n-(intOf v).toNat)
 case atStart=>exact⟨0,D0,rfl,by omega,rfl,HROW.out⟩
 case round =>
  obtain⟨i,D,rfl,hi,hD,hr⟩:=hrel
  have HR:=hI hr
  have HSW:Hid (D=swR D0 a b i):=hD
  have hlen:D.length=N:=by rw[hD,Adm,HNN.out]
  clear hr hD
  rcases Aam i n with hlt|hge
  ·have hcx:decide ((i:Int)<(n:Int))=true:=by simp;omega
   obtain⟨u,hu⟩:∃u,u=a+i:=⟨_,rfl⟩
   obtain⟨v,hv⟩:∃v,v=b+i:=⟨_,rfl⟩
   have HW_u:Hid (IntKind.i64.wrap ((a:Int)+(i:Int))=(u:Int)):=by rw[Hid,Aay];omega
   have HW_v:Hid (IntKind.i64.wrap ((b:Int)+(i:Int))=(v:Int)):=by rw[Hid,Aay];omega
   have HL_u:Hid ((u:Int)<(N:Int)):=by show (u:Int)<_;omega
   have HL_v:Hid ((v:Int)<(N:Int)):=by show (v:Int)<_;omega
   obtain⟨x,hx⟩:∃x,D[u]?=some x:=⟨_,Aae (by omega)⟩
   obtain⟨y,hy⟩:∃y,D[v]?=some y:=⟨_,Aae (by omega)⟩
   have HX:Hid (D[u]?=some x):=hx
   have HY:Hid (D[v]?=some y):=hy
   have HYV:Hid ((D.set u y)[v]?=some y):=by rw[Hid,List.getElem?_set_ne (by omega)];exact hy
   have HVX:Hid (V x):=HR.out.ok x (Aas hx)
   have HVY:Hid (V y):=HR.out.ok y (Aas hy)
   have HSW:Hid (swp (swR D0 a b i) (a+i) (b+i)=swp D u v):=by rw[Hid,HSW.out,hu,hv]
   have hrow0:=HR.out.drew
   clear hx hy hu hv hlen
   go_upto_region 3 with fail
   have mixed:Tryz.prog.follows .mixedOrders=true:=by kernel_rfl
   refine wp_region_any mixed (Akw (SWJ V w0 g sp D ad N c f bd a b n i u v x y _ _ _ _ _ _ _ _ _ _) ?stSW ?dnSW _ _ _ _ ⟨by simp,⟨_,_,_,_,_,_,_,_,_,_,_,_,_,_,_,_,_,_,_,_,_,_,rfl,fun h=>by simp at h,fun h=>by simp at h,fun h=>by simp at h,fun h=>by simp at h,fun h=>by simp at h,fun h=>by simp at h,fun h=>by simp at h,fun h=>by simp at h,fun h=>by simp at h,fun h=>by simp at h,fun h=>by simp at h,fun h=>by simp at h,fun h=>by simp at h,fun h=>by simp at h,fun h=>by simp at h,fun h=>by simp at h,fun h=>by simp at h,fun h=>by simp at h,fun h=>by simp at h,fun h=>by simp at h,fun h=>by simp at h,fun h=>by simp at h,fun _=>hrow0,fun h=>by simp at h,fun h=>by simp at h,fun h=>by simp at h,fun h=>by simp at h⟩⟩ (by decide))
   case dnSW =>
    intro L a w' hj hr
    have all:=Akv hr hj.sz (by kernel_rfl)
    obtain⟨s16,s17,s18,s19,s20,s21,s22,s23,s24,s25,s26,s27,s28,s29,s30,s31,s32,s33,s34,s35,s36,s37,rfl,hv⟩:=hj.fr
    have HRW:=hI (hv.r2 (all 23 (by omega)))
    clear all hv hj hr
    go_wp2_with fail
    go_roundw
    case rel =>
     refine⟨i+1,_,by go_num,by omega,?_,HRW.out⟩
     rw[swR,HSW.out];exact (Adh HX.out HY.out).symm
    case measure=>simp[intOf];omega
   case stSW =>
    intro L a w' hj i hi
    obtain⟨hun,o,ho,hall⟩:=mem_ready.1 hi
    have hoff:=Akk hun
    have hlt:=(Aab.1 ho).1
    simp at hlt
    obtain⟨s16,s17,s18,s19,s20,s21,s22,s23,s24,s25,s26,s27,s28,s29,s30,s31,s32,s33,s34,s35,s36,s37,rfl,hv⟩:=hj.fr
    have HV:=hI hv
    have HJ:=hI hj
    clear hv hj
    rcases (show i=0∨i=1∨i=2∨i=3∨i=4∨i=5∨i=6∨i=7∨i=8∨i=9∨i=10∨i=11∨i=12∨i=13∨i=14∨i=15∨i=16∨i=17∨i=18∨i=19∨i=20∨i=21∨i=22∨i=23 from by omega) with rfl|rfl|rfl|rfl|rfl|rfl|rfl|rfl|rfl|rfl|rfl|rfl|rfl|rfl|rfl|rfl|rfl|rfl|rfl|rfl|rfl|rfl|rfl|rfl
    all_goals simp at ho
    all_goals subst ho
    rotate_left
    rotate_left
    rotate_left
    cases HV.out.k1 (Hq hall 1).out
    cases HV.out.k2 (Hq hall 2).out
    have h0:=HW_u.out
    rotate_left
    rotate_left
    rotate_left
    rotate_left
    cases HV.out.k5 (Hq hall 5).out
    cases HV.out.k6 (Hq hall 6).out
    have h0:=HW_v.out
    rotate_left
    rotate_left
    rotate_left
    rotate_left
    cases HV.out.k9 (Hq hall 9).out
    cases HV.out.k10 (Hq hall 10).out
    have h0:=HW_v.out
    rotate_left
    cases HV.out.k8 (Hq hall 8).out
    cases HV.out.k11 (Hq hall 11).out
    have h0:=HL_v.out
    rotate_left
    cases HV.out.k12 (Hq hall 12).out
    have ho:L.getD 21 false=false:=by rcases Akr L 21 with h|h;exact h;exact (Akq hoff (HV.out.q1 h).2).elim
    obtain⟨c0,c1,c2,c3,c4,c5,c6⟩:=(HV.out.r0 ho).at' HAD.out HY.out
    rotate_left
    rotate_left
    rotate_left
    rotate_left
    cases HV.out.k15 (Hq hall 15).out
    cases HV.out.k16 (Hq hall 16).out
    have h0:=HW_u.out
    rotate_left
    cases HV.out.k14 (Hq hall 14).out
    cases HV.out.k17 (Hq hall 17).out
    have h0:=HL_u.out
    rotate_left
    cases HV.out.k18 (Hq hall 18).out
    have ho:L.getD 21 false=false:=by rcases Akr L 21 with h|h;exact h;exact (Akq hoff (HV.out.q1 h).1).elim
    obtain⟨c0,c1,c2,c3,c4,c5,c6⟩:=(HV.out.r0 ho).at' HAD.out HX.out
    rotate_left
    cases HV.out.k0 (Hq hall 0).out
    cases HV.out.k3 (Hq hall 3).out
    have h0:=HL_u.out
    rotate_left
    ·have H13:=Hq hall 13
     have H19:=Hq hall 19
     cases HV.out.k20 (Hq hall 20).out
     cases HV.out.k13 (Hq hall 13).out
     clear hall hi
     have ho2:L.getD 23 false=false:=by rcases Akr L 23 with h|h;exact h;exact (Akq hoff (HV.out.q2 h)).elim
     obtain⟨wn,hrun,hrow⟩:=(HV.out.r0 hoff).st HAD.out HX.out HVY.out
     refine Akt rfl fun K' HK=>?_
     refine Ar7 hrun rfl _ _ rfl rfl rfl ?_
     go_simp
     cases HV.out
     refine HK.out _ _ ⟨by simp[HJ.out.sz],⟨_,_,_,_,_,_,_,_,_,_,_,_,_,_,_,_,_,_,_,_,_,_,rfl,?_,?_,?_,?_,?_,?_,?_,?_,?_,?_,?_,?_,?_,?_,?_,?_,?_,?_,?_,?_,?_,?_,fun h=>(Akq h (Aki hun)).elim,fun _ _=>hrow,fun h=>(Akq hoff (HV.out.q2 (Uz h))).elim,fun _=>⟨Akm hun H19.out,Akm hun H13.out⟩,fun h=>(Akq hoff (HV.out.q2 (Uz h))).elim⟩⟩
     all_goals exact Um (by assumption)
    cases HV.out.k4 (Hq hall 4).out
    cases HV.out.k7 (Hq hall 7).out
    have h0:=HL_v.out
    rotate_left
    ·have H21:=Hq hall 21
     cases HV.out.k22 (Hq hall 22).out
     cases HV.out.k19 (Hq hall 19).out
     clear hall hi
     obtain⟨wn,hrun,hrow⟩:=(HV.out.r1 H21.out hoff).st HAD.out HYV.out HVX.out
     refine Akt rfl fun K' HK=>?_
     refine Ar7 hrun rfl _ _ rfl rfl rfl ?_
     go_simp
     cases HV.out
     refine HK.out _ _ ⟨by simp[HJ.out.sz],⟨_,_,_,_,_,_,_,_,_,_,_,_,_,_,_,_,_,_,_,_,_,_,rfl,?_,?_,?_,?_,?_,?_,?_,?_,?_,?_,?_,?_,?_,?_,?_,?_,?_,?_,?_,?_,?_,?_,fun h=>(Akq (Dz h) H21.out).elim,fun _ h=>(Akq h (Aki hun)).elim,fun _=>hrow,fun h=>⟨Akm hun (HV.out.q1 (Uz h)).1,Akm hun (HV.out.q1 (Uz h)).2⟩,fun _=>Akm hun H21.out⟩⟩
     all_goals exact Um (by assumption)
    all_goals
     clear hall hi
     refine Akt rfl fun K' HK=>?_
     go_simp
     cases HV.out
     refine HK.out _ _ ⟨by simp[HJ.out.sz],?_⟩
     iterate 22 apply Exists.intro
     refine⟨rfl,?_⟩
     constructor
     all_goals first|exact Um (by assumption)|exact Un (by assumption)|exact Uf (by assumption)|exact fun _=>rfl|assumption|exact Uq hun (by assumption)|exact Uq2 hun (by assumption)|exact Uq3 hun (by assumption)
  ·have hcx:decide ((i:Int)<(n:Int))=false:=by simp;omega
   obtain rfl:i=n:=by omega
   have HF:Hid (SRow V w0 g sp (swR D0 a b i) wr):=HSW.out▸HR.out
   clear hlen
   go_wp2_with fail
   go_end0
   exact⟨rfl,HF.out⟩
structure IXV(V:Lot→Prop)(w0:World)(g:Nat)(sp:List Value)(D:List Lot)(ad:Addr)(N c:Nat)(f:Nat)(bd:Array Value)(a_ b_ i_ j_ jp_:Nat)(x y:Lot)  (L:Array Bool) (W:World) (s37 s38 s39 s40 s41 s42 s43 s44 s45 s46 s47 s48 s49 s50 s51 s52:Value):Prop where
 k0:L.getD 0 false=true→s37=.slice (some ad) N c
 k1:L.getD 1 false=true→s38=.int .i64 (j_:Int)
 k2:L.getD 2 false=true→s39=.slice (some ad) N c
 k3:L.getD 3 false=true→s40=.int .i64 (j_:Int)
 k4:L.getD 4 false=true→s41=.int .i64 (jp_:Int)
 k5:L.getD 5 false=true→s42=.slice (some ad) N c
 k6:L.getD 6 false=true→s43=.int .i64 (j_:Int)
 k7:L.getD 7 false=true→s44=.int .i64 (jp_:Int)
 k8:L.getD 8 false=true→s45=.pointer (some (ad.add (jp_*7)))
 k9:L.getD 9 false=true→s46=.agg #[.string y.id,.string y.inst,.int .i64 y.acq,.int .i64 y.opn,.string y.qty,.string y.cost,.string y.used]
 k10:L.getD 10 false=true→s47=.slice (some ad) N c
 k11:L.getD 11 false=true→s48=.int .i64 (j_:Int)
 k12:L.getD 12 false=true→s49=.pointer (some (ad.add (j_*7)))
 k13:L.getD 13 false=true→s50=.agg #[.string x.id,.string x.inst,.int .i64 x.acq,.int .i64 x.opn,.string x.qty,.string x.cost,.string x.used]
 k14:L.getD 14 false=true→s51=.pointer (some (ad.add (j_*7)))
 k16:L.getD 16 false=true→s52=.pointer (some (ad.add (jp_*7)))
 r0:L.getD 15 false=false→SRow V w0 g sp D W
 r1:L.getD 15 false=true→L.getD 17 false=false→SRow V w0 g sp (D.set j_ y) W
 r2:L.getD 17 false=true→SRow V w0 g sp ((D.set j_ y).set jp_ x) W
 q1:L.getD 15 false=true→L.getD 13 false=true∧L.getD 9 false=true
 q2:L.getD 17 false=true→L.getD 15 false=true
structure IXJ(V:Lot→Prop)(w0:World)(g:Nat)(sp:List Value)(D:List Lot)(ad:Addr)(N c:Nat)(f:Nat)(bd:Array Value)(a_ b_ i_ j_ jp_:Nat)(x y:Lot)(x4 x5 x6 x7 x10 x11 x12 x13 x14 x15 x16 x17 x18 x19 x20 x21 x22 x23 x24 x25 x26 x27 x28 x29 x30 x31 x32 x33 x34 x35 x36:Value)(L:Array Bool)(a:Act)(W:World):Prop where
 sz:L.size=18
 fr:∃s37 s38 s39 s40 s41 s42 s43 s44 s45 s46 s47 s48 s49 s50 s51 s52:Value,a={tmps:=#[.slice (some ad) N c,.int .i64 (a_:Int),.int .i64 (b_:Int),.func (.func f) #[] bd,x4,x5,x6,x7,.int .i64 (i_:Int),.int .i64 (j_:Int),x10,x11,x12,x13,x14,x15,x16,x17,x18,x19,x20,x21,x22,x23,x24,x25,x26,x27,x28,x29,x30,x31,x32,x33,x34,x35,x36,s37,s38,s39,s40,s41,s42,s43,s44,s45,s46,s47,s48,s49,s50,s51,s52],defers:=[]}∧IXV V w0 g sp D ad N c f bd a_ b_ i_ j_ jp_ x y  L W s37 s38 s39 s40 s41 s42 s43 s44 s45 s46 s47 s48 s49 s50 s51 s52
structure ICV(V:Lot→Prop)(w0:World)(g:Nat)(sp:List Value)(D:List Lot)(ad:Addr)(N c:Nat)(f:Nat)(bd:Array Value)(a_ b_ i_ j_ jp_:Nat)(x y:Lot)(zc:Int)(t:Bool)  (L:Array Bool) (W:World) (s18 s19 s20 s21 s22 s23 s24 s25 s26 s27 s28 s29 s30 s31 s32 s33 s34:Value):Prop where
 k0:L.getD 0 false=true→s18=.int .i64 (j_:Int)
 k1:L.getD 1 false=true→s19=.int .i64 (a_:Int)
 k2:L.getD 2 false=true→s20=.bool true
 k3:L.getD 3 false=true→s21=.bool true
 k4:L.getD 4 false=true→s22=.func (.func f) #[] bd
 k5:L.getD 5 false=true→s23=.slice (some ad) N c
 k6:L.getD 6 false=true→s24=.int .i64 (j_:Int)
 k7:L.getD 7 false=true→s25=.pointer (some (ad.add (j_*7)))
 k8:L.getD 8 false=true→s26=.agg #[.string x.id,.string x.inst,.int .i64 x.acq,.int .i64 x.opn,.string x.qty,.string x.cost,.string x.used]
 k9:L.getD 9 false=true→s27=.slice (some ad) N c
 k10:L.getD 10 false=true→s28=.int .i64 (j_:Int)
 k11:L.getD 11 false=true→s29=.int .i64 (jp_:Int)
 k12:L.getD 12 false=true→s30=.pointer (some (ad.add (jp_*7)))
 k13:L.getD 13 false=true→s31=.agg #[.string y.id,.string y.inst,.int .i64 y.acq,.int .i64 y.opn,.string y.qty,.string y.cost,.string y.used]
 k14:L.getD 14 false=true→s32=.int .i64 zc
 k15:L.getD 15 false=true→s33=.bool t
 k16:L.getD 16 false=true→s34=.bool t
 r:SRow V w0 g sp D W
structure ICJ(V:Lot→Prop)(w0:World)(g:Nat)(sp:List Value)(D:List Lot)(ad:Addr)(N c:Nat)(f:Nat)(bd:Array Value)(a_ b_ i_ j_ jp_:Nat)(x y:Lot)(zc:Int)(t:Bool)(x4 x5 x6 x7 x10 x11 x12 x13 x14 x15 x16 x17 x35 x36 x37 x38 x39 x40 x41 x42 x43 x44 x45 x46 x47 x48 x49 x50 x51 x52:Value)(L:Array Bool)(a:Act)(W:World):Prop where
 sz:L.size=17
 fr:∃s18 s19 s20 s21 s22 s23 s24 s25 s26 s27 s28 s29 s30 s31 s32 s33 s34:Value,a={tmps:=#[.slice (some ad) N c,.int .i64 (a_:Int),.int .i64 (b_:Int),.func (.func f) #[] bd,x4,x5,x6,x7,.int .i64 (i_:Int),.int .i64 (j_:Int),x10,x11,x12,x13,x14,x15,x16,x17,s18,s19,s20,s21,s22,s23,s24,s25,s26,s27,s28,s29,s30,s31,s32,s33,s34,x35,x36,x37,x38,x39,x40,x41,x42,x43,x44,x45,x46,x47,x48,x49,x50,x51,x52],defers:=[]}∧ICV V w0 g sp D ad N c f bd a_ b_ i_ j_ jp_ x y zc t  L W s18 s19 s20 s21 s22 s23 s24 s25 s26 s27 s28 s29 s30 s31 s32 s33 s34
theorem Asf(V:Lot→Prop)(cf:Lot→Lot→Int)(lt:Lot→Lot→Bool)(hw:Weak lt)(w0:World)(g N c a b f:Nat)(bd:Array Value)(hlt:∀x y,V x→V y→decide (cf x y<0)=lt x y)(hC:CmpS V cf f bd w0 g)(sp:List Value)(D0:List Lot)(hN:D0.length=N)(hm:N≤1000000)(hab:a≤b)(hb:b≤N)(w:World)(hrow:SRow V w0 g sp D0 w):
 Calls Tryz.prog 150 #[.slice (some ⟨g,0,none⟩) N c,.int .i64 (a:Int),.int .i64 (b:Int),.func (.func f) #[] bd] w fun e w'=>e=.returned (.tuple #[])∧SRow V w0 g sp (Adt lt D0 a b) w':=by
 obtain⟨ad,had⟩:∃ad:Addr,ad=⟨g,0,none⟩:=⟨_,rfl⟩
 rw[←had]
 have HAD:=hI had
 have HROW:=hI hrow
 have HNN:=hI hN
 have HLT:=hI hlt
 have HC:=hI hC
 have HWK:=hI hw
 clear had hrow hN hlt hC hw
 have hw1:IntKind.i64.wrap ((a:Int)+1)=(a:Int)+1:=by rw[Aay];omega
 go_enter Tryz.func150,Tryz.ntmps150
 go_wp2_with fail
 go_loopw [8] (fun v wr=>∃(i:Nat) (D:List Lot),v=.int .i64 (i:Int)∧a<i∧i≤b+1∧D.length=N∧D=Adt lt D0 a (if i≤b then i else b)∧SRow V w0 g sp D wr) (fun v _=>b+1-(intOf v).toNat)
 case atStart =>
  refine⟨a+1,D0,by go_num,by omega,by omega,HNN.out,?_,HROW.out⟩
  split
  ·rw[Adv lt (by rw[HNN.out];omega)]
  ·rw[show b=a from by omega,Adu]
 case round =>
  obtain⟨i,D,rfl,hai,hib,hlen,hD,hr⟩:=hrel
  have HR:=hI hr
  have HD:=hI hD
  have HLEN0:=hI hlen
  clear hr hD hlen hw1
  rcases Aam i b with hlt|hge
  ·have hcx:decide ((i:Int)<(b:Int))=true:=by simp;omega
   obtain⟨z,hz⟩:∃z,D0[i]?=some z:=⟨_,Aae (by rw[HNN.out];omega)⟩
   have HS0:Hid (Sh (D0.take a) (ssort lt ((D0.take i).drop a)) z (D0.drop (i+1)) i D (fun y=>lt z y=true)):=by
    have h:=HD.out
    rw[if_pos (by omega)] at h
    rw[Hid,h];exact Adx lt (by omega) hz
   have HEND:=hI (Ady lt (show a≤i by omega) hz)
   have HXL:Hid ((D0.take a).length=a):=by rw[Hid,Aat,HNN.out];omega
   have HIB:Hid (i+1≤b):=hlt
   clear hz
   go_wp2_with fail
   go_loopw [9] (fun v wr=>∃(j:Nat) (D:List Lot),v=.int .i64 (j:Int)∧a≤j∧j≤i∧D.length=N∧Sh (D0.take a) (ssort lt ((D0.take i).drop a)) z (D0.drop (i+1)) j D (fun y=>lt z y=true)∧SRow V w0 g sp D wr) (fun v _=>(intOf v).toNat)
   case atStart=>exact⟨i,D,rfl,by omega,by omega,HLEN0.out,HS0.out,HR.out⟩
   case round =>
    clear HD HR HLEN0
    obtain⟨j,D,rfl,haj,hji,hlen,hsh,hr⟩:=hrel
    have HR:=hI hr
    have HSH:=hI hsh
    have HLEN:=hI hlen
    have HSTOP:Hid (j=a∨ltAt lt D j (j-1)=false→D=Adt lt D0 a (if i+1≤b then i+1 else b)):=fun h=>by
     rw[if_pos HIB.out,←HEND.out]
     exact HSH.out.stop lt HWK.out (Adc lt HWK.out _) (by rw[HXL.out];exact h)
    clear hr hsh
    rcases Nat.eq_or_lt_of_le haj with he|hpos
    ·have tg:decide ((j:Int) > (a:Int))=false:=Aa4 (by omega)
     have tg':decide ((a:Int)<(j:Int))=false:=Aa4 (by omega)
     have tg2:¬a<j:=by omega
     have HF:=hI (HSTOP.out (.inl he.symm))
     clear he hlen
     go_wp2_with fail
     go_quiet (fail)
     go_wp2_with fail
     go_roundw
     case rel=>exact⟨i+1,D,by go_num,by omega,by omega,HLEN.out,HF.out,by first|exact HR.out.drew|exact HR.out.below (Acz (Below.refl _ _) _)⟩
     case measure=>simp[intOf];omega
    ·obtain⟨jp,hj⟩:∃jp,j=jp+1:=⟨j-1,by omega⟩
     have HJ:=hI hj
     have HGT:Hid (decide ((a:Int)<(j:Int))=true):=Aa3 (by omega)
     have HW_jp:Hid (IntKind.i64.wrap ((j:Int)-1)=(jp:Int)):=by rw[Hid,Aay];omega
     have HL_j:Hid ((j:Int)<(N:Int)):=by show (j:Int)<_;omega
     have HL_jp:Hid ((jp:Int)<(N:Int)):=by show (jp:Int)<_;omega
     obtain⟨x,hx⟩:∃x,D[j]?=some x:=⟨_,Aae (by omega)⟩
     obtain⟨y,hy⟩:∃y,D[jp]?=some y:=⟨_,Aae (by omega)⟩
     have HX:Hid (D[j]?=some x):=hx
     have HY:Hid (D[jp]?=some y):=hy
     have HYV:Hid ((D.set j y)[jp]?=some y):=by rw[Hid,List.getElem?_set_ne (by omega)];exact hy
     have HVX:Hid (V x):=HR.out.ok x (Aas hx)
     have HVY:Hid (V y):=HR.out.ok y (Aas hy)
     have hxz:x=z:=by have h:=HSH.out.at;rw[hx] at h;exact Option.some.inj h
     obtain⟨zc,hzc⟩:∃zc,cf x y=zc:=⟨_,rfl⟩
     obtain⟨t,ht⟩:∃t,lt x y=t:=⟨_,rfl⟩
     have hzt:=HLT.out x y HVX.out HVY.out
     rw[ht,hzc] at hzt
     have HZT:=hI hzt
     have hcr:=fun W (h:SRow V w0 g sp D W)=>HC.out.at HVX.out HVY.out W h
     rw[hzc] at hcr
     have HCR:=hI hcr
     have HSTOP:Hid (j=a∨t=false→D=Adt lt D0 a (if i+1≤b then i+1 else b)):=fun h=>HSTOP.out (h.imp_right fun h=>by rw[show j-1=jp from by omega,Adq lt hx hy,ht,h])
     have HSTEP:Hid (t=true→Sh (D0.take a) (ssort lt ((D0.take i).drop a)) z (D0.drop (i+1)) jp (swp D j jp) (fun y=>lt z y=true)):=fun h=>by
      have h2:=HSH.out.down (y:=y) (by rw[HXL.out];exact hpos) (by rw[show j-1=jp from by omega];exact hy) (by rw[←hxz,ht,h])
      rw[show j-1=jp from by omega] at h2
      exact h2
     have hrow0:=HR.out.drew
     clear hx hy hxz hzc ht hzt hcr hj hlen
     go_upto_region 4 with fail
     have mixed:Tryz.prog.follows .mixedOrders=true:=by kernel_rfl
     refine wp_region_any mixed (Akw (ICJ V w0 g sp D ad N c f bd a b i j jp x y zc t _ _ _ _ _ _ _ _ _ _ _ _ _ _ _ _ _ _ _ _ _ _ _ _ _ _ _ _ _ _) ?stIC ?dnIC _ _ _ _ ⟨by simp,⟨_,_,_,_,_,_,_,_,_,_,_,_,_,_,_,_,_,rfl,fun h=>by simp at h,fun h=>by simp at h,fun h=>by simp at h,fun h=>by simp at h,fun h=>by simp at h,fun h=>by simp at h,fun h=>by simp at h,fun h=>by simp at h,fun h=>by simp at h,fun h=>by simp at h,fun h=>by simp at h,fun h=>by simp at h,fun h=>by simp at h,fun h=>by simp at h,fun h=>by simp at h,fun h=>by simp at h,fun h=>by simp at h,hrow0⟩⟩ (by decide))
     case dnIC =>
      intro L a w' hj hr
      have all:=Akv hr hj.sz (by kernel_rfl)
      obtain⟨s18,s19,s20,s21,s22,s23,s24,s25,s26,s27,s28,s29,s30,s31,s32,s33,s34,rfl,hv⟩:=hj.fr
      have e16:=hv.k16 (all 16 (by omega))
      subst e16
      have HR1:=hI hv.r
      clear all hv hj hr
      cases t
      case false =>
       go_wp2_with fail
       go_roundw
       case rel=>exact⟨i+1,D,by go_num,by omega,by omega,HLEN.out,HSTOP.out (.inr (by first|rfl|trivial)),HR1.out⟩
       case measure=>simp[intOf];omega
      have hrow0:=HR1.out.drew
      go_upto_region 6 with fail
      have mixed:Tryz.prog.follows .mixedOrders=true:=by kernel_rfl
      refine wp_region_any mixed (Akw (IXJ V w0 g sp D ad N c f bd a b i j jp x y _ _ _ _ _ _ _ _ _ _ _ _ _ _ _ _ _ _ _ _ _ _ _ _ _ _ _ _ _ _ _) ?stIX ?dnIX _ _ _ _ ⟨by simp,⟨_,_,_,_,_,_,_,_,_,_,_,_,_,_,_,_,rfl,fun h=>by simp at h,fun h=>by simp at h,fun h=>by simp at h,fun h=>by simp at h,fun h=>by simp at h,fun h=>by simp at h,fun h=>by simp at h,fun h=>by simp at h,fun h=>by simp at h,fun h=>by simp at h,fun h=>by simp at h,fun h=>by simp at h,fun h=>by simp at h,fun h=>by simp at h,fun h=>by simp at h,fun h=>by simp at h,fun _=>hrow0,fun h=>by simp at h,fun h=>by simp at h,fun h=>by simp at h,fun h=>by simp at h⟩⟩ (by decide))
      case dnIX =>
       intro L a w' hj hr
       have all:=Akv hr hj.sz (by kernel_rfl)
       obtain⟨s37,s38,s39,s40,s41,s42,s43,s44,s45,s46,s47,s48,s49,s50,s51,s52,rfl,hv⟩:=hj.fr
       have HRW:=hI (hv.r2 (all 17 (by omega)))
       clear all hv hj hr
       have hwr:=HW_jp.out
       go_wp2_with fail
       go_roundw
       case rel=>exact⟨jp,_,rfl,by have:=HJ.out;omega,by have:=HJ.out;omega,by rw[←Adg D j jp,Adh HX.out HY.out] at *;first|assumption|(rw[List.length_set,List.length_set];exact HLEN.out),by have h:=HSTEP.out (by first|rfl|trivial);rw[Adh HX.out HY.out] at h;exact h,HRW.out⟩
       case measure=>have hj:=HJ.out;simp[intOf];omega
      case stIX =>
       intro L a w' hj i hi
       obtain⟨hun,o,ho,hall⟩:=mem_ready.1 hi
       have hoff:=Akk hun
       have hlt:=(Aab.1 ho).1
       simp at hlt
       obtain⟨s37,s38,s39,s40,s41,s42,s43,s44,s45,s46,s47,s48,s49,s50,s51,s52,rfl,hv⟩:=hj.fr
       have HV:=hI hv
       have HJ:=hI hj
       clear hv hj
       rcases (show i=0∨i=1∨i=2∨i=3∨i=4∨i=5∨i=6∨i=7∨i=8∨i=9∨i=10∨i=11∨i=12∨i=13∨i=14∨i=15∨i=16∨i=17 from by omega) with rfl|rfl|rfl|rfl|rfl|rfl|rfl|rfl|rfl|rfl|rfl|rfl|rfl|rfl|rfl|rfl|rfl|rfl
       all_goals simp at ho
       all_goals subst ho
       rotate_left
       rotate_left
       rotate_left
       rotate_left
       cases HV.out.k3 (Hq hall 3).out
       have h0:=HW_jp.out
       rotate_left
       rotate_left
       rotate_left
       cases HV.out.k6 (Hq hall 6).out
       have h0:=HW_jp.out
       rotate_left
       cases HV.out.k5 (Hq hall 5).out
       cases HV.out.k7 (Hq hall 7).out
       have h0:=HL_jp.out
       rotate_left
       cases HV.out.k8 (Hq hall 8).out
       have ho:L.getD 15 false=false:=by rcases Akr L 15 with h|h;exact h;exact (Akq hoff (HV.out.q1 h).2).elim
       obtain⟨c0,c1,c2,c3,c4,c5,c6⟩:=(HV.out.r0 ho).at' HAD.out HY.out
       rotate_left
       rotate_left
       rotate_left
       cases HV.out.k10 (Hq hall 10).out
       cases HV.out.k11 (Hq hall 11).out
       have h0:=HL_j.out
       rotate_left
       cases HV.out.k12 (Hq hall 12).out
       have ho:L.getD 15 false=false:=by rcases Akr L 15 with h|h;exact h;exact (Akq hoff (HV.out.q1 h).1).elim
       obtain⟨c0,c1,c2,c3,c4,c5,c6⟩:=(HV.out.r0 ho).at' HAD.out HX.out
       rotate_left
       cases HV.out.k0 (Hq hall 0).out
       cases HV.out.k1 (Hq hall 1).out
       have h0:=HL_j.out
       rotate_left
       ·have H9:=Hq hall 9
        have H13:=Hq hall 13
        cases HV.out.k14 (Hq hall 14).out
        cases HV.out.k9 (Hq hall 9).out
        clear hall hi
        have ho2:L.getD 17 false=false:=by rcases Akr L 17 with h|h;exact h;exact (Akq hoff (HV.out.q2 h)).elim
        obtain⟨wn,hrun,hrow⟩:=(HV.out.r0 hoff).st HAD.out HX.out HVY.out
        refine Akt rfl fun K' HK=>?_
        refine Ar7 hrun rfl _ _ rfl rfl rfl ?_
        go_simp
        cases HV.out
        refine HK.out _ _ ⟨by simp[HJ.out.sz],⟨_,_,_,_,_,_,_,_,_,_,_,_,_,_,_,_,rfl,?_,?_,?_,?_,?_,?_,?_,?_,?_,?_,?_,?_,?_,?_,?_,?_,fun h=>(Akq h (Aki hun)).elim,fun _ _=>hrow,fun h=>(Akq hoff (HV.out.q2 (Uz h))).elim,fun _=>⟨Akm hun H13.out,Akm hun H9.out⟩,fun h=>(Akq hoff (HV.out.q2 (Uz h))).elim⟩⟩
        all_goals exact Um (by assumption)
       cases HV.out.k2 (Hq hall 2).out
       cases HV.out.k4 (Hq hall 4).out
       have h0:=HL_jp.out
       rotate_left
       ·have H15:=Hq hall 15
        cases HV.out.k16 (Hq hall 16).out
        cases HV.out.k13 (Hq hall 13).out
        clear hall hi
        obtain⟨wn,hrun,hrow⟩:=(HV.out.r1 H15.out hoff).st HAD.out HYV.out HVX.out
        refine Akt rfl fun K' HK=>?_
        refine Ar7 hrun rfl _ _ rfl rfl rfl ?_
        go_simp
        cases HV.out
        refine HK.out _ _ ⟨by simp[HJ.out.sz],⟨_,_,_,_,_,_,_,_,_,_,_,_,_,_,_,_,rfl,?_,?_,?_,?_,?_,?_,?_,?_,?_,?_,?_,?_,?_,?_,?_,?_,fun h=>(Akq (Dz h) H15.out).elim,fun _ h=>(Akq h (Aki hun)).elim,fun _=>hrow,fun h=>⟨Akm hun (HV.out.q1 (Uz h)).1,Akm hun (HV.out.q1 (Uz h)).2⟩,fun _=>Akm hun H15.out⟩⟩
        all_goals exact Um (by assumption)
       all_goals
        clear hall hi
        refine Akt rfl fun K' HK=>?_
        go_simp
        cases HV.out
        refine HK.out _ _ ⟨by simp[HJ.out.sz],?_⟩
        iterate 16 apply Exists.intro
        refine⟨rfl,?_⟩
        constructor
        all_goals first|exact Um (by assumption)|exact Un (by assumption)|exact Uf (by assumption)|exact fun _=>rfl|assumption|exact Uq hun (by assumption)|exact Uq2 hun (by assumption)|exact Uq3 hun (by assumption)
     case stIC =>
      intro L a w' hj i hi
      obtain⟨hun,o,ho,hall⟩:=mem_ready.1 hi
      have hoff:=Akk hun
      have hlt:=(Aab.1 ho).1
      simp at hlt
      obtain⟨s18,s19,s20,s21,s22,s23,s24,s25,s26,s27,s28,s29,s30,s31,s32,s33,s34,rfl,hv⟩:=hj.fr
      have HV:=hI hv
      have HJ:=hI hj
      clear hv hj
      rcases (show i=0∨i=1∨i=2∨i=3∨i=4∨i=5∨i=6∨i=7∨i=8∨i=9∨i=10∨i=11∨i=12∨i=13∨i=14∨i=15∨i=16 from by omega) with rfl|rfl|rfl|rfl|rfl|rfl|rfl|rfl|rfl|rfl|rfl|rfl|rfl|rfl|rfl|rfl|rfl
      all_goals simp at ho
      all_goals subst ho
      rotate_left
      rotate_left
      cases HV.out.k0 (Hq hall 0).out
      cases HV.out.k1 (Hq hall 1).out
      have h0:=HGT.out
      rotate_left
      cases HV.out.k2 (Hq hall 2).out
      rotate_left
      cases HV.out.k3 (Hq hall 3).out
      rotate_left
      cases HV.out.k3 (Hq hall 3).out
      rotate_left
      cases HV.out.k3 (Hq hall 3).out
      rotate_left
      cases HV.out.k5 (Hq hall 5).out
      cases HV.out.k6 (Hq hall 6).out
      cases HV.out.k3 (Hq hall 3).out
      have h0:=HL_j.out
      rotate_left
      cases HV.out.k7 (Hq hall 7).out
      cases HV.out.k3 (Hq hall 3).out
      obtain⟨c0,c1,c2,c3,c4,c5,c6⟩:=HV.out.r.at' HAD.out HX.out
      rotate_left
      cases HV.out.k3 (Hq hall 3).out
      rotate_left
      cases HV.out.k3 (Hq hall 3).out
      rotate_left
      cases HV.out.k10 (Hq hall 10).out
      cases HV.out.k3 (Hq hall 3).out
      have h0:=HW_jp.out
      rotate_left
      cases HV.out.k9 (Hq hall 9).out
      cases HV.out.k11 (Hq hall 11).out
      cases HV.out.k3 (Hq hall 3).out
      have h0:=HL_jp.out
      rotate_left
      cases HV.out.k12 (Hq hall 12).out
      cases HV.out.k3 (Hq hall 3).out
      obtain⟨c0,c1,c2,c3,c4,c5,c6⟩:=HV.out.r.at' HAD.out HY.out
      rotate_left
      ·cases HV.out.k4 (Hq hall 4).out
       cases HV.out.k8 (Hq hall 8).out
       cases HV.out.k13 (Hq hall 13).out
       cases HV.out.k3 (Hq hall 3).out
       clear hall hi
       have hen:=HC.out.en
       refine Akt rfl fun K' HK=>?_
       go_simp
       refine (HCR.out w' HV.out.r).mono ?_
       rintro e wn ⟨rfl,bn⟩
       cases HV.out
       refine HK.out _ _ ⟨by simp[HJ.out.sz],?_⟩
       iterate 17 apply Exists.intro
       refine⟨rfl,?_⟩
       constructor
       case k14=>exact fun _=>rfl
       case r=>exact HV.out.r.below bn
       all_goals exact Um (by assumption)
      cases HV.out.k14 (Hq hall 14).out
      cases HV.out.k3 (Hq hall 3).out
      have hzt:=HZT.out
      rotate_left
      cases HV.out.k3 (Hq hall 3).out
      cases HV.out.k15 (Hq hall 15).out
      rotate_left
      all_goals
       clear hall hi
       refine Akt rfl fun K' HK=>?_
       go_simp
       cases HV.out
       refine HK.out _ _ ⟨by simp[HJ.out.sz],?_⟩
       iterate 17 apply Exists.intro
       refine⟨rfl,?_⟩
       constructor
       all_goals first|exact Um (by assumption)|exact Un (by assumption)|exact Uf (by assumption)|exact fun _=>rfl|assumption
  ·have hcx:decide ((i:Int)<(b:Int))=false:=by simp;omega
   have HF:Hid (SRow V w0 g sp (Adt lt D0 a b) wr):=HR.out.same (by rw[HD.out];split<;>first|rfl|(congr 1;omega))
   go_wp2_with fail
   go_end0
   exact⟨rfl,HF.out⟩
end Go.Proofs.YtcmgmemffncbhabGreatDoor
namespace Go.Proofs.YtcmgmemffncbhabGreatDoor
open Go.RowKit Tr Go.Shelf
theorem Asg(x:Int)(w:World):Calls Tryz.prog 149 #[.int .i64 x] w fun e w'=>e=.returned (.bool false)∧w'=w:=by
 have t:(x != x)=false:=by simp
 go_enter Tryz.func149,Tryz.ntmps149
 go_wp2_with fail
 go_ret
 exact⟨rfl,rfl⟩
theorem Ash(x y:Int)(w:World):Calls Tryz.prog 113 #[.int .i64 x,.int .i64 y] w fun e w'=>e=.returned (.int .i64 (cmpI x y))∧w'=w:=by
 have HN:=hI (fun z W=>Asg z W)
 have HI:Hid (cmpI x y=if x<y then -1 else if x=y then 0 else 1):=rfl
 generalize cmpI x y=z at HI
 go_enter Tryz.func113,Tryz.ntmps113
 go_wp2_with fail
 refine (HN.out _ _).mono ?_
 rintro e w1 ⟨rfl,rfl⟩
 go_wp2_with fail
 refine (HN.out _ _).mono ?_
 rintro e w1 ⟨rfl,rfl⟩
 rcases Int.lt_trichotomy x y with h|h|h
 ·have t1:decide (x<y)=true:=Aa3 h
  have HZ:Hid (z=-1):=by rw[Hid,HI.out,if_pos h]
  clear h
  go_wp2_with fail
  go_ret
  exact⟨by rw[HZ.out];rfl,rfl⟩
 ·have t1:decide (x<y)=false:=Aa4 (by omega)
  have t2:decide (x > y)=false:=Aa4 (by omega)
  have t3:decide (y<x)=false:=t2
  have HZ:Hid (z=0):=by rw[Hid,HI.out,if_neg (by omega),if_pos h]
  clear h
  go_wp2_with fail
  go_ret
  exact⟨by rw[HZ.out];rfl,rfl⟩
 ·have t1:decide (x<y)=false:=Aa4 (by omega)
  have t2:decide (x > y)=true:=Aa3 (by omega)
  have t3:decide (y<x)=true:=t2
  have HZ:Hid (z=1):=by rw[Hid,HI.out,if_neg (by omega),if_neg (by omega)]
  clear h
  go_wp2_with fail
  go_ret
  exact⟨by rw[HZ.out];rfl,rfl⟩
theorem lbox2(a b:Lot)(w:World):∃W0 W1,w.alloc (.cells a.cells 38)=W0∧W0.alloc (.cells b.cells 38)=W1∧Below w.heap.size w W1∧W0.heap.size=w.heap.size+1∧LotBox W1 w.heap.size a∧LotBox W1 (w.heap.size+1) b:=by
 obtain⟨W0,hW0,hB0,hk0⟩:=lbox a w
 obtain⟨W1,hW1,hB1,hk1⟩:=lbox b W0
 have hsz:W0.heap.size=w.heap.size+1:=by rw[←hW0];simp
 rw[hsz] at hk1
 exact⟨W0,W1,hW0,hW1,hB0.trans (hB1.mono hB0.size),hsz,LotBox.below (l:=a) (B:=w.heap.size) hk0 hB1,hk1⟩
theorem Asi(a b:Lot)(w:World):Calls Tryz.prog 112 #[a.enc,b.enc] w fun e w'=>e=.returned (.int .i64 (cmpI a.acq b.acq))∧Below w.heap.size w w':=by
 obtain⟨W0,W1,hW0,hW1,hb,hsz,k0,k1⟩:=lbox2 a b w
 have c0:=Aaa k0 2
 have c1:=Aaa k1 2
 simp[Lot.cells] at c0 c1
 have HB:=hI hb
 have HC:=hI (fun W=>Ash a.acq b.acq W)
 clear k0 k1 hb
 unfold Lot.enc Lot.cells at *
 go_enter Tryz.func112,Tryz.ntmps112
 go_wp2_with fail
 refine (HC.out _).mono ?_
 rintro e w1 ⟨rfl,rfl⟩
 go_wp2_with fail
 go_ret
 exact⟨rfl,HB.out⟩
structure UNV(wS:World)(x y:Lot)(B0 B1:Nat)(z:Int)  (L:Array Bool) (W:World) (s4 s5 s6 s7 s8 s9 s10 s11 s12 s13 s14 s15:Value):Prop where
 k0:L.getD 0 false=true→s5=.pointer (some ⟨B0,5,none⟩)
 k1:L.getD 1 false=true→s6=.string x.cost
 k2:L.getD 2 false=true→s7=.pointer (some ⟨B1,4,none⟩)
 k3:L.getD 3 false=true→s8=.string y.qty
 k4:L.getD 4 false=true→s9=.string (I (vl x.cost*vl y.qty))
 k5:L.getD 5 false=true→s10=.pointer (some ⟨B1,5,none⟩)
 k6:L.getD 6 false=true→s11=.string y.cost
 k7:L.getD 7 false=true→s12=.pointer (some ⟨B0,4,none⟩)
 k8:L.getD 8 false=true→s13=.string x.qty
 k9:L.getD 9 false=true→s14=.string (I (vl y.cost*vl x.qty))
 k10:L.getD 10 false=true→s15=.int .i64 z
 k11:L.getD 11 false=true→s4=.int .i64 z
 g:Below wS.heap.size wS W
structure UNJ(wS:World)(x y:Lot)(B0 B1:Nat)(z:Int)(x0 x1:Value)(L:Array Bool)(a:Act)(W:World):Prop where
 sz:L.size=12
 fr:∃s4 s5 s6 s7 s8 s9 s10 s11 s12 s13 s14 s15:Value,a={tmps:=#[x0,x1,.pointer (some ⟨B0,0,none⟩),.pointer (some ⟨B1,0,none⟩),s4,s5,s6,s7,s8,s9,s10,s11,s12,s13,s14,s15],defers:=[]}∧UNV wS x y B0 B1 z  L W s4 s5 s6 s7 s8 s9 s10 s11 s12 s13 s14 s15
theorem Asj(a b:Lot)(ha:a.sized)(hb:b.sized)(w:World)(ht:Tabs w):Calls Tryz.prog 116 #[a.enc,b.enc] w fun e w'=>e=.returned (.int .i64 (cmpI (vl a.cost*vl b.qty) (vl b.cost*vl a.qty)))∧Below w.heap.size w w':=by
 obtain⟨W0,W1,hW0,hW1,hB,hsz,k0,k1⟩:=lbox2 a b w
 obtain⟨_,_,a3,a4,_⟩:=id ha
 obtain⟨_,_,b3,b4,_⟩:=id hb
 have HK0:=hI k0
 have HK1:=hI k1
 have HB:=hI hB
 have HT:=hI (ht.below hB)
 have HM1:=hI (fun W (h:Below W1.heap.size W1 W)=>Agn a.cost b.qty W (by omega) (by omega) (HT.out.below h))
 have HM2:=hI (fun W (h:Below W1.heap.size W1 W)=>Agn b.cost a.qty W (by omega) (by omega) (HT.out.below h))
 obtain⟨z,hz⟩:∃z,cmpI (vl a.cost*vl b.qty) (vl b.cost*vl a.qty)=z:=⟨_,rfl⟩
 have s1:(I (vl a.cost*vl b.qty)).size≤4000000:=Aap (Aen (Aer (vl_lt a.cost) (vl_lt b.qty))) (by omega)
 have s2:(I (vl b.cost*vl a.qty)).size≤4000000:=Aap (Aen (Aer (vl_lt b.cost) (vl_lt a.qty))) (by omega)
 have hcm:=fun W=>Agu (I (vl a.cost*vl b.qty)) (I (vl b.cost*vl a.qty)) W s1 s2
 rw[vl_I,vl_I,hz] at hcm
 have HCM:=hI hcm
 have HZ:=hI hz
 have hgS:Below W1.heap.size W1 W1.drew:=(Below.refl _ _).drew
 rw[hz]
 clear k0 k1 hB ht a3 a4 b3 b4 s1 s2 hcm hz
 unfold Lot.enc Lot.cells at *
 go_enter Tryz.func116,Tryz.ntmps116
 go_upto_region 1 with fail
 have mixed:Tryz.prog.follows .mixedOrders=true:=by kernel_rfl
 refine wp_region_any mixed (Akw (UNJ W1 a b w.heap.size (w.heap.size+1) z _ _) ?stUN ?dnUN _ _ _ _ ⟨by simp,⟨_,_,_,_,_,_,_,_,_,_,_,_,rfl,fun h=>by simp at h,fun h=>by simp at h,fun h=>by simp at h,fun h=>by simp at h,fun h=>by simp at h,fun h=>by simp at h,fun h=>by simp at h,fun h=>by simp at h,fun h=>by simp at h,fun h=>by simp at h,fun h=>by simp at h,fun h=>by simp at h,hgS⟩⟩ (by decide))
 case dnUN =>
  intro L a w' hj hr
  have all:=Akv hr hj.sz (by kernel_rfl)
  obtain⟨s4,s5,s6,s7,s8,s9,s10,s11,s12,s13,s14,s15,rfl,hv⟩:=hj.fr
  have e11:=hv.k11 (all 11 (by omega))
  subst e11
  have HF:=hI (HB.out.trans (hv.g.mono HB.out.size))
  clear all hv hj hr
  go_wp2_with fail
  go_ret
  exact⟨rfl,HF.out⟩
 case stUN =>
  intro L a w' hj i hi
  obtain⟨hun,o,ho,hall⟩:=mem_ready.1 hi
  have hoff:=Akk hun
  have hlt:=(Aab.1 ho).1
  simp at hlt
  obtain⟨s4,s5,s6,s7,s8,s9,s10,s11,s12,s13,s14,s15,rfl,hv⟩:=hj.fr
  have HV:=hI hv
  have HJ:=hI hj
  clear hv hj
  rcases (show i=0∨i=1∨i=2∨i=3∨i=4∨i=5∨i=6∨i=7∨i=8∨i=9∨i=10∨i=11 from by omega) with rfl|rfl|rfl|rfl|rfl|rfl|rfl|rfl|rfl|rfl|rfl|rfl
  all_goals simp at ho
  all_goals subst ho
  rotate_left
  cases HV.out.k0 (Hq hall 0).out
  have hk:=HK0.out.below HV.out.g
  obtain⟨c0,c1,c2,c3,c4,c5,c6⟩:=lbc hk
  rotate_left
  rotate_left
  cases HV.out.k2 (Hq hall 2).out
  have hk:=HK1.out.below HV.out.g
  obtain⟨c0,c1,c2,c3,c4,c5,c6⟩:=lbc hk
  rotate_left
  ·cases HV.out.k1 (Hq hall 1).out
   cases HV.out.k3 (Hq hall 3).out
   clear hall hi
   refine Akt rfl fun K' HK=>?_
   go_simp
   refine (HM1.out w' HV.out.g).mono ?_
   rintro e wn ⟨rfl,bn⟩
   cases HV.out
   refine HK.out _ _ ⟨by simp[HJ.out.sz],⟨_,_,_,_,_,_,_,_,_,_,_,_,rfl,?_,?_,?_,?_,fun _=>rfl,?_,?_,?_,?_,?_,?_,?_,HV.out.g.trans (bn.mono HV.out.g.size)⟩⟩
   all_goals exact Um (by assumption)
  rotate_left
  cases HV.out.k5 (Hq hall 5).out
  have hk:=HK1.out.below HV.out.g
  obtain⟨c0,c1,c2,c3,c4,c5,c6⟩:=lbc hk
  rotate_left
  rotate_left
  cases HV.out.k7 (Hq hall 7).out
  have hk:=HK0.out.below HV.out.g
  obtain⟨c0,c1,c2,c3,c4,c5,c6⟩:=lbc hk
  rotate_left
  ·cases HV.out.k6 (Hq hall 6).out
   cases HV.out.k8 (Hq hall 8).out
   clear hall hi
   refine Akt rfl fun K' HK=>?_
   go_simp
   refine (HM2.out w' HV.out.g).mono ?_
   rintro e wn ⟨rfl,bn⟩
   cases HV.out
   refine HK.out _ _ ⟨by simp[HJ.out.sz],⟨_,_,_,_,_,_,_,_,_,_,_,_,rfl,?_,?_,?_,?_,?_,?_,?_,?_,?_,fun _=>rfl,?_,?_,HV.out.g.trans (bn.mono HV.out.g.size)⟩⟩
   all_goals exact Um (by assumption)
  ·cases HV.out.k4 (Hq hall 4).out
   cases HV.out.k9 (Hq hall 9).out
   clear hall hi
   refine Akt rfl fun K' HK=>?_
   go_simp
   refine (HCM.out w').mono ?_
   rintro e wn ⟨rfl,bn⟩
   cases HV.out
   refine HK.out _ _ ⟨by simp[HJ.out.sz],⟨_,_,_,_,_,_,_,_,_,_,_,_,rfl,?_,?_,?_,?_,?_,?_,?_,?_,?_,?_,fun _=>rfl,?_,HV.out.g.trans (bn.mono HV.out.g.size)⟩⟩
   all_goals exact Um (by assumption)
  cases HV.out.k10 (Hq hall 10).out
  rotate_left
  all_goals
   clear hall hi
   refine Akt rfl fun K' HK=>?_
   go_simp
   cases HV.out
   refine HK.out _ _ ⟨by simp[HJ.out.sz],?_⟩
   iterate 12 apply Exists.intro
   refine⟨rfl,?_⟩
   constructor
   all_goals first|exact Um (by assumption)|exact Un (by assumption)|exact Uf (by assumption)|exact fun _=>rfl|assumption
theorem Ask(x y:Int)(B c:Nat)(w:World)(hB:w.heap[B]?=some (.cells #[.int .i64 x,.int .i64 y] 3 (0,0))):
 Calls Tryz.prog 115 #[.slice (some ⟨B,0,none⟩) 2 c] w fun e w'=>e=.returned (.int .i64 (if x=0 then y else x))∧w'=w:=by
 have c0:=Aaa hB 0
 have c1:=Aaa hB 1
 simp at c0 c1
 clear hB
 by_cases hx:x=0
 ·subst hx
  by_cases hy:y=0
  ·subst hy
   go_enter Tryz.func115,Tryz.ntmps115
   go_wp2_with fail
   refine wp_loop_rounds 3 ?_
   rw[rounds_succ]
   go_wp2_with fail
   rw[rounds_succ]
   go_wp2_with fail
   rw[rounds_succ]
   go_wp2_with fail
   go_ret
   exact⟨rfl,rfl⟩
  ·have t2:(y==0)=false:=Aaj.2 hy
   have t3:(y != 0)=true:=by rw[bne,t2];rfl
   go_enter Tryz.func115,Tryz.ntmps115
   go_wp2_with fail
   refine wp_loop_rounds 3 ?_
   rw[rounds_succ]
   go_wp2_with fail
   rw[rounds_succ]
   go_wp2_with fail
   go_ret
   exact⟨rfl,rfl⟩
 ·have t2:(x==0)=false:=Aaj.2 hx
  have t3:(x != 0)=true:=by rw[bne,t2];rfl
  have HX:=hI hx
  clear hx
  go_enter Tryz.func115,Tryz.ntmps115
  go_wp2_with fail
  refine wp_loop_rounds 3 ?_
  rw[rounds_succ]
  go_wp2_with fail
  go_ret
  exact⟨by first|rfl|(rw[if_neg HX.out];rfl),rfl⟩
structure ULV(wS:World)(x y:Lot)(u v z:Int)(bf B0 B1:Nat)(Bn:Nat)(L:Array Bool)(W:World)(s5 s6 s7 s8 s9 s10 s11 s12 s13 s14:Value):Prop where
 k0:L.getD 0 false=true→s6=.agg #[.string x.id,.string x.inst,.int .i64 x.acq,.int .i64 x.opn,.string x.qty,.string x.cost,.string x.used]
 k1:L.getD 1 false=true→s7=.agg #[.string y.id,.string y.inst,.int .i64 y.acq,.int .i64 y.opn,.string y.qty,.string y.cost,.string y.used]
 k2:L.getD 2 false=true→s8=.int .i64 u
 k3:L.getD 3 false=true→s9=.func (.func 112) #[] #[]
 k4:L.getD 4 false=true→s10=.agg #[.string x.id,.string x.inst,.int .i64 x.acq,.int .i64 x.opn,.string x.qty,.string x.cost,.string x.used]
 k5:L.getD 5 false=true→s11=.agg #[.string y.id,.string y.inst,.int .i64 y.acq,.int .i64 y.opn,.string y.qty,.string y.cost,.string y.used]
 k6:L.getD 6 false=true→s12=.int .i64 v
 k7:L.getD 7 false=true→s13=.slice (some ⟨Bn,0,none⟩) 2 2
 k8:L.getD 8 false=true→s14=.int .i64 z
 k9:L.getD 9 false=true→s5=.int .i64 z
 g:Below wS.heap.size wS W
 bx:L.getD 7 false=true→W.heap[Bn]?=some (.cells #[.int .i64 u,.int .i64 v] 3 (0,0))
structure ULJ(wS:World)(x y:Lot)(u v z:Int)(bf B0 B1:Nat)(x0 x1:Value)(L:Array Bool)(a:Act)(W:World):Prop where
 sz:L.size=10
 fr:∃Bn:Nat,∃s5 s6 s7 s8 s9 s10 s11 s12 s13 s14:Value,a={tmps:=#[x0,x1,.pointer (some ⟨bf,0,none⟩),.pointer (some ⟨B0,0,none⟩),.pointer (some ⟨B1,0,none⟩),s5,s6,s7,s8,s9,s10,s11,s12,s13,s14],defers:=[]}∧ULV wS x y u v z bf B0 B1 Bn L W s5 s6 s7 s8 s9 s10 s11 s12 s13 s14
def lowC(a b:Lot):Int:=if cmpI (vl a.cost*vl b.qty) (vl b.cost*vl a.qty)=0 then cmpI a.acq b.acq else cmpI (vl a.cost*vl b.qty) (vl b.cost*vl a.qty)
theorem Asm(a b:Lot)(ha:a.sized)(hb:b.sized)(bf:Nat)(w:World)(hbf:w.heap[bf]?=some (.cells #[.func (.func 112) #[] #[]] 65 (0,0)))(ht:Tabs w):Calls Tryz.prog 114 #[a.enc,b.enc,.pointer (some ⟨bf,0,none⟩)] w fun e w'=>e=.returned (.int .i64 (lowC a b))∧Below w.heap.size w w':=by
 obtain⟨W0,W1,hW0,hW1,hB,hsz,k0,k1⟩:=lbox2 a b w
 have HK0:=hI k0
 have HK1:=hI k1
 have HB:=hI hB
 have hbl:bf<w.heap.size:=(Aab.1 hbf).1
 have HBF:Hid (bf<W1.heap.size∧W1.heap[bf]?=some (.cells #[.func (.func 112) #[] #[]] 65 (0,0))):=⟨Aah hbl hB.size,(hB.block bf hbl).trans hbf⟩
 have HT:=hI (ht.below hB)
 obtain⟨u,hu⟩:∃u,cmpI (vl a.cost*vl b.qty) (vl b.cost*vl a.qty)=u:=⟨_,rfl⟩
 obtain⟨v,hv⟩:∃v,cmpI a.acq b.acq=v:=⟨_,rfl⟩
 obtain⟨z,hz⟩:∃z,(if u=0 then v else u)=z:=⟨_,rfl⟩
 have hU:=fun W (h:Below W1.heap.size W1 W)=>Asj a b ha hb W (HT.out.below h)
 rw[hu] at hU
 have hF:=fun W=>Asi a b W
 rw[hv] at hF
 have hO:=fun B c W h=>Ask u v B c W h
 rw[hz] at hO
 have HZ:Hid (lowC a b=z):=by unfold lowC;rw[Hid,hu,hv,hz]
 have hgS:Below W1.heap.size W1 W1.drew:=(Below.refl _ _).drew
 clear k0 k1 hB ht hu hv hz hbf hbl ha hb
 unfold Lot.enc Lot.cells at *
 have HU:=hI hU
 have HFI:=hI hF
 have HOR:=hI hO
 clear hU hF hO
 go_enter Tryz.func114,Tryz.ntmps114
 go_upto_region 1 with fail
 have mixed:Tryz.prog.follows .mixedOrders=true:=by kernel_rfl
 refine wp_region_any mixed (Akw (ULJ W1 a b u v z bf w.heap.size (w.heap.size+1) _ _) ?stUL ?dnUL _ _ _ _ ⟨by simp,⟨0,_,_,_,_,_,_,_,_,_,_,rfl,fun h=>by simp at h,fun h=>by simp at h,fun h=>by simp at h,fun h=>by simp at h,fun h=>by simp at h,fun h=>by simp at h,fun h=>by simp at h,fun h=>by simp at h,fun h=>by simp at h,fun h=>by simp at h,hgS,fun h=>by simp at h⟩⟩ (by decide))
 case dnUL =>
  intro L a w' hj hr
  have all:=Akv hr hj.sz (by kernel_rfl)
  obtain⟨Bn,s5,s6,s7,s8,s9,s10,s11,s12,s13,s14,rfl,hv⟩:=hj.fr
  have e9:=hv.k9 (all 9 (by omega))
  subst e9
  have HF:=hI (HB.out.trans (hv.g.mono HB.out.size))
  clear all hv hj hr
  go_wp2_with fail
  go_ret
  exact⟨by rw[HZ.out];rfl,HF.out⟩
 case stUL =>
  intro L a w' hj i hi
  obtain⟨hun,o,ho,hall⟩:=mem_ready.1 hi
  have hoff:=Akk hun
  have hlt:=(Aab.1 ho).1
  simp at hlt
  obtain⟨Bn,s5,s6,s7,s8,s9,s10,s11,s12,s13,s14,rfl,hv⟩:=hj.fr
  have HV:=hI hv
  have HJ:=hI hj
  clear hv hj
  rcases (show i=0∨i=1∨i=2∨i=3∨i=4∨i=5∨i=6∨i=7∨i=8∨i=9 from by omega) with rfl|rfl|rfl|rfl|rfl|rfl|rfl|rfl|rfl|rfl
  all_goals simp at ho
  all_goals subst ho
  have hk:=HK0.out.below HV.out.g
  obtain⟨c0,c1,c2,c3,c4,c5,c6⟩:=lbc hk
  rotate_left
  have hk:=HK1.out.below HV.out.g
  obtain⟨c0,c1,c2,c3,c4,c5,c6⟩:=lbc hk
  rotate_left
  ·cases HV.out.k0 (Hq hall 0).out
   cases HV.out.k1 (Hq hall 1).out
   clear hall hi
   refine Akt rfl fun K' HK=>?_
   go_simp
   refine (HU.out w' HV.out.g).mono ?_
   rintro e wn ⟨rfl,bn⟩
   exact HK.out _ _ ⟨by simp[HJ.out.sz],⟨_,_,_,_,_,_,_,_,_,_,_,rfl,Um HV.out.k0,Um HV.out.k1,fun _=>rfl,Um HV.out.k3,Um HV.out.k4,Um HV.out.k5,Um HV.out.k6,Um HV.out.k7,Um HV.out.k8,Um HV.out.k9,HV.out.g.trans (bn.mono HV.out.g.size),fun h=>(bn.block Bn (Aab.1 (HV.out.bx (Uz h))).1).trans (HV.out.bx (Uz h))⟩⟩
  have c0:=Aaa ((HV.out.g.block _ HBF.out.1).trans HBF.out.2) 0
  simp at c0
  rotate_left
  have hk:=HK0.out.below HV.out.g
  obtain⟨c0,c1,c2,c3,c4,c5,c6⟩:=lbc hk
  rotate_left
  have hk:=HK1.out.below HV.out.g
  obtain⟨c0,c1,c2,c3,c4,c5,c6⟩:=lbc hk
  rotate_left
  ·cases HV.out.k3 (Hq hall 3).out
   cases HV.out.k4 (Hq hall 4).out
   cases HV.out.k5 (Hq hall 5).out
   clear hall hi
   refine Akt rfl fun K' HK=>?_
   go_simp
   refine (HFI.out w').mono ?_
   rintro e wn ⟨rfl,bn⟩
   exact HK.out _ _ ⟨by simp[HJ.out.sz],⟨_,_,_,_,_,_,_,_,_,_,_,rfl,Um HV.out.k0,Um HV.out.k1,Um HV.out.k2,Um HV.out.k3,Um HV.out.k4,Um HV.out.k5,fun _=>rfl,Um HV.out.k7,Um HV.out.k8,Um HV.out.k9,HV.out.g.trans (bn.mono HV.out.g.size),fun h=>(bn.block Bn (Aab.1 (HV.out.bx (Uz h))).1).trans (HV.out.bx (Uz h))⟩⟩
  ·cases HV.out.k2 (Hq hall 2).out
   cases HV.out.k6 (Hq hall 6).out
   clear hall hi
   have ba:Below w'.heap.size w' (w'.alloc (.cells #[.int .i64 u,.int .i64 v] 3)):=(Below.refl _ _).alloc (Aad _) _
   refine Akt rfl fun K' HK=>?_
   go_simp
   exact HK.out _ _ ⟨by simp[HJ.out.sz],⟨w'.heap.size,_,_,_,_,_,_,_,_,_,_,rfl,Um HV.out.k0,Um HV.out.k1,Um HV.out.k2,Um HV.out.k3,Um HV.out.k4,Um HV.out.k5,Um HV.out.k6,fun _=>rfl,Um HV.out.k8,Um HV.out.k9,HV.out.g.trans (ba.mono HV.out.g.size),fun _=>Aa5 _ _⟩⟩
  ·have H7:=Hq hall 7
   cases HV.out.k7 (Hq hall 7).out
   clear hall hi
   refine Akt rfl fun K' HK=>?_
   go_simp
   refine (HOR.out _ _ w' (HV.out.bx H7.out)).mono ?_
   rintro e wn ⟨rfl,rfl⟩
   cases HV.out
   refine HK.out _ _ ⟨by simp[HJ.out.sz],?_⟩
   iterate 11 apply Exists.intro
   refine⟨rfl,?_⟩
   constructor
   case k8=>exact fun _=>rfl
   case g=>exact HV.out.g
   all_goals exact Um (by assumption)
  cases HV.out.k8 (Hq hall 8).out
  rotate_left
  all_goals
   clear hall hi
   refine Akt rfl fun K' HK=>?_
   go_simp
   cases HV.out
   refine HK.out _ _ ⟨by simp[HJ.out.sz],?_⟩
   iterate 11 apply Exists.intro
   refine⟨rfl,?_⟩
   constructor
   all_goals first|exact Um (by assumption)|exact Un (by assumption)|exact Uf (by assumption)|exact fun _=>rfl|assumption
structure UHV(wS:World)(x y:Lot)(u v z:Int)(bf B0 B1:Nat)(Bn:Nat)(L:Array Bool)(W:World)(s5 s6 s7 s8 s9 s10 s11 s12 s13 s14:Value):Prop where
 k0:L.getD 0 false=true→s6=.agg #[.string y.id,.string y.inst,.int .i64 y.acq,.int .i64 y.opn,.string y.qty,.string y.cost,.string y.used]
 k1:L.getD 1 false=true→s7=.agg #[.string x.id,.string x.inst,.int .i64 x.acq,.int .i64 x.opn,.string x.qty,.string x.cost,.string x.used]
 k2:L.getD 2 false=true→s8=.int .i64 u
 k3:L.getD 3 false=true→s9=.func (.func 112) #[] #[]
 k4:L.getD 4 false=true→s10=.agg #[.string x.id,.string x.inst,.int .i64 x.acq,.int .i64 x.opn,.string x.qty,.string x.cost,.string x.used]
 k5:L.getD 5 false=true→s11=.agg #[.string y.id,.string y.inst,.int .i64 y.acq,.int .i64 y.opn,.string y.qty,.string y.cost,.string y.used]
 k6:L.getD 6 false=true→s12=.int .i64 v
 k7:L.getD 7 false=true→s13=.slice (some ⟨Bn,0,none⟩) 2 2
 k8:L.getD 8 false=true→s14=.int .i64 z
 k9:L.getD 9 false=true→s5=.int .i64 z
 g:Below wS.heap.size wS W
 bx:L.getD 7 false=true→W.heap[Bn]?=some (.cells #[.int .i64 u,.int .i64 v] 3 (0,0))
structure UHJ(wS:World)(x y:Lot)(u v z:Int)(bf B0 B1:Nat)(x0 x1:Value)(L:Array Bool)(a:Act)(W:World):Prop where
 sz:L.size=10
 fr:∃Bn:Nat,∃s5 s6 s7 s8 s9 s10 s11 s12 s13 s14:Value,a={tmps:=#[x0,x1,.pointer (some ⟨bf,0,none⟩),.pointer (some ⟨B0,0,none⟩),.pointer (some ⟨B1,0,none⟩),s5,s6,s7,s8,s9,s10,s11,s12,s13,s14],defers:=[]}∧UHV wS x y u v z bf B0 B1 Bn L W s5 s6 s7 s8 s9 s10 s11 s12 s13 s14
def highC(a b:Lot):Int:=if cmpI (vl b.cost*vl a.qty) (vl a.cost*vl b.qty)=0 then cmpI a.acq b.acq else cmpI (vl b.cost*vl a.qty) (vl a.cost*vl b.qty)
theorem Asn(a b:Lot)(ha:a.sized)(hb:b.sized)(bf:Nat)(w:World)(hbf:w.heap[bf]?=some (.cells #[.func (.func 112) #[] #[]] 65 (0,0)))(ht:Tabs w):Calls Tryz.prog 117 #[a.enc,b.enc,.pointer (some ⟨bf,0,none⟩)] w fun e w'=>e=.returned (.int .i64 (highC a b))∧Below w.heap.size w w':=by
 obtain⟨W0,W1,hW0,hW1,hB,hsz,k0,k1⟩:=lbox2 a b w
 have HK0:=hI k0
 have HK1:=hI k1
 have HB:=hI hB
 have hbl:bf<w.heap.size:=(Aab.1 hbf).1
 have HBF:Hid (bf<W1.heap.size∧W1.heap[bf]?=some (.cells #[.func (.func 112) #[] #[]] 65 (0,0))):=⟨Aah hbl hB.size,(hB.block bf hbl).trans hbf⟩
 have HT:=hI (ht.below hB)
 obtain⟨u,hu⟩:∃u,cmpI (vl b.cost*vl a.qty) (vl a.cost*vl b.qty)=u:=⟨_,rfl⟩
 obtain⟨v,hv⟩:∃v,cmpI a.acq b.acq=v:=⟨_,rfl⟩
 obtain⟨z,hz⟩:∃z,(if u=0 then v else u)=z:=⟨_,rfl⟩
 have hU:=fun W (h:Below W1.heap.size W1 W)=>Asj b a hb ha W (HT.out.below h)
 rw[hu] at hU
 have hF:=fun W=>Asi a b W
 rw[hv] at hF
 have hO:=fun B c W h=>Ask u v B c W h
 rw[hz] at hO
 have HZ:Hid (highC a b=z):=by unfold highC;rw[Hid,hu,hv,hz]
 have hgS:Below W1.heap.size W1 W1.drew:=(Below.refl _ _).drew
 clear k0 k1 hB ht hu hv hz hbf hbl ha hb
 unfold Lot.enc Lot.cells at *
 have HU:=hI hU
 have HFI:=hI hF
 have HOR:=hI hO
 clear hU hF hO
 go_enter Tryz.func117,Tryz.ntmps117
 go_upto_region 1 with fail
 have mixed:Tryz.prog.follows .mixedOrders=true:=by kernel_rfl
 refine wp_region_any mixed (Akw (UHJ W1 a b u v z bf w.heap.size (w.heap.size+1) _ _) ?stUH ?dnUH _ _ _ _ ⟨by simp,⟨0,_,_,_,_,_,_,_,_,_,_,rfl,fun h=>by simp at h,fun h=>by simp at h,fun h=>by simp at h,fun h=>by simp at h,fun h=>by simp at h,fun h=>by simp at h,fun h=>by simp at h,fun h=>by simp at h,fun h=>by simp at h,fun h=>by simp at h,hgS,fun h=>by simp at h⟩⟩ (by decide))
 case dnUH =>
  intro L a w' hj hr
  have all:=Akv hr hj.sz (by kernel_rfl)
  obtain⟨Bn,s5,s6,s7,s8,s9,s10,s11,s12,s13,s14,rfl,hv⟩:=hj.fr
  have e9:=hv.k9 (all 9 (by omega))
  subst e9
  have HF:=hI (HB.out.trans (hv.g.mono HB.out.size))
  clear all hv hj hr
  go_wp2_with fail
  go_ret
  exact⟨by rw[HZ.out];rfl,HF.out⟩
 case stUH =>
  intro L a w' hj i hi
  obtain⟨hun,o,ho,hall⟩:=mem_ready.1 hi
  have hoff:=Akk hun
  have hlt:=(Aab.1 ho).1
  simp at hlt
  obtain⟨Bn,s5,s6,s7,s8,s9,s10,s11,s12,s13,s14,rfl,hv⟩:=hj.fr
  have HV:=hI hv
  have HJ:=hI hj
  clear hv hj
  rcases (show i=0∨i=1∨i=2∨i=3∨i=4∨i=5∨i=6∨i=7∨i=8∨i=9 from by omega) with rfl|rfl|rfl|rfl|rfl|rfl|rfl|rfl|rfl|rfl
  all_goals simp at ho
  all_goals subst ho
  have hk:=HK1.out.below HV.out.g
  obtain⟨c0,c1,c2,c3,c4,c5,c6⟩:=lbc hk
  rotate_left
  have hk:=HK0.out.below HV.out.g
  obtain⟨c0,c1,c2,c3,c4,c5,c6⟩:=lbc hk
  rotate_left
  ·cases HV.out.k0 (Hq hall 0).out
   cases HV.out.k1 (Hq hall 1).out
   clear hall hi
   refine Akt rfl fun K' HK=>?_
   go_simp
   refine (HU.out w' HV.out.g).mono ?_
   rintro e wn ⟨rfl,bn⟩
   exact HK.out _ _ ⟨by simp[HJ.out.sz],⟨_,_,_,_,_,_,_,_,_,_,_,rfl,Um HV.out.k0,Um HV.out.k1,fun _=>rfl,Um HV.out.k3,Um HV.out.k4,Um HV.out.k5,Um HV.out.k6,Um HV.out.k7,Um HV.out.k8,Um HV.out.k9,HV.out.g.trans (bn.mono HV.out.g.size),fun h=>(bn.block Bn (Aab.1 (HV.out.bx (Uz h))).1).trans (HV.out.bx (Uz h))⟩⟩
  have c0:=Aaa ((HV.out.g.block _ HBF.out.1).trans HBF.out.2) 0
  simp at c0
  rotate_left
  have hk:=HK0.out.below HV.out.g
  obtain⟨c0,c1,c2,c3,c4,c5,c6⟩:=lbc hk
  rotate_left
  have hk:=HK1.out.below HV.out.g
  obtain⟨c0,c1,c2,c3,c4,c5,c6⟩:=lbc hk
  rotate_left
  ·cases HV.out.k3 (Hq hall 3).out
   cases HV.out.k4 (Hq hall 4).out
   cases HV.out.k5 (Hq hall 5).out
   clear hall hi
   refine Akt rfl fun K' HK=>?_
   go_simp
   refine (HFI.out w').mono ?_
   rintro e wn ⟨rfl,bn⟩
   exact HK.out _ _ ⟨by simp[HJ.out.sz],⟨_,_,_,_,_,_,_,_,_,_,_,rfl,Um HV.out.k0,Um HV.out.k1,Um HV.out.k2,Um HV.out.k3,Um HV.out.k4,Um HV.out.k5,fun _=>rfl,Um HV.out.k7,Um HV.out.k8,Um HV.out.k9,HV.out.g.trans (bn.mono HV.out.g.size),fun h=>(bn.block Bn (Aab.1 (HV.out.bx (Uz h))).1).trans (HV.out.bx (Uz h))⟩⟩
  ·cases HV.out.k2 (Hq hall 2).out
   cases HV.out.k6 (Hq hall 6).out
   clear hall hi
   have ba:Below w'.heap.size w' (w'.alloc (.cells #[.int .i64 u,.int .i64 v] 3)):=(Below.refl _ _).alloc (Aad _) _
   refine Akt rfl fun K' HK=>?_
   go_simp
   exact HK.out _ _ ⟨by simp[HJ.out.sz],⟨w'.heap.size,_,_,_,_,_,_,_,_,_,_,rfl,Um HV.out.k0,Um HV.out.k1,Um HV.out.k2,Um HV.out.k3,Um HV.out.k4,Um HV.out.k5,Um HV.out.k6,fun _=>rfl,Um HV.out.k8,Um HV.out.k9,HV.out.g.trans (ba.mono HV.out.g.size),fun _=>Aa5 _ _⟩⟩
  ·have H7:=Hq hall 7
   cases HV.out.k7 (Hq hall 7).out
   clear hall hi
   refine Akt rfl fun K' HK=>?_
   go_simp
   refine (HOR.out _ _ w' (HV.out.bx H7.out)).mono ?_
   rintro e wn ⟨rfl,rfl⟩
   cases HV.out
   refine HK.out _ _ ⟨by simp[HJ.out.sz],?_⟩
   iterate 11 apply Exists.intro
   refine⟨rfl,?_⟩
   constructor
   case k8=>exact fun _=>rfl
   case g=>exact HV.out.g
   all_goals exact Um (by assumption)
  cases HV.out.k8 (Hq hall 8).out
  rotate_left
  all_goals
   clear hall hi
   refine Akt rfl fun K' HK=>?_
   go_simp
   cases HV.out
   refine HK.out _ _ ⟨by simp[HJ.out.sz],?_⟩
   iterate 11 apply Exists.intro
   refine⟨rfl,?_⟩
   constructor
   all_goals first|exact Um (by assumption)|exact Un (by assumption)|exact Uf (by assumption)|exact fun _=>rfl|assumption
def cfM(m:Int):Lot→Lot→Int:=if m=3 then highC else if m=4 then lowC else fun a b=>cmpI a.acq b.acq
theorem cfM_lt(m:Int){a b:Lot}(ha:0<vl a.qty)(hb:0<vl b.qty):decide (cfM m a b<0)=ltM m a b:=by
 unfold cfM ltM
 have hF:ltF a b=decide (a.acq<b.acq):=rfl
 have cF:cmpI a.acq b.acq<0↔a.acq<b.acq:=cmpI_lt
 by_cases h3:m=3
 ·rw[if_pos h3,if_pos h3]
  unfold highC ltH ltK
  rw[Ap6 ha,Ap6 hb]
  refine decide_eq_decide.2 ?_
  rw[Int.neg_mul,Int.neg_mul]
  generalize vl b.cost*vl a.qty=u
  generalize vl a.cost*vl b.qty=v
  have c1:cmpI u v<0↔u<v:=cmpI_lt
  have c3:cmpI u v=0↔u=v:=cmpI_eq
  split<;>omega
 ·rw[if_neg h3,if_neg h3]
  by_cases h4:m=4
  ·rw[if_pos h4,if_pos h4]
   unfold lowC ltL ltK
   rw[Ap6 ha,Ap6 hb]
   refine decide_eq_decide.2 ?_
   generalize vl b.cost*vl a.qty=u
   generalize vl a.cost*vl b.qty=v
   have c1:cmpI v u<0↔v<u:=cmpI_lt
   have c3:cmpI v u=0↔v=u:=cmpI_eq
   split<;>omega
  ·rw[if_neg h4,if_neg h4,hF]
   exact decide_eq_decide.2 cF
def fnM(m:Int):Nat:=if m=3 then 117 else if m=4 then 114 else 112
def bdM(m:Int)(bf:Nat):Array Value:=if m=3∨m=4 then #[.pointer (some ⟨bf,0,none⟩)] else #[]
def okL(l:Lot):Prop:=l.sized∧0<vl l.qty
theorem Asp(m:Int)(bf:Nat)(w00 w0:World)(g:Nat)(ht:Tabs w00)(hb:Below w00.heap.size w00 w0)(hg:w00.heap.size≤g)(hbf:w0.heap[bf]?=some (.cells #[.func (.func 112) #[] #[]] 65 (0,0)))(hne:bf≠g):
 CmpS okL (cfM m) (fnM m) (bdM m bf) w0 g:=by
 have hT:∀W,w0.grownBy W (some g)→Tabs W:=fun W h=>ht.below (hb.grown h hb.size (fun k hk=>by injection hk with hk;rw[←hk];exact hg))
 have hF:∀W,w0.grownBy W (some g)→W.heap[bf]?=some (.cells #[.func (.func 112) #[] #[]] 65 (0,0)):=fun W h=>(h.block bf (Aab.1 hbf).1 (fun e=>hne (by injection e))).trans hbf
 by_cases h3:m=3
 ·subst h3
  have e1:cfM 3=highC:=by unfold cfM;rw[if_pos rfl]
  have e2:fnM 3=117:=rfl
  have e3:bdM 3 bf=#[.pointer (some ⟨bf,0,none⟩)]:=by unfold bdM;rw[if_pos (Or.inl rfl)]
  rw[e1,e2,e3]
  exact⟨enters_of Tryz.func117 (by kernel_rfl) rfl,fun W hW a b ha hb=>Asn a b ha.1 hb.1 bf W (hF W hW) (hT W hW)⟩
 ·by_cases h4:m=4
  ·subst h4
   have e1:cfM 4=lowC:=by unfold cfM;rw[if_neg h3,if_pos rfl]
   have e2:fnM 4=114:=rfl
   have e3:bdM 4 bf=#[.pointer (some ⟨bf,0,none⟩)]:=by unfold bdM;rw[if_pos (Or.inr rfl)]
   rw[e1,e2,e3]
   exact⟨enters_of Tryz.func114 (by kernel_rfl) rfl,fun W hW a b ha hb=>Asm a b ha.1 hb.1 bf W (hF W hW) (hT W hW)⟩
  ·have e1:cfM m=fun a b=>cmpI a.acq b.acq:=by unfold cfM;rw[if_neg h3,if_neg h4]
   have e2:fnM m=112:=by unfold fnM;rw[if_neg h3,if_neg h4]
   have e3:bdM m bf=#[]:=by unfold bdM;rw[if_neg (fun h=>h.elim h3 h4)]
   rw[e1,e2,e3]
   exact⟨enters_of Tryz.func112 (by kernel_rfl) rfl,fun W hW a b ha hb=>Asi a b W⟩
theorem sl_lo(A:Option Addr)(N c k:Nat)(hA:A=none→N=0∧c=0)(hk:k≤N)(hc:N≤c)(W:World):(Instr.sliceAt 22 (.slice A N c) none (some (.int .i64 (k:Int))) none).run Tryz.prog W=.ok (.slice A k c) W:=by
 cases A with
 | some ad=>exact An1 W ad N c k (by omega)
 | none =>
   obtain⟨rfl,rfl⟩:=hA rfl
   obtain rfl:k=0:=by omega
   kernel_rfl
theorem sl_hi(A:Option Addr)(N c k:Nat)(hA:A=none→N=0∧c=0)(hk:k≤N)(hc:N≤c):∃A2,(∀W,(Instr.sliceAt 22 (.slice A N c) (some (.int .i64 (k:Int))) none none).run Tryz.prog W=.ok (.slice A2 (N-k) (c-k)) W)∧(A2=none→N-k=0∧c-k=0) ∧
 ∀n w ls,RdB n w A ls→ls.length=N→RdB n w A2 (ls.drop k):=by
 cases A with
 | some ad=>exact⟨_,fun W=>An0 W ad N c k hk,(fun e=>by cases e),fun n w ls h hl=>h.drop k (by omega) (by omega)⟩
 | none =>
   obtain⟨rfl,rfl⟩:=hA rfl
   obtain rfl:k=0:=by omega
   exact⟨none,fun W=>Apq W,fun _=>⟨rfl,rfl⟩,fun n w ls h hl=>h⟩
theorem Asq(w:World)(base:Nat)(v:Value)(n:Nat)(xs:List Value)(hown:w.ownsRow base 38 7 v n xs)(A:Option Addr)(m c:Nat)(ls:List SLot)(n₁:Nat)(hR:RdB n₁ w A ls)(hl:ls.length=m)(hA:A=none→m=0∧c=0)(hnm:n+m≤200000)(hb:base≤w.heap.size):
 ∃v' w',(Builtin.append_ #[22,22] 22 #[v,.slice A m c]).run Tryz.prog w=.ok v' w'∧w'.ownsRow base 38 7 v' (n+m) (xs++flatL ls)∧w.grownBy w' v.ownBlock:=by
 obtain⟨i0,hi0,hz0,hz1,hz2⟩:=info_parts Tryz.infoLot
 cases A with
 | some ad =>
   obtain⟨v',w',h1,h2,h3,_⟩:=run_append_own (P:=Tryz.prog) w base 22 22 38 i0 _ 7 96 Tryz.underlying22 hi0 hz0 hz1 hz2 rfl (by decide) v n xs hown ad m c (flatL ls) (by rw[Ans,hl]) hR.flat (Ant _) (by unfold maxLen;omega) (by omega) hb
   exact⟨v',w',h1,h2,h3⟩
 | none =>
   obtain⟨rfl,rfl⟩:=hA rfl
   obtain rfl:ls=[]:=Aag hl
   refine⟨v,w,?_,by simpa[flatL] using hown,⟨rfl,rfl,rfl,Aad _,fun _ _ _=>rfl⟩⟩
   rcases hown.2 with⟨rfl,rfl⟩|⟨g,cap,cur,rfl,hbg,hg,hnc,_,_,_⟩
   ·simp[Builtin.append_,run_underlying Tryz.underlying22,sizeOf,typeInfo,hi0,Builtin.lenOf,Builtin.firstCells,loadCells,loadCellsFrom]
   ·simp[Builtin.append_,run_underlying Tryz.underlying22,sizeOf,typeInfo,hi0,Builtin.lenOf,Builtin.firstCells,loadCells,loadCellsFrom,hnc,storeCells]
theorem Asr(w:World)(base:Nat)(v:Value)(n:Nat)(xs:List Value)(hown:w.ownsRow base 38 7 v n xs)(B cB:Nat)(x:Lot)(hx:LotBox w B x)(hn:n≤200000)(hb:base≤w.heap.size):
 ∃v' w',(Builtin.append_ #[22,22] 22 #[v,.slice (some ⟨B,0,none⟩) 1 cB]).run Tryz.prog w=.ok v' w'∧w'.ownsRow base 38 7 v' (n+1) (xs++x.cells.toList)∧w.grownBy w' v.ownBlock:=by
 obtain⟨i0,hi0,hz0,hz1,hz2⟩:=info_parts Tryz.infoLot
 obtain⟨v',w',h1,h2,h3,_⟩:=run_append_own (P:=Tryz.prog) w base 22 22 38 i0 _ 7 96 Tryz.underlying22 hi0 hz0 hz1 hz2 rfl (by decide) v n xs hown ⟨B,0,none⟩ 1 cB x.cells.toList rfl (Apr hx) (Apt x) (by unfold maxLen;omega) (by omega) hb
 exact⟨v',w',h1,h2,h3⟩
end Go.Proofs.YtcmgmemffncbhabGreatDoor
