/-
  slices.IndexFunc and slices.DeleteFunc of flows,whatever the function;the walk of bond.Rest.
-/
import Derived.Test.YtcnmoobojdopgaaGreatDoorI32
import Derived.Lib.SliceRun
import Derived.Laws.StructEq
import Derived.BigQuiet
import Derived.Test.YtcnmoobojdopgaaGreatDoorI22
set_option linter.unusedVariables false
set_option linter.unusedSimpArgs false
set_option maxHeartbeats 16000000
set_option maxRecDepth 100000
namespace Go.Proofs.YtcnmoobojdopgaaGreatDoor
open Go.RowKit Tr Go.Shelf
section
variable {α:Type}
theorem set_midF{P Q:List α}{x:α}{k:Nat}(h:P.length=k)(y:α):(P++x::Q).set k y=P++y::Q:=by
 subst h;rw[List.set_append_right _ _ (Aad _),Nat.sub_self];rfl
end
theorem As6(p:Addr)(hp:p.spot=none)(n:Nat):p.add n=⟨p.block,p.off+n,none⟩:=by
 unfold Addr.add
 split
 ·next h=>subst h;cases p;simp_all
 ·cases p;simp_all
theorem As7{α:Type}{ls:List α}{k:Nat}{l:α}(h:ls[k]?=some l):ls.take (k+1)=ls.take k++[l]:=by
 obtain⟨hlt,he⟩:=Aak.1 h
 rw[List.take_succ_eq_append_getElem hlt,he]
theorem splitF{α:Type}{D:List α}{k:Nat}{x:α}(h:D[k]?=some x):∃P Q,D=P++x::Q∧P.length=k:=by
 obtain⟨hk,he⟩:=Aak.1 h
 refine⟨D.take k,D.drop (k+1),?_,by rw[Aas];omega⟩
 rw[←he,←List.drop_eq_getElem_cons hk,List.take_append_drop]
theorem As8(a b:List (Int×Rat)):flV (a++b)=flV a++flV b:=by simp[flV]
theorem As9(x:Int×Rat)(a:List (Int×Rat)):flV (x::a)=[.int .i64 x.1,.string (I x.2.num),.string (dn x.2)]++flV a:=by simp[flV]
theorem flV_len(ls:List (Int×Rat)):(flV ls).length=ls.length*3:=by
 induction ls with
 | nil=>rfl
 | cons x r ih=>rw[As9,Aan,ih,Aau];simp;omega
theorem flE_one(x:Int×Rat):∀u∈[Value.int .i64 x.1,.string (I x.2.num),.string (dn x.2)],u.oneCell'=true:=by
 intro u hu
 simp at hu
 rcases hu with rfl|rfl|rfl<;>rfl
structure FRow(w0:World)(g:Nat)(sp:List Value)(D:List (Int×Rat))(W:World):Prop where
 row:W.heap[g]?=some (.cells (flV D++sp).toArray 43 (0,0))
 gr:w0.grownBy W (some g)
 lt:g<w0.heap.size
section
variable {w0 W W':World} {g k:Nat} {sp:List Value} {D:List (Int×Rat)} {x:Int×Rat}
theorem FRow.at(h:FRow w0 g sp D W)(hk:D[k]?=some x):W.cell? ⟨g,k*3,none⟩=some (.int .i64 x.1)∧W.cell? ⟨g,k*3+1,none⟩=some (.string (I x.2.num))∧W.cell? ⟨g,k*3+2,none⟩=some (.string (dn x.2)):=by
 obtain⟨P,Q,rfl,hP⟩:=splitF hk
 have hl:(flV P).length=k*3:=by rw[flV_len,hP]
 have hc:∀f u,f<3→[Value.int .i64 x.1,.string (I x.2.num),.string (dn x.2)][f]?=some u→W.cell? ⟨g,k*3+f,none⟩=some u:=fun f u hf hu=>by
  rw[Aaa h.row (k*3+f),List.getElem?_toArray,As8,As9,List.append_assoc,List.getElem?_append_right (by omega),hl,Nat.add_sub_cancel_left,List.append_assoc,List.getElem?_append_left (by exact hf)]
  exact hu
 exact⟨hc 0 _ (by omega) rfl,hc 1 _ (by omega) rfl,hc 2 _ (by omega) rfl⟩
theorem FRow.put(h:FRow w0 g sp D W)(y:Int×Rat):FRow w0 g sp (D.set k y) (W.setRow g (flV (D.set k y)++sp).toArray):=by
 refine⟨setRow_heap _ g _ _ _ _ h.row,⟨h.gr.os,h.gr.tape,h.gr.output,by simp[World.setRow];exact h.gr.size,fun j hj hne=>?_⟩,h.lt⟩
 rw[setRow_other _ g j _ (fun e=>hne (by rw[e]))]
 exact h.gr.block j hj hne
end
structure KeptF(pf:Int×Rat→Bool)(D0:List (Int×Rat))(i j:Nat)(D:List (Int×Rat)):Prop where
 len:D.length=D0.length
 lt:i<j
 le:j≤D0.length
 fr:D.take i=(D0.take j).filter fun x=>!pf x
 bk:∀k,j≤k→D[k]?=D0[k]?
theorem KeptF.done{pf:Int×Rat→Bool}{D0 D:List (Int×Rat)}{i:Nat}(h:KeptF pf D0 i D0.length D):D.take i=D0.filter fun x=>!pf x:=by rw[h.fr,Aai (Aad _)]
theorem KeptF.num{pf:Int×Rat→Bool}{D0 D:List (Int×Rat)}{i:Nat}(h:KeptF pf D0 i D0.length D):(D0.filter fun x=>!pf x).length=i:=by rw[←h.done,Aas,h.len];have:=h.lt;omega
end Go.Proofs.YtcnmoobojdopgaaGreatDoor
namespace Go.Proofs.YtcnmoobojdopgaaGreatDoor
open Go.RowKit Tr Go.Shelf
abbrev Few(i:Inst):Prop:=(cuts i.issued i.matures i.months).length≤399
theorem Ata{i:Inst}(h:BdI i)(hc:Few i)(w:World)(ht:Tabs w):Calls Tryz.prog 31 #[i.enc] w fun e w' =>
 (∃ad cap cur,e=.returned (.tuple #[.slice (some ad) (perL i).length cap,.int .i64 0])∧(perL i).length≤cap∧w.heap.size≤ad.block∧w'.heap[ad.block]?=some (.cells cur 60 (0,0))∧∀W':World,W'.heap[ad.block]?=some (.cells cur 60 (0,0))→RdP W' ad (perL i))∧Below w.heap.size w w':=by
 refine (Asp i h w ht).mono ?_
 rintro e w' ⟨hb,hr⟩
 refine⟨?_,hb⟩
 rcases hr with⟨hl,_⟩|⟨_,v,rfl,hrow⟩
 ·have h1:(cuts i.issued i.matures i.months).length≤399:=hc
  omega
 ·obtain⟨ad,cap,cur,rfl,hnc,hbk,hob,hrd⟩:=RdP.own_box hrow (Asq _ _ _)
  exact⟨ad,cap,cur,rfl,hnc,hbk,hob,hrd⟩
open Classical in
noncomputable def perC(i:Inst):Int:=if ¬i.ok then 1 else if i.kind≠2 then 7 else if 400≤(cuts i.issued i.matures i.months).length then 4 else 0
theorem perC_1{i:Inst}(h:¬i.ok):perC i=1:=by unfold perC;rw[if_pos h]
theorem perC_7{i:Inst}(h:i.ok)(h2:i.kind≠2):perC i=7:=by unfold perC;rw[if_neg (fun x=>x h),if_pos h2]
theorem perC_4{i:Inst}(h:i.ok)(h2:i.kind=2)(h3:400≤(cuts i.issued i.matures i.months).length):perC i=4:=by unfold perC;rw[if_neg (fun x=>x h),if_neg (fun x=>x h2),if_pos h3]
theorem perC_0{i:Inst}(h:i.ok)(h2:i.kind=2)(h3:(cuts i.issued i.matures i.months).length≤399):perC i=0:=by unfold perC;rw[if_neg (fun x=>x h),if_neg (fun x=>x h2),if_neg (by omega)]
theorem Atb{i:Inst}(h:perC i=0):i.ok∧i.kind=2∧(cuts i.issued i.matures i.months).length≤399:=by
 unfold perC at h
 split at h
 ·cases h
 rename_i a1
 split at h
 ·cases h
 rename_i a2
 split at h
 ·cases h
 rename_i a3
 simp only[Classical.not_not] at a1 a2
 exact⟨a1,a2,by omega⟩
theorem Atc{i:Inst}(h:¬(i.ok∧i.kind=2)):perC i≠0:=fun h0=>h ⟨(Atb h0).1,(Atb h0).2.1⟩
theorem Atd(i:Inst)(hs:i.sized)(hn:¬(i.ok∧i.kind=2))(w:World)(ht:Tabs w):Calls Tryz.prog 31 #[i.enc] w fun e w'=>e=.returned (.tuple #[.slice none 0 0,.int .i64 (perC i)])∧Below w.heap.size w w':=by
 have HCK:=hI (fun W (hW:Tabs W)=>Aq0 i hs W hW)
 have HT:=hI ht
 have HN:=hI hn
 clear hs hn ht
 obtain⟨W0,hW0,hB0,hz,k0⟩:=ibox i w
 have hg0:BX w [(w.heap.size,.cells i.cells 27 (0,0))] W0:=⟨hB0,fun x hx=>by
  rcases List.mem_cons.1 hx with rfl|hx
  ·exact k0
  ·cases hx⟩
 obtain⟨c0,c1,c2,c3,c4,c5,c6,c7,c8,c9,c10,c11,c12,c13,c14⟩:=Acn k0
 try simp[Inst.cells] at c0 c1 c2 c3 c4 c5 c6 c7 c8 c9 c10 c11 c12 c13 c14
 clear hB0 hz k0
 unfold Inst.enc Inst.cells at *
 go_enter Tryz.func31,Tryz.ntmps31
 go_wp2_with fail
 refine (HCK.out _ (HT.out.below hg0.1)).mono ?_
 rintro e w1 ⟨n,rfl,hn,x1⟩
 have hg1:=hg0.below x1
 have HNK:=hI hn
 clear hg0 x1 hW0 hn c0 c1 c2 c3 c4 c5 c6 c7 c8 c9 c10 c11 c12 c13 c14
 have k1:=hg1.get 0 rfl
 have c1:=Aaa k1 1
 simp at c1
 have HG:=hI hg1.1
 clear hg1 k1
 by_cases h1:n=0
 case neg =>
  have t1:(n==0)=false:=Aaj.2 h1
  have t2:(n != 0)=true:=by rw[bne,t1];rfl
  have HC:Hid (perC i=1):=perC_1 (fun h=>h1 (HNK.out.2 h))
  clear h1
  go_wp2_with fail
  go_ret2
  exact⟨by rw[HC.out];rfl,HG.out⟩
 have hok:=HNK.out.1 h1
 subst h1
 have h2:i.kind≠2:=fun h=>HN.out ⟨hok,h⟩
 have t1:(i.kind==2)=false:=Aaj.2 h2
 have t2:(i.kind != 2)=true:=by rw[bne,t1];rfl
 have HC:Hid (perC i=7):=perC_7 hok h2
 clear h2 hok
 go_wp2_with fail
 go_ret2
 exact⟨by rw[HC.out];rfl,HG.out⟩
theorem Ate(i:Inst)(d:Int)(A:Option Addr)(n c:Nat)(w:World)(hf:∀W,Below w.heap.size w W→Calls Tryz.prog 108 #[.slice A n c,.func (.func 109) #[] #[]] W fun e w'=>e=.returned (.bool true)∧Below W.heap.size W w'):
 Calls Tryz.prog 50 #[i.enc,.int .i64 d,.slice A n c] w fun e w'=>e=.returned (.tuple #[.slice none 0 0,.int .i64 1])∧Below w.heap.size w w':=by
 have HF:=hI hf
 clear hf
 obtain⟨W0,hW0,hB0,hz,k0⟩:=ibox i w
 have HB0:=hI hB0
 clear hB0 hz k0
 unfold Inst.enc Inst.cells at *
 go_enter Tryz.func50,Tryz.ntmps50
 go_wp2_with fail
 refine (HF.out _ HB0.out).mono ?_
 rintro e w1 ⟨rfl,x1⟩
 have HB1:=hI (HB0.out.trans (x1.mono HB0.out.size))
 clear x1 hW0
 go_wp2_with fail
 go_ret2
 exact⟨rfl,HB1.out⟩
theorem Atf(i:Inst)(m:Int)(hm:m≠0)(HP:∀W,Tabs W→Calls Tryz.prog 31 #[i.enc] W fun e w'=>e=.returned (.tuple #[.slice none 0 0,.int .i64 m])∧Below W.heap.size W w')(d:Int)(A:Option Addr)(n c:Nat)(w:World)(hf:∀W,Below w.heap.size w W→Calls Tryz.prog 108 #[.slice A n c,.func (.func 109) #[] #[]] W fun e w'=>e=.returned (.bool false)∧Below W.heap.size W w')(ht:Tabs w):
 Calls Tryz.prog 50 #[i.enc,.int .i64 d,.slice A n c] w fun e w'=>e=.returned (.tuple #[.slice none 0 0,.int .i64 m])∧Below w.heap.size w w':=by
 have HF:=hI hf
 have HP:=hI HP
 have HT:=hI ht
 have t1:(m==0)=false:=Aaj.2 hm
 have t2:(m != 0)=true:=by rw[bne,t1];rfl
 clear hf ht hm
 obtain⟨W0,hW0,hB0,hz,k0⟩:=ibox i w
 have HK0:Hid (InstBox W0 w.heap.size i):=k0
 have HB0:=hI hB0
 clear hB0 hz k0
 unfold Inst.enc Inst.cells at *
 go_enter Tryz.func50,Tryz.ntmps50
 go_wp2_with fail
 refine (HF.out _ HB0.out).mono ?_
 rintro e w1 ⟨rfl,x1⟩
 have HB1:=hI (HB0.out.trans (x1.mono HB0.out.size))
 have k1:InstBox w1 w.heap.size i:=HK0.out.below x1
 obtain⟨c0,c1,c2,c3,c4,c5,c6,c7,c8,c9,c10,c11,c12,c13,c14⟩:=Acn k1
 try simp[Inst.cells] at c0 c1 c2 c3 c4 c5 c6 c7 c8 c9 c10 c11 c12 c13 c14
 clear x1 k1 hW0
 go_wp2_with fail
 refine (HP.out _ (HT.out.below HB1.out)).mono ?_
 rintro e w2 ⟨rfl,x2⟩
 have HB2:=hI (HB1.out.trans (x2.mono HB1.out.size))
 clear x2 c0 c1 c2 c3 c4 c5 c6 c7 c8 c9 c10 c11 c12 c13 c14
 go_wp2_with fail
 go_ret2
 exact⟨rfl,HB2.out⟩
theorem Atg(i:Inst)(d:Int)(fn fd:ByteArray)(n:Int)(hn:n≠0)(HC:∀(W:World) (g:Nat),W.heap[g]?=some (.cells #[.string fn,.string fd] 25 (0,0))→Tabs W→Calls Tryz.prog 50 #[i.enc,.int .i64 d,.slice (some ⟨g,0,none⟩) 1 1] W fun e w'=>e=.returned (.tuple #[.slice none 0 0,.int .i64 n])∧Below W.heap.size W w')(w:World)(ht:Tabs w):Calls Tryz.prog 16 #[i.enc,.int .i64 d,.agg #[.string fn,.string fd]] w fun e w'=>e=.returned (.tuple #[fenc 0,.int .i64 n])∧Below w.heap.size w w':=by
 have HC:=hI HC
 have HT:=hI ht
 have t1:(n==0)=false:=Aaj.2 hn
 have t2:(n != 0)=true:=by rw[bne,t1];rfl
 have HZ:=hI fenc_zero
 obtain⟨W0,hW0',hB0,hz,k0,k1,k2⟩:=box3 w (.cells i.cells 27) (.cells #[.string fn,.string fd] 25) fz
 have hW0:=hW0'.symm
 have hg0:BX w [(w.heap.size,.cells i.cells 27 (0,0)),(w.heap.size+1,.cells #[.string fn,.string fd] 25 (0,0)),(w.heap.size+2,fz)] W0:=⟨hB0,fun x hx=>by
  rcases List.mem_cons.1 hx with rfl|hx
  ·exact k0
  ·rcases List.mem_cons.1 hx with rfl|hx
   ·exact k1
   ·rcases List.mem_cons.1 hx with rfl|hx
    ·exact k2
    ·cases hx⟩
 have HCK:Hid (∀W,W=W0.alloc (.cells #[.string fn,.string fd] 25)→Calls Tryz.prog 50 #[i.enc,.int .i64 d,.slice (some ⟨W0.heap.size,0,none⟩) 1 1] W fun e w'=>e=.returned (.tuple #[.slice none 0 0,.int .i64 n])∧Below W.heap.size W w'):=fun W hW=>by
  subst hW
  exact HC.out _ _ (Aax W0 _) (ht.below (hB0.trans (((Below.refl _ W0).alloc (Aad _) _).mono hB0.size)))
 obtain⟨c0,c1,c2,c3,c4,c5,c6,c7,c8,c9,c10,c11,c12,c13,c14⟩:=Acn k0
 try simp[Inst.cells] at c0 c1 c2 c3 c4 c5 c6 c7 c8 c9 c10 c11 c12 c13 c14
 have q0:=Aaa k1 0
 have q1:=Aaa k1 1
 simp at q0 q1
 clear hB0 hz k0 k1 k2 hW0' ht hn HC
 unfold Inst.enc Inst.cells at *
 go_enter Tryz.func16,Tryz.ntmps16
 go_wp2_with fail
 refine (HCK.out _ rfl).mono ?_
 rintro e w1 ⟨rfl,x1⟩
 have hg1:=(hg0.below ((Below.refl _ W0).alloc (Aad _) (.cells #[.string fn,.string fd] 25))).below x1
 have k2:=hg1.get 2 rfl
 have m0:=Aaa k2 0
 have m1:=Aaa k2 1
 have f0:=Aaf k2 0
 have f1:=Aaf k2 1
 simp at m0 m1 f0 f1
 have HK2:=hI k2
 have HG1:=hI hg1
 clear hg0 hg1 k2 x1 hW0 q0 q1 HCK c0 c1 c2 c3 c4 c5 c6 c7 c8 c9 c10 c11 c12 c13 c14
 go_wp2_with fail
 refine bodyPost_ret (Ar4 rfl _ _ (w.heap.size+2) _ _ (0,0) _ rfl (Go.Proofs.YtcnmoobojdopgaaGreatDoor.set2 HK2.out _ _) Tryz.underlying25 rfl (by kernel_rfl)) rfl ?_
 exact⟨by rw[HZ.out];rfl,Ahd (by omega) HG1.out.1 _ _⟩
theorem Ath(i:Inst)(d:Int)(q:Rat)(n:Int)(HD:∀W,Tabs W→Calls Tryz.prog 16 #[i.enc,.int .i64 d,.agg #[.string ⟨#[]⟩,.string ⟨#[]⟩]] W fun e w'=>e=.returned (.tuple #[fenc q,.int .i64 n])∧Below W.heap.size W w')(w:World)(ht:Tabs w):Calls Tryz.prog 14 #[i.enc,.int .i64 d] w fun e w'=>e=.returned (.tuple #[fenc q,.int .i64 n])∧Below w.heap.size w w':=by
 have HD:=hI HD
 have HT:=hI ht
 obtain⟨W0,hW0',hB0,hz,k0,k1⟩:=box2 w (.cells i.cells 27) fz
 have hW0:=hW0'.symm
 have hg0:BX w [(w.heap.size,.cells i.cells 27 (0,0)),(w.heap.size+1,fz)] W0:=⟨hB0,fun x hx=>by
  rcases List.mem_cons.1 hx with rfl|hx
  ·exact k0
  ·rcases List.mem_cons.1 hx with rfl|hx
   ·exact k1
   ·cases hx⟩
 obtain⟨c0,c1,c2,c3,c4,c5,c6,c7,c8,c9,c10,c11,c12,c13,c14⟩:=Acn k0
 try simp[Inst.cells] at c0 c1 c2 c3 c4 c5 c6 c7 c8 c9 c10 c11 c12 c13 c14
 clear hB0 hz k0 k1 hW0' ht
 unfold Inst.enc Inst.cells at *
 go_enter Tryz.func14,Tryz.ntmps14
 go_wp2_with fail
 refine (HD.out _ (HT.out.below hg0.1)).mono ?_
 rintro e w1 ⟨rfl,x1⟩
 have hg1:=hg0.below x1
 have k2:=hg1.get 1 rfl
 have m0:=Aaa k2 0
 have m1:=Aaa k2 1
 have f0:=Aaf k2 0
 have f1:=Aaf k2 1
 simp at m0 m1 f0 f1
 have HK2:=hI k2
 have HG1:=hI hg1
 clear hg0 hg1 k2 x1 hW0 c0 c1 c2 c3 c4 c5 c6 c7 c8 c9 c10 c11 c12 c13 c14
 unfold fenc
 go_wp2_with fail
 refine bodyPost_ret (Ar4 rfl _ _ (w.heap.size+1) _ _ (0,0) _ rfl (Go.Proofs.YtcnmoobojdopgaaGreatDoor.set2 HK2.out _ _) Tryz.underlying25 rfl (by kernel_rfl)) rfl ?_
 exact⟨rfl,Ahd (by omega) HG1.out.1 _ _⟩
def FwAt(w:World)(ad:Addr)(x:Int×Rat):Prop:=w.cell? ad=some (.int .i64 x.1)∧w.cell? ⟨ad.block,ad.off+1,none⟩=some (.string (I x.2.num))∧w.cell? ⟨ad.block,ad.off+2,none⟩=some (.string (dn x.2))
def RdFw(n₀:Nat)(w:World)(A:Option Addr)(ps:List (Int×Rat)):Prop :=
 ps≠[]→∃ad:Addr,A=some ad∧ad.block<n₀∧∀(j:Nat) (x:Int×Rat),ps[j]?=some x→FwAt w (ad.add (j*3)) x
theorem Ati(op:BinOp)(x y:Operand)(xs ys:Array Value)(w:World):(eqGuard op 43 x y (.agg xs) (.agg ys)).run Tryz.prog w=.ok () w:=run_eqGuard_agg w op _ x y xs ys (by kernel_rfl)
attribute [local go_sem] Ati
end Go.Proofs.YtcnmoobojdopgaaGreatDoor
namespace Go.Proofs.YtcnmoobojdopgaaGreatDoor
open Go.RowKit Tr Go.Shelf
def fcV(l:List (ByteArray×ByteArray)):List Value:=l.flatMap fun f=>[.string f.1,.string f.2]
theorem fcV_get:∀(l:List (ByteArray×ByteArray)) (j:Nat) (q:ByteArray×ByteArray),l[j]?=some q→(fcV l)[j*2]?=some (.string q.1)∧(fcV l)[j*2+1]?=some (.string q.2)
 | [],j,p,h=>by simp at h
 | x::r,0,p,h=>by
   simp at h;subst h
   simp[fcV]
 | x::r,j+1,p,h=>by
   simp at h
   have:=fcV_get r j p h
   simp only[fcV,List.flatMap_cons] at this ⊢
   rw[show (j+1)*2=j*2+2 from by omega]
   simpa using this
theorem Atj{b n:Nat}{ad:Addr}(had:ad=⟨b,0,none⟩):ad.add n=⟨b,n,none⟩:=by
 rw[had,As6 _ rfl];simp
open Classical in
noncomputable def propB(P:Prop):Bool:=decide P
theorem propB_iff{P:Prop}:propB P=true↔P:=by unfold propB;simp
theorem Atk{P:Prop}(h:¬P):propB P=false:=by unfold propB;simp[h]
def Atm(l:List (ByteArray×ByteArray)):Prop:=∀q∈l,q.1.size≤13∧q.2.size≤13
theorem Atn(l:List (ByteArray×ByteArray))(N b:Nat)(hN:l.length=N)(hm:N≤1000000)(w:World)(hk:w.heap[b]?=some (.cells (fcV l).toArray 25 (0,0))):
 Calls Tryz.prog 39 #[.slice (some ⟨b,0,none⟩) N N] w fun e w'=>e=.returned (.bool (!propB (Atm l)))∧w=w':=by
 obtain⟨ad,had⟩:∃ad:Addr,ad=⟨b,0,none⟩:=⟨_,rfl⟩
 rw[←had]
 have HC:Hid (∀(k:Nat) (q:ByteArray×ByteArray),l[k]?=some q→w.cell? (ad.add (k*2))=some (.string q.1)∧w.cell? ⟨(ad.add (k*2)).block,(ad.add (k*2)).off+1,none⟩=some (.string q.2)):=fun k q hq=>by
  rw[Atj had]
  obtain⟨e0,e1⟩:=fcV_get l k q hq
  refine⟨?_,?_⟩
  ·rw[Aaa hk (k*2),List.getElem?_toArray];exact e0
  ·show w.cell? ⟨b,k*2+1,none⟩=_
   rw[Aaa hk (k*2+1),List.getElem?_toArray];exact e1
 have HN:=hI hN
 clear hk had hN
 go_enter Tryz.func39,Tryz.ntmps39
 go_wp2_with fail
 go_loop [3] (fun v=>∃k:Nat,v=.int .i64 (k:Int)∧k≤N∧Atm (l.take k)) (fun v=>N-(intOf v).toNat)
 case atStart=>exact⟨0,rfl,by omega,fun q hq=>by simp at hq⟩
 case round =>
  obtain⟨k,rfl,hk,hs⟩:=hrel
  have HS:=hI hs
  clear hs
  rcases Aam k N with hlt|hge
  ·obtain⟨⟨x,y⟩,hq⟩:∃q,l[k]?=some q:=⟨_,Aae (by rw[HN.out];exact hlt)⟩
   obtain⟨c0,c1⟩:=HC.out k _ hq
   simp only at c0 c1
   have HTK:=hI (As7 hq)
   have HMM:=hI (Aar hq)
   have hcx:decide ((k:Int)<(N:Int))=true:=by simp;omega
   have hki:(k:Int)<(N:Int):=by omega
   clear hq
   by_cases h1:13<x.size
   ·have t1:decide ((13:Int)<(x.size:Int))=true:=Aav (by omega)
    have HNS:Hid (propB (Atm l)=false):=Atk (fun h=>by have:=(h _ HMM.out).1;simp only at this;omega)
    clear h1
    go_wp2_with fail
    go_ret
    exact⟨by rw[HNS.out];rfl,rfl⟩
   have t1:decide ((13:Int)<(x.size:Int))=false:=Aaw (by omega)
   by_cases h2:13<y.size
   ·have t2:decide ((13:Int)<(y.size:Int))=true:=Aav (by omega)
    have HNS:Hid (propB (Atm l)=false):=Atk (fun h=>by have:=(h _ HMM.out).2;simp only at this;omega)
    clear h1 h2
    go_wp2_with fail
    go_ret
    exact⟨by rw[HNS.out];rfl,rfl⟩
   have t2:decide ((13:Int)<(y.size:Int))=false:=Aaw (by omega)
   have HXY:Hid (x.size≤13∧y.size≤13):=⟨by omega,by omega⟩
   clear h1 h2
   go_wp2_with fail
   refine⟨⟨k+1,by go_num,by omega,fun q hq=>?_⟩,by simp[intOf];omega⟩
   rw[HTK.out,List.mem_append,List.mem_singleton] at hq
   rcases hq with hq|rfl
   ·exact HS.out q hq
   ·exact HXY.out
  ·have hcx:decide ((k:Int)<(N:Int))=false:=by simp;omega
   have hcx2:decide (k<N)=false:=Aaw (by omega)
   have HYS:Hid (propB (Atm l)=true):=propB_iff.2 (fun q hq=>HS.out q (by rw[Aai (by rw[HN.out];exact hge)];exact hq))
   go_wp2_with fail
   go_ret
   exact⟨by rw[HYS.out];rfl,rfl⟩
abbrev nums3(i:Inst):List (ByteArray×ByteArray):=[(i.fn,i.fd),(i.cn,i.cd),(i.sn,i.sd)]
noncomputable def Atp(i:Inst):Bool:=!propB (Atm (nums3 i))||decide (40<i.id.size)||decide (40<i.cur.size)||decide (40<i.other.size)||(propB i.ok&&decide (i.kind=2)&&decide (372*i.months<i.matures-i.issued)&&decide (i.matures-i.issued<12462*i.months))
theorem Atq{i:Inst}(h:Atp i=false):i.tiny:=by
 unfold Atp at h
 simp at h
 obtain⟨⟨⟨⟨h1,h2⟩,h3⟩,h4⟩,_⟩:=h
 have hs:=propB_iff.1 h1
 have a0:=hs (i.fn,i.fd) (by simp)
 have a1:=hs (i.cn,i.cd) (by simp)
 have a2:=hs (i.sn,i.sd) (by simp)
 exact⟨by omega,by omega,by omega,a0.1,a0.2,a1.1,a1.2,a2.1,a2.2⟩
theorem Atr(i:Inst)(w:World):Calls Tryz.prog 37 #[i.enc] w fun e w'=>e=.returned (.bool (Atp i))∧Below w.heap.size w w':=by
 obtain⟨W0,hW0,hB0,hz,hk⟩:=ibox i w
 obtain⟨c0,c1,c2,c3,c4,c5,c6,c7,c8,c9,c10,c11,c12,c13,c14⟩:=Acn (hk)
 try simp[Inst.cells] at c0 c1 c2 c3 c4 c5 c6 c7 c8 c9 c10 c11 c12 c13 c14
 have HB:=hI hB0
 have HK:=hI hk
 clear hB0 hz hk
 obtain⟨x,hx⟩:∃x,IntKind.i64.wrap (i.matures-i.issued)=x:=⟨_,rfl⟩
 have HX:=hI hx
 unfold Inst.enc Inst.cells at *
 go_enter Tryz.func37,Tryz.ntmps37
 go_wp2_with fail
 have hRC:RC w i W0.heap.size (W0.alloc (.cells (Ame i) 25)):=⟨(Below.heap_alloc W0 _ _ (Afh c0)).trans HK.out,Aax W0 _,HB.out.alloc HB.out.size _⟩
 generalize hW1:W0.alloc (.cells (Ame i) 25)=W1 at hRC ⊢
 generalize W0.heap.size=b at hRC ⊢
 refine (Atn (nums3 i) 3 b rfl (by omega) W1 hRC.k1).mono ?_
 rintro e w1 ⟨rfl,rfl⟩
 have HRC:=hI hRC
 clear hW1 HB HK hW0 c0 c1 c2 c3 c4 c5 c6 c7 c8 c9 c10 c11 c12 c13 c14
 obtain⟨c0,c1,c2,c3,c4,c5,c6,c7,c8,c9,c10,c11,c12,c13,c14⟩:=Acn (hRC.k0)
 try simp[Inst.cells] at c0 c1 c2 c3 c4 c5 c6 c7 c8 c9 c10 c11 c12 c13 c14
 clear hRC
 by_cases hs:Atm (nums3 i)
 case neg =>
  have hp:propB (Atm (nums3 i))=false:=Atk hs
  rw[hp]
  go_wp2_with fail
  go_ret
  exact⟨by rw[show Atp i=true from by unfold Atp;rw[hp];rfl];rfl,HRC.out.bel⟩
 have hp:propB (Atm (nums3 i))=true:=propB_iff.2 hs
 have HP:=hI hp
 rw[hp]
 clear hp
 by_cases h1:40<i.id.size
 ·have t1:decide ((40:Int)<(i.id.size:Int))=true:=Aav (by omega)
  have H1:=hI h1
  clear h1 hs
  go_wp2_with fail
  go_ret
  exact⟨by rw[show Atp i=true from by unfold Atp;rw[Aav H1.out];simp];rfl,HRC.out.bel⟩
 have t1:decide ((40:Int)<(i.id.size:Int))=false:=Aaw (by omega)
 by_cases h2:40<i.cur.size
 ·have t2:decide ((40:Int)<(i.cur.size:Int))=true:=Aav (by omega)
  have H2:=hI h2
  clear h1 h2 hs
  go_wp2_with fail
  go_ret
  exact⟨by rw[show Atp i=true from by unfold Atp;rw[Aav H2.out];simp];rfl,HRC.out.bel⟩
 have t2:decide ((40:Int)<(i.cur.size:Int))=false:=Aaw (by omega)
 by_cases h3:40<i.other.size
 ·have t3:decide ((40:Int)<(i.other.size:Int))=true:=Aav (by omega)
  have H3:=hI h3
  clear h1 h2 h3 hs
  go_wp2_with fail
  go_ret
  exact⟨by rw[show Atp i=true from by unfold Atp;rw[Aav H3.out];simp];rfl,HRC.out.bel⟩
 have t3:decide ((40:Int)<(i.other.size:Int))=false:=Aaw (by omega)
 have HT:Hid i.tiny:=by
  have a0:=hs (i.fn,i.fd) (by simp)
  have a1:=hs (i.cn,i.cd) (by simp)
  have a2:=hs (i.sn,i.sd) (by simp)
  exact⟨by omega,by omega,by omega,a0.1,a0.2,a1.1,a1.2,a2.1,a2.2⟩
 have HG:Hid (Atp i=(propB i.ok&&decide (i.kind=2)&&decide (372*i.months<i.matures-i.issued)&&decide (i.matures-i.issued<12462*i.months))):=by
  show Atp i=_
  unfold Atp
  rw[HP.out,Aaw h1,Aaw h2,Aaw h3]
  simp
 clear h1 h2 h3 hs
 go_wp2_with fail
 refine (Amk i HT.out _).mono ?_
 rintro e w2 ⟨n,rfl,hn,b2⟩
 have HN:=hI hn
 have HB2:=hI (HRC.out.bel.trans (b2.mono HRC.out.bel.size))
 have hRC:=HRC.out.below b2
 clear hn b2 HRC t1 t2 t3 c0 c1 c2 c3 c4 c5 c6 c7 c8 c9 c10 c11 c12 c13 c14
 obtain⟨c0,c1,c2,c3,c4,c5,c6,c7,c8,c9,c10,c11,c12,c13,c14⟩:=Acn (hRC.k0)
 try simp[Inst.cells] at c0 c1 c2 c3 c4 c5 c6 c7 c8 c9 c10 c11 c12 c13 c14
 clear hRC
 by_cases h0:n=0
 case neg =>
  have t0:(n==0)=false:=Aaj.2 h0
  have hno:propB i.ok=false:=Atk (fun h=>h0 (HN.out.2 h))
  have HNO:=hI hno
  clear h0 hno
  go_wp2_with fail
  go_ret
  exact⟨by rw[HG.out,HNO.out];rfl,HB2.out⟩
 have hok:=HN.out.1 h0
 have hyes:propB i.ok=true:=propB_iff.2 hok
 have HYES:=hI hyes
 have HOK:=hI hok
 subst h0
 clear hok hyes
 by_cases hk:i.kind=2
 case neg =>
  have t0:(i.kind==2)=false:=Aaj.2 hk
  have HK2:=hI hk
  clear hk
  go_wp2_with fail
  go_ret
  exact⟨by rw[HG.out,Aaw HK2.out];simp,HB2.out⟩
 have t0:(i.kind==2)=true:=beq_iff_eq.2 hk
 have hbd:BdI i:=by
  obtain⟨a1,a2,a3,a4,a5,a6,a7,a8,a9⟩:=HT.out
  exact⟨⟨by omega,by omega,by omega,by omega,by omega,by omega,by omega,by omega,by omega⟩,by omega,by omega,by omega,by omega,HOK.out,hk⟩
 obtain⟨⟨m0,m1⟩,m2⟩:=hbd.mat
 obtain⟨o0,o1⟩:=hbd.mo
 obtain⟨i0,i1⟩:=hbd.ok.issued
 have hxx:x=i.matures-i.issued:=by rw[←HX.out,IntKind.wrap_i64];omega
 have hw2:IntKind.i64.wrap (372*i.months)=372*i.months:=by rw[IntKind.wrap_i64];omega
 have hw3:IntKind.i64.wrap (12462*i.months)=12462*i.months:=by rw[IntKind.wrap_i64];omega
 have HGG:Hid (Atp i=(decide (372*i.months<x)&&decide (x<12462*i.months))):=by
  show Atp i=_
  rw[HG.out,HYES.out,Aav hk,hxx]
  simp
 clear hbd m0 m1 m2 o0 o1 i0 i1 hk hxx
 cases hc1:decide (372*i.months<x)
 ·rw[hc1] at HGG
  go_wp2_with fail
  go_ret
  exact⟨by rw[HGG.out];rfl,HB2.out⟩
 ·cases hc2:decide (x<12462*i.months)
  all_goals
   rw[hc1,hc2] at HGG
   go_wp2_with fail
   go_ret
   exact⟨by rw[HGG.out];rfl,HB2.out⟩
structure GI(i:Inst):Prop where
 ti:i.tiny
 sz:i.sized
 bd:i.ok→i.kind=2→BdI i
 fm:i.ok→i.kind=2→(cuts i.issued i.matures i.months).length≤14∨400≤(cuts i.issued i.matures i.months).length
theorem Ats{i:Inst}(h:i.tiny):i.sized:=by
 obtain⟨a1,a2,a3,a4,a5,a6,a7,a8,a9⟩:=h
 exact⟨by omega,by omega,by omega,by omega,by omega,by omega,by omega,by omega,by omega⟩
theorem Att{i:Inst}(ht:i.tiny)(hok:i.ok)(h3:i.kind=2):BdI i:=by
 obtain⟨a1,a2,a3,a4,a5,a6,a7,a8,a9⟩:=ht
 exact⟨⟨by omega,by omega,by omega,by omega,by omega,by omega,by omega,by omega,by omega⟩,by omega,by omega,by omega,by omega,hok,h3⟩
theorem GI.of{i:Inst}(h:Atp i=false):GI i:=by
 have ht:=Atq h
 refine⟨ht,Ats ht,fun hok h3=>Att ht hok h3,fun hok h3=>?_⟩
 have hb:=Att ht hok h3
 unfold Atp at h
 rw[propB_iff.2 hok,Aav h3] at h
 simp at h
 have hd:=h.2
 rcases Int.lt_or_le (372*i.months) (i.matures-i.issued) with h1|h1
 ·exact .inr (Aju hb.mo.1 hb.mo.2 hok.issued.1 hb.mat.1.1 hb.mat.1.2 (by omega))
 ·exact .inl (Ajt hb.mo.1 hb.mat.1.1 hb.mat.1.2 h1)
def RdPw(n₀:Nat)(w:World)(A:Option Addr)(ps:List (Int×Int)):Prop :=
 ps≠[]→∃ad:Addr,A=some ad∧ad.block<n₀∧∀(j:Nat) (p:Int×Int),ps[j]?=some p→w.cell? (ad.add (j*2))=some (.int .i64 p.1)∧w.cell? ⟨(ad.add (j*2)).block,(ad.add (j*2)).off+1,none⟩=some (.int .i64 p.2)
theorem RdP.pw{w:World}{ad:Addr}{ps:List (Int×Int)}(h:RdP w ad ps):RdPw w.heap.size w (some ad) ps:=fun _=>⟨ad,rfl,h.1,h.2⟩
theorem Atu(n₀:Nat)(w:World)(A:Option Addr):RdPw n₀ w A []:=fun h=>absurd rfl h
theorem Atv(n₀:Nat)(w:World)(A:Option Addr):RdFw n₀ w A []:=fun h=>absurd rfl h
def PerV(l:List (Int×Int))(c:Int)(w:World)(e:Ending)(w':World):Prop :=
 (∃A k,e=.returned (.tuple #[.slice A l.length k,.int .i64 c])∧RdPw w'.heap.size w' A l∧∀ad:Addr,A=some ad→w.heap.size≤ad.block)∧Below w.heap.size w w'
def FlwV(l:List (Int×Rat))(c:Int)(w:World)(e:Ending)(w':World):Prop :=
 (∃A k,e=.returned (.tuple #[.slice A l.length k,.int .i64 c])∧RdFw w'.heap.size w' A l)∧Below w.heap.size w w'
theorem PerV.have{l:List (Int×Int)}{c:Int}{w w':World}{e:Ending}(h:PerV l c w e w')(hl:l≠[]):∃(ad:Addr) (k:Nat),e=.returned (.tuple #[.slice (some ad) l.length k,.int .i64 c])∧RdP w' ad l∧w.heap.size≤ad.block:=by
 obtain⟨⟨A,k,rfl,h1,h2⟩,_⟩:=h
 obtain⟨ad,rfl,h3,h4⟩:=h1 hl
 exact⟨ad,k,rfl,⟨h3,h4⟩,h2 ad rfl⟩
noncomputable def perB(i:Inst):List (Int×Int):=if perC i=0 then perL i else []
open Classical in
noncomputable def dyC(i:Inst)(d:Int)(fn fd:ByteArray):Int:=if ¬CanQ fn fd then 1 else if perC i≠0 then perC i else if ¬okDay d then 13 else if ¬(i.issued≤d∧d≤i.matures) then 24 else 0
noncomputable def dyQ(i:Inst)(d:Int)(fn fd:ByteArray):Rat:=if dyC i d fn fd=0 then fv fn fd+accQ i d else 0
theorem Atw{i:Inst}(hg:GI i):(¬(i.ok∧i.kind=2)∧perC i≠0)∨(BdI i∧400≤(cuts i.issued i.matures i.months).length∧perC i=4)∨(BdI i∧(cuts i.issued i.matures i.months).length≤399∧perC i=0):=by
 by_cases h:i.ok∧i.kind=2
 ·rcases Aam (cuts i.issued i.matures i.months).length 400 with h1|h1
  ·exact .inr (.inr ⟨hg.bd h.1 h.2,by omega,perC_0 h.1 h.2 (by omega)⟩)
  ·exact .inr (.inl ⟨hg.bd h.1 h.2,h1,perC_4 h.1 h.2 h1⟩)
 ·exact .inl ⟨h,Atc h⟩
theorem Atx{i:Inst}(hg:GI i)(hn:perC i≠0)(w:World)(ht:Tabs w):Calls Tryz.prog 31 #[i.enc] w fun e w'=>e=.returned (.tuple #[.slice none 0 0,.int .i64 (perC i)])∧Below w.heap.size w w':=by
 rcases Atw hg with⟨h,_⟩|⟨hb,hl,he⟩|⟨_,_,he⟩
 ·exact Atd i hg.sz h w ht
 ·refine (Asp i hb w ht).mono ?_
  rintro e w' ⟨b,hr⟩
  rcases hr with⟨_,rfl⟩|⟨hl2,_⟩
  ·exact⟨by rw[he],b⟩
  ·omega
 ·exact absurd he hn
theorem Aty{i:Inst}(hg:GI i)(w:World)(ht:Tabs w):Calls Tryz.prog 31 #[i.enc] w (PerV (perB i) (perC i) w):=by
 by_cases hn:perC i=0
 ·obtain⟨h1,h2,h3⟩:=Atb hn
  have hb:=hg.bd h1 h2
  have e1:perB i=perL i:=by unfold perB;rw[if_pos hn]
  rw[e1,hn]
  refine (Ata hb h3 w ht).mono ?_
  rintro e w' ⟨⟨ad,cap,cur,rfl,_,hsz,hob,hrd⟩,b⟩
  exact⟨⟨some ad,cap,rfl,(hrd w' hob).pw,fun a ha=>by injection ha with ha;rw[←ha];exact hsz⟩,b⟩
 ·have e1:perB i=[]:=by unfold perB;rw[if_neg hn]
  rw[e1]
  refine (Atx hg hn w ht).mono ?_
  rintro e w' ⟨rfl,b⟩
  exact⟨⟨none,0,rfl,Atu _ _ _,fun _ ha=>by cases ha⟩,b⟩
theorem Atz{i:Inst}(hg:GI i)(d:Int)(fn fd:ByteArray)(s1:fn.size≤900000)(s2:fd.size≤900000)(c:Int)(hc:(¬CanQ fn fd∧c=1)∨(CanQ fn fd∧perC i≠0∧c=perC i))(W:World)(g:Nat)(hb:W.heap[g]?=some (.cells #[.string fn,.string fd] 25 (0,0)))(ht:Tabs W):
 Calls Tryz.prog 50 #[i.enc,.int .i64 d,.slice (some ⟨g,0,none⟩) 1 1] W fun e w'=>e=.returned (.tuple #[.slice none 0 0,.int .i64 c])∧Below W.heap.size W w':=by
 rcases hc with⟨hq,rfl⟩|⟨hq,hn,rfl⟩
 ·exact Ate i d _ 1 1 W (fun W' hW'=>Asz g fn fd true (by omega) (by omega) ⟨fun h=>(by cases h),fun h=>absurd h hq⟩ W' (bkeep hW' hb) (ht.below hW'))
 ·exact Atf i _ hn (fun W' hW'=>Atx hg hn W' hW') d _ 1 1 W (fun W' hW'=>Asz g fn fd false (by omega) (by omega) ⟨fun _=>hq,fun _=>rfl⟩ W' (bkeep hW' hb) (ht.below hW')) ht
theorem At0{i:Inst}(hg:GI i)(d:Int)(fn fd:ByteArray)(s1:fn.size≤400)(s2:fd.size≤400)(w:World)(ht:Tabs w):
 Calls Tryz.prog 16 #[i.enc,.int .i64 d,.agg #[.string fn,.string fd]] w fun e w'=>e=.returned (.tuple #[fenc (dyQ i d fn fd),.int .i64 (dyC i d fn fd)])∧Below w.heap.size w w':=by
 by_cases hq:CanQ fn fd
 case neg =>
  have hc:dyC i d fn fd=1:=by unfold dyC;rw[if_pos hq]
  have hv:dyQ i d fn fd=0:=by unfold dyQ;rw[if_neg (by rw[hc];decide)]
  rw[hc,hv]
  exact Atg i d fn fd 1 (by decide) (fun W g hb hW=>Atz hg d fn fd (by omega) (by omega) 1 (.inl ⟨hq,rfl⟩) W g hb hW) w ht
 by_cases hn:perC i=0
 case neg =>
  have hc:dyC i d fn fd=perC i:=by unfold dyC;rw[if_neg (fun x=>x hq),if_pos hn]
  have hv:dyQ i d fn fd=0:=by unfold dyQ;rw[if_neg (by rw[hc];exact hn)]
  rw[hc,hv]
  exact Atg i d fn fd _ hn (fun W g hb hW=>Atz hg d fn fd (by omega) (by omega) _ (.inr ⟨hq,hn,rfl⟩) W g hb hW) w ht
 obtain⟨h1,h2,h3⟩:=Atb hn
 have hb:=hg.bd h1 h2
 refine (As5 i hb d fn fd (by omega) (by omega) ((fv_bd fn fd (k:=401) (by omega) (by omega)).mono (by omega)) hq w ht).mono ?_
 rintro e w' ⟨b,hr⟩
 refine⟨?_,b⟩
 rcases hr with⟨h4,_⟩|⟨_,⟨hd,he⟩|⟨hd,⟨hl,he⟩|⟨hl,he⟩⟩⟩
 ·omega
 ·have hc:dyC i d fn fd=13:=by unfold dyC;rw[if_neg (fun x=>x hq),if_neg (fun x=>x hn),if_pos hd]
  have hv:dyQ i d fn fd=0:=by unfold dyQ;rw[if_neg (by rw[hc];decide)]
  rw[hc,hv];exact he
 ·have hc:dyC i d fn fd=24:=by unfold dyC;rw[if_neg (fun x=>x hq),if_neg (fun x=>x hn),if_neg (fun x=>x hd),if_pos hl]
  have hv:dyQ i d fn fd=0:=by unfold dyQ;rw[if_neg (by rw[hc];decide)]
  rw[hc,hv];exact he
 ·have hc:dyC i d fn fd=0:=by unfold dyC;rw[if_neg (fun x=>x hq),if_neg (fun x=>x hn),if_neg (fun x=>x hd),if_neg (fun x=>x hl)]
  have hv:dyQ i d fn fd=fv fn fd+accQ i d:=by unfold dyQ;rw[if_pos hc]
  rw[hc,hv];exact he
theorem At1{i:Inst}(hg:GI i)(d:Int)(w:World)(ht:Tabs w):
 Calls Tryz.prog 14 #[i.enc,.int .i64 d] w fun e w'=>e=.returned (.tuple #[fenc (dyQ i d ⟨#[]⟩ ⟨#[]⟩),.int .i64 (dyC i d ⟨#[]⟩ ⟨#[]⟩)])∧Below w.heap.size w w' :=
 Ath i d _ _ (fun W hW=>At0 hg d ⟨#[]⟩ ⟨#[]⟩ (Nat.zero_le _) (Nat.zero_le _) W hW) w ht
structure LAll(ls:List Lot):Prop where
 len:ls.length≤1000
 ok:∀l∈ls,lchk l=0
 nd:(ls.map Lot.id).Nodup
theorem lallF_nil:∀(r pre:List Lot),lallF pre r=0↔(∀l∈r,lchk l=0)∧(r.map Lot.id).Nodup∧∀l∈r,l.id ∉ pre.map Lot.id
 | [],pre=>by unfold lallF;simp
 | l :: r, pre => by
   unfold lallF
   by_cases h1:lchk l=0
   ·rw [if_neg (fun x => x h1)]
    by_cases h2:l.id∈pre.map Lot.id
    ·rw[if_pos h2]
     exact⟨fun h=>absurd h (by decide),fun h=>absurd h2 (h.2.2 l (List.mem_cons_self ..))⟩
    ·rw[if_neg h2,lallF_nil r (pre++[l])]
     constructor
     ·rintro⟨a,b,c⟩
      refine⟨fun x hx=>?_,?_,fun x hx=>?_⟩
      ·rcases List.mem_cons.1 hx with rfl|hx
       ·exact h1
       ·exact a x hx
      ·rw[List.map_cons,List.nodup_cons]
       refine⟨fun hm=>?_,b⟩
       obtain⟨y,hy,e⟩:=List.mem_map.1 hm
       exact c y hy (by rw[List.map_append,List.mem_append];exact .inr (by rw[e];simp))
      ·rcases List.mem_cons.1 hx with rfl|hx
       ·exact h2
       ·exact fun hm=>c x hx (by rw[List.map_append,List.mem_append];exact .inl hm)
     ·rintro⟨a,b,c⟩
      rw[List.map_cons,List.nodup_cons] at b
      refine⟨fun x hx=>a x (List.mem_cons_of_mem _ hx),b.2,fun x hx hm=>?_⟩
      rw[List.map_append,List.mem_append] at hm
      rcases hm with hm|hm
      ·exact c x (List.mem_cons_of_mem _ hx) hm
      ·simp at hm
       exact b.1 (List.mem_map.2 ⟨x,hx,hm⟩)
   ·rw[if_pos h1]
    exact⟨fun h=>absurd h h1,fun h=>absurd (h.1 l (List.mem_cons_self ..)) h1⟩
theorem At2{ls:List Lot}(h:lall ls=0):LAll ls:=by
 unfold lall at h
 by_cases hg:1000<ls.length
 ·rw[if_pos hg] at h;exact absurd h (by decide)
 ·rw[if_neg hg,lallF_nil] at h
  exact⟨by omega,h.1,h.2.1⟩
theorem LAll.lots{ls:List SLot}(h:LAll (ls.map Subtype.val)):LotsOk (ls.map Subtype.val) :=
 ⟨h.len,fun l hl=>by
   obtain⟨x,hx,rfl⟩:=List.mem_map.1 hl
   exact⟨x.2,lchk_zero.1 (h.ok _ hl)⟩,h.nd⟩
open Classical in
noncomputable def achkL(i:Inst)(ls:List SLot)(d:Int):Int:=if ¬(i.ok∧lall (ls.map Subtype.val)=0) then 1 else if ¬okDay d then 13 else 0
theorem At3{i:Inst}{ls:List SLot}{d:Int}(h:¬(i.ok∧lall (ls.map Subtype.val)=0)):achkL i ls d=1:=by unfold achkL;rw[if_pos h]
theorem At4{i:Inst}{ls:List SLot}{d:Int}(h1:i.ok)(h2:lall (ls.map Subtype.val)=0)(h:¬okDay d):achkL i ls d=13:=by unfold achkL;rw[if_neg (fun x=>x ⟨h1,h2⟩),if_pos h]
theorem At5{i:Inst}{ls:List SLot}{d:Int}(h1:i.ok)(h2:lall (ls.map Subtype.val)=0)(h:okDay d):achkL i ls d=0:=by unfold achkL;rw[if_neg (fun x=>x ⟨h1,h2⟩),if_neg (fun x=>x h)]
theorem At6{i:Inst}{ls:List SLot}{d:Int}(h:achkL i ls d=0):i.ok∧lall (ls.map Subtype.val)=0∧okDay d:=by
 unfold achkL at h
 split at h
 ·exact absurd h (by decide)
 ·rename_i h1
  split at h
  ·exact absurd h (by decide)
  ·rename_i h2
   have a1:=Classical.not_not.1 h1
   exact⟨a1.1,a1.2,Classical.not_not.1 h2⟩
theorem At7{W:World}{b:Nat}{i:Inst}(h:W.heap[b]?=some (.cells i.cells 27 (0,0))):W.cell? ⟨b,0,none⟩=some (.string i.id)∧W.cell? ⟨b,1,none⟩=some (.int .i64 i.kind)∧W.cell? ⟨b,2,none⟩=some (.string i.cur)∧W.cell? ⟨b,3,none⟩=some (.int .i64 i.places)∧W.cell? ⟨b,4,none⟩=some (.int .i64 i.issued)∧W.cell? ⟨b,5,none⟩=some (.int .i64 i.matures)∧W.cell? ⟨b,6,none⟩=some (.string i.fn)∧W.cell? ⟨b,7,none⟩=some (.string i.fd)∧W.cell? ⟨b,8,none⟩=some (.string i.cn)∧W.cell? ⟨b,9,none⟩=some (.string i.cd)∧W.cell? ⟨b,10,none⟩=some (.int .i64 i.months)∧W.cell? ⟨b,11,none⟩=some (.int .i64 i.count)∧W.cell? ⟨b,12,none⟩=some (.string i.other)∧W.cell? ⟨b,13,none⟩=some (.string i.sn)∧W.cell? ⟨b,14,none⟩=some (.string i.sd) :=
 ⟨(Aaa h 0).trans rfl,(Aaa h 1).trans rfl,(Aaa h 2).trans rfl,(Aaa h 3).trans rfl,(Aaa h 4).trans rfl,(Aaa h 5).trans rfl,(Aaa h 6).trans rfl,(Aaa h 7).trans rfl,(Aaa h 8).trans rfl,(Aaa h 9).trans rfl,(Aaa h 10).trans rfl,(Aaa h 11).trans rfl,(Aaa h 12).trans rfl,(Aaa h 13).trans rfl,(Aaa h 14).trans rfl⟩
def qtyS(i:Inst)(ls:List SLot):Int:=sumBy qtyOf (ownL ls i.id)
open Classical in
noncomputable def acC(i:Inst)(ls:List SLot)(d:Int):Int:=if achkL i ls d≠0 then achkL i ls d else if i.kind≠2 then 0 else if perC i≠0 then 4 else 0
open Classical in
noncomputable def acV(i:Inst)(ls:List SLot)(d:Int):ByteArray:=if achkL i ls d≠0 then⟨#[]⟩ else if i.kind≠2 then⟨#[]⟩ else if perC i≠0 then⟨#[]⟩ else I (rnd (dyQ i d ⟨#[]⟩ ⟨#[]⟩*(qtyS i ls:Rat)))
theorem ac_err{i:Inst}{ls:List SLot}{d:Int}(h:achkL i ls d≠0):acC i ls d=achkL i ls d∧acV i ls d=⟨#[]⟩:=by
 exact⟨by unfold acC;rw[if_pos h],by unfold acV;rw[if_pos h]⟩
theorem At8{i:Inst}{ls:List SLot}{d:Int}(h:achkL i ls d=0)(h2:i.kind≠2):acC i ls d=0∧acV i ls d=⟨#[]⟩:=by
 exact⟨by unfold acC;rw[if_neg (fun x=>x h),if_pos h2],by unfold acV;rw[if_neg (fun x=>x h),if_pos h2]⟩
theorem At9{i:Inst}{ls:List SLot}{d:Int}(h:achkL i ls d=0)(h2:i.kind=2)(h3:perC i≠0):acC i ls d=4∧acV i ls d=⟨#[]⟩:=by
 exact⟨by unfold acC;rw[if_neg (fun x=>x h),if_neg (fun x=>x h2),if_pos h3],by unfold acV;rw[if_neg (fun x=>x h),if_neg (fun x=>x h2),if_pos h3]⟩
theorem Aua{i:Inst}{ls:List SLot}{d:Int}(h:achkL i ls d=0)(h2:i.kind=2)(h3:perC i=0):acC i ls d=0∧acV i ls d=I (rnd (dyQ i d ⟨#[]⟩ ⟨#[]⟩*(qtyS i ls:Rat))):=by
 exact⟨by unfold acC;rw[if_neg (fun x=>x h),if_neg (fun x=>x h2),if_neg (fun x=>x h3)],by unfold acV;rw[if_neg (fun x=>x h),if_neg (fun x=>x h2),if_neg (fun x=>x h3)]⟩
theorem rnd_zero_I:I (rnd 0)=⟨#[]⟩:=by kernel_rfl
structure AQ(w:World)(B:Nat)(q:Rat)(W:World):Prop where
 below:Below w.heap.size w W
 box:W.heap[B]?=some (.cells #[.string (I q.num),.string (dn q)] 25 (0,0))
theorem AQ.calls{w:World}{B:Nat}{q:Rat}{f:Nat}{args:Array Value}{v:Value}(ht:Tabs w)(h:∀W,Tabs W→Calls Tryz.prog f args W fun e w'=>e=.returned v∧Below W.heap.size W w'):
 ∀W,AQ w B q W→Calls Tryz.prog f args W fun e wn=>e=.returned v∧AQ w B q wn∧wn.cell? ⟨B,0,none⟩=some (.string (I q.num))∧wn.cell? ⟨B,1,none⟩=some (.string (dn q)):=by
 intro W hW
 refine (h W (ht.below hW.below)).mono ?_
 rintro e wn ⟨rfl,bn⟩
 have hb:=(bn.block B (Aab.1 hW.box).1).trans hW.box
 exact⟨rfl,⟨hW.below.trans (bn.mono hW.below.size),hb⟩,Aaa hb 0,Aaa hb 1⟩
theorem canQ_e:CanQ ⟨#[]⟩ ⟨#[]⟩:=canQ_nil
theorem Aub{i:Inst}{d:Int}(hg:GI i)(h1:i.ok)(h2:i.kind=2)(hd:okDay d):
 (perC i=4∧dyC i d ⟨#[]⟩ ⟨#[]⟩=4)∨(perC i=0∧dyC i d ⟨#[]⟩ ⟨#[]⟩=24∧dyQ i d ⟨#[]⟩ ⟨#[]⟩=0)∨(perC i=0∧dyC i d ⟨#[]⟩ ⟨#[]⟩=0∧dyQ i d ⟨#[]⟩ ⟨#[]⟩=accQ i d∧BdI i):=by
 have hz:fv ⟨#[]⟩ ⟨#[]⟩=0:=fv_zero
 rcases Atw hg with⟨h,_⟩|⟨_,_,h⟩|⟨hb,_,h⟩
 ·exact absurd ⟨h1,h2⟩ h
 ·exact .inl ⟨h,by unfold dyC;rw[if_neg (fun x=>x canQ_e),if_pos (by rw[h];decide),h]⟩
 ·by_cases hl:i.issued≤d∧d≤i.matures
  ·have e:dyC i d ⟨#[]⟩ ⟨#[]⟩=0:=by unfold dyC;rw[if_neg (fun x=>x canQ_e),if_neg (fun x=>x h),if_neg (fun x=>x hd),if_neg (fun x=>x hl)]
   exact .inr (.inr ⟨h,e,by unfold dyQ;rw[if_pos e,hz,Rat.zero_add],hb⟩)
  ·have e:dyC i d ⟨#[]⟩ ⟨#[]⟩=24:=by unfold dyC;rw[if_neg (fun x=>x canQ_e),if_neg (fun x=>x h),if_neg (fun x=>x hd),if_pos hl]
   exact .inr (.inl ⟨h,e,by unfold dyQ;rw[if_neg (by rw[e];decide)]⟩)
theorem Auc(n₀:Nat)(i:Inst)(A:Option Addr)(ls:List SLot)(c:Nat)(hc:ls.length≤c)(hlm:ls.length≤99)(hi:i.sized)(d:Int)(w:World)(hR:RdB n₀ w A ls)(hn:n₀≤w.heap.size)(ht:Tabs w):
 Calls Tryz.prog 62 #[i.enc,.slice A ls.length c,.int .i64 d] w fun e w'=>e=.returned (.int .i64 (achkL i ls d))∧Below w.heap.size w w':=by
 obtain⟨W0,hW0,hB0,hz,hk⟩:=ibox i w
 obtain⟨c0,c1,c2,c3,c4,c5,c6,c7,c8,c9,c10,c11,c12,c13,c14⟩:=At7 hk
 have HT:=hI ht
 have HB0:=hI hB0
 have HC1:=hI (Aq0 i hi W0 (ht.below hB0))
 have HC2:=hI (fun W (hb:Below w.heap.size w W)=>Aqc A c (ls.map Subtype.val) (by rw[List.length_map];exact hc) (by rw[List.length_map];omega) W ((hR.below (hb.mono hn)).rdl (Aap hn hb.size)) (fun l hl=>by obtain⟨x,_,rfl⟩:=List.mem_map.1 hl;exact x.2) (ht.below hb))
 have HV:=hI (fun W=>An7 d W)
 rw[List.length_map] at HC2
 obtain⟨la,hla⟩:∃n,lall (ls.map Subtype.val)=n:=⟨_,rfl⟩
 have HLA:=hI hla
 rw[hla] at HC2
 clear ht hR hB0 hk hz hi hla
 unfold Inst.enc Inst.cells at *
 go_enter Tryz.func62,Tryz.ntmps62
 go_wp2_with fail
 refine HC1.out.mono ?_
 rintro e w1 ⟨n,rfl,hn',b1⟩
 have HN:=hI hn'
 have HB1:=hI (HB0.out.trans (b1.mono HB0.out.size))
 clear b1 hn' HC1 HB0 hW0
 clear c0 c1 c2 c3 c4 c5 c6 c7 c8 c9 c10 c11 c12 c13 c14
 by_cases h1:n=0
 case neg =>
  have t1:(n==0)=false:=Aaj.2 h1
  have t1':(n != 0)=true:=by rw[bne,t1];rfl
  have H:=hI h1
  clear h1
  go_wp2_with fail
  go_ret
  exact⟨by rw[At3 (fun h=>H.out (HN.out.2 h.1))];rfl,HB1.out⟩
 have H1:=hI (HN.out.1 h1)
 subst h1
 go_wp2_with fail
 refine (HC2.out _ HB1.out).mono ?_
 rintro e w2 ⟨rfl,b2⟩
 have HB2:=hI (HB1.out.trans (b2.mono HB1.out.size))
 clear b2 HB1 HC2 HN
 by_cases h2:la=0
 case neg =>
  have t1:(la==0)=false:=Aaj.2 h2
  have t1':(la != 0)=true:=by rw[bne,t1];rfl
  have H:=hI h2
  clear h2
  go_wp2_with fail
  go_ret
  exact⟨by rw[At3 (fun h=>H.out (HLA.out▸h.2))];rfl,HB2.out⟩
 subst h2
 by_cases h3:okDay d
 case neg =>
  have H:=hI h3
  rw[Aaw h3] at HV
  clear h3
  go_wp2_with fail
  refine (HV.out _).mono ?_
  rintro e w3 ⟨rfl,rfl⟩
  go_wp2_with fail
  go_ret
  exact⟨by rw[At4 H1.out HLA.out H.out];rfl,HB2.out⟩
 have H:=hI h3
 rw[Aav h3] at HV
 clear h3
 go_wp2_with fail
 refine (HV.out _).mono ?_
 rintro e w3 ⟨rfl,rfl⟩
 go_wp2_with fail
 go_ret
 exact⟨by rw[At5 H1.out HLA.out H.out];rfl,HB2.out⟩
theorem Aud{i:Inst}(h:BdI i){d:Int}(hd:okDay d):BdQ (accQ i d) 59:=by
 rcases Ast (perL i) d with⟨k,p,hk,hp,_,_⟩|hn
 ·rw[As1 hk hp]
  exact Ask h (h.per (Aar hp)).1 hd
 ·rw[As2 hn]
  exact BdQ.zero (by omega)
theorem Aue(n₀:Nat)(i:Inst)(A:Option Addr)(ls:List SLot)(c:Nat)(hc:ls.length≤c)(hlm:ls.length≤99)(hg:GI i)(d:Int)(w:World)(hR:RdB n₀ w A ls)(hn:n₀≤w.heap.size)(ht:Tabs w):
 Calls Tryz.prog 20 #[i.enc,.slice A ls.length c,.int .i64 d] w fun e w'=>e=.returned (.tuple #[.string (acV i ls d),.int .i64 (acC i ls d)])∧Below w.heap.size w w':=by
 obtain⟨W0,hW0,hB0,hz,hk⟩:=ibox i w
 obtain⟨c0,c1,c2,c3,c4,c5,c6,c7,c8,c9,c10,c11,c12,c13,c14⟩:=At7 hk
 have HT:=hI ht
 have HB0:=hI hB0
 have HK0:Hid (InstBox W0 w.heap.size i):=hk
 have HC1:=hI (Auc n₀ i A ls c hc hlm hg.sz d W0 (hR.below (hB0.mono hn)) (Aap hn hB0.size) (ht.below hB0))
 have HTO:=hI (fun W (hb:Below w.heap.size w W)=>lTotal_any n₀ A ls c i.id W (by omega) (hR.below (hb.mono hn)) (Aap hn hb.size) (ht.below hb))
 have HAC:=hI (fun W hW=>At1 hg d W hW)
 by_cases h0:achkL i ls d=0
 case neg =>
  obtain⟨e1,e2⟩:=ac_err h0
  rw[e1,e2]
  generalize achkL i ls d=n at *
  have t1:(n==0)=false:=Aaj.2 h0
  have t1':(n != 0)=true:=by rw[bne,t1];rfl
  clear h0 hR ht hB0 hk hz hg e1 e2 HTO HAC HK0
  unfold Inst.enc Inst.cells at *
  go_enter Tryz.func20,Tryz.ntmps20
  go_wp2_with fail
  refine HC1.out.mono ?_
  rintro e w1 ⟨rfl,b1⟩
  have HB1:=hI (HB0.out.trans (b1.mono HB0.out.size))
  clear b1 HC1 HB0 hW0
  clear c0 c1 c2 c3 c4 c5 c6 c7 c8 c9 c10 c11 c12 c13 c14
  go_wp2_with fail
  go_ret2
  exact⟨rfl,HB1.out⟩
 obtain⟨hok,hall,hdy⟩:=At6 h0
 rw[h0] at HC1
 by_cases h2:i.kind=2
 case neg =>
  obtain⟨e1,e2⟩:=At8 h0 h2
  rw[e1,e2]
  have t1:(i.kind==2)=false:=Aaj.2 h2
  have t1':(i.kind != 2)=true:=by rw[bne,t1];rfl
  clear h0 hR ht hB0 hk hz hg e1 e2 HTO HAC hok hall hdy h2
  unfold Inst.enc Inst.cells at *
  go_enter Tryz.func20,Tryz.ntmps20
  go_wp2_with fail
  refine HC1.out.mono ?_
  rintro e w1 ⟨rfl,b1⟩
  have HB1:=hI (HB0.out.trans (b1.mono HB0.out.size))
  have hk1:=HK0.out.below b1
  clear c0 c1 c2 c3 c4 c5 c6 c7 c8 c9 c10 c11 c12 c13 c14
  obtain⟨c0,c1,c2,c3,c4,c5,c6,c7,c8,c9,c10,c11,c12,c13,c14⟩:=At7 hk1
  clear b1 HC1 HB0 hW0 hk1 HK0
  go_wp2_with fail
  go_ret2
  exact⟨rfl,HB1.out⟩
 have t2:(i.kind==2)=true:=beq_iff_eq.2 h2
 have t2':(i.kind != 2)=false:=by rw[bne,t2];rfl
 have hcs:=Aub hg hok h2 hdy
 have hpe:perC i=0→acC i ls d=0∧acV i ls d=I (rnd (dyQ i d ⟨#[]⟩ ⟨#[]⟩*(qtyS i ls:Rat))):=fun h3=>Aua h0 h2 h3
 have hpf:perC i≠0→acC i ls d=4∧acV i ls d=⟨#[]⟩:=fun h3=>At9 h0 h2 h3
 obtain⟨K,hK⟩:∃K,K=1000:=⟨_,rfl⟩
 obtain⟨M,hM⟩:∃M,M=2000:=⟨_,rfl⟩
 have zq:(I (sumBy qtyOf (ownL ls i.id))).size≤M:=by
  have:=sumBy_size (qty_lt hK) (ownL ls i.id) (by have:(ownL ls i.id).length≤99:=Aap (List.length_filter_le _ _) hlm;omega)
  omega
 have hqs:sumBy qtyOf (ownL ls i.id)=qtyS i ls:=rfl
 rw[hqs] at zq HTO
 generalize sumBy costOf (ownL ls i.id)=sc at *
 generalize hsq:qtyS i ls=sq at *
 rcases hcs with⟨hp,hd4⟩|⟨hp,hd4,hq⟩|⟨hp,hd4,hq,hbi⟩
 ·obtain⟨e1,e2⟩:=hpf (by rw[hp];decide)
  rw[e1,e2]
  rw[hd4] at HAC
  clear zq
  clear h0 hR ht hB0 hk hz hg e1 e2 hok hall hdy h2 hpe hpf hp hd4 hqs hsq hK
  unfold Inst.enc Inst.cells at *
  go_enter Tryz.func20,Tryz.ntmps20
  go_wp2_with fail
  refine HC1.out.mono ?_
  rintro e w1 ⟨rfl,b1⟩
  have HB1:=hI (HB0.out.trans (b1.mono HB0.out.size))
  have hk1:=HK0.out.below b1
  clear c0 c1 c2 c3 c4 c5 c6 c7 c8 c9 c10 c11 c12 c13 c14
  obtain⟨c0,c1,c2,c3,c4,c5,c6,c7,c8,c9,c10,c11,c12,c13,c14⟩:=At7 hk1
  have HK1:=hI hk1
  clear b1 HC1 HB0 hW0 hk1 HK0
  go_wp2_with fail
  refine (HAC.out _ (HT.out.below HB1.out)).mono ?_
  rintro e w2 ⟨rfl,b2⟩
  have HB2:=hI (HB1.out.trans (b2.mono HB1.out.size))
  have hk2:=HK1.out.below b2
  clear b2 HB1 HK1 HAC
  clear c0 c1 c2 c3 c4 c5 c6 c7 c8 c9 c10 c11 c12 c13 c14
  obtain⟨c0,c1,c2,c3,c4,c5,c6,c7,c8,c9,c10,c11,c12,c13,c14⟩:=At7 hk2
  unfold fenc
  have HA2:=hI (fun o=>HB2.out.alloc HB2.out.size o)
  clear hk2
  go_wp2_with fail
  go_ret2
  exact⟨rfl,HA2.out _⟩
 ·obtain⟨e1,e2⟩:=hpe hp
  rw[e1,e2]
  rw[hd4] at HAC
  rw[hq] at HAC ⊢
  have hz0:I (rnd ((0:Rat)*(sq:Rat)))=⟨#[]⟩:=by rw[Rat.zero_mul];exact rnd_zero_I
  rw[hz0]
  clear zq hq hz0
  clear h0 hR ht hB0 hk hz hg e1 e2 hok hall hdy h2 hpe hpf hp hd4 hqs hsq hK
  unfold Inst.enc Inst.cells at *
  go_enter Tryz.func20,Tryz.ntmps20
  go_wp2_with fail
  refine HC1.out.mono ?_
  rintro e w1 ⟨rfl,b1⟩
  have HB1:=hI (HB0.out.trans (b1.mono HB0.out.size))
  have hk1:=HK0.out.below b1
  clear c0 c1 c2 c3 c4 c5 c6 c7 c8 c9 c10 c11 c12 c13 c14
  obtain⟨c0,c1,c2,c3,c4,c5,c6,c7,c8,c9,c10,c11,c12,c13,c14⟩:=At7 hk1
  have HK1:=hI hk1
  clear b1 HC1 HB0 hW0 hk1 HK0
  go_wp2_with fail
  refine (HAC.out _ (HT.out.below HB1.out)).mono ?_
  rintro e w2 ⟨rfl,b2⟩
  have HB2:=hI (HB1.out.trans (b2.mono HB1.out.size))
  have hk2:=HK1.out.below b2
  clear b2 HB1 HK1 HAC
  clear c0 c1 c2 c3 c4 c5 c6 c7 c8 c9 c10 c11 c12 c13 c14
  obtain⟨c0,c1,c2,c3,c4,c5,c6,c7,c8,c9,c10,c11,c12,c13,c14⟩:=At7 hk2
  unfold fenc
  have HA2:=hI (fun o=>HB2.out.alloc HB2.out.size o)
  clear hk2
  go_wp2_with fail
  go_ret2
  exact⟨rfl,HA2.out _⟩
 ·obtain⟨e1,e2⟩:=hpe hp
  rw[e1,e2]
  rw[hd4] at HAC
  rw[hq] at HAC ⊢
  have bq:BdQ (accQ i d) 59:=Aud hbi hdy
  have bn:BdQ (sq:Rat) M:=BdQ.int (by rw[←vl_I sq];exact Aah (vl_lt _) (Ac4 zq)) (by omega)
  have HOF:=hI (fun W hW=>Ahv (I sq) W (by omega) hW)
  rw[vl_I] at HOF
  have HMU:=hI (fun W hW=>fMulQ bq bn (by omega) (by omega) W hW)
  have HRO:=hI (fun W hW=>An6 (bq.mul bn) (by omega) W hW)
  obtain⟨qn,hqn⟩:∃r:Rat,(sq:Rat)=r:=⟨_,rfl⟩
  rw[hqn] at HOF HMU HRO ⊢
  obtain⟨qa,hqa⟩:∃r:Rat,accQ i d=r:=⟨_,rfl⟩
  rw[hqa] at HAC HMU HRO ⊢
  obtain⟨qm,hqm⟩:∃r:Rat,qa*qn=r:=⟨_,rfl⟩
  rw[hqm] at HMU HRO ⊢
  clear bq bn hbi hqn hqa hqm hq
  clear h0 hR ht hB0 hk hz hg e1 e2 hok hall hdy h2 hpe hpf hp hd4 hqs hsq hK
  unfold Inst.enc Inst.cells at *
  go_enter Tryz.func20,Tryz.ntmps20
  go_wp2_with fail
  refine HC1.out.mono ?_
  rintro e w1 ⟨rfl,b1⟩
  have HB1:=hI (HB0.out.trans (b1.mono HB0.out.size))
  have hk1:=HK0.out.below b1
  clear c0 c1 c2 c3 c4 c5 c6 c7 c8 c9 c10 c11 c12 c13 c14
  obtain⟨c0,c1,c2,c3,c4,c5,c6,c7,c8,c9,c10,c11,c12,c13,c14⟩:=At7 hk1
  have HK1:=hI hk1
  clear b1 HC1 HB0 hW0 hk1 HK0
  go_wp2_with fail
  refine (HAC.out _ (HT.out.below HB1.out)).mono ?_
  rintro e w2 ⟨rfl,b2⟩
  have HB2:=hI (HB1.out.trans (b2.mono HB1.out.size))
  have hk2:=HK1.out.below b2
  clear b2 HB1 HK1 HAC
  clear c0 c1 c2 c3 c4 c5 c6 c7 c8 c9 c10 c11 c12 c13 c14
  obtain⟨c0,c1,c2,c3,c4,c5,c6,c7,c8,c9,c10,c11,c12,c13,c14⟩:=At7 hk2
  unfold fenc
  obtain⟨W3,hW3⟩:∃W3,w2.alloc (.cells #[.string (I qa.num),.string (dn qa)] 25)=W3:=⟨_,rfl⟩
  have hB3:Below w.heap.size w W3:=by rw[←hW3];exact HB2.out.alloc HB2.out.size _
  have k3:W3.heap[w2.heap.size]?=some (.cells #[.string (I qa.num),.string (dn qa)] 25 (0,0)):=by rw[←hW3];exact Aax w2 _
  have k0:W3.cell? ⟨w.heap.size,0,none⟩=some (.string i.id):=by
   have h:=(At7 ((heap_alloc_old w2 (o:=.cells #[.string (I qa.num),.string (dn qa)] 25) (Aab.1 hk2).1).trans hk2)).1
   rw[←hW3];exact h
  obtain⟨B3,hB3e⟩:∃B,w2.heap.size=B:=⟨_,rfl⟩
  rw[hB3e] at k3
  clear hk2 c0 c1 c2 c3 c4 c5 c6 c7 c8 c9 c10 c11 c12 c13 c14 HB2
  have HB3:=hI hB3
  have HK3:=hI k3
  clear hB3 k3
  go_wp2_with fail
  refine (HTO.out _ HB3.out).mono ?_
  rintro e w4 ⟨rfl,b4⟩
  have HB4:=hI (HB3.out.trans (b4.mono HB3.out.size))
  have hk4:w4.heap[B3]?=some (.cells #[.string (I qa.num),.string (dn qa)] 25 (0,0)):=(b4.block B3 (Aab.1 HK3.out).1).trans HK3.out
  have HO4:=hI (AQ.calls (q:=qa) (B:=B3) HT.out HOF.out)
  have HM4:=hI (AQ.calls (q:=qa) (B:=B3) HT.out HMU.out)
  have HR4:=hI (AQ.calls (q:=qa) (B:=B3) HT.out HRO.out)
  have HK4:=hI hk4
  clear b4 HB3 HK3 HTO k0 hk4 hB3e hW3
  unfold fenc at HO4 HM4 HR4
  go_wp2_with fail
  have hg:AQ w B3 qa w4.drew:=⟨HB4.out.drew,HK4.out⟩
  have m0:=Aaa hg.box 0
  have m1:=Aaa hg.box 1
  simp at m0 m1
  go_region_held3 (fun W=>W.cell? ⟨B3,0,none⟩=some (.string (I qa.num))∧W.cell? ⟨B3,1,none⟩=some (.string (dn qa)))
   (((try dsimp only);refine⟨?_,?_⟩<;>first|assumption|(go_simp;done)))
   (first
     | (go_at_call 29;refine (HO4.out _ hg).mono ?_;clear hg m0 m1;rintro e wn ⟨rfl,hg,m0,m1⟩)
     | (go_at_call 12;refine (HM4.out _ hg).mono ?_;clear hg m0 m1;rintro e wn ⟨rfl,hg,m0,m1⟩)
     | (go_at_call 63;refine (HR4.out _ hg).mono ?_;clear hg m0 m1;rintro e wn ⟨rfl,hg,m0,m1⟩))
  go_wp2_with fail
  go_ret2
  exact⟨rfl,hg.below⟩
end Go.Proofs.YtcnmoobojdopgaaGreatDoor
