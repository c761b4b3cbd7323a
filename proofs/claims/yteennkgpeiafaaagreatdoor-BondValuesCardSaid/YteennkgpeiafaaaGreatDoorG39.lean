/-
  slices.IndexFunc and slices.DeleteFunc of flows,whatever the function;the walk of bond.Rest.
-/
import Derived.Test.YteennkgpeiafaaaGreatDoorG36
import Derived.Lib.SliceRun
import Derived.Laws.StructEq
import Derived.BigQuiet
set_option linter.unusedVariables false
set_option linter.unusedSimpArgs false
set_option maxHeartbeats 16000000
set_option maxRecDepth 100000
namespace Go.Proofs.YteennkgpeiafaaaGreatDoor
open Go.RowKit Tr Go.Shelf
theorem heap_setCells_midF:∀(vs:List Value) (W:World) (B o:Nat) (A C R:List Value) (t:TypeId),W.heap[B]?=some (.cells (A++(C++R)).toArray t (0,0))→A.length=o→C.length=vs.length→(W.setCells B o vs).heap[B]?=some (.cells (A++(vs++R)).toArray t (0,0))
 | [],W,B,o,A,C,R,t,h,ho,hc=>by rw[Aag (l:=C) (by simpa using hc)] at h;exact h
 | v :: vs, W, B, o, A, C, R, t, h, ho, hc => by
   match C,hc with
   | [],hc=>simp at hc
   | c::C,hc =>
     have h2:(W.setCell ⟨B,o,none⟩ v).heap[B]?=some (.cells ((A++[v])++(C++R)).toArray t (0,0)):=by
      simp only[World.setCell,Array.getElem?_modify,h,if_true,Option.map_some]
      congr 2
      rw[List.setIfInBounds_toArray,List.set_append_right _ _ (by omega),ho,Nat.sub_self]
      simp
     have h3:=heap_setCells_midF vs (W.setCell ⟨B,o,none⟩ v) B (o+1) (A++[v]) C R t h2 (by simp;omega) (by simpa using hc)
     rw[World.setCells,h3]
     simp
theorem grown_setCellsF:∀(vs:List Value) (W:World) (B o:Nat),W.grownBy (W.setCells B o vs) (some B)
 | [],W,B,o=>⟨rfl,rfl,rfl,Aad _,fun _ _ _=>rfl⟩
 | v::vs,W,B,o=>by
   have h:=grown_setCellsF vs (W.setCell ⟨B,o,none⟩ v) B (o+1)
   have hs:=(KeepsWalks.setCell W ⟨B,o,none⟩ v).size
   exact⟨h.os,h.tape,h.output,Aap hs h.size,fun k hk hne=>(h.block k (Aah hk hs) hne).trans (Below.heap_setCell _ _ _ k (fun e=>hne (by rw[e])))⟩
theorem Ash{P:Program}{ops:Array Oper}{rest:List Oper}{o:Oper}{a:Act}{Q:Exit→Act→World→Prop}{t:TypeId}{pv xv:Value}{w w':World}(hr:(Instr.storeAt t pv xv).run P w=.ok () w')(hgd:o.guard=none)(p x:Operand)
 (ho:o.op=.store t p x) (hp:a.eval p=pv) (hx:a.eval x=xv) (h:wpList P ops Q rest (a.put o.dst undef) w'):wpList P ops Q (o::rest) a w :=
 wpList_plain hgd fun _ hK=>by
  unfold Oper.wp execOp
  simp only[ho,hp,hx,Sem.run_bind,Sem.run_pure,Result.andThen_ok,hr]
  exact hK _ _ h
section
variable {α:Type}
theorem Asi{P Q:List α}{x:α}{k:Nat}(h:P.length=k)(y:α):(P++x::Q).set k y=P++y::Q:=by
 subst h;rw[List.set_append_right _ _ (Aad _),Nat.sub_self];rfl
end
theorem Asj(p:Addr)(hp:p.spot=none)(n:Nat):p.add n=⟨p.block,p.off+n,none⟩:=by
 unfold Addr.add
 split
 ·next h=>subst h;cases p;simp_all
 ·cases p;simp_all
theorem Ask{α:Type}{ls:List α}{k:Nat}{l:α}(h:ls[k]?=some l):ls.take (k+1)=ls.take k++[l]:=by
 obtain⟨hlt,he⟩:=Aak.1 h
 rw[List.take_succ_eq_append_getElem hlt,he]
theorem Asm{α:Type}{D:List α}{k:Nat}{x:α}(h:D[k]?=some x):∃P Q,D=P++x::Q∧P.length=k:=by
 obtain⟨hk,he⟩:=Aak.1 h
 refine⟨D.take k,D.drop (k+1),?_,by rw[List.length_take];omega⟩
 rw[←he,←Aax hk,Aat]
theorem Asn(a b:List (Int×Rat)):flV (a++b)=flV a++flV b:=by simp[flV]
theorem Asp(x:Int×Rat)(a:List (Int×Rat)):flV (x::a)=[.int .i64 x.1,.string (I x.2.num),.string (dn x.2)]++flV a:=by simp[flV]
theorem Asq(ls:List (Int×Rat)):(flV ls).length=ls.length*3:=by
 induction ls with
 | nil=>rfl
 | cons x r ih=>rw[Asp,Aan,ih,Aaw];simp;omega
abbrev flE(x:Int×Rat):Value:=.agg #[.int .i64 x.1,.string (I x.2.num),.string (dn x.2)]
theorem Asr(x:Int×Rat):∀u∈[Value.int .i64 x.1,.string (I x.2.num),.string (dn x.2)],u.oneCell'=true:=by
 intro u hu
 simp at hu
 rcases hu with rfl|rfl|rfl<;>rfl
structure FRow(w0:World)(g:Nat)(sp:List Value)(D:List (Int×Rat))(W:World):Prop where
 row:W.heap[g]?=some (.cells (flV D++sp).toArray 44 (0,0))
 gr:w0.grownBy W (some g)
 lt:g<w0.heap.size
section
variable {w0 W W':World} {g k:Nat} {sp:List Value} {D:List (Int×Rat)} {x:Int×Rat}
theorem FRow.ltW(h:FRow w0 g sp D W):g<W.heap.size:=Aah h.lt h.gr.size
theorem FRow.below(h:FRow w0 g sp D W)(hb:Below W.heap.size W W'):FRow w0 g sp D W' :=
 ⟨(hb.block g h.ltW).trans h.row,⟨hb.os.trans h.gr.os,hb.tape.trans h.gr.tape,hb.output.trans h.gr.output,Aap h.gr.size hb.size,fun k hk hne=>(hb.block k (Aah hk h.gr.size)).trans (h.gr.block k hk hne)⟩,h.lt⟩
theorem FRow.at(h:FRow w0 g sp D W)(hk:D[k]?=some x):W.cell? ⟨g,k*3,none⟩=some (.int .i64 x.1)∧W.cell? ⟨g,k*3+1,none⟩=some (.string (I x.2.num))∧W.cell? ⟨g,k*3+2,none⟩=some (.string (dn x.2)):=by
 obtain⟨P,Q,rfl,hP⟩:=Asm hk
 have hl:(flV P).length=k*3:=by rw[Asq,hP]
 have hc:∀f u,f<3→[Value.int .i64 x.1,.string (I x.2.num),.string (dn x.2)][f]?=some u→W.cell? ⟨g,k*3+f,none⟩=some u:=fun f u hf hu=>by
  rw[Aaa h.row (k*3+f),List.getElem?_toArray,Asn,Asp,List.append_assoc,List.getElem?_append_right (by omega),hl,Nat.add_sub_cancel_left,List.append_assoc,List.getElem?_append_left (by exact hf)]
  exact hu
 exact⟨hc 0 _ (by omega) rfl,hc 1 _ (by omega) rfl,hc 2 _ (by omega) rfl⟩
theorem adkF{ad:Addr}(had:ad=⟨g,0,none⟩)(n:Nat):ad.add n=⟨g,n,none⟩:=by
 rw[had,Asj _ rfl];simp
theorem FRow.at'{ad:Addr}(h:FRow w0 g sp D W)(had:ad=⟨g,0,none⟩)(hk:D[k]?=some x):W.cell? (ad.add (k*3))=some (.int .i64 x.1)∧W.cell? ⟨(ad.add (k*3)).block,(ad.add (k*3)).off+1,none⟩=some (.string (I x.2.num))∧W.cell? ⟨(ad.add (k*3)).block,(ad.add (k*3)).off+2,none⟩=some (.string (dn x.2)):=by
 rw[adkF had];exact h.at hk
theorem FRow.put(h:FRow w0 g sp D W)(y:Int×Rat):FRow w0 g sp (D.set k y) (W.setRow g (flV (D.set k y)++sp).toArray):=by
 refine⟨setRow_heap _ g _ _ _ _ h.row,⟨h.gr.os,h.gr.tape,h.gr.output,by simp[World.setRow];exact h.gr.size,fun j hj hne=>?_⟩,h.lt⟩
 rw[setRow_other _ g j _ (fun e=>hne (by rw[e]))]
 exact h.gr.block j hj hne
theorem FRow.st{ad:Addr}(h:FRow w0 g sp D W)(had:ad=⟨g,0,none⟩)(hk:D[k]?=some x)(y:Int×Rat):
 ∃wn,(Instr.storeAt 44 (.pointer (some (ad.add (k*3)))) (.agg #[.int .i64 y.1,.string (I y.2.num),.string (dn y.2)])).run Tryz.prog W=.ok () wn∧FRow w0 g sp (D.set k y) wn:=by
 refine⟨_,?_,h.put y⟩
 have hz:(sizeOf 44).run Tryz.prog W=.ok 3 W:=by kernel_rfl
 have hkl:=(Aak.1 hk).1
 have hs:=run_storeCells_at Tryz.prog g (k*3) 44 [Value.int .i64 y.1,.string (I y.2.num),.string (dn y.2)] 0 _ W h.row (by simp[Asq];omega) (Asr y)
 rw[adkF had]
 obtain⟨P,Q,hD,hP⟩:=Asm hk
 have hl:(flV P).length=k*3:=by rw[Asq,hP]
 have e1:(flV D++sp).take (k*3)=flV P:=by
  rw[hD,Asn,List.append_assoc,←hl,List.take_left]
 have e2:(flV D++sp).drop (k*3+3)=flV Q++sp:=by
  rw[hD,Asn,Asp,show flV P++([Value.int .i64 x.1,.string (I x.2.num),.string (dn x.2)]++flV Q)++sp=(flV P++[Value.int .i64 x.1,.string (I x.2.num),.string (dn x.2)])++(flV Q++sp) from by simp,show k*3+3=(flV P++[Value.int .i64 x.1,.string (I x.2.num),.string (dn x.2)]).length from by rw[Aan,hl];rfl,List.drop_left]
 have e3:flV (D.set k y)++sp=flV P++[Value.int .i64 y.1,.string (I y.2.num),.string (dn y.2)]++(flV Q++sp):=by
  rw[hD,Asi hP,Asn,Asp];simp
 rw[Nat.add_zero,show [Value.int .i64 y.1,.string (I y.2.num),.string (dn y.2)].length=3 from rfl,e1,e2,←e3] at hs
 unfold Instr.storeAt storeVar
 simp only[Sem.run_bind,Instr.sureAddr,Sem.run_pure,Result.andThen_ok,hz]
 rw[if_neg (by show ¬(3:Nat)≠3;exact fun h=>h rfl)]
 exact hs
end
theorem Ass(W:World)(ad:Addr)(m c j:Nat)(hj:j≤m):(Instr.sliceAt 40 (.slice (some ad) m c) (some (.int .i64 (j:Int))) none none).run Tryz.prog W=.ok (.slice (some (if c=j then ad else ad.add (j*3))) (m-j) (c-j)) W:=by
 have ht:Tryz.prog.underlying 40=some (.slice (Tryz.prog.elem 40)):=by kernel_rfl
 have hz:(sizeOf (Tryz.prog.elem 40)).run Tryz.prog W=.ok 3 W:=by kernel_rfl
 rw[run_sliceAt_slice W _ _ _ _ _ ht,run_slice_l W _ _ _ _ ht .i64 _ (by omega) (by omega),hz]
 simp[Result.andThen,sliced]
 split<;>rfl
theorem Ast(W:World)(ad:Addr)(m c j:Nat)(hj:j≤c):(Instr.sliceAt 40 (.slice (some ad) m c) none (some (.int .i64 (j:Int))) none).run Tryz.prog W=.ok (.slice (some ad) j c) W:=by
 have ht:Tryz.prog.underlying 40=some (.slice (Tryz.prog.elem 40)):=by kernel_rfl
 have hz:(sizeOf (Tryz.prog.elem 40)).run Tryz.prog W=.ok 3 W:=by kernel_rfl
 rw[run_sliceAt_slice W _ _ _ _ _ ht,run_slice_h W _ _ _ _ ht .i64 _ (by omega) (by omega),hz]
 have e:ad.add 0=ad:=by unfold Addr.add;simp
 simp[Result.andThen,sliced,e]
theorem zeroFlow_cells:∃z:Value,z.cells.toList=[Value.int .i64 0,.string ⟨#[]⟩,.string ⟨#[]⟩]∧∀W,(zeroValue 44).run Tryz.prog W=.ok z W:=⟨.agg #[.int .i64 0,.string ⟨#[]⟩,.string ⟨#[]⟩],rfl,fun W=>by kernel_rfl⟩
theorem Asu(w:World)(b o n c:Nat)(hc:∀j,j<n*3→(w.cell? ⟨b,o+j,none⟩).isSome=true)(hf:∀j,j<n*3→w.frozen? ⟨b,o+j,none⟩=false):
 ∃zs:List Value,zs.length=n*3∧∀ty:TypeId,(Builtin.clear_ #[40] ty #[.slice (some ⟨b,o,none⟩) n c]).run Tryz.prog w=.ok (.tuple #[]) (w.setCells b o zs):=by
 obtain⟨z,hz,hv⟩:=zeroFlow_cells
 have e:z.cells=#[.int .i64 0,.string ⟨#[]⟩,.string ⟨#[]⟩]:=by
  apply Array.toList_inj.1
  rw[hz]
 obtain⟨zs,hzs⟩:∃zs,(Builtin.zeroCells z.cells n).toList=zs:=⟨_,rfl⟩
 have hl:zs.length=n*3:=by rw[←hzs,e];unfold Builtin.zeroCells;simp
 have h1:∀u∈zs,u.oneCell'=true:=by
  intro u hu
  rw[←hzs,e] at hu
  unfold Builtin.zeroCells at hu
  rw[Array.toList_map] at hu
  obtain⟨i,_,rfl⟩:=List.mem_map.1 hu
  have hi:i % 3<3:=Nat.mod_lt _ (by decide)
  show (#[Value.int .i64 0,.string ⟨#[]⟩,.string ⟨#[]⟩][i % 3]!).oneCell'=true
  generalize i % 3=k at hi
  rcases (show k=0∨k=1∨k=2 from by omega) with rfl|rfl|rfl<;>rfl
 refine⟨zs,hl,fun ty=>?_⟩
 have hst:=run_storeCells_cells (P:=Tryz.prog) b o zs 0 w (by rw[hl];simpa using hc) (by rw[hl];simpa using hf) h1
 simp only[Nat.add_zero] at hst
 have ht:Tryz.prog.underlying 40=some (.slice 44):=Tryz.underlying40
 cases n with
 | zero =>
   obtain rfl:zs=[]:=Aag (by simpa using hl)
   have e0:w.setCells b o []=w:=rfl
   simp[Builtin.clear_,run_underlying ht,e0]
 | succ n=>simp[Builtin.clear_,run_underlying ht,hv,hzs,hst]
structure PrdF(pf:Int×Rat→Bool)(f:Nat)(bd:Array Value)(w0:World)(g:Nat):Prop where
 en:∀args w,(callFunc f args).run Tryz.prog w=.ok (.enter f args) w
 run:∀W,w0.grownBy W (some g)→∀a,Calls Tryz.prog f (#[flE a]++bd) W fun e w'=>e=.returned (.bool (pf a))∧Below W.heap.size W w'
def IdxF(pf:Int×Rat→Bool)(D:List (Int×Rat))(z:Int):Prop:=(∃(k:Nat) (x:Int×Rat),z=(k:Int)∧D[k]?=some x∧pf x=true∧∀y∈D.take k,pf y=false)∨(z=-1∧∀y∈D,pf y=false)
theorem Asv(pf:Int×Rat→Bool)(f:Nat)(bd:Array Value)(w0:World)(g N c:Nat)(sp:List Value)(D:List (Int×Rat))(hN:D.length=N)(hm:N≤1000000)(w:World)(hrow:FRow w0 g sp D w)(hp:PrdF pf f bd w0 g):
 Calls Tryz.prog 160 #[.slice (some ⟨g,0,none⟩) N c,.func (.func f) #[] bd] w fun e w'=>(∃z:Int,e=.returned (.int .i64 z)∧IdxF pf D z)∧Below w.heap.size w w':=by
 obtain⟨ad,had⟩:∃ad:Addr,ad=⟨g,0,none⟩:=⟨_,rfl⟩
 rw[←had]
 have HAD:=hI had
 have HROW:=hI hrow
 have HNN:=hI hN
 have HC:=hI hp
 have hen:=hp.en
 clear had hrow hN hp
 go_enter Tryz.func160,Tryz.ntmps160
 go_wp2_with fail
 go_loopw [5,8] (fun _ v wr=>∃k:Nat,v=.int .i64 (k:Int)∧k≤N∧(∀x∈D.take k,pf x=false)∧Below w.heap.size w wr) (fun _ v _=>N-(intOf v).toNat)
 case atStart=>exact⟨0,rfl,by omega,fun p hp=>by simp at hp,Below.refl _ _⟩
 case round =>
  obtain⟨k,rfl,hk,hno,hb⟩:=hrel
  have HNO:=hI hno
  have HB:=hI hb
  clear hno hb
  rcases Aam k N with hlt|hge
  ·obtain⟨p,hp⟩:∃p,D[k]?=some p:=⟨_,Aae (by rw[HNN.out];exact hlt)⟩
   have hcx:decide ((k:Int)<(N:Int))=true:=by simp;omega
   have hrw:=HROW.out.below HB.out
   obtain⟨c0,c1,c2⟩:=hrw.at' HAD.out hp
   have HTK:=hI (Ask hp)
   have HP:=hI hp
   have hcl:=HC.out.run _ hrw.gr p
   have HCL:=hI hcl
   clear hp hcl hrw
   go_wp2_with fail
   refine HCL.out.mono ?_
   rintro e w1 ⟨rfl,b1⟩
   have HB1:=hI (HB.out.trans (b1.mono HB.out.size))
   clear b1 HCL c0 c1 c2
   cases hpp:pf p
   case true =>
    have HF:Hid (IdxF pf D (k:Int)):=.inl ⟨k,p,rfl,HP.out,hpp,HNO.out⟩
    clear hpp
    go_wp2_with fail
    go_ret
    exact⟨⟨_,rfl,HF.out⟩,HB1.out⟩
   case false =>
    have HE:=hI hpp
    clear hpp
    go_wp2_with fail
    go_roundw
    case rel =>
     refine⟨k+1,by go_num,by omega,fun x hx=>?_,HB1.out⟩
     rw[HTK.out,List.mem_append] at hx
     rcases hx with hx|hx
     ·exact HNO.out x hx
     ·rw[List.mem_singleton] at hx;subst hx;exact HE.out
    case measure=>simp[intOf];omega
  ·have hcx:decide ((k:Int)<(N:Int))=false:=by simp;omega
   have HF:Hid (IdxF pf D (-1)):=.inr ⟨rfl,fun x hx=>HNO.out x (by rw[Aai (by rw[HNN.out];exact hge)];exact hx)⟩
   go_wp2_with fail
   go_ret
   exact⟨⟨_,rfl,HF.out⟩,HB.out⟩
structure KeptF(pf:Int×Rat→Bool)(D0:List (Int×Rat))(i j:Nat)(D:List (Int×Rat)):Prop where
 len:D.length=D0.length
 lt:i<j
 le:j≤D0.length
 fr:D.take i=(D0.take j).filter fun x=>!pf x
 bk:∀k,j≤k→D[k]?=D0[k]?
theorem KeptF.start{pf:Int×Rat→Bool}{D0:List (Int×Rat)}{k:Nat}{x:Int×Rat}(hx:D0[k]?=some x)(hp:pf x=true)(ha:∀y∈D0.take k,pf y=false):KeptF pf D0 k (k+1) D0:=by
 have hk:=(Aak.1 hx).1
 refine⟨rfl,Nat.lt_succ_self k,hk,?_,fun _ _=>rfl⟩
 rw[Ask hx,List.filter_append,List.filter_eq_self.2 (fun y hy=>by rw[ha y hy];rfl)]
 simp[hp]
theorem KeptF.skip{pf:Int×Rat→Bool}{D0 D:List (Int×Rat)}{i j:Nat}{x:Int×Rat}(h:KeptF pf D0 i j D)(hx:D0[j]?=some x)(hp:pf x=true):KeptF pf D0 i (j+1) D:=by
 have hk:=(Aak.1 hx).1
 refine⟨h.len,by have:=h.lt;omega,hk,?_,fun k hk=>h.bk k (by omega)⟩
 rw[Ask hx,List.filter_append,h.fr]
 simp[hp]
theorem KeptF.keep{pf:Int×Rat→Bool}{D0 D:List (Int×Rat)}{i j:Nat}{x:Int×Rat}(h:KeptF pf D0 i j D)(hx:D0[j]?=some x)(hp:pf x=false):KeptF pf D0 (i+1) (j+1) (D.set i x):=by
 have hk:=(Aak.1 hx).1
 have hi:i<D.length:=by rw[h.len];have:=h.lt;omega
 refine⟨by rw[List.length_set,h.len],by have:=h.lt;omega,hk,?_,fun k hk=>?_⟩
 ·have e:(D.set i x)[i]?=some x:=by rw[List.getElem?_set_self hi]
  rw[Ask e,Ask hx,List.filter_append,←h.fr,List.take_set_of_le (Aad _)]
  simp[hp]
 ·rw[List.getElem?_set_ne (by have:=h.lt;omega)];exact h.bk k (by omega)
theorem KeptF.done{pf:Int×Rat→Bool}{D0 D:List (Int×Rat)}{i:Nat}(h:KeptF pf D0 i D0.length D):D.take i=D0.filter fun x=>!pf x:=by rw[h.fr,Aai (Aad _)]
theorem KeptF.num{pf:Int×Rat→Bool}{D0 D:List (Int×Rat)}{i:Nat}(h:KeptF pf D0 i D0.length D):(D0.filter fun x=>!pf x).length=i:=by rw[←h.done,List.length_take,h.len];have:=h.lt;omega
theorem Asw(pf:Int×Rat→Bool)(f:Nat)(bd:Array Value)(w0:World)(g N c:Nat)(sp:List Value)(D0 R:List (Int×Rat))(hF:(D0.filter fun x=>!pf x)=R)(hN:D0.length=N)(hm:N≤1000000)(hc:N≤c)(w:World)(hrow:FRow w0 g sp D0 w)(hp:PrdF pf f bd w0 g):
 Calls Tryz.prog 89 #[.slice (some ⟨g,0,none⟩) N c,.func (.func f) #[] bd] w fun e w'=>∃sp',e=.returned (.slice (some ⟨g,0,none⟩) R.length c)∧FRow w0 g sp' R w':=by
 obtain⟨ad,had⟩:∃ad:Addr,ad=⟨g,0,none⟩:=⟨_,rfl⟩
 have hix:=Asv pf f bd w0 g N c sp D0 hN hm w hrow hp
 rw[←had] at hix ⊢
 have HIX:=hI hix
 have HAD:=hI had
 have HROW:=hI hrow
 have HNN:=hI hN
 have HC:=hI hp
 have HFF:=hI hF
 have hen:=hp.en
 obtain⟨M,hM⟩:∃M,R.length=M:=⟨_,rfl⟩
 rw[hM]
 have HM:=hI hM
 clear had hrow hN hp hix hF hM
 go_enter Tryz.func89,Tryz.ntmps89
 go_wp2_with fail
 refine HIX.out.mono ?_
 rintro e w1 ⟨⟨z,rfl,hz⟩,b1⟩
 have HR1:=hI (HROW.out.below b1)
 clear b1 HIX HROW
 rcases hz with⟨k,x,rfl,hk,hx,hno⟩|⟨rfl,hno⟩
 case inr =>
  have hf:R=D0:=HFF.out.symm.trans (List.filter_eq_self.2 (fun y hy=>by rw[hno y hy];rfl))
  have HE:Hid (M=N):=by rw[Hid,←HM.out,hf];exact HNN.out
  have HRE:Hid (FRow w0 g sp R w1):=by rw[hf];exact HR1.out
  have t1:((-1:Int)==(-1:Int))=true:=rfl
  clear hno hf
  go_wp2_with fail
  go_ret
  exact⟨sp,by rw[HE.out];rfl,HRE.out⟩
 have HK0:=hI (KeptF.start hk hx hno)
 have hkl:k<N:=by rw[←HNN.out];exact (Aak.1 hk).1
 have t1:((k:Int)==(-1:Int))=false:=Aaj.2 (by omega)
 clear hk hx hno
 go_wp2_with fail
 clear t1
 go_loopw [5,6] (fun v u wr=>∃(i j:Nat) (D:List (Int×Rat)),v=.int .i64 (i:Int)∧u=.int .i64 (j:Int)∧KeptF pf D0 i j D∧FRow w0 g sp D wr) (fun _ u _=>N-(intOf u).toNat)
 case atStart=>exact⟨k,k+1,D0,rfl,by go_num,HK0.out,HR1.out⟩
 case round =>
  obtain⟨i,j,D,rfl,rfl,hkd,hr⟩:=hrel
  have HKD:=hI hkd
  have HR:=hI hr
  have hjl:=hkd.le
  have hij:=hkd.lt
  have hdl:=hkd.len
  rw[HNN.out] at hjl hdl
  clear hkd hr HK0 HR1
  have hil:(i:Int)<(N:Int):=by omega
  have hil2:i<N:=by omega
  rcases Aam j N with hlt|hge
  ·obtain⟨y,hy⟩:∃y,D0[j]?=some y:=⟨_,Aae (by rw[HNN.out];exact hlt)⟩
   have hcx:decide ((j:Int)<(N:Int))=true:=by simp;omega
   have HY0:=hI hy
   have HY:Hid (D[j]?=some y):=(HKD.out.bk j (Aad _)).trans hy
   obtain⟨z,hz⟩:∃z,D[i]?=some z:=⟨_,Aae (by rw[hdl];exact hil2)⟩
   have HZ:=hI hz
   obtain⟨c0,c1,c2⟩:=HR.out.at' HAD.out HY.out
   obtain⟨W5,hW5⟩:∃W5,wr.alloc (.cells #[.int .i64 y.1,.string (I y.2.num),.string (dn y.2)] 44)=W5:=⟨_,rfl⟩
   have b5:Below wr.heap.size wr W5:=by rw[←hW5];exact (Below.refl _ wr).alloc (Aad _) _
   have k5:W5.heap[wr.heap.size]?=some (.cells #[.int .i64 y.1,.string (I y.2.num),.string (dn y.2)] 44 (0,0)):=by rw[←hW5];exact Aa0 wr _
   have HR5:=hI (HR.out.below b5)
   have HB5:Hid (W5.heap[wr.heap.size]?=some (.cells #[.int .i64 y.1,.string (I y.2.num),.string (dn y.2)] 44 (0,0))):=k5
   have d0:=Aaa k5 0;have d1:=Aaa k5 1;have d2:=Aaa k5 2
   simp at d0 d1 d2
   have hcl:=fun W (h:FRow w0 g sp D W)=>HC.out.run W h.gr y
   have HCL:=hI hcl
   clear hcl b5 k5 hy hz hdl
   go_wp2_with fail
   refine (HCL.out _ HR5.out).mono ?_
   rintro e w2 ⟨rfl,b2⟩
   have HR2:=hI (HR5.out.below b2)
   have HB2:=hI (bkeep b2 HB5.out)
   clear b2 HCL c0 c1 c2 d0 d1 d2 hW5 HR5 HB5
   cases hpp:pf y
   case true =>
    have HKN:=hI (HKD.out.skip HY0.out hpp)
    clear hpp
    go_wp2_with fail
    go_roundw
    case rel=>exact⟨i,j+1,D,rfl,by go_num,HKN.out,HR2.out⟩
    case measure=>simp[intOf];omega
   case false =>
    have HKN:=hI (HKD.out.keep HY0.out hpp)
    obtain⟨wn,hrun,hrow⟩:=HR2.out.st HAD.out HZ.out y
    have HRN:=hI hrow
    have x0:=Aaa HB2.out 0
    have x1:=Aaa HB2.out 1
    have x2:=Aaa HB2.out 2
    simp at x0 x1 x2
    clear hpp hrow
    go_wp2_with (refine Ash hrun rfl _ _ rfl rfl rfl ?_)
    go_roundw
    case rel=>exact⟨i+1,j+1,D.set i y,by go_num,by go_num,HKN.out,HRN.out⟩
    case measure=>simp[intOf];omega
  ·have hjN:j=N:=by omega
   have hkd:=HKD.out
   rw[hjN,←HNN.out] at hkd
   have hM:M=i:=by rw[←HM.out,←HFF.out];exact hkd.num
   have hR:D.take i=R:=by rw[←HFF.out];exact hkd.done
   subst hM
   have hcx:decide ((j:Int)<(N:Int))=false:=by simp;omega
   have hpl:(flV (D.take M)).length=M*3:=by rw[Asq,List.length_take,hdl,Nat.min_eq_left (by omega)]
   have hql:(flV (D.drop M)).length=(N-M)*3:=by rw[Asq,List.length_drop,hdl]
   have hrow:=HR.out.row
   have e1:flV D=flV (D.take M)++flV (D.drop M):=by rw[←Asn,Aat]
   rw[e1,List.append_assoc] at hrow
   obtain⟨zs,hzl,hcl0⟩:=Asu wr g (M*3) (N-M) (c-M)
    (fun t ht=>by rw[Aaa hrow (M*3+t),List.getElem?_toArray,List.getElem?_append_right (by omega),List.getElem?_append_left (by omega),Aae (by omega)];rfl)
    (fun t ht=>Aaf hrow _)
   have hrow2:=heap_setCells_midF zs wr g (M*3) (flV (D.take M)) (flV (D.drop M)) sp _ hrow hpl (by rw[hql,hzl])
   obtain⟨W2,hW2⟩:∃W2,wr.setCells g (M*3) zs=W2:=⟨_,rfl⟩
   have hg2:wr.grownBy W2 (some g):=by rw[←hW2];exact grown_setCellsF _ _ _ _
   rw[hW2] at hrow2 hcl0
   have hgr:=HR.out.gr
   have hfin:FRow w0 g (zs++sp) R W2:=by
    refine⟨?_,⟨hg2.os.trans hgr.os,hg2.tape.trans hgr.tape,hg2.output.trans hgr.output,Aap hgr.size hg2.size,fun k hk hne=>(hg2.block k (Aah hk hgr.size) hne).trans (hgr.block k hk hne)⟩,HR.out.lt⟩
    rw[←hR]
    exact hrow2
   have HFIN:=hI hfin
   have hcl:∀ty,(Builtin.clear_ #[40] ty #[.slice (some ⟨g,M*3,none⟩) (N-M) (c-M)]).run Tryz.prog wr=.ok (.tuple #[]) W2:=hcl0
   have hs1:∀W,(Instr.sliceAt 40 (.slice (some ad) N c) (some (.int .i64 (M:Int))) none none).run Tryz.prog W=.ok (.slice (some ⟨g,M*3,none⟩) (N-M) (c-M)) W:=fun W=>by
    rw[Ass W ad N c M (by omega),if_neg (by omega),adkF HAD.out]
   have hs2:∀W,(Instr.sliceAt 40 (.slice (some ad) N c) none (some (.int .i64 (M:Int))) none).run Tryz.prog W=.ok (.slice (some ad) M c) W:=fun W=>Ast W ad N c M (by omega)
   clear hkd hR hpl hql hrow e1 hzl hrow2 hW2 hg2 hgr hfin hcl0 hdl
   go_wp2_with fail
   go_ret
   exact⟨_,rfl,HFIN.out⟩
def Asx(w:World)(i:Inst)(d:Int)(e:Ending)(w':World):Prop :=
 Below w.heap.size w w'∧((400≤(cuts i.issued i.matures i.months).length∧e=.returned (.tuple #[.slice none 0 0,.int .i64 4]))∨((cuts i.issued i.matures i.months).length≤399 ∧
  ((¬okDay d∧e=.returned (.tuple #[.slice none 0 0,.int .i64 13]))∨(okDay d∧∃g c sp,w.heap.size≤g∧e=.returned (.tuple #[.slice (some ⟨g,0,none⟩) (restL i d (Aqk i)).length c,.int .i64 0])∧w'.heap[g]?=some (.cells (flV (restL i d (Aqk i))++sp).toArray 44 (0,0))))))
theorem Asy(d:Int)(b:Nat)(f:Int×Rat)(w:World)(hb:Boxed w b 22 (.int .i64 d)):
 Calls Tryz.prog 90 #[flE f,.pointer (some ⟨b,0,none⟩)] w fun e w'=>e=.returned (.bool (decide (f.1≤d)))∧Below w.heap.size w w':=by
 obtain⟨x,y⟩:=f
 obtain⟨W0,hW0⟩:∃W0,w.alloc (.cells #[.int .i64 x,.string (I y.num),.string (dn y)] 44)=W0:=⟨_,rfl⟩
 have b0:Below w.heap.size w W0:=by rw[←hW0];exact (Below.refl _ w).alloc (Aad _) _
 have k0:W0.heap[w.heap.size]?=some (.cells #[.int .i64 x,.string (I y.num),.string (dn y)] 44 (0,0)):=by rw[←hW0];exact Aa0 w _
 have hc:=(Anq hb b0).cell
 have c0:=Aaa k0 0
 have c1:=Aaa k0 1
 have c2:=Aaa k0 2
 simp at c0 c1 c2
 have HB:=hI b0
 clear hb b0 k0
 go_enter Tryz.func90,Tryz.ntmps90
 go_wp2_with fail
 go_ret
 exact⟨rfl,HB.out⟩
theorem Asz(i:Inst)(h:BdI i)(d:Int)(w:World)(ht:Tabs w):Calls Tryz.prog 33 #[i.enc,.int .i64 d] w (Asx w i d):=by
 have HH:=hI h
 have HT:=hI ht
 have HCK:=hI (fun W (hW:Tabs W)=>Apz i h d none 0 0 W (fun W' _=>Apx 0 W') hW)
 have HFL:=hI (fun W (hW:Tabs W)=>Aqn i h W hW)
 obtain⟨Q,hQ⟩:∃Q,Asx w i d=Q:=⟨_,rfl⟩
 rw[hQ]
 have HQ:=hI hQ
 obtain⟨W0,hW0',hB0,hz,k0,k1⟩:=box2 w (.cells i.cells 27) (.cells #[.int .i64 d] 22)
 have hW0:=hW0'.symm
 have HG0:Hid (BX w [(w.heap.size,.cells i.cells 27 (0,0)),(w.heap.size+1,.cells #[.int .i64 d] 22 (0,0))] W0):=⟨hB0,fun x hx=>by
  rcases List.mem_cons.1 hx with rfl|hx
  ·exact k0
  ·rcases List.mem_cons.1 hx with rfl|hx
   ·exact k1
   ·cases hx⟩
 obtain⟨c0,c1,c2,c3,c4,c5,c6,c7,c8,c9,c10,c11,c12,c13,c14⟩:=Acs k0
 try simp[Inst.cells] at c0 c1 c2 c3 c4 c5 c6 c7 c8 c9 c10 c11 c12 c13 c14
 have e0:=Aaa k1 0
 simp at e0
 clear hB0 hz k0 k1 hW0' h ht hQ
 unfold Inst.enc Inst.cells at *
 go_enter Tryz.func33,Tryz.ntmps33
 go_wp2_with fail
 refine (HCK.out _ (HT.out.below HG0.out.1)).mono ?_
 rintro e w1 ⟨x1,hr⟩
 have HG1:=hI (HG0.out.below x1)
 clear x1 HG0 HCK hW0 c0 c1 c2 c3 c4 c5 c6 c7 c8 c9 c10 c11 c12 c13 c14 e0
 rcases hr with⟨hl,rfl⟩|⟨hl,⟨hd,rfl⟩|⟨hd,ad,cap,rfl,_,_⟩⟩
 ·have HL:=hI hl
  clear hl
  go_wp2_with fail
  rw[←HQ.out]
  exact⟨HG1.out.1,.inl ⟨HL.out,rfl⟩⟩
 ·have HL:=hI hl
  have HD:=hI hd
  clear hl hd
  go_wp2_with fail
  rw[←HQ.out]
  exact⟨HG1.out.1,.inr ⟨HL.out,.inl ⟨HD.out,rfl⟩⟩⟩
 have HL:=hI hl
 have HD:=hI hd
 have k0:=HG1.out.get 0 rfl
 obtain⟨c0,c1,c2,c3,c4,c5,c6,c7,c8,c9,c10,c11,c12,c13,c14⟩:=Acs k0
 try simp[Inst.cells] at c0 c1 c2 c3 c4 c5 c6 c7 c8 c9 c10 c11 c12 c13 c14
 clear hl hd k0
 go_wp2_with fail
 refine (HFL.out _ (HT.out.below HG1.out.1)).mono ?_
 rintro e w2 ⟨x2,hr⟩
 have HG2:=hI (HG1.out.below x2)
 rcases hr with⟨hl,_⟩|⟨_,v,rfl,how,_⟩
 ·exfalso
  have:=HL.out
  omega
 obtain⟨N,hN⟩:∃N,(Aqk i).length=N:=⟨_,rfl⟩
 have hN4:N≤400:=by
  have h1:=Ari i
  have h2:=Ajd i.issued i.matures i.months
  have h3:=HL.out
  unfold perL at h1
  omega
 have hN0:0<N:=by
  have:=Ark HH.out
  rw[←hN]
  exact List.length_pos_iff.2 this
 rw[hN] at how
 obtain⟨g,cp,sp,rfl,hbg,hrow,hnc⟩:∃g cp sp,v=.slice (some ⟨g,0,none⟩) N cp∧w1.heap.size≤g∧w2.heap[g]?=some (.cells (flV (Aqk i)++sp).toArray 44 (0,0))∧N≤cp:=by
  rcases how.2 with⟨_,h⟩|⟨g',cap',cur,h,hb,hg,hnc,_,_,ht⟩
  ·omega
  ·refine⟨g',cap',cur.toList.drop (N*3),h,hb,?_,hnc⟩
   rw[←ht,Aat]
   exact hg
 have hgl:g<w2.heap.size:=(Aab.1 hrow).1
 have hwg:w.heap.size≤g:=Aap HG1.out.1.size hbg
 have hs:FRow w2 g sp (Aqk i) w2:=⟨hrow,⟨rfl,rfl,rfl,Aad _,fun _ _ _=>rfl⟩,hgl⟩
 have hne:w.heap.size+1≠g:=by
  have h1:=HG1.out.lt 1 rfl
  omega
 have hbx:Boxed w2 (w.heap.size+1) 22 (.int .i64 d):=HG2.out.get 1 rfl
 have hp:PrdF (fun f=>decide (f.1≤d)) 90 #[.pointer (some ⟨w.heap.size+1,0,none⟩)] w2 g :=
  ⟨enters_of Tryz.func90 (by kernel_rfl) rfl,fun W hW a=>Asy d _ a W ((hW.block _ (Aab.1 hbx).1 (by intro e;injection e with e;exact hne e)).trans hbx)⟩
 obtain⟨R,hR⟩:∃R,restL i d (Aqk i)=R:=⟨_,rfl⟩
 have HDEL:=hI (Asw (fun f=>decide (f.1≤d)) 90 _ w2 g N cp sp (Aqk i) R hR hN (by omega) hnc w2 hs hp)
 have HRR:=hI hR
 have HWG:=hI hwg
 clear how hrow hs hp hbx hne x2 hR hwg hbg hgl hnc hN hN4 hN0 c0 c1 c2 c3 c4 c5 c6 c7 c8 c9 c10 c11 c12 c13 c14 HFL
 go_wp2_with fail
 refine HDEL.out.mono ?_
 rintro e w3 ⟨sp',rfl,hr⟩
 have HF:Hid (Asx w i d (.returned (.tuple #[.slice (some ⟨g,0,none⟩) R.length cp,.int .i64 0])) w3):=by
  refine⟨HG2.out.1.grown hr.gr HG2.out.1.size fun k e=>by injection e with e;rw[←e];exact HWG.out,.inr ⟨HL.out,.inr ⟨HD.out,g,cp,sp',HWG.out,by rw[HRR.out],by rw[HRR.out];exact hr.row⟩⟩⟩
 clear hr HDEL
 go_wp2_with fail
 rw[←HQ.out]
 exact HF.out
end Go.Proofs.YteennkgpeiafaaaGreatDoor
namespace Go.Proofs.YteennkgpeiafaaaGreatDoor
open Go.RowKit Tr Go.Shelf
abbrev Few(i:Inst):Prop:=(cuts i.issued i.matures i.months).length≤399
theorem As0{i:Inst}(h:BdI i){d:Int}(h1:i.issued≤d)(h2:d≤i.matures):okDay d:=by
 obtain⟨a0,a1⟩:=h.ok.issued
 obtain⟨⟨b0,b1⟩,_⟩:=h.mat
 exact⟨by omega,by omega⟩
theorem As1{i:Inst}(h:BdI i)(hc:Few i)(w:World)(ht:Tabs w):Calls Tryz.prog 26 #[i.enc] w fun e w' =>
 (∃ad cap cur,e=.returned (.tuple #[.slice (some ad) (perL i).length cap,.int .i64 0])∧(perL i).length≤cap∧w.heap.size≤ad.block∧w'.heap[ad.block]?=some (.cells cur 50 (0,0))∧∀W':World,W'.heap[ad.block]?=some (.cells cur 50 (0,0))→RdP W' ad (perL i))∧Below w.heap.size w w':=by
 refine (Apk i h w ht).mono ?_
 rintro e w' ⟨hb,hr⟩
 refine⟨?_,hb⟩
 rcases hr with⟨hl,_⟩|⟨_,v,rfl,hrow⟩
 ·have h1:(cuts i.issued i.matures i.months).length≤399:=hc
  omega
 ·obtain⟨ad,cap,cur,rfl,hnc,hbk,hob,hrd⟩:=RdP.own_box hrow (Apm _ _ _)
  exact⟨ad,cap,cur,rfl,hnc,hbk,hob,hrd⟩
theorem As2{i:Inst}(h:BdI i)(hc:Few i){d:Int}(h1:i.issued≤d)(h2:d≤i.matures)(w:World)(ht:Tabs w):Calls Tryz.prog 13 #[i.enc,.int .i64 d] w fun e w' =>
 e=.returned (.tuple #[fenc (accQ i d),.int .i64 0])∧Below w.heap.size w w':=by
 refine (Ap7 i h d w ht).mono ?_
 rintro e w' ⟨hb,hr⟩
 refine⟨?_,hb⟩
 have h3:(cuts i.issued i.matures i.months).length≤399:=hc
 rcases hr with⟨hl,_⟩|⟨_,⟨hd,_⟩|⟨_,⟨hd,_⟩|⟨_,he⟩⟩⟩
 ·omega
 ·exact absurd (As0 h h1 h2) hd
 ·exact absurd ⟨h1,h2⟩ hd
 ·rw[Rat.zero_add] at he
  exact he
theorem As3{i:Inst}(h:BdI i)(hc:Few i){d:Int}(h1:i.issued≤d)(h2:d≤i.matures)(yn yd:ByteArray)(s1:yn.size≤60)(s2:yd.size≤59)(hq:CanQ yn yd)(hy:0<1+fv yn yd)(w:World)(ht:Tabs w):
 Calls Tryz.prog 15 #[i.enc,.int .i64 d,.agg #[.string yn,.string yd]] w fun e w'=>e=.returned (.tuple #[fenc (if d=i.matures then 0 else presQ i d (fv yn yd)),.int .i64 0])∧Below w.heap.size w w':=by
 refine (bPresent_any i h d yn yd s1 s2 hq w ht).mono ?_
 rintro e w' ⟨hb,hr⟩
 refine⟨?_,hb⟩
 have h3:(cuts i.issued i.matures i.months).length≤399:=hc
 rcases hr with⟨hl,_⟩|⟨_,⟨hd,_⟩|⟨_,⟨hd,_⟩|⟨_,⟨hd,_⟩|⟨_,⟨hd,he⟩|⟨hd,he⟩⟩⟩⟩⟩
 ·omega
 ·exact absurd (As0 h h1 h2) hd
 ·exact absurd hy (Rat.not_lt.2 hd)
 ·exact absurd ⟨h1,h2⟩ hd
 ·rw[if_pos hd];exact he
 ·rw[if_neg (by omega)];exact he
theorem As4{i:Inst}(h:BdI i)(hc:Few i)(w:World)(ht:Tabs w):Calls Tryz.prog 24 #[i.enc] w fun e w' =>
 (∃g c sp,e=.returned (.tuple #[.slice (some ⟨g,0,none⟩) (Aqk i).length c,.int .i64 0])∧(Aqk i).length≤c∧w.heap.size≤g∧w'.heap[g]?=some (.cells (flV (Aqk i)++sp).toArray 44 (0,0)))∧Below w.heap.size w w':=by
 refine (Aqn i h w ht).mono ?_
 rintro e w' ⟨hb,hr⟩
 refine⟨?_,hb⟩
 have h3:(cuts i.issued i.matures i.months).length≤399:=hc
 rcases hr with⟨hl,_⟩|⟨_,v,rfl,how,_⟩
 ·omega
 ·have hN0:0<(Aqk i).length:=List.length_pos_iff.2 (Ark h)
  rcases how.2 with⟨_,h0⟩|⟨g,c,cur,rfl,hbg,hg,hnc,_,_,ht⟩
  ·omega
  ·refine⟨g,c,cur.toList.drop ((Aqk i).length*3),rfl,hnc,hbg,?_⟩
   rw[←ht,Aat]
   exact hg
theorem As5(n d:Int)(h0:-9000000000000000000≤n)(h1:n≤9000000000000000000)(g0:-9000000000000000000≤d)(g1:d≤9000000000000000000)(hd:d≠0)(w:World)(ht:Tabs w):
 Calls Tryz.prog 22 #[.int .i64 n,.int .i64 d] w fun e w'=>e=.returned (fenc (Rat.divInt n d))∧Below w.heap.size w w':=by
 have HO1:=hI (fun W (hW:Tabs W)=>Of_any n (by omega) (by omega) W hW)
 have HO2:=hI (fun W (hW:Tabs W)=>Of_any d (by omega) (by omega) W hW)
 have HNW:=hI (fun W (hW:Tabs W)=>fNewI h0 h1 g0 g1 hd W hW)
 have HT:=hI ht
 obtain⟨q,hq⟩:∃q,Rat.divInt n d=q:=⟨_,rfl⟩
 rw[hq] at HNW ⊢
 clear hq h0 h1 g0 g1 hd ht
 obtain⟨W0,hW0⟩:∃W0,w.alloc fz=W0:=⟨_,rfl⟩
 have hg:BX w [(w.heap.size,fz)] W0:=by rw[←hW0];exact BX.push (W:=w) ⟨Below.refl _ _,fun _ h=>by cases h⟩ fz
 unfold fenc at HNW ⊢
 go_enter Tryz.func22,Tryz.ntmps22
 go_wp2_with fail
 refine (HO1.out _ (HT.out.below hg.1)).mono ?_
 rintro e w1 ⟨rfl,b1⟩
 have hg1:=hg.below b1
 clear hg b1 hW0
 go_wp2_with fail
 refine (HO2.out _ (HT.out.below hg1.1)).mono ?_
 rintro e w2 ⟨rfl,b2⟩
 have hg2:=hg1.below b2
 clear hg1 b2
 go_wp2_with fail
 refine (HNW.out _ (HT.out.below hg2.1)).mono ?_
 rintro e w3 ⟨rfl,b3⟩
 have hg3:=hg2.below b3
 clear hg2 b3
 have k0:=hg3.get 0 rfl
 have l0:=hg3.lt 0 rfl
 have m0:=Aaa k0 0
 have m1:=Aaa k0 1
 have f0:=Aaf k0 0
 have f1:=Aaf k0 1
 simp at m0 m1 f0 f1
 have ne:w3.heap.size≠w.heap.size:=by omega
 have HB3:=hI hg3.1
 have HK0:=hI k0
 clear k0 hg3
 go_wp2_with fail
 have k2:=Am4 (Go.Proofs.YteennkgpeiafaaaGreatDoor.set2 HK0.out (.string (I q.num)) (.string (dn q))) (.cells #[.string (I q.num),.string (dn q)] 25)
 have j0:=Aaa k2 0
 have j1:=Aaa k2 1
 simp at j0 j1
 refine bodyPost_ret (v:=.agg #[.string (I q.num),.string (dn q)]) (by simp[results,Tryz.results22,go_sem,j0,j1]) rfl ?_
 have hb:=set2_below (Aad _) HB3.out (.string (I q.num)) (.string (dn q))
 exact⟨rfl,hb.alloc hb.size _⟩
theorem As6(y:Int)(m:Nat)(d:Int)(hv:VDate y m d)(w:World):
 Calls Tryz.prog 59 #[.int .i64 y,.int .i64 (m:Int),.int .i64 d] w fun e w'=>e=.returned (.int .i64 (dayOf y m d))∧Below w.heap.size w w':=by
 have HO:=hI (Ah5 y m d hv w)
 generalize dayOf y m d=z at *
 go_enter Tryz.func59,Tryz.ntmps59
 go_wp2_with fail
 refine HO.out.mono ?_
 rintro e w1 ⟨rfl,b1⟩
 go_wp2_with fail
 go_ret
 exact⟨rfl,b1⟩
theorem cmpz(q:Rat):(cmpI q.num 0=0↔q=0)∧(0<cmpI q.num 0↔0<q)∧(cmpI q.num 0<0↔q<0):=by
 have h1:q.num=0↔q=0:=Rat.num_eq_zero
 have h2:0<q.num↔0<q:=num_pos'
 have h3:q.num<0↔q<0:=by
  constructor
  ·intro h
   refine Rat.not_le.1 fun k=>?_
   have:=Rat.num_nonneg.2 k
   omega
  ·intro h
   refine Int.not_le.1 fun k=>?_
   exact Rat.not_le.2 h (Rat.num_nonneg.1 k)
 rw[←h1,←h2,←h3]
 unfold cmpI
 refine⟨?_,?_,?_⟩<;>repeat' split
 all_goals omega
open Classical in
noncomputable def sameB{α:Type}(a b:α):Bool:=decide (a=b)
theorem As7{α:Type}{a b:α}(h:a=b):sameB a b=true:=by unfold sameB;simp[h]
theorem As8{α:Type}{a b:α}(h:a≠b):sameB a b=false:=by unfold sameB;simp[h]
theorem As9(a b:ByteArray):(a.toList=b.toList)↔(a=b):=by
 have h:=Ak4 a b
 constructor
 ·intro e
  rw[e] at h
  simpa using h
 ·intro e;rw[e]
theorem Ata{α:Type}{l m:List α}{k:Nat}{x y:α}(h:l.take k=m.take k)(hx:l[k]?=some x)(hy:m[k]?=some y)(e:x=y):l.take (k+1)=m.take (k+1):=by
 rw[Ask hx,Ask hy,h,e]
theorem ne_at{α:Type}{l m:List α}{k:Nat}{x y:α}(hx:l[k]?=some x)(hy:m[k]?=some y)(e:x≠y):l≠m:=by
 intro h
 rw[h,hy] at hx
 exact e (Option.some.inj hx).symm
def FwAt(w:World)(ad:Addr)(x:Int×Rat):Prop:=w.cell? ad=some (.int .i64 x.1)∧w.cell? ⟨ad.block,ad.off+1,none⟩=some (.string (I x.2.num))∧w.cell? ⟨ad.block,ad.off+2,none⟩=some (.string (dn x.2))
def RdFw(n₀:Nat)(w:World)(A:Option Addr)(ps:List (Int×Rat)):Prop :=
 ps≠[]→∃ad:Addr,A=some ad∧ad.block<n₀∧∀(j:Nat) (x:Int×Rat),ps[j]?=some x→FwAt w (ad.add (j*3)) x
theorem FwAt.below{n₀:Nat}{w w':World}{ad:Addr}{x:Int×Rat}(h:FwAt w ad x)(hb:Below n₀ w w')(ha:ad.block<n₀)(hs:ad.spot=none):FwAt w' ad x:=by
 obtain⟨b,o,s⟩:=ad
 simp only at hs ha
 subst hs
 have e:∀k,w'.cell? ⟨b,k,none⟩=w.cell? ⟨b,k,none⟩:=fun k=>by unfold World.cell?;rw[hb.block b ha]
 exact⟨(e _).trans h.1,(e _).trans h.2.1,(e _).trans h.2.2⟩
theorem RdFw.below{n₀:Nat}{w w':World}{A:Option Addr}{ps:List (Int×Rat)}(h:RdFw n₀ w A ps)(hb:Below n₀ w w')(hs:∀ad,A=some ad→ad.spot=none):RdFw n₀ w' A ps:=by
 intro hl
 obtain⟨ad,rfl,h1,h2⟩:=h hl
 refine⟨ad,rfl,h1,fun j x hj=>(h2 j x hj).below hb ?_ ?_⟩
 ·rw[Acm];exact h1
 ·rw[Asj _ (hs ad rfl)]
theorem rdfw_row{w:World}{g:Nat}{ps:List (Int×Rat)}{sp:List Value}(h:w.heap[g]?=some (.cells (flV ps++sp).toArray 44 (0,0))):RdFw w.heap.size w (some ⟨g,0,none⟩) ps:=by
 intro _
 have hs:FRow w g sp ps w:=⟨h,⟨rfl,rfl,rfl,Aad _,fun _ _ _=>rfl⟩,(Aab.1 h).1⟩
 exact⟨_,rfl,(Aab.1 h).1,fun j x hj=>hs.at' rfl hj⟩
theorem Atb(x y:Int×Rat):x=y↔x.1=y.1∧I x.2.num=I y.2.num∧dn x.2=dn y.2:=by
 obtain⟨a,p⟩:=x
 obtain⟨b,q⟩:=y
 constructor
 ·intro h;injection h with h1 h2;subst h1;subst h2;exact⟨rfl,rfl,rfl⟩
 ·rintro⟨h1,h2,h3⟩
  have h4:p=q:=by rw[←Agx p,←Agx q];simp only at h2 h3;rw[h2,h3]
  simp only at h1
  rw[h1,h4]
theorem Atc(op:BinOp)(x y:Operand)(xs ys:Array Value)(w:World):(eqGuard op 44 x y (.agg xs) (.agg ys)).run Tryz.prog w=.ok () w:=run_eqGuard_agg w op _ x y xs ys (by kernel_rfl)
attribute [local go_sem] Atc
theorem Atd(x y:Int×Rat)(w:World):(binOp .neq 44 (.agg #[.int .i64 x.1,.string (I x.2.num),.string (dn x.2)]) (.agg #[.int .i64 y.1,.string (I y.2.num),.string (dn y.2)])).run Tryz.prog w=.ok (.bool (!sameB x y)) w:=by
 have hS:Tryz.prog.underlying 44=some (.struct (Tryz.prog.fieldsOf 44)):=by kernel_rfl
 have hp:Tryz.prog.stoodInHeld 44=false:=by kernel_rfl
 have hS2:Tryz.prog.underlying 25=some (.struct (Tryz.prog.fieldsOf 25)):=by kernel_rfl
 have hp2:Tryz.prog.stoodInHeld 25=false:=by kernel_rfl
 have u0:=Tryz.underlying22
 have a0:=Tryz.isAgg22
 have z0:=Tryz.sizeOf22
 have u1:=Tryz.underlying23
 have a1:=Tryz.isAgg23
 have z1:=Tryz.sizeOf23
 have a2:=Tryz.isAgg25
 have z2:=Tryz.sizeOf25
 rw[run_neq_struct,show (10000:Nat)=9998+1+1 from rfl,run_equalIn_agg w (9998+1) _ _ _ hS hp]
 have hin:=fun (xs ys:Array Value) (w:World)=>run_equalIn_agg (P:=Tryz.prog) w 9998 25 xs ys hS2 hp2
 simp only[Program.fieldsOf,Tryz.underlying44,Tryz.underlying25] at hin ⊢
 go_simp
 by_cases h0:x.1=y.1
 case neg=>rw[As8 (fun e=>h0 (by rw[e]))];simp[As9,h0]
 by_cases h1:I x.2.num=I y.2.num
 case neg=>rw[As8 (fun e=>h1 (by rw[e]))];simp[As9,h0,h1]
 by_cases h2:dn x.2=dn y.2
 case neg=>rw[As8 (fun e=>h2 (by rw[e]))];simp[As9,h0,h1,h2]
 rw[As7 ((Atb x y).2 ⟨h0,h1,h2⟩)];simp[As9,h0,h1,h2]
theorem Ate(A1 A2:Option Addr)(l1 l2:List (Int×Rat))(c1 c2:Nat)(h1:l1.length≤1000000)(h2:l2.length≤1000000)(n1 n2:Nat)(w:World)(r1:RdFw n1 w A1 l1)(r2:RdFw n2 w A2 l2):
 Calls Tryz.prog 60 #[.slice A1 l1.length c1,.slice A2 l2.length c2] w fun e w'=>e=.returned (.bool (sameB l1 l2))∧∃m,w'=w.drewN m:=by
 have R1:=hI r1
 have R2:=hI r2
 clear r1 r2
 by_cases hl:l1.length=l2.length
 case neg =>
  have tn:((l1.length:Int) != (l2.length:Int))=true:=by rw[bne,Aaj.2 (by omega)];rfl
  have tn':(l1.length != l2.length)=true:=by rw[bne,Aaj.2 hl];rfl
  have te:((l1.length:Int)==(l2.length:Int))=false:=Aaj.2 (by omega)
  have te':(l1.length==l2.length)=false:=Aaj.2 hl
  have HS:=hI (As8 (fun e=>hl (by rw[e])):sameB l1 l2=false)
  clear hl
  go_enter Tryz.func60,Tryz.ntmps60
  go_wp2_with fail
  go_ret
  exact⟨by rw[HS.out];rfl,0,rfl⟩
 obtain⟨n,hn⟩:∃n,l1.length=n:=⟨_,rfl⟩
 rw[←hl,hn]
 have tn:((n:Int) != (n:Int))=false:=by simp
 have HL:Hid (l1.length=n∧l2.length=n):=⟨hn,hl▸hn⟩
 have hnn:n≤1000000:=by omega
 clear hl hn h1 h2
 go_enter Tryz.func60,Tryz.ntmps60
 go_wp2_with fail
 go_loopw [5,13] (fun _ v wr=>∃k m:Nat,v=.int .i64 (k:Int)∧k≤n∧wr=w.drewN m∧l1.take k=l2.take k) (fun _ v _=>n-(intOf v).toNat)
 case atStart=>exact⟨0,0,rfl,by omega,rfl,rfl⟩
 case round =>
  obtain⟨k,m,rfl,hk,rfl,htk⟩:=hrel
  have HTK:=hI htk
  clear tn htk
  rcases Aam k n with hlt|hge
  ·obtain⟨x,hx⟩:∃x,l1[k]?=some x:=⟨_,Aae (by rw[HL.out.1];exact hlt)⟩
   obtain⟨y,hy⟩:∃y,l2[k]?=some y:=⟨_,Aae (by rw[HL.out.2];exact hlt)⟩
   obtain⟨a1,rfl,_,hc1⟩:=R1.out (by intro e;rw[e] at hx;cases hx)
   obtain⟨a2,rfl,_,hc2⟩:=R2.out (by intro e;rw[e] at hy;cases hy)
   have p:=hc1 k x hx
   have q:=hc2 k y hy
   obtain⟨p0,p1,p2⟩:=p
   obtain⟨q0,q1,q2⟩:=q
   have hcx:decide ((k:Int)<(n:Int))=true:=by simp;omega
   have hb:(k:Int)<(n:Int):=by omega
   have hne:=Atd x y
   by_cases he:x=y
   ·rw[As7 he] at hne
    have HST:=hI (Ata HTK.out hx hy he)
    clear hc1 hc2 hx hy he
    go_wp2_with fail
    go_quiet (fail)
    go_wp2_with fail
    go_roundw
    case rel=>exact⟨k+1,m+nq,by go_num,by omega,by first|rfl|rw[World.drewN_drewN],HST.out⟩
    case measure=>simp[intOf];omega
   ·rw[As8 he] at hne
    have HST:=hI (As8 (ne_at hx hy he))
    clear hc1 hc2 hx hy he
    go_wp2_with fail
    go_quiet (fail)
    go_wp2_with fail
    go_ret
    exact⟨by rw[HST.out];rfl,_,by first|rfl|rw[World.drewN_drewN]⟩
  ·have hcx:decide ((k:Int)<(n:Int))=false:=by simp;omega
   have HST:Hid (sameB l1 l2=true):=As7 (by have:=HTK.out;rwa [Aai (by rw[HL.out.1];exact hge),Aai (by rw[HL.out.2];exact hge)] at this)
   go_wp2_with fail
   go_ret
   exact⟨by rw[HST.out];rfl,_,rfl⟩
theorem Atf(A1 A2:Option Addr)(l1 l2:List (Int×Rat))(c1 c2:Nat)(h1:l1.length≤1000000)(h2:l2.length≤1000000)(n1 n2:Nat)(w:World)(r1:RdFw n1 w A1 l1)(r2:RdFw n2 w A2 l2):
 Calls Tryz.prog 36 #[.slice A1 l1.length c1,.slice A2 l2.length c2] w fun e w'=>e=.returned (.bool (sameB l1 l2))∧∃m,w'=w.drewN m:=by
 have R1:=hI r1
 have R2:=hI r2
 clear r1 r2
 by_cases hl:l1.length=l2.length
 case neg =>
  have tn:((l1.length:Int) != (l2.length:Int))=true:=by rw[bne,Aaj.2 (by omega)];rfl
  have tn':(l1.length != l2.length)=true:=by rw[bne,Aaj.2 hl];rfl
  have te:((l1.length:Int)==(l2.length:Int))=false:=Aaj.2 (by omega)
  have te':(l1.length==l2.length)=false:=Aaj.2 hl
  have HS:=hI (As8 (fun e=>hl (by rw[e])):sameB l1 l2=false)
  clear hl
  go_enter Tryz.func36,Tryz.ntmps36
  go_wp2_with fail
  go_ret
  exact⟨by rw[HS.out];rfl,0,rfl⟩
 obtain⟨n,hn⟩:∃n,l1.length=n:=⟨_,rfl⟩
 rw[←hl,hn]
 have tn:((n:Int) != (n:Int))=false:=by simp
 have HL:Hid (l1.length=n∧l2.length=n):=⟨hn,hl▸hn⟩
 have hnn:n≤1000000:=by omega
 clear hl hn h1 h2
 go_enter Tryz.func36,Tryz.ntmps36
 go_wp2_with fail
 go_loopw [5] (fun v wr=>∃k m:Nat,v=.int .i64 (k:Int)∧k≤n∧wr=w.drewN m∧l1.take k=l2.take k) (fun v _=>n-(intOf v).toNat)
 case atStart=>exact⟨0,0,rfl,by omega,rfl,rfl⟩
 case round =>
  obtain⟨k,m,rfl,hk,rfl,htk⟩:=hrel
  have HTK:=hI htk
  clear tn htk
  rcases Aam k n with hlt|hge
  ·obtain⟨x,hx⟩:∃x,l1[k]?=some x:=⟨_,Aae (by rw[HL.out.1];exact hlt)⟩
   obtain⟨y,hy⟩:∃y,l2[k]?=some y:=⟨_,Aae (by rw[HL.out.2];exact hlt)⟩
   obtain⟨a1,rfl,_,hc1⟩:=R1.out (by intro e;rw[e] at hx;cases hx)
   obtain⟨a2,rfl,_,hc2⟩:=R2.out (by intro e;rw[e] at hy;cases hy)
   have p:=hc1 k x hx
   have q:=hc2 k y hy
   obtain⟨p0,p1,p2⟩:=p
   obtain⟨q0,q1,q2⟩:=q
   have hcx:decide ((k:Int)<(n:Int))=true:=by simp;omega
   have hb:(k:Int)<(n:Int):=by omega
   have hne:=Atd x y
   by_cases he:x=y
   ·rw[As7 he] at hne
    have HST:=hI (Ata HTK.out hx hy he)
    clear hc1 hc2 hx hy he
    go_wp2_with fail
    go_quiet (fail)
    go_wp2_with fail
    go_roundw
    case rel=>exact⟨k+1,m+nq,by go_num,by omega,by first|rfl|rw[World.drewN_drewN],HST.out⟩
    case measure=>simp[intOf];omega
   ·rw[As8 he] at hne
    have HST:=hI (As8 (ne_at hx hy he))
    clear hc1 hc2 hx hy he
    go_wp2_with fail
    go_quiet (fail)
    go_wp2_with fail
    go_ret
    exact⟨by rw[HST.out];rfl,_,by first|rfl|rw[World.drewN_drewN]⟩
  ·have hcx:decide ((k:Int)<(n:Int))=false:=by simp;omega
   have HST:Hid (sameB l1 l2=true):=As7 (by have:=HTK.out;rwa [Aai (by rw[HL.out.1];exact hge),Aai (by rw[HL.out.2];exact hge)] at this)
   go_wp2_with fail
   go_ret
   exact⟨by rw[HST.out];rfl,_,rfl⟩
end Go.Proofs.YteennkgpeiafaaaGreatDoor
