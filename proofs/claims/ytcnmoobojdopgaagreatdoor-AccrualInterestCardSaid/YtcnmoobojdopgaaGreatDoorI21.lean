/-
  The iterator of accrual.amounts: it gives the exact amortizations of the lots of an instrument.
-/
import Derived.Test.YtcnmoobojdopgaaGreatDoorI20
import Derived.Deep.DeepCutAuto
import Derived.Deep.RegionHeld3
import Derived.Laws.EntriesVeiled
import Derived.Deep.RegionWith
set_option linter.unusedVariables false
set_option linter.unusedSimpArgs false
set_option maxHeartbeats 16000000
set_option maxRecDepth 100000
namespace Go.Proofs.YtcnmoobojdopgaaGreatDoor
open Go.RowKit Tr Go.Shelf
attribute [local go_sem] Oper.semAt_some
def qB:Nat:=4000
abbrev SQ:={q:Rat // BdQ q qB}
def encQ(x:SQ):Array Value:=#[fenc x.1]
structure ExOk(i:Inst)(d:Int):Prop where
 s1:i.fn.size≤1000
 s2:i.fd.size≤1000
 dy:okDay d
 mt:i.kind=2→okDay i.matures
theorem Aps(i:Inst)(l:Lot)(d:Int)(h:ExOk i d)(hs:l.sized)(ho:okDay l.opn)(w:World)(ht:Tabs w):
 Calls Tryz.prog 115 #[i.enc,l.enc,.int .i64 d] w fun e w'=>e=.returned (fenc (An9 i l d))∧Below w.heap.size w w':=by
 by_cases hz:i.kind≠2∨d<l.opn
 ·exact Apa i l d hz w
 ·have hk:i.kind=2:=by
   rcases Decidable.em (i.kind=2) with e|e
   ·exact e
   ·exact absurd (.inl e) hz
  exact Apb i l d hk (by omega) h.s1 h.s2 hs.2.2.1 hs.2.2.2.1 h.dy ho (h.mt hk) w ht
theorem Apt(i:Inst)(l:Lot)(d:Int)(h:ExOk i d)(hs:l.sized)(ho:okDay l.opn):BdQ (An9 i l d) qB:=by
 obtain⟨K,hK⟩:∃K,K=1002:=⟨_,rfl⟩
 have hq:K+K+K+1+7≤qB:=by unfold qB;omega
 have s1:=h.s1
 have s2:=h.s2
 have s3:=hs.2.2.1
 have s4:=hs.2.2.2.1
 have bf:BdQ (fv i.fn i.fd) K:=fv_bd _ _ (by omega) (by omega)
 have bq:BdQ (vl l.qty:Rat) K:=BdQ.int (Aah (vl_lt _) (Ac4 (by omega))) (by omega)
 have bc:BdQ (vl l.cost:Rat) K:=BdQ.int (Aah (vl_lt _) (Ac4 (by omega))) (by omega)
 have ba:BdQ (allQ i l) (K+K+K+1):=(bf.mul bq).sub bc
 unfold An9
 split
 ·exact BdQ.zero (by omega)
 ·rename_i hz
  split
  ·exact ba.mono (by omega)
  ·have hk:i.kind=2:=by
    rcases Decidable.em (i.kind=2) with e|e
    ·exact e
    ·exact absurd (.inl e) hz
   have e1:=h.dy
   have e3:=h.mt hk
   unfold okDay at e1 e3 ho
   refine (BdQ.div' (m:=7) ?_ ?_ ?_ ba).mono hq<;>omega
def KpZ(m b:Nat)(W W':World):Prop:=Below m W W'∧∀(k:Nat) (o:Obj),k≠b→W.heap[k]?=some o→o.isCells=true→W'.heap[k]?=some o
theorem KpZ.trans{m b:Nat}{A B C:World}(h:KpZ m b A B)(k:KpZ m b B C):KpZ m b A C:=⟨h.1.trans k.1,fun i o hi ho hc=>k.2 i o hi (h.2 i o hi ho hc) hc⟩
theorem KpZ.put{m b:Nat}(W:World)(l:Nat)(o o':Obj)(hm:m≤l)(hl:W.heap[l]?=some o)(ho:o.isCells=false):KpZ m b W (W.putObj l o'):=by
 refine⟨(Below.refl m W).grown (grownBy_putObj' W l o') (by have:=(Aab.1 hl).1;omega) (fun k e=>by cases e;omega),fun k o2 _ hk hc=>?_⟩
 rcases Nat.decEq k l with h|h
 ·exact (World.putObj_heap_other (by omega)).trans hk
 ·subst h;rw[hl] at hk;injection hk with hk;subst hk;rw[ho] at hc;cases hc
theorem KpZ.below{m b:Nat}{A B:World}(h:Below A.heap.size A B)(hm:m≤A.heap.size):KpZ m b A B:=⟨h.mono hm,fun k o _ hk _=>(h.block k (Aab.1 hk).1).trans hk⟩
theorem KpZ.cell{m b:Nat}{W W':World}(h:KpZ m b W W'){p:Addr}(hp:p.block≠b){v:Value}(hc:W.cell? p=some v):W'.cell? p=some v:=by
 obtain⟨o,ho,hoc⟩:=cells_of_cell hc
 have:=h.2 _ o hp ho hoc
 rw[←hc]
 unfold World.cell?
 rw[ho,this]
theorem LotAt.keptZ{m b:Nat}{W W':World}{p:Addr}{l:Lot}(h:LotAt W p l)(hk:KpZ m b W W')(hp:p.block≠b):LotAt W' p l :=
 ⟨hk.cell hp h.c0,hk.cell (p:=⟨p.block,p.off+1,none⟩) hp h.c1,hk.cell (p:=⟨p.block,p.off+2,none⟩) hp h.c2,hk.cell (p:=⟨p.block,p.off+3,none⟩) hp h.c3,hk.cell (p:=⟨p.block,p.off+4,none⟩) hp h.c4,hk.cell (p:=⟨p.block,p.off+5,none⟩) hp h.c5,hk.cell (p:=⟨p.block,p.off+6,none⟩) hp h.c6⟩
theorem Apu{W W':World}(h:Below W.heap.size W W'):W.grownBy W' none:=⟨h.os,h.tape,h.output,h.size,fun k hk _=>h.block k hk⟩
def RdZ(b:Nat)(w:World)(A:Option Addr)(ls:List SLot):Prop :=
 ls≠[]→∃ad:Addr,A=some ad∧ad.block≠b∧∀(j:Nat) (l:SLot),ls[j]?=some l→LotAt w (ad.add (j*7)) l.1
theorem RdZ.kept{m b:Nat}{w w':World}{A:Option Addr}{ls:List SLot}(h:RdZ b w A ls)(hk:KpZ m b w w'):RdZ b w' A ls:=by
 intro hl
 obtain⟨ad,rfl,h1,h2⟩:=h hl
 exact⟨ad,rfl,h1,fun j l hj=>(h2 j l hj).keptZ hk (by rw[Ach];exact h1)⟩
theorem Apv(n n₀ bz bl bi bd:Nat)(A:Option Addr)(ls:List SLot)(c:Nat)(i:Inst)(d:Int)(w:World)(hn:1≤n)(hlen:ls.length≤99)(h:ExOk i d)(hop:∀l∈ls,okDay l.1.opn)
 (hbl:Boxed w bl 45 (.slice A ls.length c)) (hbi:InstBox w bi i) (hbd:Boxed w bd 22 (.int .i64 d)) (hR:RdB n₀ w A ls) (hnw:n₀≤w.heap.size) (hz:bz<w.heap.size) (hz1:bi≠bz) (hz2:bd≠bz) (w0:World) (hb0:Below w0.heap.size w0 w) (ht:Tabs w0) :
 SeqStopsK Fence.wide n Tryz.prog 125 #[.pointer (some ⟨bl,0,none⟩),.pointer (some ⟨bi,0,none⟩),.pointer (some ⟨bd,0,none⟩)] encQ (KpZ w0.heap.size bz) (fun xs=>xs.map Subtype.val=(ownL ls i.id).map fun l=>An9 i l.1 d) (fun _=>True) 100 w:=by
 intro l J Jx W hW hJ hJx hY hJ0
 have HJ:=hI hJ
 have HY:=hI hY
 have HT:=hI ht
 have HB0:=hI (hb0.trans (hW.mono hb0.size))
 have hbl':Boxed W bl 45 (.slice A ls.length c):=(hW.block bl hbl.lt).trans hbl
 have hbi':InstBox W bi i:=hbi.below hW
 have hbd':Boxed W bd 22 (.int .i64 d):=(hW.block bd hbd.lt).trans hbd
 have HBI:=hI hbi'
 have HBD:=hI hbd'
 have HOF:=hI (lOf_any n₀ A ls c i.id W (by omega) (hR.below (hW.mono hnw)) (Aap hnw hW.size))
 have hzW:bz<W.heap.size:=Aah hz hW.size
 have cl:=hbl'.cell
 have ci:=Aaa hbi' 0
 simp at ci
 have hol:(ownL ls i.id).length≤99:=Aap (List.length_filter_le _ _) hlen
 have HOP:Hid (∀l∈ownL ls i.id,okDay l.1.opn):=fun l hl=>hop l ((List.mem_filter.1 hl).1)
 have H:=hI h
 clear hJ hJx hY hbl hbi hbd hbl' hbi' hbd' hR hW hop h ht hz
 generalize ownL ls i.id=own at HOF hol HOP ⊢
 refine callsIn_of_wp Tryz.func125 rfl trivial ?_ rfl
 simp only[Tryz.ntmps125,List.size_toArray,Aau,List.length_nil,Nat.reduceAdd,Nat.reduceSub,Array.replicate_succ,Array.replicate_zero,List.push_toArray,List.append_toArray,List.nil_append,List.cons_append]
 gi_wp2_with fail
 refine⟨trivial,?_⟩
 refine (callsIn_wide.2 HOF.out).mono ?_
 rintro e w1 ⟨A',c',rfl,hc',hfr,hR',hb1⟩
 have HRR:Hid (RdZ bz w1 A' own):=fun hl=>by
  obtain⟨ad,rfl,_,h2⟩:=hR' hl
  exact⟨ad,rfl,by have:=hfr ad rfl;omega,h2⟩
 have HJ1:Hid (J [] w1):=HJ.out _ _ _ none hJ0 (Apu hb1) (fun r e=>by cases e)
 have HI1:=hI (HBI.out.below hb1)
 have HD1:Hid (Boxed w1 bd 22 (.int .i64 d)):=(hb1.block bd HBD.out.lt).trans HBD.out
 have HB1:=hI (HB0.out.trans (hb1.mono HB0.out.size))
 clear hR' hfr hb1 HBI HBD HB0 cl ci hJ0 HOF
 gi_wp2_with fail
 gi_loopw [12] (fun v wr=>∃(k:Nat) (pre:List SQ),v=.int .i64 (k:Int)∧k≤own.length∧InstBox wr bi i∧Boxed wr bd 22 (.int .i64 d)∧RdZ bz wr A' own∧Below w0.heap.size w0 wr∧pre.map Subtype.val=(own.take k).map (fun l=>An9 i l.1 d)∧J pre wr) (fun v _=>own.length-(intOf v).toNat)
 case atStart=>exact⟨0,[],rfl,by omega,HI1.out,HD1.out,HRR.out,HB1.out,rfl,HJ1.out⟩
 case round =>
  obtain⟨k,pre,rfl,hk,hb,hd,hr,hbb,hpre,hj⟩:=hrel
  clear HI1 HD1 HRR HB1 HJ1
  rcases Aam k own.length with hlt|hge
  ·obtain⟨x,hl⟩:∃x,own[k]?=some x:=⟨_,Aae hlt⟩
   obtain⟨ad,rfl,had,hcell⟩:=hr (by intro e;rw[e] at hlt;cases hlt)
   have hcx:decide ((k:Int)<(own.length:Int))=true:=by simp;omega
   obtain⟨c0,c1,c2,c3,c4,c5,c6⟩:=hcell k x hl
   have hxo:=HOP.out x (Aar hl)
   have HEX:=hI (fun W hW=>Aps i x.1 d H.out x.2 hxo W hW)
   have hbd:=Apt i x.1 d H.out x.2 hxo
   have HSUC:Hid ((own.take (k+1)).map (fun l=>An9 i l.1 d)=(own.take k).map (fun l=>An9 i l.1 d)++[An9 i x.1 d]):=by
    rw[Hid,List.take_succ_eq_append_getElem hlt,List.map_append]
    rw[Aae hlt] at hl
    rw[Option.some.inj hl];rfl
   have hpl:pre.length<100:=by
    have:=congrArg List.length hpre
    simp at this
    omega
   obtain⟨W5,hW5⟩:∃W5,wr.alloc (.cells x.1.cells 63)=W5:=⟨_,rfl⟩
   have k5:LotBox W5 wr.heap.size x.1:=by rw[←hW5];exact Aax wr _
   have b5:Below wr.heap.size wr W5:=by rw[←hW5];exact (Below.refl _ wr).alloc (Aad _) _
   have HJ5:Hid (J pre W5):=HJ.out _ _ _ none hj (Apu b5) (fun r e=>by cases e)
   have i5:=hb.below b5
   have d5:Boxed W5 bd 22 (.int .i64 d):=(b5.block bd hd.lt).trans hd
   have HR5:=hI (hr.kept (KpZ.below (m:=w0.heap.size) b5 hbb.size))
   have HB5:=hI (hbb.trans (b5.mono hbb.size))
   obtain⟨m0,m1,m2,m3,m4,m5,m6⟩:=Acp k5
   obtain⟨q0,q1,q2,q3,q4,q5,q6,q7,q8,q9,q10,q11,q12,q13,q14⟩:=Acn i5
   have cd:=d5.cell
   have HI5:=hI i5
   have HD5:=hI d5
   have HPRE:=hI hpre
   clear hb hr hj k5 b5 i5 d5 hd hbb hcell hl hpre
   unfold Lot.cells at hW5
   dsimp only[Inst.enc,Inst.cells,Lot.enc,Lot.cells] at HEX
   gi_wp2_with fail
   refine⟨trivial,?_⟩
   refine (callsIn_wide.2 (HEX.out _ (HT.out.below HB5.out))).mono ?_
   rintro e w6 ⟨rfl,b6⟩
   have HJ6:Hid (J pre w6):=HJ.out _ _ _ none HJ5.out (Apu b6) (fun r e=>by cases e)
   have HI6:=hI (HI5.out.below b6)
   have HD6:Hid (Boxed w6 bd 22 (.int .i64 d)):=(b6.block bd HD5.out.lt).trans HD5.out
   have HR6:=hI (HR5.out.kept (KpZ.below (m:=w0.heap.size) b6 HB5.out.size))
   have HB6:=hI (HB5.out.trans (b6.mono HB5.out.size))
   clear b6 HJ5 HI5 HD5 HR5 HB5 HEX
   clear c0 c1 c2 c3 c4 c5 c6 m0 m1 m2 m3 m4 m5 m6 q0 q1 q2 q3 q4 q5 q6 q7 q8 q9 q10 q11 q12 q13 q14 cd hW5
   obtain⟨fn,tmps,assign,body,hy,hR⟩:=HY.out pre ⟨An9 i x.1 d,hbd⟩ w6 HJ6.out hpl
   dsimp only[encQ] at hy
   have HRD:=hI hR
   clear hR
   generalize An9 i x.1 d=rq at *
   gi_wp2
   refine HRD.out.mono ?_
   rintro e W7 (⟨rfl,hj7,hk7⟩|⟨rfl,hjx⟩)
   ·have HI7:Hid (InstBox W7 bi i):=hk7.2 _ _ hz1 HI6.out rfl
    have HD7:Hid (Boxed W7 bd 22 (.int .i64 d)):=hk7.2 _ _ hz2 HD6.out rfl
    have HR7:=hI (HR6.out.kept hk7)
    have HB7:=hI (HB6.out.trans hk7.1)
    have HJ7:=hI hj7
    clear hj7 hk7
    gi_wp2
    go_roundw
    case rel=>exact⟨k+1,_,by go_num,by omega,HI7.out,HD7.out,HR7.out,HB7.out,by rw[List.map_append,HPRE.out,HSUC.out];rfl,HJ7.out⟩
    case measure=>simp[intOf];omega
   ·gi_wp2
    refine bodyPost_ret (results_none rfl _ _ _) rfl ?_
    exact⟨⟨_,rfl⟩,.inr ⟨_,trivial,hjx⟩⟩
  ·have hcx:decide ((k:Int)<(own.length:Int))=false:=by simp;omega
   have HPRE:=hI hpre
   clear hpre
   gi_wp2
   go_end0
   refine⟨⟨_,rfl⟩,.inl ⟨pre,?_,hj⟩⟩
   rw[HPRE.out,Aai (by omega)]
theorem Apw(i:Inst)(A:Option Addr)(k c:Nat)(d:Int)(w:World):
 Calls Tryz.prog 71 #[i.enc,.slice A k c,.int .i64 d] w fun e w'=>e=.returned (.func (.func 125) #[] #[.pointer (some ⟨w.heap.size+1,0,none⟩),.pointer (some ⟨w.heap.size,0,none⟩),.pointer (some ⟨w.heap.size+1+1,0,none⟩)])∧w'=((w.alloc (.cells i.cells 27)).alloc (.cells #[.slice A k c] 45)).alloc (.cells #[.int .i64 d] 22):=by
 go_enter Tryz.func71,Tryz.ntmps71
 go_wp2_with fail
 go_ret
 exact⟨rfl,rfl⟩
end Go.Proofs.YtcnmoobojdopgaaGreatDoor
namespace Go.Proofs.YtcnmoobojdopgaaGreatDoor
open Go.RowKit Tr Go.Shelf
attribute [local go_sem] Oper.semAt_some
def qsum(l:List Rat):Rat:=l.foldl (fun a b=>a+b) 0
theorem Apx(l:List Rat)(q:Rat):qsum (l++[q])=qsum l+q:=by simp[qsum]
theorem Apy(l:List SQ):BdQ (qsum (l.map Subtype.val)) (l.length*(qB+1)+1):=by
 have h:∀(r:List SQ) (z:Rat) (k:Nat),BdQ z k→BdQ ((r.map Subtype.val).foldl (fun a b=>a+b) z) (k+r.length*(qB+1)):=by
  intro r
  induction r with
  | nil=>intro z k hz;simpa using hz
  | cons x r ih =>
    intro z k hz
    have:=ih (z+x.1) (k+qB+1) (hz.add x.2)
    simp only[List.map_cons,List.foldl_cons,Aau]
    exact this.mono (by rw[Nat.add_mul];omega)
 have:=h l 0 1 (BdQ.zero (Aad _))
 unfold qsum
 exact this.mono (by omega)
theorem Apz{β:Type}(B:Nat)(t:TypeId)(f:β→Array Value):Own (fun s W=>W.heap[B]?=some (.cells (f s) t (0,0))):=fun s X Y row hs hg hrow =>
 (hg.block B (Aab.1 hs).1 (fun e=>by obtain⟨o,ho,hc⟩:=hrow B e.symm;rw[hs] at ho;cases ho;cases hc)).trans hs
theorem fenc_z0:fenc 0=.agg #[.string ⟨#[]⟩,.string ⟨#[]⟩]:=rfl
theorem Ap0(n₀ bl bi bd:Nat)(A:Option Addr)(ls:List SLot)(c:Nat)(i:Inst)(d:Int)(w:World)(hlen:ls.length≤99)(h:ExOk i d)(hop:∀l∈ls,okDay l.1.opn)
 (hbl:Boxed w bl 45 (.slice A ls.length c)) (hbi:InstBox w bi i) (hbd:Boxed w bd 22 (.int .i64 d)) (hR:RdB n₀ w A ls) (hnw:n₀≤w.heap.size) (ht:Tabs w) :
 Calls Tryz.prog 70 #[fenc 0,.func (.func 125) #[] #[.pointer (some ⟨bl,0,none⟩),.pointer (some ⟨bi,0,none⟩),.pointer (some ⟨bd,0,none⟩)],.func (.func 51) #[] #[]] w
  fun e w'=>e=.returned (fenc (qsum ((ownL ls i.id).map fun l=>An9 i l.1 d)))∧Below w.heap.size w w':=by
 have HT:=hI ht
 obtain⟨rq,hrq⟩:∃rq,rq=qsum ((ownL ls i.id).map fun l=>An9 i l.1 d):=⟨_,rfl⟩
 rw[←hrq]
 have HRQ:=hI hrq
 clear hrq
 refine (callsIn_wide (n:=8)).1 ?_
 refine callsIn_of_wp_marks Tryz.func70 rfl trivial ?_ rfl
 simp only[Tryz.ntmps70,List.size_toArray,Aau,List.length_nil,Nat.reduceAdd,Nat.reduceSub,Array.replicate_succ,Array.replicate_zero,List.push_toArray,List.append_toArray,List.nil_append,List.cons_append]
 rw[fenc_z0]
 gi_wp2
 obtain⟨W0,hW0',hb0,hsz,k0,k1,k2⟩:=box3 w (.cells #[.string ⟨#[]⟩,.string ⟨#[]⟩] 25) (.cells #[.func (.func 51) #[] #[]] 35) (.cells #[.string ⟨#[]⟩,.string ⟨#[]⟩] 25)
 rw[←hW0']
 have hbl0:Boxed W0 bl 45 (.slice A ls.length c):=(hb0.block bl hbl.lt).trans hbl
 have hbi0:InstBox W0 bi i:=hbi.below hb0
 have hbd0:Boxed W0 bd 22 (.int .i64 d):=(hb0.block bd hbd.lt).trans hbd
 have hlbd:=hbd.lt
 have hlbi:bi<w.heap.size:=(Aab.1 hbi).1
 refine wpIn_rangeFunc_ownH (α:=SQ) rfl (by omega) (gf:=125) (lb:=#[.pointer (some ⟨bl,0,none⟩),.pointer (some ⟨bi,0,none⟩),.pointer (some ⟨bd,0,none⟩)]) rfl trivial (enters_of Tryz.func125 (by kernel_rfl) rfl)
  (Apv (8-1) n₀ w.heap.size bl bi bd A ls c i d W0 (by omega) hlen h hop hbl0 hbi0 hbd0 (hR.below (hb0.mono hnw)) (by omega) (by omega) (by omega) (by omega) w hb0 ht) KpZ.trans (fun W l o o' hl h hc _=>KpZ.put W l o o' (by omega) h hc) (Below.refl _ _) (fun _=>rfl)
  (fun pre W=>((W.heap[w.heap.size]?=some (.cells #[.string (I (qsum (pre.map Subtype.val)).num),.string (dn (qsum (pre.map Subtype.val)))] 25 (0,0))∧W.heap[w.heap.size+1]?=some (.cells #[.func (.func 51) #[] #[]] 35 (0,0)))∧W.heap[w.heap.size+1+1]?=some (.cells #[.string ⟨#[]⟩,.string ⟨#[]⟩] 25 (0,0)))∧Below w.heap.size w W) (fun _ _ _=>False)
  (OwnFrom.and (OwnFrom.and (OwnFrom.and ((Apz _ _ (fun (pre:List SQ)=>#[.string (I (qsum (pre.map Subtype.val)).num),.string (dn (qsum (pre.map Subtype.val)))])).from _) ((Apz _ _ (fun (_:List SQ)=>_)).from _)) ((Apz _ _ (fun (_:List SQ)=>_)).from _)) (ownFrom_below (Aad _) (by omega)))
  (fun _=>ownFrom_pure _ _) ⟨⟨⟨k0,k1⟩,k2⟩,hb0⟩
  (fun x a' W=>∃Bx,w.heap.size+1+1<Bx∧FBox W Bx x.1∧a'={tmps:=#[Value.agg #[Value.string {data:=#[]},Value.string {data:=#[]}],Value.func (Fn.func 125) #[] #[Value.pointer (some {block:=bl,off:=0}),Value.pointer (some {block:=bi,off:=0}),Value.pointer (some {block:=bd,off:=0})],Value.func (Fn.func 51) #[] #[],Value.pointer (some {block:=w.heap.size,off:=0}),undef,Value.pointer (some {block:=w.heap.size+1,off:=0}),Value.pointer (some {block:=w.heap.size+1+1,off:=0}),Value.pointer (some {block:=Bx,off:=0}),Value.func (Fn.func 125) #[] #[Value.pointer (some {block:=bl,off:=0}),Value.pointer (some {block:=bi,off:=0}),Value.pointer (some {block:=bd,off:=0})],fenc x.1,undef,undef,undef,undef,undef],defers:=[]})
  (fun x a'=>?hAx) ?assign ?body ?done ?stop
 case hAx =>
  rintro _ X Y row ⟨Bx,hB,hx,rfl⟩ hg hr
  refine⟨Bx,hB,(hg.block Bx hx.lt (fun e=>?_)).trans hx,rfl⟩
  obtain⟨_,o,ho,hc⟩:=hr Bx e.symm
  rw[show X.heap[Bx]?=_ from hx] at ho;cases ho;cases hc
 case assign =>
  rintro l pre x W K ⟨⟨⟨h0,h1⟩,h2⟩,hB⟩ hK
  have hlt:w.heap.size+1+1<W.heap.size:=(Aab.1 h2).1
  obtain⟨W5,hW5⟩:∃W5,W.alloc (.cells #[.string (I x.1.num),.string (dn x.1)] 25)=W5:=⟨_,rfl⟩
  have b5:Below W.heap.size W W5:=by rw[←hW5];exact (Below.refl _ W).alloc (Aad _) _
  have HF:Hid (FBox W5 W.heap.size x.1∧KeepsFrom W0.heap.size W W5∧KpZ w.heap.size w.heap.size W W5∧Below W.heap.size W W5) :=
   ⟨by rw[←hW5];exact Aax W _,by rw[←hW5];exact (KeepsOthers.alloc _ _).from _,KpZ.below b5 hB.size,b5⟩
  have H0:=hI h0
  have H1:=hI h1
  have H2:=hI h2
  clear b5 h0 h1 h2
  dsimp only[encQ,fenc] at hW5 ⊢
  gi_wp2
  obtain⟨f1,f2,f3,f4⟩:=HF.out
  exact hK _ _ f2 f3 ⟨⟨⟨(f4.block _ (by omega)).trans H0.out,(f4.block _ (by omega)).trans H1.out⟩,(f4.block _ (by omega)).trans H2.out⟩,hB.trans (f4.mono hB.size)⟩ ⟨W.heap.size,hlt,f1,rfl⟩
 case body =>
  rintro l pre x a' W hl ⟨r,hr⟩ ⟨⟨⟨h0,h1⟩,h2⟩,hB⟩ ⟨Bx,hBx,bX,rfl⟩ hlt
  have hbq:=Apy pre
  have HAD:=hI (fun W hW=>fAddQ hbq x.2 (by have:pre.length*(qB+1)≤100*(qB+1):=Nat.mul_le_mul_right _ (by omega);unfold qB at *;omega) (by unfold qB;omega) W hW)
  have HSN:Hid (qsum ((pre++[x]).map Subtype.val)=qsum (pre.map Subtype.val)+x.1):=by rw[Hid,List.map_append];exact Apx _ _
  generalize qsum (pre.map Subtype.val)=qp at *
  have HX1:=x.2
  generalize hxr:x.1=rx at *
  have c0:=Aaa h0 0
  have c1:=Aaa h0 1
  have c2:=Aaa h1 0
  have c3:=Aaa bX 0
  have c4:=Aaa bX 1
  simp at c0 c1 c2 c3 c4
  have H0:=hI h0
  have H1:=hI h1
  have H2:=hI h2
  clear h0 h1 h2 bX hr hxr hbq HX1
  unfold fenc at HAD
  dsimp only[fenc]
  gi_wp2_with fail
  refine⟨trivial,?_⟩
  refine (CallsIn.inRound l (callsIn_wide.2 (HAD.out _ (HT.out.below hB)))).mono ?_
  rintro e w5 ⟨rfl,b5⟩
  have g0:=(b5.block _ (Aab.1 H0.out).1).trans H0.out
  have g1:=(b5.block _ (Aab.1 H1.out).1).trans H1.out
  have g2:=(b5.block _ (Aab.1 H2.out).1).trans H2.out
  have e0:=Aaa g0 0
  have e1:=Aaa g0 1
  have e2:=Aaf g0 0
  have e3:=Aaf g0 1
  simp at e0 e1 e2 e3
  have G0:=hI g0
  have G1:=hI g1
  have G2:=hI g2
  have B5:=hI b5
  clear g0 g1 g2 b5 c0 c1 c2 c3 c4
  gi_wp2
  have hbw:=hB.size
  refine⟨?_,⟨((B5.out.mono hbw).setCell (p:=⟨w.heap.size,0,none⟩) (Aad _) _).setCell (p:=⟨w.heap.size,1,none⟩) (Aad _) _,fun k o hk ho _=>?_⟩,⟨⟨?_,?_⟩,?_⟩,hB.trans (((B5.out.mono hbw).setCell (p:=⟨w.heap.size,0,none⟩) (Aad _) _).setCell (p:=⟨w.heap.size,1,none⟩) (Aad _) _)⟩
  ·exact KeepsFrom.trans ⟨B5.out.size,fun k o _ hk _=>(B5.out.block k (Aab.1 hk).1).trans hk⟩ (KeepsFrom.trans ((KeepsOthers.setCell _ _ _).from _) ((KeepsOthers.setCell _ _ _).from _))
  ·exact ((Below.heap_setCell _ _ _ _ hk).trans (Below.heap_setCell _ _ _ _ hk)).trans ((B5.out.block k (Aab.1 ho).1).trans ho)
  ·rw[HSN.out];exact set2 G0.out _ _
  ·exact ((Below.heap_setCell _ _ _ _ (by simp)).trans (Below.heap_setCell _ _ _ _ (by simp))).trans G1.out
  ·exact ((Below.heap_setCell _ _ _ _ (by simp;omega)).trans (Below.heap_setCell _ _ _ _ (by simp;omega))).trans G2.out
 case done =>
  rintro D xs W hD hxs ⟨⟨⟨h0,h1⟩,h2⟩,hB⟩ hK
  rw[hxs,←HRQ.out] at h0
  have c0:=Aaa h0 0
  have c1:=Aaa h0 1
  have c2:=Aaa h2 0
  have c3:=Aaa h2 1
  have f2:=Aaf h2 0
  have f3:=Aaf h2 1
  simp at c0 c1 c2 c3 f2 f3
  have H2:=hI h2
  have HK:=hI hK
  clear h0 h1 h2 hxs hK
  gi_wp2
  have hK2:=(KeepsOthers.setCell _ ⟨w.heap.size+1+1,1,none⟩ (.string (dn rq))).same D _ ((KeepsOthers.setCell W ⟨w.heap.size+1+1,0,none⟩ (.string (I rq.num))).same D _ HK.out rfl) rfl
  refine⟨by simp,.inl ⟨_,_,rfl,run_takeDeferred hK2,?_⟩⟩
  have hDlt:w.heap.size+1+1<D:=by omega
  have q3:Below w.heap.size w (((W.setCell ⟨w.heap.size+1+1,0,none⟩ (.string (I rq.num))).setCell ⟨w.heap.size+1+1,1,none⟩ (.string (dn rq))).putObj D (.deferred none)) :=
   ((hB.setCell (p:=⟨w.heap.size+1+1,0,none⟩) (by simp;omega) _).setCell (p:=⟨w.heap.size+1+1,1,none⟩) (by simp;omega) _).trans (belowK_b (w:=w) (Aad _) _ D _ _ (by omega) hK2 rfl rfl)
  have k6:(((W.setCell ⟨w.heap.size+1+1,0,none⟩ (.string (I rq.num))).setCell ⟨w.heap.size+1+1,1,none⟩ (.string (dn rq))).putObj D (.deferred none)).heap[w.heap.size+1+1]?=some (.cells #[.string (I rq.num),.string (dn rq)] 25 (0,0)) :=
   (World.putObj_heap_other (by omega)).trans (set2 H2.out _ _)
  generalize ((W.setCell ⟨w.heap.size+1+1,0,none⟩ (.string (I rq.num))).setCell ⟨w.heap.size+1+1,1,none⟩ (.string (dn rq))).putObj D (.deferred none)=W9 at q3 k6 ⊢
  have m0:=Aaa k6 0
  have m1:=Aaa k6 1
  simp at m0 m1
  exact⟨.agg #[.string (I rq.num),.string (dn rq)],by simp[results,Tryz.results70,go_sem,m0,m1],rfl,q3⟩
 case stop =>
  rintro D c pre W _ _ h _
  exact h.elim
end Go.Proofs.YtcnmoobojdopgaaGreatDoor
namespace Go.Proofs.YtcnmoobojdopgaaGreatDoor
open Go.RowKit Tr Go.Shelf
structure Inst.small(i:Inst):Prop where
 id:i.id.size≤1000
 cur:i.cur.size≤1000
 fn:i.fn.size≤1000
 fd:i.fd.size≤1000
 cn:i.cn.size≤1000
 cd:i.cd.size≤1000
 other:i.other.size≤1000
 sn:i.sn.size≤1000
 sd:i.sd.size≤1000
theorem Inst.small.sized{i:Inst}(h:i.small):i.sized:=by
 obtain⟨h1,h2,h3,h4,h5,h6,h7,h8,h9⟩:=h
 exact⟨by omega,by omega,by omega,by omega,by omega,by omega,by omega,by omega,by omega⟩
structure AOk(i:Inst)(ls:List SLot)(d:Int):Prop where
 small:i.small
 ok:i.ok
 lots:LotsOk (ls.map Subtype.val)
 len:ls.length≤99
 dy:okDay d
theorem Inst.ok.mt{i:Inst}(h:i.ok)(hk:i.kind=2):okDay i.matures:=(h.matures.resolve_left (fun x=>x.2.1 hk)).2.1
theorem AOk.ex{i:Inst}{ls:List SLot}{d:Int}(h:AOk i ls d):ExOk i d:=⟨h.small.fn,h.small.fd,h.dy,h.ok.mt⟩
theorem AOk.opn{i:Inst}{ls:List SLot}{d:Int}(h:AOk i ls d):∀l∈ls,okDay l.1.opn:=fun l hl=>(h.lots.ok l.1 (List.mem_map.2 ⟨l,hl,rfl⟩)).2.opn
theorem RdB.rdl{n₀:Nat}{w:World}{A:Option Addr}{ls:List SLot}(h:RdB n₀ w A ls)(hn:n₀≤w.heap.size):RdL w A (ls.map Subtype.val):=by
 intro hl
 obtain⟨ad,rfl,h1,h2⟩:=h (fun e=>hl (by rw[e];rfl))
 refine⟨ad,rfl,by omega,fun j l hj=>?_⟩
 rw[List.getElem?_map] at hj
 obtain⟨x,hx,rfl⟩:=Option.map_eq_some_iff.1 hj
 exact h2 j x hx
theorem Ap1(n₀:Nat)(i:Inst)(A:Option Addr)(ls:List SLot)(c:Nat)(hc:ls.length≤c)(d:Int)(h:AOk i ls d)(w:World)(hR:RdB n₀ w A ls)(hn:n₀≤w.heap.size)(ht:Tabs w):
 Calls Tryz.prog 62 #[i.enc,.slice A ls.length c,.int .i64 d] w fun e w'=>e=.returned (.int .i64 0)∧Below w.heap.size w w':=by
 obtain⟨W0,hW0,hB0,hz,hk⟩:=ibox i w
 obtain⟨c0,c1,c2,c3,c4,c5,c6,c7,c8,c9,c10,c11,c12,c13,c14⟩:=Acn hk
 have HT:=hI ht
 have HB0:=hI hB0
 have HC1:=hI (Amb i h.small.sized h.ok W0 (ht.below hB0))
 have HC2:=hI (fun W (hb:Below w.heap.size w W)=>Am0 A c (ls.map Subtype.val) (by rw[List.length_map];exact hc) W ((hR.below (hb.mono hn)).rdl (Aap hn hb.size)) h.lots (ht.below hb))
 rw[List.length_map] at HC2
 have HV:=hI (fun W=>An7 d W)
 rw[Aav h.dy] at HV
 clear h hR ht hB0 hk hz
 unfold Inst.enc Inst.cells at *
 go_enter Tryz.func62,Tryz.ntmps62
 go_wp2_with fail
 refine HC1.out.mono ?_
 rintro e w1 ⟨rfl,b1⟩
 have B1:=HB0.out.trans (b1.mono HB0.out.size)
 clear b1
 clear c0 c1 c2 c3 c4 c5 c6 c7 c8 c9 c10 c11 c12 c13 c14
 go_wp2_with fail
 refine (HC2.out _ B1).mono ?_
 rintro e w2 ⟨rfl,b2⟩
 have B2:=B1.trans (b2.mono B1.size)
 clear b2 B1
 go_wp2_with fail
 refine (HV.out _).mono ?_
 rintro e w3 ⟨rfl,rfl⟩
 go_wp2_with fail
 go_ret
 exact⟨rfl,B2⟩
theorem Inst.tiny.small{i:Inst}(h:i.tiny):i.small:=by
 obtain⟨h1,h2,h3,h4,h5,h6,h7,h8,h9⟩:=h
 exact⟨by omega,by omega,by omega,by omega,by omega,by omega,by omega,by omega,by omega⟩
def Ap2(w:World)(P:Prop)(e:Ending)(w':World):Prop:=∃g:Bool,e=.returned (.bool g)∧(g=true→P)∧Below w.heap.size w w'
theorem RdL.drewN{w:World}{A:Option Addr}{ls:List Lot}(h:RdL w A ls)(n:Nat):RdL (w.drewN n) A ls:=h.below (Acm (Below.refl _ _) n)
theorem Ap3{α:Type}{ls:List α}{k:Nat}{l:α}(h:ls[k]?=some l):ls.take (k+1)=ls.take k++[l]:=by
 obtain⟨hlt,he⟩:=Aak.1 h
 rw[List.take_succ_eq_append_getElem hlt,he]
theorem Ap4(A:Option Addr)(ls:List Lot)(c:Nat)(hlm:ls.length≤9223372036854775807)(w:World)(hR:RdL w A ls):
 Calls Tryz.prog 56 #[.slice A ls.length c] w (Amm w ((ls.length≤12∨999≤ls.length)∧∀l∈ls,l.tiny)):=by
 have HR:=hI hR
 clear hR
 by_cases h1:12<ls.length∧ls.length<999
 ·have t1:decide ((12:Int)<(ls.length:Int))=true:=Aav (by omega)
  have t2:decide ((ls.length:Int)<999)=true:=Aav (by omega)
  clear h1
  go_enter Tryz.func56,Tryz.ntmps56
  go_wp2_with fail
  go_ret
  exact⟨true,rfl,fun h=>(by cases h),Below.refl _ _⟩
 by_cases h2:1002<ls.length
 ·have t1:decide ((12:Int)<(ls.length:Int))=true:=Aav (by omega)
  have t2:decide ((ls.length:Int)<999)=false:=Aaw (by omega)
  have t3:decide ((1002:Int)<(ls.length:Int))=true:=Aav (by omega)
  clear h1 h2
  go_enter Tryz.func56,Tryz.ntmps56
  go_wp2_with fail
  go_ret
  exact⟨true,rfl,fun h=>(by cases h),Below.refl _ _⟩
 have H1:=hI (show (ls.length≤12∨999≤ls.length) by omega)
 have t3:decide ((1002:Int)<(ls.length:Int))=false:=Aaw (by omega)
 have hlz:ls.length≤1002:=by omega
 rcases Classical.em (12<ls.length) with h3|h3
 ·have t1:decide ((12:Int)<(ls.length:Int))=true:=Aav (by omega)
  have t2:decide ((ls.length:Int)<999)=false:=Aaw (by omega)
  clear h1 h2 hlm h3
  go_enter Tryz.func56,Tryz.ntmps56
  go_wp2_with fail
  go_loopw [3] (fun v wr=>∃k:Nat,v=.int .i64 (k:Int)∧k≤ls.length∧(∀l∈ls.take k,l.tiny)∧Below w.heap.size w wr) (fun v _=>ls.length-(intOf v).toNat)
  case atStart=>exact⟨0,rfl,by omega,fun l hl=>by simp at hl,Below.refl _ _⟩
  case round =>
   obtain⟨k,rfl,hk,hti,hb⟩:=hrel
   have HTI:=hI hti
   have HB:=hI hb
   clear hti hb
   rcases Aam k ls.length with hlt|hge
   ·obtain⟨l,hl⟩:∃l,ls[k]?=some l:=⟨_,Aae hlt⟩
    obtain⟨ad,rfl,had,hcell⟩:=HR.out (by intro e;rw[e] at hlt;cases hlt)
    have hcx:decide ((k:Int)<(ls.length:Int))=true:=by simp;omega
    obtain⟨c0,c1,c2,c3,c4,c5,c6⟩:=(hcell k l hl).below HB.out (by rw[Ach];exact had)
    have HSN:=hI (Ap3 hl)
    clear hcell hl
    go_wp2_with fail
    refine (Am2 l _).mono ?_
    rintro e w1 ⟨g,rfl,hg,b1⟩
    have HB1:=hI (HB.out.trans (b1.mono HB.out.size))
    clear b1 c0 c1 c2 c3 c4 c5 c6
    cases g
    ·have HG:=hI (hg rfl)
     clear hg
     go_wp2_with fail
     go_roundw
     case rel =>
      refine⟨k+1,by go_num,by omega,fun x hx=>?_,HB1.out⟩
      rw[HSN.out,List.mem_append] at hx
      rcases hx with hx|hx
      ·exact HTI.out x hx
      ·rw[List.mem_singleton] at hx;subst hx;exact HG.out
     case measure=>simp[intOf];omega
    ·go_wp2_with fail
     go_ret
     exact⟨true,rfl,fun h=>(by cases h),HB1.out⟩
   ·have hcx:decide ((k:Int)<(ls.length:Int))=false:=by simp;omega
    go_wp2_with fail
    go_ret
    refine⟨false,rfl,fun _=>⟨H1.out,fun l hl=>HTI.out l ?_⟩,HB.out⟩
    rw[Aai (by omega)]
    exact hl
 ·have t1:decide ((12:Int)<(ls.length:Int))=false:=Aaw (by omega)
  clear h1 h2 hlm h3
  go_enter Tryz.func56,Tryz.ntmps56
  go_wp2_with fail
  go_loopw [3] (fun v wr=>∃k:Nat,v=.int .i64 (k:Int)∧k≤ls.length∧(∀l∈ls.take k,l.tiny)∧Below w.heap.size w wr) (fun v _=>ls.length-(intOf v).toNat)
  case atStart=>exact⟨0,rfl,by omega,fun l hl=>by simp at hl,Below.refl _ _⟩
  case round =>
   obtain⟨k,rfl,hk,hti,hb⟩:=hrel
   have HTI:=hI hti
   have HB:=hI hb
   clear hti hb
   rcases Aam k ls.length with hlt|hge
   ·obtain⟨l,hl⟩:∃l,ls[k]?=some l:=⟨_,Aae hlt⟩
    obtain⟨ad,rfl,had,hcell⟩:=HR.out (by intro e;rw[e] at hlt;cases hlt)
    have hcx:decide ((k:Int)<(ls.length:Int))=true:=by simp;omega
    obtain⟨c0,c1,c2,c3,c4,c5,c6⟩:=(hcell k l hl).below HB.out (by rw[Ach];exact had)
    have HSN:=hI (Ap3 hl)
    clear hcell hl
    go_wp2_with fail
    refine (Am2 l _).mono ?_
    rintro e w1 ⟨g,rfl,hg,b1⟩
    have HB1:=hI (HB.out.trans (b1.mono HB.out.size))
    clear b1 c0 c1 c2 c3 c4 c5 c6
    cases g
    ·have HG:=hI (hg rfl)
     clear hg
     go_wp2_with fail
     go_roundw
     case rel =>
      refine⟨k+1,by go_num,by omega,fun x hx=>?_,HB1.out⟩
      rw[HSN.out,List.mem_append] at hx
      rcases hx with hx|hx
      ·exact HTI.out x hx
      ·rw[List.mem_singleton] at hx;subst hx;exact HG.out
     case measure=>simp[intOf];omega
    ·go_wp2_with fail
     go_ret
     exact⟨true,rfl,fun h=>(by cases h),HB1.out⟩
   ·have hcx:decide ((k:Int)<(ls.length:Int))=false:=by simp;omega
    go_wp2_with fail
    go_ret
    refine⟨false,rfl,fun _=>⟨H1.out,fun l hl=>HTI.out l ?_⟩,HB.out⟩
    rw[Aai (by omega)]
    exact hl
end Go.Proofs.YtcnmoobojdopgaaGreatDoor
namespace Go.Proofs.YtcnmoobojdopgaaGreatDoor
open Go.RowKit Tr Go.Shelf Go.Maps Go.WideMaps
open Classical in
noncomputable def lallF(pre:List Lot):List Lot→Int
 | []=>0
 | l::r=>if lchk l≠0 then lchk l else if l.id∈pre.map Lot.id then 5 else lallF (pre++[l]) r
open Classical in
noncomputable def lall(ls:List Lot):Int:=if 1000<ls.length then 4 else lallF [] ls
theorem Ap5{ls:List Lot}{k:Nat}{l:Lot}(hlen:ls.length≤1000)(hg:lallF (ls.take k) (ls.drop k)=lall ls)(hl:ls[k]?=some l):
 (lchk l≠0→lall ls=lchk l)∧(lchk l=0→l.id∈(ls.take k).map Lot.id→lall ls=5)∧(lchk l=0→l.id ∉ (ls.take k).map Lot.id→lallF (ls.take (k+1)) (ls.drop (k+1))=lall ls):=by
 have hk:k<ls.length:=(Aak.1 hl).1
 have hd:ls.drop k=l::ls.drop (k+1):=by
  rw[List.drop_eq_getElem_cons hk]
  congr 1
  rw[Aae hk] at hl
  exact Option.some.inj hl
 rw[hd] at hg
 unfold lallF at hg
 refine⟨fun h=>?_,fun h h2=>?_,fun h h2=>?_⟩
 ·rw[if_pos h] at hg;exact hg.symm
 ·rw[if_neg (fun x=>x h),if_pos h2] at hg;exact hg.symm
 ·rw[if_neg (fun x=>x h),if_neg h2] at hg
  rw[Ap3 hl];exact hg
theorem Ap6{ls:List Lot}(h:ls.length≤1000):lallF (ls.take 0) (ls.drop 0)=lall ls:=by unfold lall;rw[if_neg (by omega)];rfl
theorem Ap7{ls:List Lot}(hg:lallF (ls.take ls.length) (ls.drop ls.length)=lall ls):lall ls=0:=by
 rw[List.drop_length] at hg;exact hg.symm
theorem Ap8{ls:List Lot}(h:1000<ls.length):lall ls=4:=by unfold lall;rw[if_pos h]
theorem Ap9(u z:DataW Unit)(k:Lit)(hk:WideAt.IsKeyLit k):∀(acc:List Lit) (m:DataW Unit),IsMap m→(k∈acc∨m.atKey k z=u)→(acc.foldl (fun m x=>m.put x u) m).atKey k z=u
 | [],m,_,h=>h.resolve_left (fun x=>by cases x)
 | x :: r, m, hm, h => by
   rw[List.foldl_cons]
   refine Ap9 u z k hk r _ (hm.put _ _) ?_
   by_cases hx:x=k
   ·subst hx;exact .inr (atKey_put_same hm hk _ _)
   ·rcases h with h|h
    ·rcases List.mem_cons.1 h with h|h
     ·exact absurd h.symm hx
     ·exact .inl h
    ·exact .inr ((atKey_put_other (fun e=>hx e.symm) _ _).trans h)
theorem Aqa(u z:DataW Unit)(k:Lit)(hk:WideAt.IsKeyLit k)(acc:List Lit)(h:k∈acc):(setOf u acc).atKey k z=u :=
 Ap9 u z k hk acc _ isMap_empty (.inl h)
theorem Aqb{w:World}{b n:Nat}{ls:List Lot}{l:Lot}(h:w.ownsMap Tryz.prog 9 (plainElem Tryz.prog 4) b n (seenD ls))(hs:l.id.size≤maxLen)(hn:l.id∈ls.map Lot.id):
 (Instr.lookup 203 (.map (some b)) (.string l.id) false).run Tryz.prog w=.ok (.bool true) w:=by
 obtain⟨v,ps,hrun,hv⟩:=h.lookup strKeyed Tryz.underlying203 (Amv w) (plainElem_bool Tryz.underlying4 false) (keyOf_string_mk Tryz.underlying9 hs)
 have hh:=Aqa (.lit (.bool true)) (.lit (.bool false)) (.string l.id.data.toList:Lit) trivial (ls.map idKey) (by
  obtain⟨x,hx,e⟩:=List.mem_map.1 hn
  exact List.mem_map.2 ⟨x,hx,by unfold idKey;rw[e]⟩)
 have hv':=hv
 unfold seenD at hv'
 rw[hh] at hv'
 obtain⟨a,rfl,ha⟩:=Amw Tryz.underlying4 hv'
 simp at ha
 rw[hrun,←ha.1]
theorem Aqc(A:Option Addr)(c:Nat)(ls:List Lot)(hc:ls.length≤c)(hlm:ls.length≤9223372036854775807)(w:World)(hr:RdL w A ls)(hsz:∀l∈ls,l.sized)(ht:Tabs w):
 Calls Tryz.prog 117 #[.slice A ls.length c] w fun e w'=>e=.returned (.int .i64 (lall ls))∧Below w.heap.size w w':=by
 have HR:=hI hr
 have HT:=hI ht
 have H:=hI hsz
 clear hr ht hsz
 by_cases hgr:1000<ls.length
 ·have hgt:decide ((1000:Int)<(ls.length:Int))=true:=by simp;omega
  have HG:=hI (Ap8 hgr)
  clear hgr
  go_enter Tryz.func117,Tryz.ntmps117
  go_wp2_with fail
  go_ret
  exact⟨by rw[HG.out];rfl,Below.refl _ _⟩
 have hgt:decide ((1000:Int)<(ls.length:Int))=false:=by simp;omega
 have hlen:ls.length≤1000:=by omega
 clear hgr
 have hmm:=@run_makeMap Tryz.prog
 go_enter Tryz.func117,Tryz.ntmps117
 go_wp2_with fail
 go_loopw [13] (fun v wr=>∃k:Nat,v=.int .i64 (k:Int)∧k≤ls.length∧lallF (ls.take k) (ls.drop k)=lall ls∧wr.ownsMap Tryz.prog 9 (plainElem Tryz.prog 4) w.heap.size k (seenD (ls.take k))∧Below w.heap.size w wr) (fun v _=>ls.length-(intOf v).toNat)
 case atStart=>exact⟨0,rfl,by omega,Ap6 hlen,World.ownsMap_made _ _ _ _,(Below.refl _ _).alloc (Aad _) _⟩
 case round =>
  obtain⟨k,rfl,hk,hg,hown,hb⟩:=hrel
  have HO:=hI hown
  have HB:=hI hb
  have HG:=hI hg
  clear hown hb hg
  rcases Aam k ls.length with hlt|hge
  ·obtain⟨l,hl⟩:∃l,ls[k]?=some l:=⟨_,Aae hlt⟩
   obtain⟨ad,rfl,had,hcell⟩:=HR.out (by intro e;rw[e] at hlt;cases hlt)
   have hcx:decide ((k:Int)<(ls.length:Int))=true:=by simp;omega
   obtain⟨c0,c1,c2,c3,c4,c5,c6⟩:=(hcell k l hl).below HB.out (by rw[Ach];exact had)
   have hs:=H.out l (Aar hl)
   have hzid:l.id.size≤maxLen:=by unfold maxLen;have:=hs.1;omega
   have HSN:=hI (Ap3 hl)
   have HAT:=hI (Ap5 hlen HG.out hl)
   have HC:=hI (fun W hW=>Anm l hs W hW)
   clear hcell hl hs
   obtain⟨W5,hW5⟩:∃W5,wr.alloc (.cells l.cells 63)=W5:=⟨_,rfl⟩
   have k5:LotBox W5 wr.heap.size l:=by rw[←hW5];exact Aax wr _
   have b5:Below wr.heap.size wr W5:=by rw[←hW5];exact (Below.refl _ wr).alloc (Aad _) _
   have HK5:=hI k5
   have HB5:=hI (HB.out.trans (b5.mono HB.out.size))
   have HO5:=hI (Amy HO.out b5)
   obtain⟨m0,m1,m2,m3,m4,m5,m6⟩:=Acp k5
   clear k5 b5 HO
   unfold Lot.cells at hW5
   go_wp2_with fail
   refine (HC.out _ (HT.out.below HB5.out)).mono ?_
   rintro e w6 ⟨rfl,b6⟩
   have k6:=HK5.out.below b6
   have HB6:=hI (HB5.out.trans (b6.mono HB5.out.size))
   have hO6:=Amy HO5.out b6
   by_cases h0:lchk l=0
   case neg =>
    have t1:(lchk l==0)=false:=Aaj.2 h0
    have t1':(lchk l != 0)=true:=by rw[bne,t1];rfl
    have HN:=hI (HAT.out.1 h0)
    clear h0 hO6 b6 k6 m0 m1 m2 m3 m4 m5 m6 hW5
    go_wp2_with fail
    go_ret
    exact⟨by rw[HN.out];rfl,HB6.out⟩
   have H0:=hI h0
   rw[h0]
   clear h0
   clear m0 m1 m2 m3 m4 m5 m6
   obtain⟨m0,m1,m2,m3,m4,m5,m6⟩:=Acp k6
   by_cases hid:l.id∈(ls.take k).map Lot.id
   ·have hlk:=Aqb hO6 hzid hid
    have HN:=hI (HAT.out.2.1 H0.out hid)
    clear hid hO6 b6 k6
    go_wp2_with fail
    go_ret
    exact⟨by rw[HN.out];rfl,HB6.out⟩
   have hlk:=Amx hO6 hzid (fun x hx e=>hid (List.mem_map.2 ⟨x,hx,e⟩))
   have HN:=hI (HAT.out.2.2 H0.out hid)
   obtain⟨w7,hup,hO7,hg7⟩:=hO6.update strKeyed Tryz.underlying203 (by unfold maxLen;omega) (keyOf_string_mk Tryz.underlying9 hzid) (plainElem_bool Tryz.underlying4 true)
   have HO7:Hid (w7.ownsMap Tryz.prog 9 (plainElem Tryz.prog 4) w.heap.size (k+1) (seenD (ls.take (k+1)))):=by
    rw[HSN.out,Amu];exact hO7
   have HB7:=hI (HB6.out.grown hg7 HB6.out.size (fun j hj=>by cases hj;exact Aad _))
   clear hid hO6 hO7 hg7 b6 k6 HO5 HB5 HK5
   go_wp2_with fail
   go_roundw
   case rel=>exact⟨k+1,by go_num,by omega,HN.out,HO7.out,HB7.out⟩
   case measure=>simp[intOf];omega
  ·have hcx:decide ((k:Int)<(ls.length:Int))=false:=by simp;omega
   have hkk:k=ls.length:=by omega
   subst hkk
   have HN:=hI (Ap7 HG.out)
   go_wp2_with fail
   go_ret
   exact⟨by rw[HN.out];rfl,HB.out⟩
end Go.Proofs.YtcnmoobojdopgaaGreatDoor
namespace Go.Proofs.YtcnmoobojdopgaaGreatDoor
open Go.RowKit Tr Go.Shelf
def BX(w:World)(l:List (Nat×Obj))(W:World):Prop:=Below w.heap.size w W∧∀x,x∈l→W.heap[x.1]?=some x.2
theorem BX.below{w:World}{l:List (Nat×Obj)}{W W':World}(h:BX w l W)(hb:Below W.heap.size W W'):BX w l W' :=
 ⟨h.1.trans (hb.mono h.1.size),fun x hx=>(hb.block _ (Aab.1 (h.2 x hx)).1).trans (h.2 x hx)⟩
theorem BX.push{w:World}{l:List (Nat×Obj)}{W:World}(h:BX w l W)(o:Obj):BX w ((W.heap.size,o)::l) (W.alloc o):=by
 have h2:=h.below ((Below.refl _ W).alloc (Aad _) o)
 refine⟨h2.1,fun x hx=>?_⟩
 rcases List.mem_cons.1 hx with rfl|hx
 ·exact Aax W o
 ·exact h2.2 x hx
theorem BX.get{w:World}{l:List (Nat×Obj)}{W:World}(h:BX w l W)(k:Nat){b:Nat}{o:Obj}(hk:l[k]?=some (b,o)):W.heap[b]?=some o:=h.2 _ (Aar hk)
theorem BX.lt{w:World}{l:List (Nat×Obj)}{W:World}(h:BX w l W)(k:Nat){b:Nat}{o:Obj}(hk:l[k]?=some (b,o)):b<W.heap.size:=(Aab.1 (h.get k hk)).1
abbrev fobj(q:Rat):Obj:=.cells #[.string (I q.num),.string (dn q)] 25 (0,0)
abbrev fz:Obj:=.cells #[.string ⟨#[]⟩,.string ⟨#[]⟩] 25 (0,0)
theorem Aqd(a b:Int)(ha:okDay a)(hb:okDay b)(w:World):Calls Tryz.prog 312 #[.int .i64 a,.int .i64 b] w fun e w'=>e=.returned (.int .i64 (b-a))∧w=w':=by
 obtain⟨a0,a1⟩:=ha
 obtain⟨b0,b1⟩:=hb
 go_enter Tryz.func312,Tryz.ntmps312
 go_wp2_with fail
 go_ret
 exact⟨rfl,rfl⟩
def adjE(c d e:Int):Int:=if c=4∨min d 30=30 then min e 30 else e
theorem Aqe(d e:Int)(w:World):Calls Tryz.prog 314 #[.int .i64 d,.int .i64 e] w fun r w'=>r=.returned (.tuple #[.int .i64 (min d 30),.int .i64 (adjE 3 d e)])∧w=w':=by
 obtain⟨x,hx⟩:∃x,min d 30=x:=⟨_,rfl⟩
 by_cases h:x=30
 ·have t:decide (x=30)=true:=Aav h
  have HE:Hid (adjE 3 d e=min e 30):=by unfold adjE;exact if_pos (.inr (hx.trans h))
  obtain⟨y,hy⟩:∃y,min e 30=y:=⟨_,rfl⟩
  have t2:(x==30)=true:=by simpa using h
  clear h
  go_enter Tryz.func314,Tryz.ntmps314
  go_wp2_with fail
  go_ret2
  exact⟨by rw[HE.out,hy,hx];rfl,rfl⟩
 ·have t:decide (x=30)=false:=Aaw h
  have HE:Hid (adjE 3 d e=e):=by unfold adjE;exact if_neg (fun k=>k.elim (by decide) (fun k=>h (hx.symm.trans k)))
  have t2:(x==30)=false:=by simpa using h
  clear h
  go_enter Tryz.func314,Tryz.ntmps314
  go_wp2_with fail
  go_ret2
  exact⟨by rw[HE.out,hx];rfl,rfl⟩
theorem Aqf(d e:Int)(w:World):Calls Tryz.prog 315 #[.int .i64 d,.int .i64 e] w fun r w'=>r=.returned (.tuple #[.int .i64 (min d 30),.int .i64 (adjE 4 d e)])∧w=w':=by
 have HE:Hid (adjE 4 d e=min e 30):=by unfold adjE;exact if_pos (.inl rfl)
 obtain⟨x,hx⟩:∃x,min d 30=x:=⟨_,rfl⟩
 obtain⟨y,hy⟩:∃y,min e 30=y:=⟨_,rfl⟩
 go_enter Tryz.func315,Tryz.ntmps315
 go_wp2_with fail
 go_ret2
 exact⟨by rw[HE.out,hy,hx];rfl,rfl⟩
structure AdjOk(c:Int)(n:Nat):Prop where
 en:∀args w,(callFunc n args).run Tryz.prog w=.ok (.enter n args) w
 run:∀d e W,Calls Tryz.prog n #[.int .i64 d,.int .i64 e] W fun r w'=>r=.returned (.tuple #[.int .i64 (min d 30),.int .i64 (adjE c d e)])∧W=w'
theorem adj3:AdjOk 3 314:=⟨enters_of Tryz.func314 (by kernel_rfl) rfl,Aqe⟩
theorem adj4:AdjOk 4 315:=⟨enters_of Tryz.func315 (by kernel_rfl) rfl,Aqf⟩
theorem Aqg(c:Int)(n B:Nat)(hn:AdjOk c n)(a b:Int)(ha:okDay a)(hb:okDay b)(w:World)(hB:Boxed w B 313 (.func (.func n) #[] #[])):
 Calls Tryz.prog 333 #[.int .i64 a,.int .i64 b,.pointer (some ⟨B,0,none⟩)] w fun e w'=>e=.returned (.int .i64 (Aj3 c a b))∧Below w.heap.size w w':=by
 have HA:=Aac (Ais a ha w)
 have HBB:=Aac (fun W=>Ais b hb W)
 have HN:=Aac hn.run
 have hen:=hn.en
 have HBX:=Aac hB
 clear ha hb hn hB
 go_enter Tryz.func333,Tryz.ntmps333
 go_wp2_with fail
 refine HA.out.mono ?_
 rintro r w1 ⟨y,m,d,rfl,hv,hd,hb1⟩
 go_wp2_with fail
 refine (HBB.out w1).mono ?_
 rintro r w2 ⟨z,k,e,rfl,hv',he,hb2⟩
 have hb12:=hb1.trans (hb2.mono hb1.size)
 have hbx2:Boxed w2 B 313 (.func (.func n) #[] #[]):=(hb12.block _ HBX.out.lt).trans HBX.out
 have cb:=hbx2.cell
 have HD:Hid (Aj3 c a b=360*(z-y)+30*((k:Int)-m)+adjE c d e-min d 30):=by
  show Aj3 c a b=_
  rw[Aj4 hv hd hv' he];rfl
 have HAD:Hid (adjE c d e≤e∧1≤adjE c d e):=by
  obtain⟨_,_,_,_,x5,_⟩:=hv'
  show _∧_
  unfold adjE
  split<;>omega
 obtain⟨v1,v2,v3,v4,v5,v6⟩:=hv
 obtain⟨u1,u2,u3,u4,u5,u6⟩:=hv'
 have l1:=Aid (leapB y) m
 have l2:=Aid (leapB z) k
 obtain⟨q1,q2⟩:=HAD.out
 have HB12:=Aac hb12
 clear hd he hb1 hb2 hb12 hbx2
 obtain⟨x,hx⟩:∃x,min d 30=x:=⟨_,rfl⟩
 obtain⟨g,hg⟩:∃g,adjE c d e=g:=⟨_,rfl⟩
 have hN2:=HN.out d e w2
 rw[hx] at HD hN2
 rw[hg] at HD q1 q2 hN2
 have x1:1≤x:=by omega
 have x2:x≤30:=by omega
 clear HAD hx hg
 have HN2:=Aac hN2
 clear hN2
 go_wp2_with fail
 refine HN2.out.mono ?_
 rintro r w3 ⟨rfl,rfl⟩
 go_wp2_with fail
 go_ret
 exact⟨by rw[HD.out];rfl,HB12.out⟩
theorem Aqh(n:Nat)(w:World):Calls Tryz.prog 313 #[.func (.func n) #[] #[]] w fun e w'=>e=.returned (.func (.func 333) #[] #[.pointer (some ⟨w.heap.size,0,none⟩)])∧w'=w.alloc (.cells #[.func (.func n) #[] #[]] 313):=by
 go_enter Tryz.func313,Tryz.ntmps313
 go_wp2_with fail
 go_ret
 exact⟨rfl,rfl⟩
theorem Aqi(n d:ByteArray)(w:World)(s1:n.size≤3000000)(s2:d.size≤3000000)(h0:vl d≠0)(ht:Tabs w):
 Calls Tryz.prog 42 #[.string n,.string d] w fun e w'=>e=.returned (.tuple #[fenc (Rat.divInt (vl n) (vl d)),.int .i64 0])∧Below w.heap.size w w':=by
 have HB:=Aac ((Below.refl _ w).alloc (Aad _) (Obj.cells #[.string ⟨#[]⟩,.string ⟨#[]⟩] 25))
 have HC:=Aac (Agf d ⟨#[]⟩ (w.alloc (Obj.cells #[.string ⟨#[]⟩,.string ⟨#[]⟩] 25)) (by omega) (by show 0≤_;omega))
 rw[show vl (⟨#[]⟩:ByteArray)=0 from by rw[zero_eq,vl_I]] at HC
 have hc:(cmpI (vl d) 0==0)=false:=Aaj.2 (fun h=>h0 (cmpI_eq.1 h))
 obtain⟨W0,hW0⟩:∃W0,w.alloc (Obj.cells #[.string ⟨#[]⟩,.string ⟨#[]⟩] 25)=W0:=⟨_,rfl⟩
 have hk:W0.heap[w.heap.size]?=some (Obj.cells #[.string ⟨#[]⟩,.string ⟨#[]⟩] 25):=by rw[←hW0];exact Aax w _
 have hs:W0.heap.size=w.heap.size+1:=by rw[←hW0];simp
 rw[hW0] at HB HC
 have HT:=Aac ht
 have HM:=Aac (fun W hW=>Ag1 n d W s1 s2 h0 hW)
 generalize Rat.divInt (vl n) (vl d)=q at HM ⊢
 clear ht h0
 go_enter Tryz.func42,Tryz.ntmps42
 go_wp2_with fail
 try rw[hW0]
 refine HC.out.mono ?_
 rintro e w1 ⟨rfl,B1⟩
 have k1:=Aac ((B1.block w.heap.size (by omega)).trans hk)
 have HB1:=Aac (HB.out.trans (B1.mono HB.out.size))
 clear B1 HB hk HC
 go_wp2_with fail
 refine (HM.out w1 (HT.out.below HB1.out)).mono ?_
 rintro e w2 ⟨rfl,B2⟩
 have hs1:w.heap.size<w1.heap.size:=(Aab.1 k1.out).1
 have k2:=(B2.block w.heap.size hs1).trans k1.out
 have HB2:=Aac (HB1.out.trans (B2.mono HB1.out.size))
 unfold fenc
 have a0:=Aaa k2 0
 have a1:=Aaa k2 1
 simp at a0 a1
 have f0:=Aaf k2 0
 have f1:=Aaf k2 1
 have K2:=Aac k2
 clear k2 k1 B2 HB1 hc
 go_wp2_with fail
 have k3:=set2 K2.out (.string (I q.num)) (.string (dn q))
 have m0:=Aaa k3 0
 have m1:=Aaa k3 1
 simp at m0 m1
 refine bodyPost_ret (v:=.tuple #[.agg #[.string (I q.num),.string (dn q)],.int .i64 0]) (by simp[results,Tryz.results42,go_sem,m0,m1]) rfl ?_
 exact⟨by unfold fenc;rfl,(HB2.out.setCell (p:=⟨w.heap.size,0,none⟩) (Aad _) _).setCell (p:=⟨w.heap.size,1,none⟩) (Aad _) _⟩
variable {P:Program} {md:Region.Mode} {ops:Array Oper} {Q:Exit→Act→World→Prop}
theorem Aqj(J:Array Bool→Act→World→Prop)
 (hstep:∀L a w,J L a w→∀i∈Region.ready md ops L,wpOp P ops Q i (J (L.setIfInBounds i true)) a w)
 (hdone:∀L a w,J L a w→Region.ready md ops L=[]→Q .normal a w) :
 ∀(fuel:Nat) (L:Array Bool) (a:Act) (w:World),J L a w→waits L.toList≤fuel→wpAny P md ops Q fuel L a w:=by
 intro fuel
 induction fuel with
 | zero =>
   intro L a w hj hw
   have hr:Region.ready md ops L=[]:=by
    refine List.eq_nil_iff_forall_not_mem.2 fun i hi=>?_
    exact waits_zero L.toList i (by omega) (Apc (mem_ready.1 hi).1)
   exact⟨hr,hdone L a w hj hr⟩
 | succ fuel ih =>
   intro L a w hj hw
   refine⟨fun hr=>hdone L a w hj hr,fun i hi=>wpOp_mono (fun a' w' h'=>ih _ a' w' h' ?_) (hstep L a w hj i hi)⟩
   have:=waits_set L.toList i (Apc (mem_ready.1 hi).1)
   rw[Array.toList_setIfInBounds]
   omega
end Go.Proofs.YtcnmoobojdopgaaGreatDoor
namespace Go.Proofs.YtcnmoobojdopgaaGreatDoor
open Go.RowKit Tr Go.Shelf
theorem Aqk{W:World}{k:Nat}{o:Obj}(h:W.heap[k]?=some o)(o':Obj):(W.alloc o').heap[k]?=some o:=(Below.heap_alloc _ _ _ (Aab.1 h).1).trans h
theorem fNewI{n d:Int}(h0:-9000000000000000000≤n)(h1:n≤9000000000000000000)(g0:-9000000000000000000≤d)(g1:d≤9000000000000000000)(hd:d≠0)(w:World)(ht:Tabs w):
 Calls Tryz.prog 42 #[.string (I n),.string (I d)] w fun e w'=>e=.returned (.tuple #[fenc (Rat.divInt n d),.int .i64 0])∧Below w.heap.size w w':=by
 have s1:(I n).size≤20:=Ac3 (k:=19) (by omega)
 have s2:(I d).size≤20:=Ac3 (k:=19) (by omega)
 have:=Aqi (I n) (I d) w (by omega) (by omega) (by rw[vl_I];exact hd) ht
 rwa [vl_I,vl_I] at this
theorem Aqm(n d:Int)(h0:-9000000000000000000≤n)(h1:n≤9000000000000000000)(g0:-9000000000000000000≤d)(g1:d≤9000000000000000000)(hd:d≠0)(w:World)(ht:Tabs w):
 Calls Tryz.prog 332 #[.int .i64 n,.int .i64 d] w fun e w'=>e=.returned (fenc (Rat.divInt n d))∧Below w.heap.size w w':=by
 have HO1:=hI (fun W (hW:Tabs W)=>Of_any n (by omega) (by omega) W hW)
 have HO2:=hI (fun W (hW:Tabs W)=>Of_any d (by omega) (by omega) W hW)
 have HNW:=hI (fun W (hW:Tabs W)=>fNewI h0 h1 g0 g1 hd W hW)
 have HT:=hI ht
 obtain⟨q,hq⟩:∃q,Rat.divInt n d=q:=⟨_,rfl⟩
 rw[hq] at HNW ⊢
 clear hq h0 h1 g0 g1 hd ht
 obtain⟨W0,hW0⟩:∃W0,w.alloc fz=W0:=⟨_,rfl⟩
 have hg:BX w [(w.heap.size,fz)] W0:=by rw[←hW0];exact BX.push (W:=w) ⟨Below.refl _ _,fun _ h=>by cases h⟩ fz
 unfold fenc at HNW ⊢
 go_enter Tryz.func332,Tryz.ntmps332
 go_wp2_with fail
 refine (HO1.out _ (HT.out.below hg.1)).mono ?_
 rintro e w1 ⟨rfl,b1⟩
 have hg1:=hg.below b1
 clear hg b1 hW0
 go_wp2_with fail
 refine (HO2.out _ (HT.out.below hg1.1)).mono ?_
 rintro e w2 ⟨rfl,b2⟩
 have hg2:=hg1.below b2
 clear hg1 b2
 go_wp2_with fail
 refine (HNW.out _ (HT.out.below hg2.1)).mono ?_
 rintro e w3 ⟨rfl,b3⟩
 have hg3:=hg2.below b3
 clear hg2 b3
 have k0:=hg3.get 0 rfl
 have l0:=hg3.lt 0 rfl
 have m0:=Aaa k0 0
 have m1:=Aaa k0 1
 have f0:=Aaf k0 0
 have f1:=Aaf k0 1
 simp at m0 m1 f0 f1
 have ne:w3.heap.size≠w.heap.size:=by omega
 have HB3:=hI hg3.1
 have HK0:=hI k0
 clear k0 hg3
 go_wp2_with fail
 have k2:=Aqk (Go.Proofs.YtcnmoobojdopgaaGreatDoor.set2 HK0.out (.string (I q.num)) (.string (dn q))) (.cells #[.string (I q.num),.string (dn q)] 25)
 have j0:=Aaa k2 0
 have j1:=Aaa k2 1
 simp at j0 j1
 refine bodyPost_ret (v:=.agg #[.string (I q.num),.string (dn q)]) (by simp[results,Tryz.results332,go_sem,j0,j1]) rfl ?_
 have hb:=Ahd (Aad _) HB3.out (.string (I q.num)) (.string (dn q))
 exact⟨rfl,hb.alloc hb.size _⟩
structure DaysOk(cd:Int→Int→Int)(n:Nat)(bd:Array Value)(w:World):Prop where
 en:∀args w,(callFunc n args).run Tryz.prog w=.ok (.enter n args) w
 run:∀W,Below w.heap.size w W→∀a b,okDay a→okDay b→Calls Tryz.prog n (#[.int .i64 a,.int .i64 b]++bd) W fun e w'=>e=.returned (.int .i64 (cd a b))∧Below W.heap.size W w'
theorem DaysOk.below{cd:Int→Int→Int}{n:Nat}{bd:Array Value}{w w':World}(h:DaysOk cd n bd w)(hb:Below w.heap.size w w'):DaysOk cd n bd w':=⟨h.en,fun W hW=>h.run W (hb.trans (hW.mono hb.size))⟩
theorem DaysOk.actual(w:World):DaysOk (fun a b=>b-a) 312 #[] w:=⟨enters_of Tryz.func312 (by kernel_rfl) rfl,fun W _ a b ha hb=>(Aqd a b ha hb W).mono fun e w' ⟨h1,h2⟩=>⟨h1,h2▸Below.refl _ _⟩⟩
theorem DaysOk.thirty{c:Int}{n B:Nat}{w:World}(hn:AdjOk c n)(hB:Boxed w B 313 (.func (.func n) #[] #[])):DaysOk (fun a b=>Aj3 c a b) 333 #[.pointer (some ⟨B,0,none⟩)] w :=
 ⟨enters_of Tryz.func333 (by kernel_rfl) rfl,fun W hW a b ha hb=>Aqg c n B hn a b ha hb W ((hW.block _ hB.lt).trans hB)⟩
theorem bkeep{W W':World}{k:Nat}{o:Obj}(hb:Below W.heap.size W W')(h:W.heap[k]?=some o):W'.heap[k]?=some o:=(hb.block _ (Aab.1 h).1).trans h
theorem BX.far{w:World}{l:List (Nat×Obj)}{W:World}{b:Nat}(h:BX w l W)(hB:w.heap.size≤b)(hn:∀x,x∈l→x.1≠b)(x y:Value):BX w l ((W.setCell ⟨b,0,none⟩ x).setCell ⟨b,1,none⟩ y) :=
 ⟨Ahd hB h.1 _ _,fun z hz=>(Ahc (hn z hz) _ _).trans (h.2 z hz)⟩
structure OVV(w:World)(pa pb z yr:Int)(b1 b2 n:Nat)(bd:Array Value)(q:Rat)  (L:Array Bool) (W:World) (s7 s8 s9 s10 s11 s12:Value):Prop where
 k0:L.getD 0 false=true→s7=.func (.func n) #[] bd
 k1:L.getD 1 false=true→s8=.int .i64 pa
 k2:L.getD 2 false=true→s9=.int .i64 pb
 k3:L.getD 3 false=true→s10=.int .i64 z
 k4:L.getD 4 false=true→s11=.int .i64 yr
 k5:L.getD 5 false=true→s12=.agg #[.string (I q.num),.string (dn q)]
 bx:BX w [] W
 o6:L.getD 6 false=false→W.heap[w.heap.size]?=some (fz)
 n6:L.getD 6 false=true→W.heap[w.heap.size]?=some (fobj q)
structure OVJ(w:World)(pa pb z yr:Int)(b1 b2 n:Nat)(bd:Array Value)(q:Rat)(x4 x5:Value)(L:Array Bool)(a:Act)(W:World):Prop where
 sz:L.size=7
 fr:∃s7 s8 s9 s10 s11 s12:Value,a={tmps:=#[.int .i64 pa,.int .i64 pb,.pointer (some ⟨b1,0,none⟩),.pointer (some ⟨b2,0,none⟩),x4,x5,.pointer (some ⟨w.heap.size,0,none⟩),s7,s8,s9,s10,s11,s12],defers:=[]}∧OVV w pa pb z yr b1 b2 n bd q  L W s7 s8 s9 s10 s11 s12
theorem Aqn(cd:Int→Int→Int)(n:Nat)(bd:Array Value)(b1 b2:Nat)(yr:Int)(a b:Int)(ha:okDay a)(hb:okDay b)(w:World)(hd:DaysOk cd n bd w)(hc:(cd a b).natAbs≤1000000)(hy0:0<yr)(hy1:yr≤1000)
 (h1:Boxed w b1 194 (.func (.func n) #[] bd)) (h2:Boxed w b2 3 (.int .i64 yr)) (ht:Tabs w) :
 Calls Tryz.prog 331 #[.int .i64 a,.int .i64 b,.pointer (some ⟨b1,0,none⟩),.pointer (some ⟨b2,0,none⟩)] w fun e w'=>e=.returned (fenc (Rat.divInt (cd a b) yr))∧Below w.heap.size w w':=by
 have HD:Hid (∀W,BX w [] W→Calls Tryz.prog n (#[.int .i64 a,.int .i64 b]++bd) W fun e w'=>e=.returned (.int .i64 (cd a b))∧Below W.heap.size W w'):=fun W hW=>hd.run W hW.1 a b ha hb
 have HR:Hid (∀W,BX w [] W→Calls Tryz.prog 332 #[.int .i64 (cd a b),.int .i64 yr] W fun e w'=>e=.returned (fenc (Rat.divInt (cd a b) yr))∧Below W.heap.size W w'):=fun W hW=>Aqm (cd a b) yr (by omega) (by omega) (by omega) (by omega) (by omega) W (ht.below hW.1)
 have hen:=hd.en
 have HC:Hid (∀W,BX w [] W→W.cell? ⟨b1,0,none⟩=some (.func (.func n) #[] bd)∧W.cell? ⟨b2,0,none⟩=some (.int .i64 yr)):=fun W hW=>⟨Boxed.cell (show Boxed W b1 194 _ from (hW.1.block _ h1.lt).trans h1),Boxed.cell (show Boxed W b2 3 _ from (hW.1.block _ h2.lt).trans h2)⟩
 obtain⟨q,hq⟩:∃q,Rat.divInt (cd a b) yr=q:=⟨_,rfl⟩
 obtain⟨z,hz⟩:∃z,cd a b=z:=⟨_,rfl⟩
 rw[hq] at HR ⊢
 rw[hz] at HR HD
 clear hq hz ha hb hd hc hy0 hy1 h1 h2 ht
 obtain⟨W0,hW0⟩:∃W0,w.alloc fz=W0:=⟨_,rfl⟩
 have hg0:BX w [(w.heap.size,fz)] W0:=by rw[←hW0];exact BX.push (W:=w) ⟨Below.refl _ _,fun _ h=>by cases h⟩ fz
 unfold fenc at HR ⊢
 go_enter Tryz.func331,Tryz.ntmps331
 go_wp2_with fail
 have hg:BX w [] W0.drew:=⟨hg0.1.drew,fun _ h=>by cases h⟩
 have hko6:W0.drew.heap[w.heap.size]?=some fz:=hg0.get 0 rfl
 clear hg0 hW0
 have mixed:Tryz.prog.follows .mixedOrders=true:=by kernel_rfl
 refine wp_region_any mixed (Aqj (OVJ w a b z yr b1 b2 n bd q _ _) ?stOV ?dnOV _ _ _ _ ⟨by simp,⟨_,_,_,_,_,_,rfl,fun h=>by simp at h,fun h=>by simp at h,fun h=>by simp at h,fun h=>by simp at h,fun h=>by simp at h,fun h=>by simp at h,hg,fun _=>hko6,fun h=>by simp at h⟩⟩ (by decide))
 case dnOV =>
  intro L a w' hj hr
  have all:=Apr hr hj.sz (by kernel_rfl)
  obtain⟨s7,s8,s9,s10,s11,s12,rfl,hv⟩:=hj.fr
  have HF:=hI (And.intro (hv.n6 (all 6 (by omega))) hv.bx.1)
  clear all hv hj hr
  have j0:=Aaa HF.out.1 0
  have j1:=Aaa HF.out.1 1
  simp at j0 j1
  go_wp2_with fail
  refine bodyPost_ret (v:=.agg #[.string (I q.num),.string (dn q)]) (by simp[results,Tryz.results331,go_sem,j0,j1]) rfl ?_
  exact⟨rfl,HF.out.2⟩
 case stOV =>
  intro L a w' hj i hi
  obtain⟨hun,o,ho,hall⟩:=mem_ready.1 hi
  have hoff:=Apg hun
  have hlt:=(Aab.1 ho).1
  simp at hlt
  obtain⟨s7,s8,s9,s10,s11,s12,rfl,hv⟩:=hj.fr
  have HV:=hI hv
  have HJ:=hI hj
  clear hv hj
  rcases (show i=0∨i=1∨i=2∨i=3∨i=4∨i=5∨i=6 from by omega) with rfl|rfl|rfl|rfl|rfl|rfl|rfl
  all_goals simp at ho
  all_goals subst ho
  obtain⟨c1,_⟩:=HC.out _ HV.out.bx
  rotate_left
  rotate_left
  rotate_left
  ·cases HV.out.k0 (Hq hall 0).out
   cases HV.out.k1 (Hq hall 1).out
   cases HV.out.k2 (Hq hall 2).out
   clear hall hi
   refine App rfl fun K' HK=>?_
   go_simp
   refine (HD.out _ HV.out.bx).mono ?_
   rintro e wn ⟨rfl,hbn⟩
   cases HV.out
   refine HK.out _ _ ⟨by simp[HJ.out.sz],⟨_,_,_,_,_,_,rfl,?_,?_,?_,fun _=>rfl,?_,?_,HV.out.bx.below hbn,fun h=>bkeep hbn (HV.out.o6 (Apj h)),fun h=>bkeep hbn (HV.out.n6 (Api h))⟩⟩
   all_goals exact Um (by assumption)
  obtain⟨_,c2⟩:=HC.out _ HV.out.bx
  rotate_left
  ·cases HV.out.k3 (Hq hall 3).out
   cases HV.out.k4 (Hq hall 4).out
   clear hall hi
   refine App rfl fun K' HK=>?_
   go_simp
   refine (HR.out _ HV.out.bx).mono ?_
   rintro e wn ⟨rfl,hbn⟩
   cases HV.out
   refine HK.out _ _ ⟨by simp[HJ.out.sz],⟨_,_,_,_,_,_,rfl,?_,?_,?_,?_,?_,fun _=>rfl,HV.out.bx.below hbn,fun h=>bkeep hbn (HV.out.o6 (Apj h)),fun h=>bkeep hbn (HV.out.n6 (Api h))⟩⟩
   all_goals exact Um (by assumption)
  ·cases HV.out.k5 (Hq hall 5).out
   clear hall hi
   have hko:=HV.out.o6 hoff
   have m0:=Aaa hko 0;have m1:=Aaa hko 1;have f0:=Aaf hko 0;have f1:=Aaf hko 1
   simp at m0 m1 f0 f1
   refine App rfl fun K' HK=>?_
   go_simp
   cases HV.out
   refine HK.out _ _ ⟨by simp[HJ.out.sz],⟨_,_,_,_,_,_,rfl,?_,?_,?_,?_,?_,?_,HV.out.bx.far (b:=w.heap.size) (by omega) (by simp<;>omega) _ _,fun h=>(Apk h (Ape hun)).elim,fun _=>set2 hko _ _⟩⟩
   all_goals exact Um (by assumption)
  all_goals
   clear hall hi
   refine App rfl fun K' HK=>?_
   go_simp
   cases HV.out
   refine HK.out _ _ ⟨by simp[HJ.out.sz],?_⟩
   iterate 6 apply Exists.intro
   refine⟨rfl,?_⟩
   constructor
   all_goals first|exact Um (by assumption)|exact Un (by assumption)|exact Uf (by assumption)|exact fun _=>rfl|assumption
theorem Aqp{d:Int}(h:okDay d):BdQ (yrs d) 9:=by
 obtain⟨y,y0,y1,h2,h3⟩:=Ake h.1 h.2
 rw[Akc y0 y1 h2 h3]
 have hl:=Akb (leapB y)
 rw[Aib] at h3
 have e:((d+25567-bg y:Int):Rat) / (ylen (leapB y):Rat)=Rat.divInt (d+25567-bg y) (ylen (leapB y)):=(Rat.divInt_eq_div _ _).symm
 rw[e]
 exact BdQ.add (a:=4) (b:=4) (BdQ.int (by omega) (by omega)) (BdQ.divInt (by omega) (by omega) (by omega))
theorem Aqq{a b:Int}(ha:okDay a)(hb:okDay b):BdQ (yrs a-yrs b) 19:=BdQ.sub (a:=9) (b:=9) (Aqp ha) (Aqp hb)
theorem fenc_zero:fenc 0=.agg #[.string ⟨#[]⟩,.string ⟨#[]⟩]:=by
 unfold fenc dn
 rw[show (0:Rat).num=0 from rfl,show (0:Rat).den=1 from rfl,if_pos rfl,←zero_eq]
theorem fobj_zero:fobj 0=fz:=by
 unfold fobj fz dn
 rw[show (0:Rat).num=0 from rfl,show (0:Rat).den=1 from rfl,if_pos rfl,←zero_eq]
theorem Aqr(y:Int)(h0:1900≤y)(h1:y≤2199)(w:World):Calls Tryz.prog 225 #[.int .i64 y] w fun e w'=>e=.returned (.bool (leapB y))∧w=w':=(Aii y (by omega) (by omega) w).mono fun e w' ⟨x,z⟩=>⟨x,z.symm⟩
structure CAV(w:World)(e x Ln:Int)(p rq sq:Rat)  (L:Array Bool) (W:World) (s37 s38 s39 s40 s41 s42 s43:Value):Prop where
 k0:L.getD 0 false=true→s37=.agg #[.string (I p.num),.string (dn p)]
 k1:L.getD 1 false=true→s38=.int .i64 x
 k2:L.getD 2 false=true→s39=.int .i64 e
 k3:L.getD 3 false=true→s40=.int .i64 (x-e)
 k4:L.getD 4 false=true→s41=.int .i64 Ln
 k5:L.getD 5 false=true→s42=.agg #[.string (I rq.num),.string (dn rq)]
 k6:L.getD 6 false=true→s43=.agg #[.string (I sq.num),.string (dn sq)]
 bx:BX w [(w.heap.size,fz)] W
 o7:L.getD 7 false=false→W.heap[w.heap.size+1]?=some (fobj p)
 n7:L.getD 7 false=true→W.heap[w.heap.size+1]?=some (fobj sq)
 d7_0:L.getD 7 false=true→L.getD 0 false=true
structure CAJ(w:World)(e x Ln:Int)(p rq sq:Rat)(x1 x2 x3 x4 x6 x7 x8 x9 x11 x12 x14 x15 x16 x17 x18 x19 x20 x21 x22 x23 x24 x25 x26 x27 x28 x29 x30 x31 x32 x33 x34 x35 x36 x44 x45:Value)(L:Array Bool)(a:Act)(W:World):Prop where
 sz:L.size=8
 fr:∃s37 s38 s39 s40 s41 s42 s43:Value,a={tmps:=#[.int .i64 e,x1,x2,x3,x4,.pointer (some ⟨w.heap.size+1,0,none⟩),x6,x7,x8,x9,.int .i64 Ln,x11,x12,.int .i64 x,x14,x15,x16,x17,x18,x19,x20,x21,x22,x23,x24,x25,x26,x27,x28,x29,x30,x31,x32,x33,x34,x35,x36,s37,s38,s39,s40,s41,s42,s43,x44,x45],defers:=[]}∧CAV w e x Ln p rq sq  L W s37 s38 s39 s40 s41 s42 s43
theorem Aqs(a b:Int)(ha:okDay a)(hb:okDay b)(hab:a≤b)(w:World)(ht:Tabs w):
 Calls Tryz.prog 316 #[.int .i64 a,.int .i64 b] w fun e w'=>e=.returned (fenc (yrs b-yrs a))∧Below w.heap.size w w':=by
 have HT:=hI ht
 have HP:=hI (fun (e:Int) (h0:okDay e) W=>Ais e h0 W)
 have HLP:=hI (fun (y:Int) (h0:1900≤y) (h1:y≤2199) W=>Aqr y h0 h1 W)
 have HOF:=hI (fun (y:Int) (h:VDate y 1 1) W=>Aip y 1 1 h W)
 obtain⟨W0,hW0⟩:∃W0,w.alloc fz=W0:=⟨_,rfl⟩
 have hg0:BX w [(w.heap.size,fz)] W0:=by rw[←hW0];exact BX.push (W:=w) ⟨Below.refl _ _,fun _ h=>by cases h⟩ fz
 have s0:W0.heap.size=w.heap.size+1:=by rw[←hW0];simp
 have hg1:BX w [(w.heap.size+1,fobj 0),(w.heap.size,fz)] (W0.alloc (.cells #[.string ⟨#[]⟩,.string ⟨#[]⟩] 25)):=by
  have:=hg0.push fz
  rw[s0] at this
  rw[fobj_zero];exact this
 have HG0:=hI hg1
 clear hg0 hg1 ht
 go_enter Tryz.func316,Tryz.ntmps316
 go_wp2_with fail
 obtain⟨W1,hW1⟩:∃W1,W0.alloc (.cells #[.string ⟨#[]⟩,.string ⟨#[]⟩] 25)=W1:=⟨_,rfl⟩
 have HG1:=HG0
 rw[hW1] at HG1 ⊢
 clear hW0 hW1 s0 HG0
 go_loopw [0] (fun v0 wr=>∃(e:Int),v0=.int .i64 e∧a≤e∧e≤b∧Hid (BX w [(w.heap.size+1,fobj (yrs e-yrs a)),(w.heap.size,fz)] wr)) (fun v0 _=>(b-intOf v0).toNat)
 case atStart=>exact⟨a,rfl,Int.le_refl _,hab,by rw[show yrs a-yrs a=(0:Rat) from by grind];exact HG1.out⟩
 case round =>
  obtain⟨e,rfl,hae,heb,HG⟩:=hrel
  clear HG1
  have he:okDay e:=by obtain⟨_,_⟩:=ha;obtain⟨_,_⟩:=hb;exact⟨by omega,by omega⟩
  rcases Int.lt_or_le e b with hlt|hge
  ·have hc:decide (e<b)=true:=Aav hlt
   have HPE:=hI (fun W=>HP.out e he W)
   go_wp2_with fail
   refine (HPE.out _).mono ?_
   rintro r w2 ⟨y,m,d,rfl,hv,hd,hb2⟩
   have HG2:=hI (HG.out.below hb2)
   have hvd:=hv
   obtain⟨y0,y1,_,_,_,_⟩:=hvd
   have HY:=hI (And.intro hv hd)
   clear hv hd hb2 HG
   go_wp2_with fail
   refine (HLP.out y y0 y1 _).mono ?_
   rintro r w3 ⟨rfl,rfl⟩
   go_upto_if 26 with fail
   go_cut [10] (fun v10 wx=>v10=.int .i64 (ylen (leapB y))∧w2=wx)
   case first =>
    cases hl:leapB y
    all_goals (go_wp2_with fail;go_meet;exact⟨by first|rfl|(rw[hl];rfl),rfl⟩)
   case rest =>
    obtain⟨rfl,rfl⟩:=hcut
    have hL:=Akb (leapB y)
    obtain⟨hvv,hde⟩:=HY.out
    have hiy:=Aie hvv
    rw[hde,Aib] at hiy
    have hV1:VDate y 1 1:=⟨y0,y1,by omega,by omega,by omega,by have:=(Aid (leapB y) 1).1;omega⟩
    have hFe:dayOf y 1 1=-25567+bg y:=by unfold dayOf;rw[show cumB (leapB y) (1-1)=0 from rfl];omega
    obtain⟨F,hF⟩:∃F,dayOf y 1 1=F:=⟨_,rfl⟩
    have hFr:=Aih hV1
    have HOY:=hI (HOF.out y hV1)
    rw[hF] at HOY hFr hFe
    obtain⟨Ln,hLn⟩:∃Ln,ylen (leapB y)=Ln:=⟨_,rfl⟩
    have HST:=hI (fun (x:Int) (h1:e≤x) (h2:x+25567≤bg (y+1)) (h3:x≤84005)=>Akg y0 y1 hiy.1 h1 (by rw[Aib];exact hiy.2) h2 h3)
    rw[Aib,hLn] at HST
    rw[hLn] at hL hiy ⊢
    obtain⟨G,hG⟩:∃G,bg y=G:=⟨_,rfl⟩
    rw[hG] at hFe hiy HST
    obtain⟨hL1,hL2,hL3⟩:=hL
    obtain⟨hi1,hi2⟩:=hiy
    obtain⟨hF1,hF2⟩:=hFr
    have hbr:b≤84005:=hb.2
    have hbl:-25567≤b:=hb.1
    have hel:-25567≤e:=he.1
    clear hvv hde hF hG hLn HY hV1
    go_wp2_with fail
    refine (HOY.out _).mono ?_
    rintro r w3 ⟨rfl,hb3⟩
    have HG3:=hI (HG2.out.below hb3)
    obtain⟨x,hx⟩:∃x,min b (F+Ln)=x:=⟨_,rfl⟩
    have x1:e<x:=by omega
    have x2:x≤b:=by omega
    have x3:x+25567≤G+Ln:=by omega
    have HSX:=hI (HST.out x (by omega) x3 (by omega))
    clear hb3 HG2 hFe
    go_wp2_with fail
    have okx:okDay x:=⟨by omega,by omega⟩
    have b1:=Aqq he ha
    have b2:BdQ (Rat.divInt (x-e) Ln) 9:=BdQ.divInt (by omega) (by omega) (by omega)
    obtain⟨p,hp⟩:∃p,yrs e-yrs a=p:=⟨_,rfl⟩
    have HPE2:Hid (yrs x-yrs a=p+Rat.divInt (x-e) Ln):=by
     show yrs x-yrs a=_
     rw[HSX.out,←hp,Rat.divInt_eq_div]
     grind
    rw[hp] at b1
    have HR:=hI (fun W (hW:BX w [(w.heap.size,fz)] W)=>Aqm (x-e) Ln (by omega) (by omega) (by omega) (by omega) (by omega) W (HT.out.below hW.1))
    obtain⟨rq,hrq⟩:∃rq,Rat.divInt (x-e) Ln=rq:=⟨_,rfl⟩
    rw[hrq] at HR b2 HPE2
    have HA:=hI (fun W (hW:BX w [(w.heap.size,fz)] W)=>fAddQ b1 b2 (by omega) (by omega) W (HT.out.below hW.1))
    obtain⟨sq,hsq⟩:∃sq,p+rq=sq:=⟨_,rfl⟩
    rw[hsq] at HA HPE2
    rw[hp] at HG3
    have hg:BX w [(w.heap.size,fz)] w3.drew:=⟨HG3.out.1.drew,fun z hz=>HG3.out.2 z (List.mem_cons_of_mem _ hz)⟩
    have hko7:w3.drew.heap[w.heap.size+1]?=some (fobj p):=HG3.out.get 0 rfl
    unfold fenc at HR HA
    clear HG3 hp hrq hsq b1 b2 HST HOY hx hi1 hi2 hF1 hF2
    have mixed:Tryz.prog.follows .mixedOrders=true:=by kernel_rfl
    refine wp_region_any mixed (Aqj (CAJ w e x Ln p rq sq _ _ _ _ _ _ _ _ _ _ _ _ _ _ _ _ _ _ _ _ _ _ _ _ _ _ _ _ _ _ _ _ _ _ _) ?stCA ?dnCA _ _ _ _ ⟨by simp,⟨_,_,_,_,_,_,_,rfl,fun h=>by simp at h,fun h=>by simp at h,fun h=>by simp at h,fun h=>by simp at h,fun h=>by simp at h,fun h=>by simp at h,fun h=>by simp at h,hg,fun _=>hko7,fun h=>by simp at h,fun h=>by simp at h⟩⟩ (by decide))
    case dnCA =>
     intro L a w' hj hr
     have all:=Apr hr hj.sz (by kernel_rfl)
     obtain⟨s37,s38,s39,s40,s41,s42,s43,rfl,hv⟩:=hj.fr
     have HF:Hid (BX w [(w.heap.size+1,fobj (yrs x-yrs a)),(w.heap.size,fz)] w'):=by
      show BX _ _ _
      rw[HPE2.out]
      refine⟨hv.bx.1,fun z hz=>?_⟩
      rcases List.mem_cons.1 hz with rfl|hz
      ·exact hv.n7 (all 7 (by omega))
      ·exact hv.bx.2 z hz
     clear all hv hj hr
     go_wp2_with fail
     go_roundw
     case rel=>exact⟨x,rfl,by omega,x2,HF.out⟩
     case measure=>simp[intOf];omega
    case stCA =>
     intro L a w' hj i hi
     obtain⟨hun,o,ho,hall⟩:=mem_ready.1 hi
     have hoff:=Apg hun
     have hlt:=(Aab.1 ho).1
     simp at hlt
     obtain⟨s37,s38,s39,s40,s41,s42,s43,rfl,hv⟩:=hj.fr
     have HV:=hI hv
     have HJ:=hI hj
     clear hv hj
     rcases (show i=0∨i=1∨i=2∨i=3∨i=4∨i=5∨i=6∨i=7 from by omega) with rfl|rfl|rfl|rfl|rfl|rfl|rfl|rfl
     ·simp at ho
      subst ho
      clear hall hi
      have hk7:L.getD 7 false=false:=(Apm L 7).resolve_right (fun h=>Apk hoff (HV.out.d7_0 h))
      have hk:=HV.out.o7 hk7;have c0:=Aaa hk 0;have c1:=Aaa hk 1
      simp at c0 c1
      refine App rfl fun K' HK=>?_
      go_simp
      cases HV.out
      refine HK.out _ _ ⟨by simp[HJ.out.sz],⟨_,_,_,_,_,_,_,rfl,fun _=>rfl,?_,?_,?_,?_,?_,?_,HV.out.bx,fun h0=>HV.out.o7 (Apj h0),?_,fun h=>Aph hun (HV.out.d7_0 (Api h))⟩⟩
      all_goals exact Um (by assumption)
     ·simp at ho
      subst ho
      clear hall hi
      refine App rfl fun K' HK=>?_
      go_simp
      cases HV.out
      refine HK.out _ _ ⟨by simp[HJ.out.sz],⟨_,_,_,_,_,_,_,rfl,?_,fun _=>rfl,?_,?_,?_,?_,?_,HV.out.bx,fun h0=>HV.out.o7 (Apj h0),?_,fun h=>Aph hun (HV.out.d7_0 (Api h))⟩⟩
      all_goals exact Um (by assumption)
     ·simp at ho
      subst ho
      clear hall hi
      refine App rfl fun K' HK=>?_
      go_simp
      cases HV.out
      refine HK.out _ _ ⟨by simp[HJ.out.sz],⟨_,_,_,_,_,_,_,rfl,?_,?_,fun _=>rfl,?_,?_,?_,?_,HV.out.bx,fun h0=>HV.out.o7 (Apj h0),?_,fun h=>Aph hun (HV.out.d7_0 (Api h))⟩⟩
      all_goals exact Um (by assumption)
     ·simp at ho
      subst ho
      have h1x:L.getD 1 false=true:=hall {on:=1,ground:=Ground.data} (by simp) (by decide)
      have h2x:L.getD 2 false=true:=hall {on:=2,ground:=Ground.data} (by simp) (by decide)
      have H1:=hI h1x
      have H2:=hI h2x
      clear hall hi h1x h2x
      have e0:=HV.out.k1 H1.out
      subst e0
      have e1:=HV.out.k2 H2.out
      subst e1
      refine App rfl fun K' HK=>?_
      go_simp
      cases HV.out
      refine HK.out _ _ ⟨by simp[HJ.out.sz],⟨_,_,_,_,_,_,_,rfl,?_,?_,?_,fun _=>by rw[show IntKind.i64.wrap (x-e)=x-e from by rw[IntKind.wrap_i64];omega],?_,?_,?_,HV.out.bx,fun h0=>HV.out.o7 (Apj h0),?_,fun h=>Aph hun (HV.out.d7_0 (Api h))⟩⟩
      all_goals exact Um (by assumption)
     ·simp at ho
      subst ho
      clear hall hi
      refine App rfl fun K' HK=>?_
      go_simp
      cases HV.out
      refine HK.out _ _ ⟨by simp[HJ.out.sz],⟨_,_,_,_,_,_,_,rfl,?_,?_,?_,?_,fun _=>rfl,?_,?_,HV.out.bx,fun h0=>HV.out.o7 (Apj h0),?_,fun h=>Aph hun (HV.out.d7_0 (Api h))⟩⟩
      all_goals exact Um (by assumption)
     ·simp at ho
      subst ho
      have h3x:L.getD 3 false=true:=hall {on:=3,ground:=Ground.data} (by simp) (by decide)
      have h4x:L.getD 4 false=true:=hall {on:=4,ground:=Ground.data} (by simp) (by decide)
      have H3:=hI h3x
      have H4:=hI h4x
      clear hall hi h3x h4x
      have e0:=HV.out.k3 H3.out
      subst e0
      have e1:=HV.out.k4 H4.out
      subst e1
      refine App rfl fun K' HK=>?_
      go_simp
      refine (HR.out _ HV.out.bx).mono ?_
      rintro e wn ⟨rfl,hbn⟩
      cases HV.out
      refine HK.out _ _ ⟨by simp[HJ.out.sz],⟨_,_,_,_,_,_,_,rfl,?_,?_,?_,?_,?_,fun _=>rfl,?_,HV.out.bx.below hbn,fun h=>bkeep hbn (HV.out.o7 (Apj h)),fun h=>bkeep hbn (HV.out.n7 (Api h)),fun h=>Aph hun (HV.out.d7_0 (Api h))⟩⟩
      all_goals exact Um (by assumption)
     ·simp at ho
      subst ho
      have h0x:L.getD 0 false=true:=hall {on:=0,ground:=Ground.data} (by simp) (by decide)
      have h5x:L.getD 5 false=true:=hall {on:=5,ground:=Ground.data} (by simp) (by decide)
      have H0:=hI h0x
      have H5:=hI h5x
      clear hall hi h0x h5x
      have e0:=HV.out.k0 H0.out
      subst e0
      have e1:=HV.out.k5 H5.out
      subst e1
      refine App rfl fun K' HK=>?_
      go_simp
      refine (HA.out _ HV.out.bx).mono ?_
      rintro e wn ⟨rfl,hbn⟩
      cases HV.out
      refine HK.out _ _ ⟨by simp[HJ.out.sz],⟨_,_,_,_,_,_,_,rfl,?_,?_,?_,?_,?_,?_,fun _=>rfl,HV.out.bx.below hbn,fun h=>bkeep hbn (HV.out.o7 (Apj h)),fun h=>bkeep hbn (HV.out.n7 (Api h)),fun h=>Aph hun (HV.out.d7_0 (Api h))⟩⟩
      all_goals exact Um (by assumption)
     ·simp at ho
      subst ho
      have h6x:L.getD 6 false=true:=hall {on:=6,ground:=Ground.data} (by simp) (by decide)
      have h0x:L.getD 0 false=true:=hall {on:=0,ground:=Ground.phase} (by simp) (by decide)
      have H6:=hI h6x
      have H0:=hI h0x
      clear hall hi h6x h0x
      have e0:=HV.out.k6 H6.out
      subst e0
      have hko:=HV.out.o7 hoff
      have m0:=Aaa hko 0;have m1:=Aaa hko 1;have f0:=Aaf hko 0;have f1:=Aaf hko 1
      simp at m0 m1 f0 f1
      refine App rfl fun K' HK=>?_
      go_simp
      cases HV.out
      refine HK.out _ _ ⟨by simp[HJ.out.sz],⟨_,_,_,_,_,_,_,rfl,?_,?_,?_,?_,?_,?_,?_,HV.out.bx.far (b:=w.heap.size+1) (by omega) (by simp<;>omega) _ _,fun h=>(Apk h (Ape hun)).elim,fun _=>set2 hko _ _,fun _=>Aph hun H0.out⟩⟩
      all_goals exact Um (by assumption)
  ·have hc:decide (e<b)=false:=Aaw (by omega)
   have:e=b:=by omega
   subst this
   obtain⟨p,hp⟩:∃p,yrs e-yrs a=p:=⟨_,rfl⟩
   rw[hp] at HG
   have k1:=HG.out.get 0 rfl
   have k0:=HG.out.get 1 rfl
   have c0:=Aaa k1 0
   have c1:=Aaa k1 1
   have m0:=Aaa k0 0
   have m1:=Aaa k0 1
   have f0:=Aaf k0 0
   have f1:=Aaf k0 1
   simp at c0 c1 m0 m1 f0 f1
   have HK0:=hI k0
   clear k0 k1
   go_wp2_with fail
   have k2:=Go.Proofs.YtcnmoobojdopgaaGreatDoor.set2 HK0.out (.string (I p.num)) (.string (dn p))
   have j0:=Aaa k2 0
   have j1:=Aaa k2 1
   simp at j0 j1
   refine bodyPost_ret (v:=.agg #[.string (I p.num),.string (dn p)]) (by simp[results,Tryz.results316,go_sem,j0,j1]) rfl ?_
   exact⟨by rw[hp];rfl,Ahd (Aad _) HG.out.1 _ _⟩
theorem Aqt(i:Inst)(hs:i.sized)(w:World):Calls Tryz.prog 211 #[i.enc] w (ChkPost w (Ak2 i)):=by
 obtain⟨W0,hW0,hB0,hz,hk⟩:=ibox i w
 obtain⟨c0,c1,c2,c3,c4,c5,c6,c7,c8,c9,c10,c11,c12,c13,c14⟩:=Acn hk
 have HB:=Aac hB0
 have HK:Hid (InstBox W0 w.heap.size i):=hk
 obtain⟨z1,z2,z3,z4,z5,z6,z7,z8,z9⟩:=hs
 have S1:=Aac (fun W=>Aku i.fn i.fd (by omega) W)
 have S2:=Aac (fun W=>Aku i.cn i.cd (by omega) W)
 have S3:=Aac (fun W=>Aku i.sn i.sd (by omega) W)
 clear hk hB0 hz z1 z2 z3 z4 z5 z6 z7 z8 z9
 unfold Inst.enc Inst.cells at *
 go_enter Tryz.func211,Tryz.ntmps211
 go_wp2_with fail
 refine (S1.out W0).mono ?_
 rintro e w1 ⟨rfl,b1⟩
 have hk1:=HK.out.below b1
 replace HB:=Aac (HB.out.trans (b1.mono HB.out.size))
 clear c0 c1 c2 c3 c4 c5 c6 c7 c8 c9 c10 c11 c12 c13 c14
 obtain⟨c0,c1,c2,c3,c4,c5,c6,c7,c8,c9,c10,c11,c12,c13,c14⟩:=Acn hk1
 replace HK:=Aac hk1
 clear b1 hk1 S1 hW0
 by_cases h1:vl i.fn=0
 case neg =>
  have th1:(cmpI (vl i.fn) 0==0)=false:=Aaj.2 (fun e=>h1 (cmpI_eq.1 e))
  have th1':(cmpI (vl i.fn) 0 != 0)=true:=by rw[bne,th1];rfl
  have H:=Aac h1
  clear h1
  go_wp2_with fail
  go_ret
  exact ChkPost.bad (by decide) (fun h=>H.out h.1) HB.out
 have th1:(cmpI (vl i.fn) 0==0)=true:=beq_iff_eq.2 (cmpI_eq.2 h1)
 have th1':(cmpI (vl i.fn) 0 != 0)=false:=by rw[bne,th1];rfl
 have Hh1:=Aac h1
 clear h1
 go_wp2_with fail
 refine (S2.out _).mono ?_
 rintro e w2 ⟨rfl,b1⟩
 have hk1:=HK.out.below b1
 replace HB:=Aac (HB.out.trans (b1.mono HB.out.size))
 clear c0 c1 c2 c3 c4 c5 c6 c7 c8 c9 c10 c11 c12 c13 c14
 obtain⟨c0,c1,c2,c3,c4,c5,c6,c7,c8,c9,c10,c11,c12,c13,c14⟩:=Acn hk1
 replace HK:=Aac hk1
 clear b1 hk1 S2
 by_cases h2:vl i.cn=0
 case neg =>
  have th2:(cmpI (vl i.cn) 0==0)=false:=Aaj.2 (fun e=>h2 (cmpI_eq.1 e))
  have th2':(cmpI (vl i.cn) 0 != 0)=true:=by rw[bne,th2];rfl
  have H:=Aac h2
  clear h2
  go_wp2_with fail
  go_ret
  exact ChkPost.bad (by decide) (fun h=>H.out h.2.1) HB.out
 have th2:(cmpI (vl i.cn) 0==0)=true:=beq_iff_eq.2 (cmpI_eq.2 h2)
 have th2':(cmpI (vl i.cn) 0 != 0)=false:=by rw[bne,th2];rfl
 have Hh2:=Aac h2
 clear h2
 by_cases h3:i.months=0
 case neg =>
  have th3:(i.months==0)=false:=Aaj.2 h3
  have th3':(i.months != 0)=true:=by rw[bne,th3];rfl
  have H:=Aac h3
  clear h3
  go_wp2_with fail
  go_ret
  exact ChkPost.bad (by decide) (fun h=>H.out h.2.2.1) HB.out
 have th3:(i.months==0)=true:=beq_iff_eq.2 h3
 have th3':(i.months != 0)=false:=by rw[bne,th3];rfl
 have Hh3:=Aac h3
 clear h3
 by_cases h4:i.count=0
 case neg =>
  have th4:(i.count==0)=false:=Aaj.2 h4
  have th4':(i.count != 0)=true:=by rw[bne,th4];rfl
  have H:=Aac h4
  clear h4
  go_wp2_with fail
  go_ret
  exact ChkPost.bad (by decide) (fun h=>H.out h.2.2.2.1) HB.out
 have th4:(i.count==0)=true:=beq_iff_eq.2 h4
 have th4':(i.count != 0)=false:=by rw[bne,th4];rfl
 have Hh4:=Aac h4
 clear h4
 go_wp2_with fail
 refine (S3.out _).mono ?_
 rintro e w3 ⟨rfl,b1⟩
 have hk1:=HK.out.below b1
 replace HB:=Aac (HB.out.trans (b1.mono HB.out.size))
 clear c0 c1 c2 c3 c4 c5 c6 c7 c8 c9 c10 c11 c12 c13 c14
 obtain⟨c0,c1,c2,c3,c4,c5,c6,c7,c8,c9,c10,c11,c12,c13,c14⟩:=Acn hk1
 replace HK:=Aac hk1
 clear b1 hk1 S3
 by_cases h5:vl i.sn=0
 case neg =>
  have th5:(cmpI (vl i.sn) 0==0)=false:=Aaj.2 (fun e=>h5 (cmpI_eq.1 e))
  have th5':(cmpI (vl i.sn) 0 != 0)=true:=by rw[bne,th5];rfl
  have H:=Aac h5
  clear h5
  go_wp2_with fail
  go_ret
  exact ChkPost.bad (by decide) (fun h=>H.out h.2.2.2.2.1) HB.out
 have th5:(cmpI (vl i.sn) 0==0)=true:=beq_iff_eq.2 (cmpI_eq.2 h5)
 have th5':(cmpI (vl i.sn) 0 != 0)=false:=by rw[bne,th5];rfl
 have Hh5:=Aac h5
 clear h5
 by_cases h6:i.other=⟨#[]⟩
 case neg =>
  have th6:(i.other.toList==[])=false:=by rw[Ak1,Aaw h6]
  have H:=Aac h6
  clear h6
  go_wp2_with fail
  go_ret
  exact ChkPost.bad (by decide) (fun h=>H.out h.2.2.2.2.2) HB.out
 have th6:(i.other.toList==[])=true:=by rw[Ak1,Aav h6]
 have Hh6:=Aac h6
 clear h6
 go_wp2_with fail
 go_ret
 exact ChkPost.good ⟨Hh1.out,Hh2.out,Hh3.out,Hh4.out,Hh5.out,Hh6.out⟩ HB.out
theorem Aqu(i:Inst)(hs:i.sized)(w:World):Calls Tryz.prog 213 #[i.enc] w (ChkPost w (fwdOk i)):=by
 obtain⟨W0,hW0,hB0,hz,hk⟩:=ibox i w
 obtain⟨c0,c1,c2,c3,c4,c5,c6,c7,c8,c9,c10,c11,c12,c13,c14⟩:=Acn hk
 have HB:=Aac hB0
 have HK:Hid (InstBox W0 w.heap.size i):=hk
 obtain⟨z1,z2,z3,z4,z5,z6,z7,z8,z9⟩:=hs
 have S0:=Aac (fun W=>Akr i.other (by omega) W)
 have S1:=Aac (fun W=>Aku i.fn i.fd (by omega) W)
 have S2:=Aac (fun W=>Aku i.cn i.cd (by omega) W)
 have S3:=Aac (fun W=>Aku i.sn i.sd (by omega) W)
 clear hk hB0 hz z1 z2 z3 z4 z5 z6 z7 z8 z9
 unfold Inst.enc Inst.cells at *
 go_enter Tryz.func213,Tryz.ntmps213
 go_wp2_with fail
 refine (S0.out W0).mono ?_
 rintro e w4 ⟨rfl,b1⟩
 have hk1:=HK.out.below b1
 replace HB:=Aac (HB.out.trans (b1.mono HB.out.size))
 clear c0 c1 c2 c3 c4 c5 c6 c7 c8 c9 c10 c11 c12 c13 c14
 obtain⟨c0,c1,c2,c3,c4,c5,c6,c7,c8,c9,c10,c11,c12,c13,c14⟩:=Acn hk1
 replace HK:=Aac hk1
 clear b1 hk1 S0 hW0
 by_cases h1:Akj i.other=true
 case neg =>
  rw[Bool.not_eq_true] at h1
  rw[h1]
  have H:=Aac h1
  clear h1
  go_wp2_with fail
  go_ret
  exact ChkPost.bad (by decide) (fun h=>by have:=h.1;rw[H.out] at this;cases this) HB.out
 rw[h1]
 have Hh1:=Aac h1
 clear h1
 by_cases h2:i.other≠i.cur
 case neg =>
  have th2:(i.other.toList==i.cur.toList)=true:=by rw[Classical.not_not] at h2;rw[h2];exact beq_self_eq_true _
  have H:=Aac h2
  clear h2
  go_wp2_with fail
  go_ret
  exact ChkPost.bad (by decide) (fun h=>H.out h.2.1) HB.out
 have th2:(i.other.toList==i.cur.toList)=false:=Ac7 h2
 have Hh2:=Aac h2
 clear h2
 go_wp2_with fail
 refine (S3.out _).mono ?_
 rintro e w5 ⟨rfl,b1⟩
 have hk1:=HK.out.below b1
 replace HB:=Aac (HB.out.trans (b1.mono HB.out.size))
 clear c0 c1 c2 c3 c4 c5 c6 c7 c8 c9 c10 c11 c12 c13 c14
 obtain⟨c0,c1,c2,c3,c4,c5,c6,c7,c8,c9,c10,c11,c12,c13,c14⟩:=Acn hk1
 replace HK:=Aac hk1
 clear b1 hk1 S3
 by_cases h3:0<vl i.sn
 case neg =>
  have th3:decide (cmpI (vl i.sn) 0≤0)=true:=Am4 h3
  have H:=Aac h3
  clear h3
  go_wp2_with fail
  go_ret
  exact ChkPost.bad (by decide) (fun h=>by have:=h.2.2.1;have:=H.out;omega) HB.out
 have th3:decide (cmpI (vl i.sn) 0≤0)=false:=Am3 h3
 have Hh3:=Aac h3
 clear h3
 go_wp2_with fail
 refine (S1.out _).mono ?_
 rintro e w6 ⟨rfl,b1⟩
 have hk1:=HK.out.below b1
 replace HB:=Aac (HB.out.trans (b1.mono HB.out.size))
 clear c0 c1 c2 c3 c4 c5 c6 c7 c8 c9 c10 c11 c12 c13 c14
 obtain⟨c0,c1,c2,c3,c4,c5,c6,c7,c8,c9,c10,c11,c12,c13,c14⟩:=Acn hk1
 replace HK:=Aac hk1
 clear b1 hk1 S1
 by_cases h4:vl i.fn=0
 case neg =>
  have th4:(cmpI (vl i.fn) 0==0)=false:=Aaj.2 (fun e=>h4 (cmpI_eq.1 e))
  have th4':(cmpI (vl i.fn) 0 != 0)=true:=by rw[bne,th4];rfl
  have H:=Aac h4
  clear h4
  go_wp2_with fail
  go_ret
  exact ChkPost.bad (by decide) (fun h=>H.out h.2.2.2.1) HB.out
 have th4:(cmpI (vl i.fn) 0==0)=true:=beq_iff_eq.2 (cmpI_eq.2 h4)
 have th4':(cmpI (vl i.fn) 0 != 0)=false:=by rw[bne,th4];rfl
 have Hh4:=Aac h4
 clear h4
 go_wp2_with fail
 refine (S2.out _).mono ?_
 rintro e w7 ⟨rfl,b1⟩
 have hk1:=HK.out.below b1
 replace HB:=Aac (HB.out.trans (b1.mono HB.out.size))
 clear c0 c1 c2 c3 c4 c5 c6 c7 c8 c9 c10 c11 c12 c13 c14
 obtain⟨c0,c1,c2,c3,c4,c5,c6,c7,c8,c9,c10,c11,c12,c13,c14⟩:=Acn hk1
 replace HK:=Aac hk1
 clear b1 hk1 S2
 by_cases h5:vl i.cn=0
 case neg =>
  have th5:(cmpI (vl i.cn) 0==0)=false:=Aaj.2 (fun e=>h5 (cmpI_eq.1 e))
  have th5':(cmpI (vl i.cn) 0 != 0)=true:=by rw[bne,th5];rfl
  have H:=Aac h5
  clear h5
  go_wp2_with fail
  go_ret
  exact ChkPost.bad (by decide) (fun h=>H.out h.2.2.2.2.1) HB.out
 have th5:(cmpI (vl i.cn) 0==0)=true:=beq_iff_eq.2 (cmpI_eq.2 h5)
 have th5':(cmpI (vl i.cn) 0 != 0)=false:=by rw[bne,th5];rfl
 have Hh5:=Aac h5
 clear h5
 by_cases h6:i.months=0
 case neg =>
  have th6:(i.months==0)=false:=Aaj.2 h6
  have th6':(i.months != 0)=true:=by rw[bne,th6];rfl
  have H:=Aac h6
  clear h6
  go_wp2_with fail
  go_ret
  exact ChkPost.bad (by decide) (fun h=>H.out h.2.2.2.2.2.1) HB.out
 have th6:(i.months==0)=true:=beq_iff_eq.2 h6
 have th6':(i.months != 0)=false:=by rw[bne,th6];rfl
 have Hh6:=Aac h6
 clear h6
 by_cases h7:i.count=0
 case neg =>
  have th7:(i.count==0)=false:=Aaj.2 h7
  have th7':(i.count != 0)=true:=by rw[bne,th7];rfl
  have H:=Aac h7
  clear h7
  go_wp2_with fail
  go_ret
  exact ChkPost.bad (by decide) (fun h=>H.out h.2.2.2.2.2.2) HB.out
 have th7:(i.count==0)=true:=beq_iff_eq.2 h7
 have th7':(i.count != 0)=false:=by rw[bne,th7];rfl
 have Hh7:=Aac h7
 clear h7
 go_wp2_with fail
 go_ret
 exact ChkPost.good ⟨Hh1.out,Hh2.out,Hh3.out,Hh4.out,Hh5.out,Hh6.out,Hh7.out⟩ HB.out
theorem bond_a(i:Inst)(hs:i.sized)(h1:¬ 0<vl i.fn)(w:World):
 Calls Tryz.prog 212 #[i.enc] w fun e w'=>e=.returned (.int .i64 2)∧Below w.heap.size w w':=by
 obtain⟨W0,hW0,hB0,hz,hk⟩:=ibox i w
 obtain⟨W1,hW1⟩:∃W1,W0.alloc (.cells #[.int .i64 1,.int .i64 2,.int .i64 3,.int .i64 4,.int .i64 6,.int .i64 12] 262)=W1:=⟨_,rfl⟩
 have hB1:Below w.heap.size w W1:=by rw[←hW1];exact hB0.alloc (by omega) _
 have hk1:W1.heap[w.heap.size]?=some (.cells i.cells 27):=by rw[←hW1];exact (Below.heap_alloc _ _ _ (by omega)).trans hk
 have hkm:W1.heap[w.heap.size+1]?=some (.cells #[.int .i64 1,.int .i64 2,.int .i64 3,.int .i64 4,.int .i64 6,.int .i64 12] 262):=by
  rw[←hW1,←hz];exact Aax W0 _
 have c6:=Aaa hk1 6
 have c7:=Aaa hk1 7
 have c8:=Aaa hk1 8
 have c9:=Aaa hk1 9
 have c10:=Aaa hk1 10
 have c11:=Aaa hk1 11
 have c12:=Aaa hk1 12
 have c13:=Aaa hk1 13
 have c14:=Aaa hk1 14
 simp at c6 c7 c8 c9 c10 c11 c12 c13 c14
 have HB1:=Aac hB1
 have HKM:=Aac hkm
 obtain⟨z1,z2,z3,z4,z5,z6,z7,z8,z9⟩:=hs
 have hsz:W0.heap.size=w.heap.size+1:=hz
 have q1:decide (cmpI (vl i.fn) 0≤0)=true:=Aav (by rw[Ac9];omega)
 clear hk hB0 hz hk1 hkm hB1 h1
 unfold Inst.enc Inst.cells at *
 go_enter Tryz.func212,Tryz.ntmps212
 go_wp2_with fail
 first
 | go_region_with (first
    | (go_at_call_of 260 [Value.agg #[Value.string i.fn,Value.string i.fd]];refine (Aku i.fn i.fd (by omega) W1.drew).mono ?_;rintro e w1 ⟨rfl,b1⟩;have d6:=keepc c6 b1;have d7:=keepc c7 b1;have d8:=keepc c8 b1;have d9:=keepc c9 b1;have d10:=keepc c10 b1;have d11:=keepc c11 b1;have d12:=keepc c12 b1;have d13:=keepc c13 b1;have d14:=keepc c14 b1;have HB2:=Aac (HB1.out.drew.trans (b1.mono HB1.out.size));have HKM1:=Aac ((b1.block (w.heap.size+1) (Aab.1 HKM.out).1).trans HKM.out);clear b1))
 | fail "the region fell"
 all_goals
  go_wp2_with fail
  go_ret
  exact⟨rfl,HB2.out⟩
theorem bond_b(i:Inst)(hs:i.sized)(h1:0<vl i.fn)(h2:¬ 0≤vl i.cn)(w:World):
 Calls Tryz.prog 212 #[i.enc] w fun e w'=>e=.returned (.int .i64 2)∧Below w.heap.size w w':=by
 obtain⟨W0,hW0,hB0,hz,hk⟩:=ibox i w
 obtain⟨W1,hW1⟩:∃W1,W0.alloc (.cells #[.int .i64 1,.int .i64 2,.int .i64 3,.int .i64 4,.int .i64 6,.int .i64 12] 262)=W1:=⟨_,rfl⟩
 have hB1:Below w.heap.size w W1:=by rw[←hW1];exact hB0.alloc (by omega) _
 have hk1:W1.heap[w.heap.size]?=some (.cells i.cells 27):=by rw[←hW1];exact (Below.heap_alloc _ _ _ (by omega)).trans hk
 have hkm:W1.heap[w.heap.size+1]?=some (.cells #[.int .i64 1,.int .i64 2,.int .i64 3,.int .i64 4,.int .i64 6,.int .i64 12] 262):=by
  rw[←hW1,←hz];exact Aax W0 _
 have c6:=Aaa hk1 6
 have c7:=Aaa hk1 7
 have c8:=Aaa hk1 8
 have c9:=Aaa hk1 9
 have c10:=Aaa hk1 10
 have c11:=Aaa hk1 11
 have c12:=Aaa hk1 12
 have c13:=Aaa hk1 13
 have c14:=Aaa hk1 14
 simp at c6 c7 c8 c9 c10 c11 c12 c13 c14
 have HB1:=Aac hB1
 have HKM:=Aac hkm
 obtain⟨z1,z2,z3,z4,z5,z6,z7,z8,z9⟩:=hs
 have hsz:W0.heap.size=w.heap.size+1:=hz
 have q1:decide (cmpI (vl i.fn) 0≤0)=false:=Aaw (by rw[Ac9];omega)
 have q2:decide (cmpI (vl i.cn) 0<0)=true:=Aav (by rw[cmpI_lt];omega)
 clear hk hB0 hz hk1 hkm hB1 h1 h2
 unfold Inst.enc Inst.cells at *
 go_enter Tryz.func212,Tryz.ntmps212
 go_wp2_with fail
 first
 | go_region_with (first
    | (go_at_call_of 260 [Value.agg #[Value.string i.fn,Value.string i.fd]];refine (Aku i.fn i.fd (by omega) W1.drew).mono ?_;rintro e w1 ⟨rfl,b1⟩;have d6:=keepc c6 b1;have d7:=keepc c7 b1;have d8:=keepc c8 b1;have d9:=keepc c9 b1;have d10:=keepc c10 b1;have d11:=keepc c11 b1;have d12:=keepc c12 b1;have d13:=keepc c13 b1;have d14:=keepc c14 b1;have HB2:=Aac (HB1.out.drew.trans (b1.mono HB1.out.size));have HKM1:=Aac ((b1.block (w.heap.size+1) (Aab.1 HKM.out).1).trans HKM.out);clear b1)
    | (go_at_call_of 260 [Value.agg #[Value.string i.cn,Value.string i.cd]];refine (Aku i.cn i.cd (by omega) w1).mono ?_;rintro e w2 ⟨rfl,b2⟩;have g6:=keepc d6 b2;have g7:=keepc d7 b2;have g8:=keepc d8 b2;have g9:=keepc d9 b2;have g10:=keepc d10 b2;have g11:=keepc d11 b2;have g12:=keepc d12 b2;have g13:=keepc d13 b2;have g14:=keepc d14 b2;have HB3:=Aac (HB2.out.trans (b2.mono HB2.out.size));have HKM2:=Aac ((b2.block (w.heap.size+1) (Aab.1 HKM1.out).1).trans HKM1.out);clear b2))
 | fail "the region fell"
 all_goals
  go_wp2_with fail
  go_ret
  exact⟨rfl,HB3.out⟩
theorem bond_c(i:Inst)(hs:i.sized)(h1:0<vl i.fn)(h2:0≤vl i.cn)(h3:i.months ∉ monthsL)(w:World):
 Calls Tryz.prog 212 #[i.enc] w fun e w'=>e=.returned (.int .i64 2)∧Below w.heap.size w w':=by
 obtain⟨W0,hW0,hB0,hz,hk⟩:=ibox i w
 obtain⟨W1,hW1⟩:∃W1,W0.alloc (.cells #[.int .i64 1,.int .i64 2,.int .i64 3,.int .i64 4,.int .i64 6,.int .i64 12] 262)=W1:=⟨_,rfl⟩
 have hB1:Below w.heap.size w W1:=by rw[←hW1];exact hB0.alloc (by omega) _
 have hk1:W1.heap[w.heap.size]?=some (.cells i.cells 27):=by rw[←hW1];exact (Below.heap_alloc _ _ _ (by omega)).trans hk
 have hkm:W1.heap[w.heap.size+1]?=some (.cells #[.int .i64 1,.int .i64 2,.int .i64 3,.int .i64 4,.int .i64 6,.int .i64 12] 262):=by
  rw[←hW1,←hz];exact Aax W0 _
 have c6:=Aaa hk1 6
 have c7:=Aaa hk1 7
 have c8:=Aaa hk1 8
 have c9:=Aaa hk1 9
 have c10:=Aaa hk1 10
 have c11:=Aaa hk1 11
 have c12:=Aaa hk1 12
 have c13:=Aaa hk1 13
 have c14:=Aaa hk1 14
 simp at c6 c7 c8 c9 c10 c11 c12 c13 c14
 have HB1:=Aac hB1
 have HKM:=Aac hkm
 obtain⟨z1,z2,z3,z4,z5,z6,z7,z8,z9⟩:=hs
 have hsz:W0.heap.size=w.heap.size+1:=hz
 have q1:decide (cmpI (vl i.fn) 0≤0)=false:=Aaw (by rw[Ac9];omega)
 have q2:decide (cmpI (vl i.cn) 0<0)=false:=Aaw (by rw[cmpI_lt];omega)
 have H3:Hid ((monthsL.take 6).contains i.months=false):=by rw[Hid,←Bool.not_eq_true,List.contains_iff_mem];exact h3
 clear hk hB0 hz hk1 hkm hB1 h1 h2 h3
 unfold Inst.enc Inst.cells at *
 go_enter Tryz.func212,Tryz.ntmps212
 go_wp2_with fail
 first
 | go_region_with (first
    | (go_at_call_of 260 [Value.agg #[Value.string i.fn,Value.string i.fd]];refine (Aku i.fn i.fd (by omega) W1.drew).mono ?_;rintro e w1 ⟨rfl,b1⟩;have d6:=keepc c6 b1;have d7:=keepc c7 b1;have d8:=keepc c8 b1;have d9:=keepc c9 b1;have d10:=keepc c10 b1;have d11:=keepc c11 b1;have d12:=keepc c12 b1;have d13:=keepc c13 b1;have d14:=keepc c14 b1;have HB2:=Aac (HB1.out.drew.trans (b1.mono HB1.out.size));have HKM1:=Aac ((b1.block (w.heap.size+1) (Aab.1 HKM.out).1).trans HKM.out);clear b1)
    | (go_at_call_of 260 [Value.agg #[Value.string i.cn,Value.string i.cd]];refine (Aku i.cn i.cd (by omega) w1).mono ?_;rintro e w2 ⟨rfl,b2⟩;have g6:=keepc d6 b2;have g7:=keepc d7 b2;have g8:=keepc d8 b2;have g9:=keepc d9 b2;have g10:=keepc d10 b2;have g11:=keepc d11 b2;have g12:=keepc d12 b2;have g13:=keepc d13 b2;have g14:=keepc d14 b2;have HB3:=Aac (HB2.out.trans (b2.mono HB2.out.size));have HKM2:=Aac ((b2.block (w.heap.size+1) (Aab.1 HKM1.out).1).trans HKM1.out);clear b2)
    | (go_at_call 261;refine (Tryz.slices_Contains_int (w.heap.size+1) 0 6 6 monthsL i.months w2 (by decide) (by decide) (fun j hj=>by rw[Aaa HKM2.out];match j,hj with|0,_=>rfl|1,_=>rfl|2,_=>rfl|3,_=>rfl|4,_=>rfl|5,_=>rfl)).mono ?_;rintro e w3 ⟨rfl,rfl⟩;rw[show (monthsL.take 6).contains i.months=false from H3.out]))
 | fail "the region fell"
 all_goals
  go_wp2_with fail
  go_ret
  exact⟨rfl,HB3.out⟩
theorem bond_d(i:Inst)(hs:i.sized)(h1:0<vl i.fn)(h2:0≤vl i.cn)(h3:i.months∈monthsL)(h4:¬ 1≤i.count)(w:World):
 Calls Tryz.prog 212 #[i.enc] w fun e w'=>e=.returned (.int .i64 2)∧Below w.heap.size w w':=by
 obtain⟨W0,hW0,hB0,hz,hk⟩:=ibox i w
 obtain⟨W1,hW1⟩:∃W1,W0.alloc (.cells #[.int .i64 1,.int .i64 2,.int .i64 3,.int .i64 4,.int .i64 6,.int .i64 12] 262)=W1:=⟨_,rfl⟩
 have hB1:Below w.heap.size w W1:=by rw[←hW1];exact hB0.alloc (by omega) _
 have hk1:W1.heap[w.heap.size]?=some (.cells i.cells 27):=by rw[←hW1];exact (Below.heap_alloc _ _ _ (by omega)).trans hk
 have hkm:W1.heap[w.heap.size+1]?=some (.cells #[.int .i64 1,.int .i64 2,.int .i64 3,.int .i64 4,.int .i64 6,.int .i64 12] 262):=by
  rw[←hW1,←hz];exact Aax W0 _
 have c6:=Aaa hk1 6
 have c7:=Aaa hk1 7
 have c8:=Aaa hk1 8
 have c9:=Aaa hk1 9
 have c10:=Aaa hk1 10
 have c11:=Aaa hk1 11
 have c12:=Aaa hk1 12
 have c13:=Aaa hk1 13
 have c14:=Aaa hk1 14
 simp at c6 c7 c8 c9 c10 c11 c12 c13 c14
 have HB1:=Aac hB1
 have HKM:=Aac hkm
 obtain⟨z1,z2,z3,z4,z5,z6,z7,z8,z9⟩:=hs
 have hsz:W0.heap.size=w.heap.size+1:=hz
 have q1:decide (cmpI (vl i.fn) 0≤0)=false:=Aaw (by rw[Ac9];omega)
 have q2:decide (cmpI (vl i.cn) 0<0)=false:=Aaw (by rw[cmpI_lt];omega)
 have H3:Hid ((monthsL.take 6).contains i.months=true):=by rw[Hid,List.contains_iff_mem];exact h3
 have q3:decide (i.count<1)=true:=Aav (by omega)
 clear hk hB0 hz hk1 hkm hB1 h1 h2 h3 h4
 unfold Inst.enc Inst.cells at *
 go_enter Tryz.func212,Tryz.ntmps212
 go_wp2_with fail
 first
 | go_region_with (first
    | (go_at_call_of 260 [Value.agg #[Value.string i.fn,Value.string i.fd]];refine (Aku i.fn i.fd (by omega) W1.drew).mono ?_;rintro e w1 ⟨rfl,b1⟩;have d6:=keepc c6 b1;have d7:=keepc c7 b1;have d8:=keepc c8 b1;have d9:=keepc c9 b1;have d10:=keepc c10 b1;have d11:=keepc c11 b1;have d12:=keepc c12 b1;have d13:=keepc c13 b1;have d14:=keepc c14 b1;have HB2:=Aac (HB1.out.drew.trans (b1.mono HB1.out.size));have HKM1:=Aac ((b1.block (w.heap.size+1) (Aab.1 HKM.out).1).trans HKM.out);clear b1)
    | (go_at_call_of 260 [Value.agg #[Value.string i.cn,Value.string i.cd]];refine (Aku i.cn i.cd (by omega) w1).mono ?_;rintro e w2 ⟨rfl,b2⟩;have g6:=keepc d6 b2;have g7:=keepc d7 b2;have g8:=keepc d8 b2;have g9:=keepc d9 b2;have g10:=keepc d10 b2;have g11:=keepc d11 b2;have g12:=keepc d12 b2;have g13:=keepc d13 b2;have g14:=keepc d14 b2;have HB3:=Aac (HB2.out.trans (b2.mono HB2.out.size));have HKM2:=Aac ((b2.block (w.heap.size+1) (Aab.1 HKM1.out).1).trans HKM1.out);clear b2)
    | (go_at_call 261;refine (Tryz.slices_Contains_int (w.heap.size+1) 0 6 6 monthsL i.months w2 (by decide) (by decide) (fun j hj=>by rw[Aaa HKM2.out];match j,hj with|0,_=>rfl|1,_=>rfl|2,_=>rfl|3,_=>rfl|4,_=>rfl|5,_=>rfl)).mono ?_;rintro e w3 ⟨rfl,rfl⟩;rw[show (monthsL.take 6).contains i.months=true from H3.out]))
 | fail "the region fell"
 all_goals
  go_wp2_with fail
  go_ret
  exact⟨rfl,HB3.out⟩
theorem bond_e(i:Inst)(hs:i.sized)(h1:0<vl i.fn)(h2:0≤vl i.cn)(h3:i.months∈monthsL)(h4:1≤i.count)(h5:¬i.count≤5)(w:World):
 Calls Tryz.prog 212 #[i.enc] w fun e w'=>e=.returned (.int .i64 2)∧Below w.heap.size w w':=by
 obtain⟨W0,hW0,hB0,hz,hk⟩:=ibox i w
 obtain⟨W1,hW1⟩:∃W1,W0.alloc (.cells #[.int .i64 1,.int .i64 2,.int .i64 3,.int .i64 4,.int .i64 6,.int .i64 12] 262)=W1:=⟨_,rfl⟩
 have hB1:Below w.heap.size w W1:=by rw[←hW1];exact hB0.alloc (by omega) _
 have hk1:W1.heap[w.heap.size]?=some (.cells i.cells 27):=by rw[←hW1];exact (Below.heap_alloc _ _ _ (by omega)).trans hk
 have hkm:W1.heap[w.heap.size+1]?=some (.cells #[.int .i64 1,.int .i64 2,.int .i64 3,.int .i64 4,.int .i64 6,.int .i64 12] 262):=by
  rw[←hW1,←hz];exact Aax W0 _
 have c6:=Aaa hk1 6
 have c7:=Aaa hk1 7
 have c8:=Aaa hk1 8
 have c9:=Aaa hk1 9
 have c10:=Aaa hk1 10
 have c11:=Aaa hk1 11
 have c12:=Aaa hk1 12
 have c13:=Aaa hk1 13
 have c14:=Aaa hk1 14
 simp at c6 c7 c8 c9 c10 c11 c12 c13 c14
 have HB1:=Aac hB1
 have HKM:=Aac hkm
 obtain⟨z1,z2,z3,z4,z5,z6,z7,z8,z9⟩:=hs
 have hsz:W0.heap.size=w.heap.size+1:=hz
 have q1:decide (cmpI (vl i.fn) 0≤0)=false:=Aaw (by rw[Ac9];omega)
 have q2:decide (cmpI (vl i.cn) 0<0)=false:=Aaw (by rw[cmpI_lt];omega)
 have H3:Hid ((monthsL.take 6).contains i.months=true):=by rw[Hid,List.contains_iff_mem];exact h3
 have q3:decide (i.count<1)=false:=Aaw (by omega)
 have q4:decide (5<i.count)=true:=Aav (by omega)
 clear hk hB0 hz hk1 hkm hB1 h1 h2 h3 h4 h5
 unfold Inst.enc Inst.cells at *
 go_enter Tryz.func212,Tryz.ntmps212
 go_wp2_with fail
 first
 | go_region_with (first
    | (go_at_call_of 260 [Value.agg #[Value.string i.fn,Value.string i.fd]];refine (Aku i.fn i.fd (by omega) W1.drew).mono ?_;rintro e w1 ⟨rfl,b1⟩;have d6:=keepc c6 b1;have d7:=keepc c7 b1;have d8:=keepc c8 b1;have d9:=keepc c9 b1;have d10:=keepc c10 b1;have d11:=keepc c11 b1;have d12:=keepc c12 b1;have d13:=keepc c13 b1;have d14:=keepc c14 b1;have HB2:=Aac (HB1.out.drew.trans (b1.mono HB1.out.size));have HKM1:=Aac ((b1.block (w.heap.size+1) (Aab.1 HKM.out).1).trans HKM.out);clear b1)
    | (go_at_call_of 260 [Value.agg #[Value.string i.cn,Value.string i.cd]];refine (Aku i.cn i.cd (by omega) w1).mono ?_;rintro e w2 ⟨rfl,b2⟩;have g6:=keepc d6 b2;have g7:=keepc d7 b2;have g8:=keepc d8 b2;have g9:=keepc d9 b2;have g10:=keepc d10 b2;have g11:=keepc d11 b2;have g12:=keepc d12 b2;have g13:=keepc d13 b2;have g14:=keepc d14 b2;have HB3:=Aac (HB2.out.trans (b2.mono HB2.out.size));have HKM2:=Aac ((b2.block (w.heap.size+1) (Aab.1 HKM1.out).1).trans HKM1.out);clear b2)
    | (go_at_call 261;refine (Tryz.slices_Contains_int (w.heap.size+1) 0 6 6 monthsL i.months w2 (by decide) (by decide) (fun j hj=>by rw[Aaa HKM2.out];match j,hj with|0,_=>rfl|1,_=>rfl|2,_=>rfl|3,_=>rfl|4,_=>rfl|5,_=>rfl)).mono ?_;rintro e w3 ⟨rfl,rfl⟩;rw[show (monthsL.take 6).contains i.months=true from H3.out]))
 | fail "the region fell"
 all_goals
  go_wp2_with fail
  go_ret
  exact⟨rfl,HB3.out⟩
theorem bond_f(i:Inst)(hs:i.sized)(h1:0<vl i.fn)(h2:0≤vl i.cn)(h3:i.months∈monthsL)(h4:1≤i.count)(h5:i.count≤5)(h6:i.other≠⟨#[]⟩)(w:World):
 Calls Tryz.prog 212 #[i.enc] w fun e w'=>e=.returned (.int .i64 1)∧Below w.heap.size w w':=by
 obtain⟨W0,hW0,hB0,hz,hk⟩:=ibox i w
 obtain⟨W1,hW1⟩:∃W1,W0.alloc (.cells #[.int .i64 1,.int .i64 2,.int .i64 3,.int .i64 4,.int .i64 6,.int .i64 12] 262)=W1:=⟨_,rfl⟩
 have hB1:Below w.heap.size w W1:=by rw[←hW1];exact hB0.alloc (by omega) _
 have hk1:W1.heap[w.heap.size]?=some (.cells i.cells 27):=by rw[←hW1];exact (Below.heap_alloc _ _ _ (by omega)).trans hk
 have hkm:W1.heap[w.heap.size+1]?=some (.cells #[.int .i64 1,.int .i64 2,.int .i64 3,.int .i64 4,.int .i64 6,.int .i64 12] 262):=by
  rw[←hW1,←hz];exact Aax W0 _
 have c6:=Aaa hk1 6
 have c7:=Aaa hk1 7
 have c8:=Aaa hk1 8
 have c9:=Aaa hk1 9
 have c10:=Aaa hk1 10
 have c11:=Aaa hk1 11
 have c12:=Aaa hk1 12
 have c13:=Aaa hk1 13
 have c14:=Aaa hk1 14
 simp at c6 c7 c8 c9 c10 c11 c12 c13 c14
 have HB1:=Aac hB1
 have HKM:=Aac hkm
 obtain⟨z1,z2,z3,z4,z5,z6,z7,z8,z9⟩:=hs
 have hsz:W0.heap.size=w.heap.size+1:=hz
 have q1:decide (cmpI (vl i.fn) 0≤0)=false:=Aaw (by rw[Ac9];omega)
 have q2:decide (cmpI (vl i.cn) 0<0)=false:=Aaw (by rw[cmpI_lt];omega)
 have H3:Hid ((monthsL.take 6).contains i.months=true):=by rw[Hid,List.contains_iff_mem];exact h3
 have q3:decide (i.count<1)=false:=Aaw (by omega)
 have q4:decide (5<i.count)=false:=Aaw (by omega)
 have hoe:(i.other.toList==[])=false:=by rw[Ak1,Aaw h6]
 clear hk hB0 hz hk1 hkm hB1 h1 h2 h3 h4 h5 h6
 unfold Inst.enc Inst.cells at *
 go_enter Tryz.func212,Tryz.ntmps212
 go_wp2_with fail
 first
 | go_region_with (first
    | (go_at_call_of 260 [Value.agg #[Value.string i.fn,Value.string i.fd]];refine (Aku i.fn i.fd (by omega) W1.drew).mono ?_;rintro e w1 ⟨rfl,b1⟩;have d6:=keepc c6 b1;have d7:=keepc c7 b1;have d8:=keepc c8 b1;have d9:=keepc c9 b1;have d10:=keepc c10 b1;have d11:=keepc c11 b1;have d12:=keepc c12 b1;have d13:=keepc c13 b1;have d14:=keepc c14 b1;have HB2:=Aac (HB1.out.drew.trans (b1.mono HB1.out.size));have HKM1:=Aac ((b1.block (w.heap.size+1) (Aab.1 HKM.out).1).trans HKM.out);clear b1)
    | (go_at_call_of 260 [Value.agg #[Value.string i.cn,Value.string i.cd]];refine (Aku i.cn i.cd (by omega) w1).mono ?_;rintro e w2 ⟨rfl,b2⟩;have g6:=keepc d6 b2;have g7:=keepc d7 b2;have g8:=keepc d8 b2;have g9:=keepc d9 b2;have g10:=keepc d10 b2;have g11:=keepc d11 b2;have g12:=keepc d12 b2;have g13:=keepc d13 b2;have g14:=keepc d14 b2;have HB3:=Aac (HB2.out.trans (b2.mono HB2.out.size));have HKM2:=Aac ((b2.block (w.heap.size+1) (Aab.1 HKM1.out).1).trans HKM1.out);clear b2)
    | (go_at_call 261;refine (Tryz.slices_Contains_int (w.heap.size+1) 0 6 6 monthsL i.months w2 (by decide) (by decide) (fun j hj=>by rw[Aaa HKM2.out];match j,hj with|0,_=>rfl|1,_=>rfl|2,_=>rfl|3,_=>rfl|4,_=>rfl|5,_=>rfl)).mono ?_;rintro e w3 ⟨rfl,rfl⟩;rw[show (monthsL.take 6).contains i.months=true from H3.out]))
 | fail "the region fell"
 all_goals
  go_wp2_with fail
  go_ret
  exact⟨rfl,HB3.out⟩
theorem bond_g(i:Inst)(hs:i.sized)(h1:0<vl i.fn)(h2:0≤vl i.cn)(h3:i.months∈monthsL)(h4:1≤i.count)(h5:i.count≤5)(h6:i.other=⟨#[]⟩)(h7:vl i.sn≠0)(w:World):
 Calls Tryz.prog 212 #[i.enc] w fun e w'=>e=.returned (.int .i64 1)∧Below w.heap.size w w':=by
 obtain⟨W0,hW0,hB0,hz,hk⟩:=ibox i w
 obtain⟨W1,hW1⟩:∃W1,W0.alloc (.cells #[.int .i64 1,.int .i64 2,.int .i64 3,.int .i64 4,.int .i64 6,.int .i64 12] 262)=W1:=⟨_,rfl⟩
 have hB1:Below w.heap.size w W1:=by rw[←hW1];exact hB0.alloc (by omega) _
 have hk1:W1.heap[w.heap.size]?=some (.cells i.cells 27):=by rw[←hW1];exact (Below.heap_alloc _ _ _ (by omega)).trans hk
 have hkm:W1.heap[w.heap.size+1]?=some (.cells #[.int .i64 1,.int .i64 2,.int .i64 3,.int .i64 4,.int .i64 6,.int .i64 12] 262):=by
  rw[←hW1,←hz];exact Aax W0 _
 have c6:=Aaa hk1 6
 have c7:=Aaa hk1 7
 have c8:=Aaa hk1 8
 have c9:=Aaa hk1 9
 have c10:=Aaa hk1 10
 have c11:=Aaa hk1 11
 have c12:=Aaa hk1 12
 have c13:=Aaa hk1 13
 have c14:=Aaa hk1 14
 simp at c6 c7 c8 c9 c10 c11 c12 c13 c14
 have HB1:=Aac hB1
 have HKM:=Aac hkm
 obtain⟨z1,z2,z3,z4,z5,z6,z7,z8,z9⟩:=hs
 have hsz:W0.heap.size=w.heap.size+1:=hz
 have q1:decide (cmpI (vl i.fn) 0≤0)=false:=Aaw (by rw[Ac9];omega)
 have q2:decide (cmpI (vl i.cn) 0<0)=false:=Aaw (by rw[cmpI_lt];omega)
 have H3:Hid ((monthsL.take 6).contains i.months=true):=by rw[Hid,List.contains_iff_mem];exact h3
 have q3:decide (i.count<1)=false:=Aaw (by omega)
 have q4:decide (5<i.count)=false:=Aaw (by omega)
 have hoe:(i.other.toList==[])=true:=by rw[Ak1,Aav h6]
 have q5:(cmpI (vl i.sn) 0==0)=false:=Aaj.2 (fun e=>h7 (cmpI_eq.1 e))
 have q5':(cmpI (vl i.sn) 0 != 0)=true:=by rw[bne,q5];rfl
 clear hk hB0 hz hk1 hkm hB1 h1 h2 h3 h4 h5 h6 h7
 unfold Inst.enc Inst.cells at *
 go_enter Tryz.func212,Tryz.ntmps212
 go_wp2_with fail
 first
 | go_region_with (first
    | (go_at_call_of 260 [Value.agg #[Value.string i.fn,Value.string i.fd]];refine (Aku i.fn i.fd (by omega) W1.drew).mono ?_;rintro e w1 ⟨rfl,b1⟩;have d6:=keepc c6 b1;have d7:=keepc c7 b1;have d8:=keepc c8 b1;have d9:=keepc c9 b1;have d10:=keepc c10 b1;have d11:=keepc c11 b1;have d12:=keepc c12 b1;have d13:=keepc c13 b1;have d14:=keepc c14 b1;have HB2:=Aac (HB1.out.drew.trans (b1.mono HB1.out.size));have HKM1:=Aac ((b1.block (w.heap.size+1) (Aab.1 HKM.out).1).trans HKM.out);clear b1)
    | (go_at_call_of 260 [Value.agg #[Value.string i.cn,Value.string i.cd]];refine (Aku i.cn i.cd (by omega) w1).mono ?_;rintro e w2 ⟨rfl,b2⟩;have g6:=keepc d6 b2;have g7:=keepc d7 b2;have g8:=keepc d8 b2;have g9:=keepc d9 b2;have g10:=keepc d10 b2;have g11:=keepc d11 b2;have g12:=keepc d12 b2;have g13:=keepc d13 b2;have g14:=keepc d14 b2;have HB3:=Aac (HB2.out.trans (b2.mono HB2.out.size));have HKM2:=Aac ((b2.block (w.heap.size+1) (Aab.1 HKM1.out).1).trans HKM1.out);clear b2)
    | (go_at_call 261;refine (Tryz.slices_Contains_int (w.heap.size+1) 0 6 6 monthsL i.months w2 (by decide) (by decide) (fun j hj=>by rw[Aaa HKM2.out];match j,hj with|0,_=>rfl|1,_=>rfl|2,_=>rfl|3,_=>rfl|4,_=>rfl|5,_=>rfl)).mono ?_;rintro e w3 ⟨rfl,rfl⟩;rw[show (monthsL.take 6).contains i.months=true from H3.out]))
 | fail "the region fell"
 all_goals
  go_wp2_with fail
  refine (Aku i.sn i.sd (by omega) w3).mono ?_
  rintro e w4 ⟨rfl,b4⟩
  go_wp2_with fail
  go_ret
  exact⟨rfl,HB3.out.trans (b4.mono HB3.out.size)⟩
theorem Aqv{P:Program}{f:FuncId}{args:Array Value}{w:World}{n:Int}{Q:Prop}(hn:n≠0)(hQ:¬Q)(h:Calls P f args w fun e w'=>e=.returned (.int .i64 n)∧Below w.heap.size w w'):Calls P f args w (ChkPost w Q) :=
 h.mono (by rintro e w' ⟨rfl,hb⟩;exact ChkPost.bad hn hQ hb)
theorem Aqw{P:Program}{f:FuncId}{args:Array Value}{w:World}{Q:Prop}(hQ:Q)(h:Calls P f args w fun e w'=>e=.returned (.int .i64 0)∧Below w.heap.size w w'):Calls P f args w (ChkPost w Q) :=
 h.mono (by rintro e w' ⟨rfl,hb⟩;exact ChkPost.good hQ hb)
theorem Aqx(i:Inst)(hs:i.sized)(w:World):Calls Tryz.prog 212 #[i.enc] w (ChkPost w (Ak4 i)):=by
 by_cases h1:0<vl i.fn
 case neg=>exact Aqv (by decide) (fun h=>h1 h.1) (bond_a i hs h1 w)
 by_cases h2:0≤vl i.cn
 case neg=>exact Aqv (by decide) (fun h=>h2 h.2.1) (bond_b i hs h1 h2 w)
 by_cases h3:i.months∈monthsL
 case neg=>exact Aqv (by decide) (fun h=>h3 h.2.2.1) (bond_c i hs h1 h2 h3 w)
 by_cases h4:1≤i.count
 case neg=>exact Aqv (by decide) (fun h=>h4 h.2.2.2.1) (bond_d i hs h1 h2 h3 h4 w)
 by_cases h5:i.count≤5
 case neg=>exact Aqv (by decide) (fun h=>h5 h.2.2.2.2.1) (bond_e i hs h1 h2 h3 h4 h5 w)
 by_cases h6:i.other=⟨#[]⟩
 case neg=>exact Aqv (by decide) (fun h=>h6 h.2.2.2.2.2.1) (bond_f i hs h1 h2 h3 h4 h5 h6 w)
 by_cases h7:vl i.sn=0
 case neg=>exact Aqv (by decide) (fun h=>h7 h.2.2.2.2.2.2) (bond_g i hs h1 h2 h3 h4 h5 h6 h7 w)
 exact Aqw ⟨h1,h2,h3,h4,h5,h6,h7⟩ (Ak5 i hs ⟨h1,h2,h3,h4,h5,h6,h7⟩ w)
def endOk(i:Inst)(ends:Bool):Prop:=(i.matures=0∧ends=false)∨(i.matures≠0∧okDay i.matures∧i.issued<i.matures)
structure ChkAll(i:Inst)(ends:Bool)(P:Prop):Prop where
 id:Aki i.id=true
 kind:1≤i.kind∧i.kind≤5
 cur:Akj i.cur=true
 places:0≤i.places∧i.places≤12
 issued:okDay i.issued
 matures:endOk i ends
 n1:Akz i.fn i.fd=0
 n2:Akz i.cn i.cd=0
 n3:Akz i.sn i.sd=0
 own:P
theorem Aqy(i:Inst)(hs:i.sized)(hkd:¬(1≤i.kind∧i.kind≤5))(w:World)(ht:Tabs w):Calls Tryz.prog 83 #[i.enc] w (ChkPost w i.ok):=by
 obtain⟨W0,hW0,hB0,hz,hk⟩:=ibox i w
 obtain⟨c0,c1,c2,c3,c4,c5,c6,c7,c8,c9,c10,c11,c12,c13,c14⟩:=Acn hk
 have HB:=Aac hB0
 have HK:Hid (InstBox W0 w.heap.size i):=hk
 obtain⟨z1,z2,z3,z4,z5,z6,z7,z8,z9⟩:=hs
 have HT:=Aac ht
 have S1:=Aac (fun W=>Akk i.id (by omega) W)
 have S2:=Aac (fun W=>Akr i.cur (by omega) W)
 have S3:=Aac (fun W=>Aks i.issued W)
 have S4:=Aac (fun W=>Aks i.matures W)
 have N1:=Aac (fun W hW=>Ak0 i.fn i.fd (by omega) (by omega) W hW)
 have N2:=Aac (fun W hW=>Ak0 i.cn i.cd (by omega) (by omega) W hW)
 have N3:=Aac (fun W hW=>Ak0 i.sn i.sd (by omega) (by omega) W hW)
 clear hk hB0 hz z1 z2 z3 z4 z5 z6 z7 z8 z9 ht
 have HKD:=Aac hkd
 clear hkd
 unfold Inst.enc Inst.cells at *
 go_enter Tryz.func83,Tryz.ntmps83
 go_wp2_with fail
 refine (S1.out W0).mono ?_
 rintro e w1 ⟨rfl,b1⟩
 have hk1:=HK.out.below b1
 replace HB:=Aac (HB.out.trans (b1.mono HB.out.size))
 clear c0 c1 c2 c3 c4 c5 c6 c7 c8 c9 c10 c11 c12 c13 c14
 obtain⟨c0,c1,c2,c3,c4,c5,c6,c7,c8,c9,c10,c11,c12,c13,c14⟩:=Acn hk1
 replace HK:=Aac hk1
 clear b1 hk1 S1 hW0
 by_cases h1:Aki i.id=true
 case neg =>
  rw[Bool.not_eq_true] at h1
  rw[h1]
  have H:=Aac h1
  clear h1
  go_wp2_with fail
  go_ret
  exact ChkPost.bad (by decide) (fun h=>by have:=h.id;rw[H.out] at this;cases this) HB.out
 rw[h1]
 have Hh1:=Aac h1
 clear h1
 by_cases h2:i.kind<1
 ·have t2:decide (i.kind<1)=true:=Aav h2
  have H:=Aac h2
  clear h2
  go_wp2_with fail
  go_ret
  exact ChkPost.bad (by decide) (fun h=>HKD.out h.kind) HB.out
 have t2:decide (i.kind<1)=false:=Aaw h2
 have t3:decide (5<i.kind)=true:=Aav (by have:=HKD.out;omega)
 clear h2
 go_wp2_with fail
 go_ret
 exact ChkPost.bad (by decide) (fun h=>HKD.out h.kind) HB.out
def LoopN(i:Inst)(k:Nat):Prop:=(1≤k→Akz i.fn i.fd=0)∧(2≤k→Akz i.cn i.cd=0)∧(3≤k→Akz i.sn i.sd=0)
theorem Aqz(i:Inst)(hs:i.sized)(ends:Bool)(f:Nat)(P:Prop)(hen:∀args w,(callFunc f args).run Tryz.prog w=.ok (.enter f args) w)
 (hix:∀w,Sem.run Tryz.prog (Instr.index 180 (Value.agg ruleCells) (.int .i64 i.kind)) w=.ok (.agg #[.bool ends,.func (.func f) #[] #[]]) w)
 (hf:∀W,Calls Tryz.prog f #[i.enc] W (ChkPost W P)) (hkd:1≤i.kind∧i.kind≤5) (w:World) (ht:Tabs w) :
 Calls Tryz.prog 83 #[i.enc] w (ChkPost w (ChkAll i ends P)):=by
 obtain⟨W0,hW0,hB0,hz,hk⟩:=ibox i w
 obtain⟨c0,c1,c2,c3,c4,c5,c6,c7,c8,c9,c10,c11,c12,c13,c14⟩:=Acn hk
 have HB:=Aac hB0
 have HK:Hid (InstBox W0 w.heap.size i):=hk
 obtain⟨z1,z2,z3,z4,z5,z6,z7,z8,z9⟩:=hs
 have HT:=Aac ht
 have S1:=Aac (fun W=>Akk i.id (by omega) W)
 have S2:=Aac (fun W=>Akr i.cur (by omega) W)
 have S3:=Aac (fun W=>Aks i.issued W)
 have S4:=Aac (fun W=>Aks i.matures W)
 have N1:=Aac (fun W hW=>Ak0 i.fn i.fd (by omega) (by omega) W hW)
 have N2:=Aac (fun W hW=>Ak0 i.cn i.cd (by omega) (by omega) W hW)
 have N3:=Aac (fun W hW=>Ak0 i.sn i.sd (by omega) (by omega) W hW)
 clear hk hB0 hz z1 z2 z3 z4 z5 z6 z7 z8 z9 ht
 have HF:=Aac hf
 have HKD:=Aac hkd
 have q1:decide (i.kind<1)=false:=Aaw (by omega)
 have q2:decide (5<i.kind)=false:=Aaw (by omega)
 clear hf hkd
 unfold Inst.enc Inst.cells at *
 go_enter Tryz.func83,Tryz.ntmps83
 go_wp2_with fail
 refine (S1.out W0).mono ?_
 rintro e w2 ⟨rfl,b1⟩
 have hk1:=HK.out.below b1
 replace HB:=Aac (HB.out.trans (b1.mono HB.out.size))
 clear c0 c1 c2 c3 c4 c5 c6 c7 c8 c9 c10 c11 c12 c13 c14
 obtain⟨c0,c1,c2,c3,c4,c5,c6,c7,c8,c9,c10,c11,c12,c13,c14⟩:=Acn hk1
 replace HK:=Aac hk1
 clear b1 hk1 S1 hW0
 by_cases h1:Aki i.id=true
 case neg =>
  rw[Bool.not_eq_true] at h1
  rw[h1]
  have H:=Aac h1
  clear h1
  go_wp2_with fail
  go_ret
  exact ChkPost.bad (by decide) (fun h=>by have:=h.id;rw[H.out] at this;cases this) HB.out
 rw[h1]
 have Hh1:=Aac h1
 clear h1
 go_wp2_with fail
 refine (S2.out _).mono ?_
 rintro e w3 ⟨rfl,b1⟩
 have hk1:=HK.out.below b1
 replace HB:=Aac (HB.out.trans (b1.mono HB.out.size))
 clear c0 c1 c2 c3 c4 c5 c6 c7 c8 c9 c10 c11 c12 c13 c14
 obtain⟨c0,c1,c2,c3,c4,c5,c6,c7,c8,c9,c10,c11,c12,c13,c14⟩:=Acn hk1
 replace HK:=Aac hk1
 clear b1 hk1 S2
 by_cases h2:Akj i.cur=true
 case neg =>
  rw[Bool.not_eq_true] at h2
  rw[h2]
  have H:=Aac h2
  clear h2
  go_wp2_with fail
  go_ret
  exact ChkPost.bad (by decide) (fun h=>by have:=h.cur;rw[H.out] at this;cases this) HB.out
 rw[h2]
 have Hh2:=Aac h2
 clear h2
 by_cases h3:i.places<0
 ·have t3:decide (i.places<0)=true:=Aav h3
  have H:=Aac h3
  clear h3
  go_wp2_with fail
  go_ret
  exact ChkPost.bad (by decide) (fun h=>by have:=h.places;have:=H.out;omega) HB.out
 by_cases h4:12<i.places
 ·have t3:decide (i.places<0)=false:=Aaw h3
  have t4:decide (12<i.places)=true:=Aav h4
  have H:=Aac h4
  clear h3 h4
  go_wp2_with fail
  go_ret
  exact ChkPost.bad (by decide) (fun h=>by have:=h.places;have:=H.out;omega) HB.out
 have q3:decide (i.places<0)=false:=Aaw h3
 have q4:decide (12<i.places)=false:=Aaw h4
 have Hh3:=Aac (show 0≤i.places∧i.places≤12 by omega)
 clear h3 h4
 go_wp2_with fail
 refine (S3.out _).mono ?_
 rintro e w3 ⟨rfl,rfl⟩
 clear S3
 by_cases h5:okDay i.issued
 case neg =>
  rw[Aaw h5]
  have H:=Aac h5
  clear h5
  go_wp2_with fail
  go_ret
  exact ChkPost.bad (by decide) (fun h=>H.out h.issued) HB.out
 rw[Aav h5]
 have Hh5:=Aac h5
 clear h5
 have HB2:=HB
 have HK2:=HK
 go_wp2_with fail
 go_cut [3] (fun v3 wx=>∃(B:Nat) (wr:World),v3=.pointer (some ⟨B,0,none⟩)∧RuleBox wr B ends f∧InstBox wr w.heap.size i∧Below w.heap.size w wr∧wr=wx)
 case first =>
  have hl3:w.heap.size<w3.heap.size:=Afh c1
  have ka:(w3.drew.alloc (.cells #[.bool false,.nilFunc] 179)).cell? ⟨w.heap.size,1,none⟩=some (.int .i64 i.kind):=by
   rw[Aaa (HK2.out.below ((Below.refl _ w3).drew.alloc (Aad _) _))];rfl
  go_region_with (go_at_call 150;refine (Ak7 _).mono ?_;rintro e w4 ⟨rfl,b4⟩;have kk:InstBox w4 w.heap.size i:=(by first|exact (show InstBox w3.drew _ _ from HK2.out).below b4|exact (HK2.out.below ((Below.refl _ w3).drew.alloc (Aad _) _)).below b4);have k1:w4.cell? ⟨w.heap.size,1,none⟩=some (.int .i64 i.kind):=(by rw[Aaa kk];rfl);have k2:(w4.alloc (.cells #[.bool false,.nilFunc] 179)).cell? ⟨w.heap.size,1,none⟩=some (.int .i64 i.kind):=(by rw[Aaa (kk.below ((Below.refl _ w4).alloc (Aad _) _))];rfl);have nb:(w4.alloc (.cells #[.bool false,.nilFunc] 179)).heap[w4.heap.size]?=some (.cells #[.bool false,.nilFunc] 179 (0,0)):=Aax w4 _;have n0:=Aaa nb 0;have n1:=Aaa nb 1;have n2:=Aaf nb 0;have n3:=Aaf nb 1;simp at n0 n1 n2 n3;have NB:=Aac nb;clear nb;try (have rb:w4.heap[w3.heap.size]?=some (.cells #[.bool false,.nilFunc] 179 (0,0)):=(b4.block w3.heap.size (by simp)).trans (Aax w3.drew _);have r0:=Aaa rb 0;have r1:=Aaa rb 1;have r2:=Aaf rb 0;have r3:=Aaf rb 1;simp at r0 r1 r2 r3;have RB:=Aac rb;clear rb);have KK:=Aac kk;have B4:=Aac b4;clear kk b4)
  all_goals (first|go_wp2_with fail|skip)
  all_goals go_meet
  all_goals first
   | (refine⟨w4.heap.size,_,rfl,Aax w4 _,(show InstBox w4 w.heap.size i from by first|exact KK.out|assumption).below ((Below.refl _ w4).alloc (Aad _) _),?_,rfl⟩
      have q:=HB2.out.drew.trans ((show Below w3.drew.heap.size w3.drew w4 from by first|exact B4.out|assumption).mono HB2.out.size)
      exact q.alloc q.size _)
   | (refine⟨w3.heap.size,_,rfl,set2 RB.out _ _,(Below.heap_setCell _ _ _ _ (by simp;omega)).trans ((Below.heap_setCell _ _ _ _ (by simp;omega)).trans KK.out),?_,rfl⟩
      have q0:=HB2.out.drew.alloc HB2.out.size (Obj.cells #[.bool false,.nilFunc] 179)
      have q:=q0.trans (B4.out.mono (by have:=HB2.out.size;simp;omega))
      exact (q.setCell (p:=⟨w3.heap.size,0,none⟩) (by simp;have:=HB2.out.size;omega) _).setCell (p:=⟨w3.heap.size,1,none⟩) (by simp;have:=HB2.out.size;omega) _)
 case rest =>
  obtain⟨B,wr,rfl,hRB,hIB,hBB,rfl⟩:=hcut
  obtain⟨d0,d1,d2,d3,d4,d5,d6,d7,d8,d9,d10,d11,d12,d13,d14⟩:=Acn hIB
  have r0:=Aaa hRB 0
  have r1:=Aaa hRB 1
  simp at r0 r1
  have HRB:=Aac hRB
  have HIB:=Aac hIB
  have HBB:=Aac hBB
  clear hRB hIB hBB HB HK HB2 HK2
  clear c0 c1 c2 c3 c4 c5 c6 c7 c8 c9 c10 c11 c12 c13 c14
  go_upto_region 12 with fail
  obtain⟨bad,HM⟩:∃bad:Bool,Hid ((bad=true∧¬endOk i ends)∨(bad=false∧endOk i ends)):=by
   by_cases h:endOk i ends
   ·exact⟨false,.inr ⟨rfl,h⟩⟩
   ·exact⟨true,.inl ⟨rfl,h⟩⟩
  go_cut [68] (fun v wx=>v=.bool bad∧wr=wx)
  case first =>
   have hgood:endOk i ends→bad=false:=fun e=>HM.out.elim (fun h=>absurd e h.2) (fun h=>h.1)
   have hbad:¬endOk i ends→bad=true:=fun e=>HM.out.elim (fun h=>h.1) (fun h=>absurd h.2 e)
   clear HM
   unfold endOk at hgood hbad
   by_cases m0:i.matures=0
   ·rw[m0] at d5
    cases ends
    ·have hm:=hgood (.inl ⟨m0,rfl⟩)
     subst hm
     clear hgood hbad
     clear m0
     go_wp2_with fail
     go_meet
     exact⟨rfl,rfl⟩
    ·have hm:=hbad (by rintro (h|h);exact absurd h.2 (by decide);exact h.1 m0)
     subst hm
     clear hgood hbad
     clear m0
     go_wp2_with fail
     go_meet
     exact⟨rfl,rfl⟩
   ·have t1:(i.matures==0)=false:=Aaj.2 m0
    have t1':(i.matures != 0)=true:=by rw[bne,t1];rfl
    by_cases m1:okDay i.matures
    ·by_cases m2:i.matures≤i.issued
     ·have t2:decide (i.matures≤i.issued)=true:=Aav m2
      have hm:=hbad (by rintro (h|h);exact m0 h.1;have:=h.2.2;omega)
      subst hm
      clear hgood hbad
      clear m0 m2
      go_wp2_with fail
      refine (S4.out _).mono ?_
      rintro e w5 ⟨rfl,rfl⟩
      rw[Aav m1]
      go_wp2_with fail
      go_meet
      exact⟨rfl,rfl⟩
     ·have t2:decide (i.matures≤i.issued)=false:=Aaw m2
      have hm:=hgood (.inr ⟨m0,m1,by omega⟩)
      subst hm
      clear hgood hbad
      clear m0 m2
      go_wp2_with fail
      refine (S4.out _).mono ?_
      rintro e w5 ⟨rfl,rfl⟩
      rw[Aav m1]
      go_wp2_with fail
      go_meet
      exact⟨rfl,rfl⟩
    ·have hm:=hbad (by rintro (h|h);exact m0 h.1;exact m1 h.2.1)
     subst hm
     clear hgood hbad
     clear m0
     go_wp2_with fail
     refine (S4.out _).mono ?_
     rintro e w5 ⟨rfl,rfl⟩
     rw[Aaw m1]
     go_wp2_with fail
     go_meet
     exact⟨rfl,rfl⟩
  case rest =>
   obtain⟨rfl,rfl⟩:=hcut
   cases bad
   case true =>
    go_wp2_with fail
    go_ret
    exact ChkPost.bad (by decide) (fun h=>HM.out.elim (fun x=>x.2 h.matures) (fun x=>Bool.noConfusion x.1)) HBB.out
   have HE:Hid (endOk i ends):=HM.out.elim (fun x=>Bool.noConfusion x.1) (fun x=>x.2)
   clear HM
   obtain⟨W5,hW5⟩:∃W5,wr.alloc (.cells (Ak8 i) 25)=W5:=⟨_,rfl⟩
   have kS:NsBox W5 wr.heap.size i:=by rw[←hW5];exact Aax wr _
   have b5:Below wr.heap.size wr W5:=by rw[←hW5];exact (Below.refl _ wr).alloc (Aad _) _
   have hsz:w.heap.size≤wr.heap.size:=HBB.out.size
   have HS5:Hid (LoopS w wr.heap.size B ends f i W5):=⟨kS,HRB.out.below b5,HIB.out.below b5,HBB.out.trans (b5.mono hsz)⟩
   clear kS b5 S4 HRB HIB HBB
   clear r0 r1
   clear d0 d1 d2 d3 d4 d5 d10 d11 d12
   unfold Ak8 at hW5
   go_wp2_with fail
   go_loopw [77] (fun v wx=>∃k:Nat,v=.int .i64 (k:Int)∧k≤3∧LoopN i k∧LoopS w wr.heap.size B ends f i wx) (fun v _=>3-(intOf v).toNat)
   case atStart=>exact⟨0,rfl,by omega,⟨fun h=>by omega,fun h=>by omega,fun h=>by omega⟩,HS5.out⟩
   case round =>
    obtain⟨k,rfl,hk3,hLN,hL⟩:=hrel
    clear HS5 hW5
    have n0:=Aaa hL.ns 0
    have n1:=Aaa hL.ns 1
    have n2:=Aaa hL.ns 2
    have n3:=Aaa hL.ns 3
    have n4:=Aaa hL.ns 4
    have n5:=Aaa hL.ns 5
    simp at n0 n1 n2 n3 n4 n5
    have HL:=Aac hL
    have HLN:=Aac hLN
    clear hLN
    rcases (show k=0∨k=1∨k=2∨k=3 from by omega) with rfl|rfl|rfl|rfl
    ·clear hL
     go_wp2_with fail
     refine (N1.out _ (HT.out.below (HL.out.be.trans (((Below.refl _ _).alloc (Aad _) _).mono HL.out.be.size)))).mono ?_
     rintro e w6 ⟨rfl,b6⟩
     have HL6:=Aac ((HL.out.below ((Below.refl _ _).alloc (Aad _) _)).below b6)
     clear b6
     by_cases hn:Akz i.fn i.fd=0
     case neg =>
      have tn:(Akz i.fn i.fd==0)=false:=Aaj.2 hn
      have tn':(Akz i.fn i.fd != 0)=true:=by rw[bne,tn];rfl
      have H:=Aac hn
      clear hn
      go_wp2_with fail
      go_ret
      exact ChkPost.bad H.out (fun h=>H.out h.n1) HL6.out.be
     have HN:=Aac hn
     rw[hn]
     clear hn
     go_wp2_with fail
     go_roundw
     case rel=>exact⟨1,rfl,by omega,⟨fun _=>HN.out,fun h=>by omega,fun h=>by omega⟩,HL6.out⟩
     case measure=>simp[intOf]
    ·clear hL
     go_wp2_with fail
     refine (N2.out _ (HT.out.below (HL.out.be.trans (((Below.refl _ _).alloc (Aad _) _).mono HL.out.be.size)))).mono ?_
     rintro e w6 ⟨rfl,b6⟩
     have HL6:=Aac ((HL.out.below ((Below.refl _ _).alloc (Aad _) _)).below b6)
     clear b6
     by_cases hn:Akz i.cn i.cd=0
     case neg =>
      have tn:(Akz i.cn i.cd==0)=false:=Aaj.2 hn
      have tn':(Akz i.cn i.cd != 0)=true:=by rw[bne,tn];rfl
      have H:=Aac hn
      clear hn
      go_wp2_with fail
      go_ret
      exact ChkPost.bad H.out (fun h=>H.out h.n2) HL6.out.be
     have HN:=Aac hn
     rw[hn]
     clear hn
     go_wp2_with fail
     go_roundw
     case rel=>exact⟨2,rfl,by omega,⟨fun _=>HLN.out.1 (by omega),fun _=>HN.out,fun h=>by omega⟩,HL6.out⟩
     case measure=>simp[intOf]
    ·clear hL
     go_wp2_with fail
     refine (N3.out _ (HT.out.below (HL.out.be.trans (((Below.refl _ _).alloc (Aad _) _).mono HL.out.be.size)))).mono ?_
     rintro e w6 ⟨rfl,b6⟩
     have HL6:=Aac ((HL.out.below ((Below.refl _ _).alloc (Aad _) _)).below b6)
     clear b6
     by_cases hn:Akz i.sn i.sd=0
     case neg =>
      have tn:(Akz i.sn i.sd==0)=false:=Aaj.2 hn
      have tn':(Akz i.sn i.sd != 0)=true:=by rw[bne,tn];rfl
      have H:=Aac hn
      clear hn
      go_wp2_with fail
      go_ret
      exact ChkPost.bad H.out (fun h=>H.out h.n3) HL6.out.be
     have HN:=Aac hn
     rw[hn]
     clear hn
     go_wp2_with fail
     go_roundw
     case rel=>exact⟨3,rfl,by omega,⟨fun _=>HLN.out.1 (by omega),fun _=>HLN.out.2.1 (by omega),fun _=>HN.out⟩,HL6.out⟩
     case measure=>simp[intOf]
    ·have r0:=Aaa hL.rb 0
     have r1:=Aaa hL.rb 1
     simp at r0 r1
     obtain⟨d0,d1,d2,d3,d4,d5,d6,d7,d8,d9,d10,d11,d12,d13,d14⟩:=Acn hL.ib
     clear hL
     go_wp2_with fail
     refine (HF.out _).mono ?_
     rintro e w7 ⟨n,rfl,hn,b7⟩
     have HN:=Aac hn
     clear hn
     go_wp2_with fail
     go_ret
     exact⟨n,rfl,HN.out.trans ⟨fun p=>⟨Hh1.out,HKD.out,Hh2.out,Hh3.out,Hh5.out,HE.out,HLN.out.1 (by omega),HLN.out.2.1 (by omega),HLN.out.2.2 (by omega),p⟩,fun h=>h.own⟩,HL.out.be.trans (b7.mono HL.out.be.size)⟩
theorem ChkPost.iff{w:World}{P Q:Prop}{e:Ending}{w':World}(h:ChkPost w P e w')(hq:P↔Q):ChkPost w Q e w':=by
 obtain⟨n,h1,h2,h3⟩:=h
 exact⟨n,h1,h2.trans hq,h3⟩
theorem ChkAll.plain{i:Inst}(h2:i.kind≠2)(h5:i.kind≠5):ChkAll i false (Ak2 i)↔i.ok :=
 ⟨fun h=>⟨h.id,h.kind,h.cur,h.places,h.issued,h.matures.imp (fun x=>⟨x.1,h2,h5⟩) (fun x=>x),h.n1,h.n2,h.n3,fun _ _=>h.own,fun e=>absurd e h2,fun e=>absurd e h5⟩,
  fun h=>⟨h.id,h.kind,h.cur,h.places,h.issued,h.matures.imp (fun x=>⟨x.1,rfl⟩) (fun x=>x),h.n1,h.n2,h.n3,h.plain h2 h5⟩⟩
theorem ChkAll.bond{i:Inst}(h2:i.kind=2):ChkAll i true (Ak4 i)↔i.ok :=
 ⟨fun h=>⟨h.id,h.kind,h.cur,h.places,h.issued,.inr (h.matures.resolve_left (fun x=>Bool.noConfusion x.2)),h.n1,h.n2,h.n3,fun e=>absurd h2 e,fun _=>h.own,fun e=>by omega⟩,
  fun h=>⟨h.id,h.kind,h.cur,h.places,h.issued,.inr (h.matures.resolve_left (fun x=>x.2.1 h2)),h.n1,h.n2,h.n3,h.bond h2⟩⟩
theorem ChkAll.fwd{i:Inst}(h5:i.kind=5):ChkAll i true (fwdOk i)↔i.ok :=
 ⟨fun h=>⟨h.id,h.kind,h.cur,h.places,h.issued,.inr (h.matures.resolve_left (fun x=>Bool.noConfusion x.2)),h.n1,h.n2,h.n3,fun _ e=>absurd h5 e,fun e=>by omega,fun _=>h.own⟩,
  fun h=>⟨h.id,h.kind,h.cur,h.places,h.issued,.inr (h.matures.resolve_left (fun x=>x.2.2 h5)),h.n1,h.n2,h.n3,h.fwd h5⟩⟩
theorem Aq0(i:Inst)(hs:i.sized)(w:World)(ht:Tabs w):Calls Tryz.prog 83 #[i.enc] w (ChkPost w i.ok):=by
 by_cases hk:1≤i.kind∧i.kind≤5
 case neg=>exact Aqy i hs hk w ht
 rcases (show i.kind=1∨i.kind=2∨i.kind=3∨i.kind=4∨i.kind=5 from by omega) with hi|hi|hi|hi|hi
 ·exact (Aqz i hs false 211 _ (enters_of Tryz.func211 (by kernel_rfl) rfl) (Ama 1 _ _ (fun _=>by kernel_rfl) i hi) (fun W=>Aqt i hs W) hk w ht).mono (fun _ _ h=>h.iff (ChkAll.plain (by omega) (by omega)))
 ·exact (Aqz i hs true 212 _ (enters_of Tryz.func212 (by kernel_rfl) rfl) (Ama 2 _ _ (fun _=>by kernel_rfl) i hi) (fun W=>Aqx i hs W) hk w ht).mono (fun _ _ h=>h.iff (ChkAll.bond hi))
 ·exact (Aqz i hs false 211 _ (enters_of Tryz.func211 (by kernel_rfl) rfl) (Ama 3 _ _ (fun _=>by kernel_rfl) i hi) (fun W=>Aqt i hs W) hk w ht).mono (fun _ _ h=>h.iff (ChkAll.plain (by omega) (by omega)))
 ·exact (Aqz i hs false 211 _ (enters_of Tryz.func211 (by kernel_rfl) rfl) (Ama 4 _ _ (fun _=>by kernel_rfl) i hi) (fun W=>Aqt i hs W) hk w ht).mono (fun _ _ h=>h.iff (ChkAll.plain (by omega) (by omega)))
 ·exact (Aqz i hs true 213 _ (enters_of Tryz.func213 (by kernel_rfl) rfl) (Ama 5 _ _ (fun _=>by kernel_rfl) i hi) (fun W=>Aqu i hs W) hk w ht).mono (fun _ _ h=>h.iff (ChkAll.fwd hi))
def Aq1(t p a:Int):Rat:=Rat.divInt (t*p) a
def Aq2(t p a:Int):Int:=rnd (Aq1 t p a)
theorem rnd_le{p:Rat}{c:Int}(h:p.num≤c*(p.den:Int)):rnd p≤c:=by
 have h1:=Akh p
 have hd:0<(p.den:Int):=by have:=p.den_pos;omega
 rcases Int.lt_or_le c (rnd p) with h2|h2
 ·exfalso
  have h3:(c+1)*(p.den:Int)≤rnd p*(p.den:Int):=Int.mul_le_mul_of_nonneg_right (by omega) (by omega)
  rw[Int.add_mul,Int.one_mul] at h3
  generalize rnd p*(p.den:Int)=x at *
  generalize c*(p.den:Int)=y at *
  omega
 ·exact h2
theorem Aq3{p:Rat}(h:0≤p.num):0≤rnd p:=by
 have h1:=Akh p
 have hd:0<(p.den:Int):=by have:=p.den_pos;omega
 rcases Int.lt_or_le (rnd p) 0 with h2|h2
 ·exfalso
  have h3:rnd p*(p.den:Int)≤(-1)*(p.den:Int):=Int.mul_le_mul_of_nonneg_right (by omega) (by omega)
  generalize rnd p*(p.den:Int)=x at *
  omega
 ·exact h2
theorem Aq4{t p a:Int}(ha:0<a):(Aq1 t p a).num*a=t*p*((Aq1 t p a).den:Int):=by
 unfold Aq1
 have h:=Rat.num_divInt_den (Rat.divInt (t*p) a)
 have hd:((Rat.divInt (t*p) a).den:Int)≠0:=by have:=(Rat.divInt (t*p) a).den_pos;omega
 rw[Rat.divInt_eq_divInt_iff hd (by omega)] at h
 exact h
theorem Aq5{t p a:Int}(ht:0≤t)(hp:0≤p)(ha:0<a)(hpa:p≤a):0≤Aq2 t p a∧Aq2 t p a≤t:=by
 have hc:=Aq4 (t:=t) (p:=p) ha
 have hd:0<((Aq1 t p a).den:Int):=by have:=(Aq1 t p a).den_pos;omega
 constructor
 ·refine Aq3 ?_
  have h1:0≤t*p*((Aq1 t p a).den:Int):=Int.mul_nonneg (Int.mul_nonneg ht hp) (by omega)
  rw[←hc] at h1
  exact Int.nonneg_of_mul_nonneg_left h1 ha
 ·refine rnd_le ?_
  have h1:t*p*((Aq1 t p a).den:Int)≤t*a*((Aq1 t p a).den:Int):=Int.mul_le_mul_of_nonneg_right (Int.mul_le_mul_of_nonneg_left hpa ht) (by omega)
  rw[←hc,show t*a*((Aq1 t p a).den:Int)=t*((Aq1 t p a).den:Int)*a from by rw[Int.mul_assoc,Int.mul_comm a,←Int.mul_assoc]] at h1
  exact Int.le_of_mul_le_mul_right h1 ha
theorem Aq6(a:ByteArray)(w:World)(s:a.size≤4000000)(h:¬vl a<0):
 Calls Tryz.prog 158 #[.string a] w fun e w'=>e=.returned (.bool false)∧Below w.heap.size w w':=by
 have HC:=Aac (Agf a ⟨#[]⟩ w s (by show 0≤_;omega))
 rw[show vl (⟨#[]⟩:ByteArray)=0 from by rw[zero_eq,vl_I]] at HC
 have hc:decide (cmpI (vl a) 0<0)=false:=Aaw (by rw[cmpI_lt];exact h)
 go_enter Tryz.func158,Tryz.ntmps158
 go_wp2_with fail
 refine HC.out.mono ?_
 rintro e w1 ⟨rfl,B1⟩
 clear HC
 go_wp2_with fail
 go_ret
 exact⟨rfl,B1⟩
theorem Aq7(t p a:Int)(w:World)(st:(I t).size≤1000)(sp:(I p).size≤1000)(sa:(I a).size≤1000)(t0:0≤t)(p0:0≤p)(a0:0<a)(pa:p≤a)(ht:Tabs w):
 Calls Tryz.prog 89 #[.string (I t),.string (I p),.string (I a)] w fun e w'=>e=.returned (.tuple #[.string (I (Aq2 t p a)),.string (I (t-Aq2 t p a)),.int .i64 0])∧Below w.heap.size w w':=by
 have HT:=Aac ht
 have zm:(I (t*p)).size≤2001:=by have:=Aha (a:=I t) (b:=I p) st sp;rwa [vl_I,vl_I] at this
 obtain⟨K,hK⟩:∃K,K=2001:=⟨_,rfl⟩
 have zk:(I a).size≤K:=by omega
 have zk2:(I t).size≤K:=by omega
 rw[←hK] at zm
 have bq:BdQ (Rat.divInt (t*p) a) K:=BdQ.div (by have:=vl_lt (I (t*p));rw[vl_I] at this;exact Aah this (Ac4 zm)) (by have:=vl_lt (I a);rw[vl_I] at this;exact Aah this (Ac4 zk)) (by omega)
 have zn:=bq.num
 have zd:=bq.dn
 have zr:(I (Aq2 t p a)).size≤K+1:=Ac3 (by
  obtain⟨h1,h2⟩:=Aq5 t0 p0 a0 pa
  have h3:=vl_lt (I t)
  rw[vl_I] at h3
  have h4:t.natAbs<10^K:=Aah h3 (Ac4 zk2)
  omega)
 have HS:=Aac (show rnd (fv (I (Rat.divInt (t*p) a).num) (dn (Rat.divInt (t*p) a)))=Aq2 t p a from by rw[Agv];rfl)
 have HC1:=Aac (fun W=>Agb (I t) W (by omega) (by unfold Can;rw[vl_I]))
 have HC2:=Aac (fun W=>Agb (I p) W (by omega) (by unfold Can;rw[vl_I]))
 have HC3:=Aac (fun W=>Agb (I a) W (by omega) (by unfold Can;rw[vl_I]))
 have hz:=Ah7 a
 rw[Aaw (by omega)] at hz
 have HN1:=Aac (fun W=>Aq6 (I a) W (by omega) (by rw[vl_I];omega))
 have HN2:=Aac (fun W=>Aq6 (I p) W (by omega) (by rw[vl_I];omega))
 have hc1:decide (0<cmpI p a)=false:=Aaw (by rw[Ac8];omega)
 have hc2:decide (cmpI p a > 0)=false:=hc1
 generalize Aq2 t p a=r at HS zr ⊢
 clear ht t0 p0 pa bq
 go_enter Tryz.func89,Tryz.ntmps89
 go_wp2_with fail
 refine (HC1.out _).mono ?_
 rintro e w1 ⟨rfl,B1⟩
 go_wp2_with fail
 refine (HC2.out _).mono ?_
 rintro e w2 ⟨rfl,B2⟩
 have B2:=B1.trans (B2.mono B1.size)
 clear B1
 go_wp2_with fail
 refine (HC3.out _).mono ?_
 rintro e w3 ⟨rfl,B3⟩
 have B3:=B2.trans (B3.mono B2.size)
 clear B2 HC1 HC2 HC3
 go_wp2_with fail
 refine (HN1.out _).mono ?_
 rintro e w4 ⟨rfl,B4⟩
 have B4:=B3.trans (B4.mono B3.size)
 clear B3
 go_wp2_with fail
 refine (HN2.out _).mono ?_
 rintro e w5 ⟨rfl,B5⟩
 have B5:=B4.trans (B5.mono B4.size)
 clear B4 HN1 HN2
 go_wp2_with fail
 refine (Agf (I p) (I a) _ (by omega) (by omega)).mono ?_
 rintro e w6 ⟨rfl,B6⟩
 have B6:=Aac (B5.trans (B6.mono B5.size))
 rw[vl_I,vl_I]
 clear B5
 go_wp2_with fail
 refine (Af9 (I t) (I p) w6 (by omega) (by omega) (HT.out.below B6.out)).mono ?_
 rintro e w7 ⟨rfl,B7⟩
 have B7:=Aac (B6.out.trans (B7.mono B6.out.size))
 rw[vl_I,vl_I]
 clear B6 hc1 hc2 hz
 go_wp2_with fail
 refine (Aqi (I (t*p)) (I a) w7 (by omega) (by omega) (by rw[vl_I];omega) (HT.out.below B7.out)).mono ?_
 rintro e w8 ⟨rfl,B8⟩
 have B8:=Aac (B7.out.trans (B8.mono B7.out.size))
 rw[vl_I,vl_I]
 unfold fenc
 clear B7
 generalize Rat.divInt (t*p) a=q at *
 go_wp2_with fail
 refine (Aia (I q.num) (dn q) _ (by omega) (by omega) (HT.out.below (B8.out.alloc (by simp[B8.out.size]) _))).mono ?_
 rintro e w9 ⟨rfl,B9⟩
 have B9:=Aac ((B8.out.alloc B8.out.size (Obj.cells #[.string (I q.num),.string (dn q)] 25)).trans (B9.mono (B8.out.alloc B8.out.size (Obj.cells #[.string (I q.num),.string (dn q)] 25)).size))
 rw[HS.out]
 clear B8
 go_wp2_with fail
 refine (Af8 (I t) (I r) w9 (by omega) (by omega) (HT.out.below B9.out)).mono ?_
 rintro e w10 ⟨rfl,B10⟩
 rw[vl_I,vl_I]
 go_wp2_with fail
 refine bodyPost_ret (v:=.tuple #[.string (I r),.string (I (t-r)),.int .i64 0]) (by simp[results,Tryz.results89,go_sem]) rfl ?_
 exact⟨rfl,B9.out.trans (B10.mono B9.out.size)⟩
theorem Aq8(n₀:Nat)(i:Inst)(A:Option Addr)(ls:List SLot)(c:Nat)(hc:ls.length≤c)(d:Int)(h:AOk i ls d)(w:World)(hR:RdB n₀ w A ls)(hn:n₀≤w.heap.size)(ht:Tabs w):
 Calls Tryz.prog 22 #[i.enc,.slice A ls.length c,.int .i64 d] w fun e w'=>e=.returned (.tuple #[.string (I (rnd (qsum ((ownL ls i.id).map fun l=>An9 i l.1 d)))),.int .i64 0])∧Below w.heap.size w w':=by
 obtain⟨W0,hW0,hB0,hz,hk⟩:=ibox i w
 obtain⟨c0,c1,c2,c3,c4,c5,c6,c7,c8,c9,c10,c11,c12,c13,c14⟩:=Acn hk
 have HT:=hI ht
 have HB0:=hI hB0
 have HK0:Hid (InstBox W0 w.heap.size i):=hk
 have HC1:=hI (Ap1 n₀ i A ls c hc d h W0 (hR.below (hB0.mono hn)) (Aap hn hB0.size) (ht.below hB0))
 have HS:=hI (fun (W:World) bl bi bd (hb:Below w.heap.size w W) (k0:Boxed W bl 45 (.slice A ls.length c)) (k1:InstBox W bi i) (k2:Boxed W bd 22 (.int .i64 d))=>Ap0 n₀ bl bi bd A ls c i d W h.len h.ex h.opn k0 k1 k2 (hR.below (hb.mono hn)) (Aap hn hb.size) (ht.below hb))
 have hbd:BdQ (qsum ((ownL ls i.id).map fun l=>An9 i l.1 d)) (100*(qB+1)+1):=by
  have e:((ownL ls i.id).map fun l=>An9 i l.1 d)=((ownL ls i.id).attach.map (fun l=>(⟨An9 i l.1.1 d,Apt i l.1.1 d h.ex l.1.2 (h.opn _ (List.mem_filter.1 l.2).1)⟩:SQ))).map Subtype.val:=by
   rw[List.map_map]
   conv=>lhs;rw[←List.attach_map_subtype_val (ownL ls i.id),List.map_map]
   rfl
  rw[e]
  refine (Apy _).mono ?_
  rw[List.length_map,List.length_attach]
  have:(ownL ls i.id).length≤99:=Aap (List.length_filter_le _ _) h.len
  have:=Nat.mul_le_mul_right (qB+1) (show (ownL ls i.id).length≤100 by omega)
  omega
 have HR:=hI (fun W hW=>An6 hbd (by unfold qB;omega) W hW)
 generalize qsum ((ownL ls i.id).map fun l=>An9 i l.1 d)=rq at HS HR ⊢
 clear hbd h hR ht hB0 hk hz
 unfold Inst.enc Inst.cells at *
 go_enter Tryz.func22,Tryz.ntmps22
 go_wp2_with fail
 refine HC1.out.mono ?_
 rintro e w1 ⟨rfl,b1⟩
 have HB1:=hI (HB0.out.trans (b1.mono HB0.out.size))
 have hk1:=HK0.out.below b1
 clear c0 c1 c2 c3 c4 c5 c6 c7 c8 c9 c10 c11 c12 c13 c14
 obtain⟨c0,c1,c2,c3,c4,c5,c6,c7,c8,c9,c10,c11,c12,c13,c14⟩:=Acn hk1
 have HK1:=hI hk1
 clear b1 hk1 HB0 HK0 HC1 hW0
 have HAM:=hI (Apw i A ls.length c d w1)
 unfold Inst.enc Inst.cells at HAM
 go_wp2_with fail
 refine HAM.out.mono ?_
 rintro e w2 ⟨rfl,hw2⟩
 obtain⟨W2,hW2,hb2,hs2,k0,k1,k2⟩:=box3 w1 (.cells i.cells 27) (.cells #[.slice A ls.length c] 45) (.cells #[.int .i64 d] 22)
 unfold Inst.cells at hW2
 obtain rfl:W2=w2:=by rw[hW2,hw2]
 have HB2:=hI (HB1.out.trans (hb2.mono HB1.out.size))
 have HSS:=hI (HS.out W2 _ _ _ HB2.out k1 k0 k2)
 clear c0 c1 c2 c3 c4 c5 c6 c7 c8 c9 c10 c11 c12 c13 c14
 clear hw2 hW2 hb2 hs2 k0 k1 k2 HS HAM
 rw[fenc_z0] at HSS
 go_wp2_with fail
 refine HSS.out.mono ?_
 rintro e w3 ⟨rfl,b3⟩
 have HB3:=hI (HB2.out.trans (b3.mono HB2.out.size))
 clear b3 HSS HB2
 go_wp2_with fail
 refine (HR.out _ (HT.out.below HB3.out)).mono ?_
 rintro e w4 ⟨rfl,b4⟩
 have B4:=HB3.out.trans (b4.mono HB3.out.size)
 clear b4
 go_wp2_with fail
 go_ret2
 exact⟨rfl,B4⟩
end Go.Proofs.YtcnmoobojdopgaaGreatDoor
